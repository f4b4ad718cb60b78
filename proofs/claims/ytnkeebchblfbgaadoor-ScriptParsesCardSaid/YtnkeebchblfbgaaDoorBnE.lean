/- Part 5: Sc4 Sc5 Sc6 Sc7 Sc8 Sc. -/
import Derived.Test.YtnkeebchblfbgaaDoorBnD
-- part Sc4
/- Functions, lifted. Printed by a program of this repo. -/
set_option linter.unusedVariables false
set_option linter.unusedSimpArgs false
set_option maxRecDepth 100000
set_option maxHeartbeats 4000000
namespace Go.Proofs.YtnkeebchblfbgaaDoor
open Go.Ev Go.RowKit
-- internal/stringslite.Index
noncomputable def c52 : Code := Code.of Tryd.prog 52
noncomputable def N52_4 (ρ : Addr → Option Value) (call : CallF) (yc : YieldF) (lim k : Nat) (H : Heap) (R : List AV → Heap → Res) : Res :=
  R [(.int .i64 (-1))] H
theorem N52_4_eq (ρ : Addr → Option Value) (call : CallF) (yc : YieldF) (lim k : Nat) (H : Heap) (R : List AV → Heap → Res) :
    evL (cx ρ) call yc false 52 lim k (Code.at [1, 1, 1, 1, 1, 1, 1, 1, 1] c52) (sp 143 []) H (kk none (fun s H => R (([4] : List Nat).map fun t => s.getD t (.tup [])) H) [] R [4]) = N52_4 ρ call yc lim k H R := by
  kernel_rfl
noncomputable def N52_8 (ρ : Addr → Option Value) (call : CallF) (yc : YieldF) (lim k : Nat) (H : Heap) (R : List AV → Heap → Res) : Res :=
  R [(.int .i64 (-1))] H
theorem N52_8_eq (ρ : Addr → Option Value) (call : CallF) (yc : YieldF) (lim k : Nat) (H : Heap) (kn : KS) (k2 : KS) (k1 : KS) (R : List AV → Heap → Res) :
    evL (cx ρ) call yc false 52 lim k (Code.at [1, 1, 1, 1, 1, 1, 1, 1, 0, 0, 0, 1, 0, 1, 1, 1, 1, 1, 0, 1, 1] c52) (sp 143 []) H (kk (some [0, 1, 5, 6, 7, 8, 9, 10]) kn [(2, (some [0, 1, 5, 6, 7, 8, 9, 10]), k2), (1, (some []), k1)] R [4]) = N52_8 ρ call yc lim k H R := by
  kernel_rfl
noncomputable def N52_9 (ρ : Addr → Option Value) (call : CallF) (yc : YieldF) (lim k : Nat) (x8 x12 x114 : AV) (H : Heap) (kn : Heap → Res) (R : List AV → Heap → Res) : Res :=
  condK x114
  (
    purK (binA Tryd.prog H .add 3 x12 x8) fun x117_1 =>
    R [x117_1] H)
  (
    kn H)
theorem N52_9_eq (ρ : Addr → Option Value) (call : CallF) (yc : YieldF) (lim k : Nat) (x8 x12 x114 : AV) (H : Heap) (kn : KS) (k2 : KS) (k1 : KS) (R : List AV → Heap → Res) :
    evL (cx ρ) call yc false 52 lim k (Code.at [1, 1, 1, 1, 1, 1, 1, 1, 0, 0, 0, 1, 0, 1, 1, 1, 1, 1, 0, 1, 0, 1] c52) (sp 143 [(8, x8), (12, x12), (114, x114)]) H (kk (some []) kn [(2, (some [0, 1, 5, 6, 7, 8, 9, 10]), k2), (1, (some []), k1)] R [4]) = N52_9 ρ call yc lim k x8 x12 x114 H (fun H => kn (sp 143 []) H) R := by
  kernel_rfl
noncomputable def N52_10 (ρ : Addr → Option Value) (call : CallF) (yc : YieldF) (lim k : Nat) (x0 x1 x5 x6 x7 x8 x9 x10 x132 : AV) (H : Heap) (kn : AV → AV → Heap → Res) (R : List AV → Heap → Res) : Res :=
  condK x132
  (
    purK (slT x0 (some x8) none) fun x135_1 =>
    resK (call lim 64 [x135_1, x1] H) fun x137_1 H =>
    purK (binA Tryd.prog H .lss 3 x137_1 (.int .i64 0)) fun x139_1 =>
    condK x139_1
    (
      R [(.int .i64 (-1))] H)
    (
      purK (binA Tryd.prog H .add 3 x8 x137_1) fun x142_1 =>
      R [x142_1] H))
  (
    kn x8 x10 H)
theorem N52_10_eq (ρ : Addr → Option Value) (call : CallF) (yc : YieldF) (lim k : Nat) (x0 x1 x5 x6 x7 x8 x9 x10 x132 : AV) (H : Heap) (kn : KS) (k2 : KS) (k1 : KS) (R : List AV → Heap → Res) :
    evL (cx ρ) call yc false 52 lim k (Code.at [1, 1, 1, 1, 1, 1, 1, 1, 0, 0, 0, 1, 0, 1, 1, 1, 1, 1, 1, 1] c52) (sp 143 [(0, x0), (1, x1), (5, x5), (6, x6), (7, x7), (8, x8), (9, x9), (10, x10), (132, x132)]) H (kk (some [0, 1, 5, 6, 7, 8, 9, 10]) kn [(2, (some [0, 1, 5, 6, 7, 8, 9, 10]), k2), (1, (some []), k1)] R [4]) = N52_10 ρ call yc lim k x0 x1 x5 x6 x7 x8 x9 x10 x132 H (fun x8 x10 H => kn (sp 143 [(0, x0), (1, x1), (5, x5), (6, x6), (7, x7), (8, x8), (9, x9), (10, x10)]) H) R := by
  kernel_rfl
noncomputable def N52_7 (ρ : Addr → Option Value) (call : CallF) (yc : YieldF) (lim k : Nat) (x0 x1 x5 x6 x7 x8 x9 x10 : AV) (H : Heap) (kn : AV → AV → Heap → Res) (R : List AV → Heap → Res) : Res :=
  purK (binA Tryd.prog H .add 3 x8 (.int .i64 1)) fun x96_1 =>
  purK (binA Tryd.prog H .add 3 x10 (.int .i64 1)) fun x98_1 =>
  purK (ld1 ρ H (.xp ⟨2, 0, none⟩)) fun x100_1 =>
  purK (binA Tryd.prog H .leq 3 x5 x100_1) fun x101_1 =>
  purK (gPur (wantV x101_1 true) (some x98_1)) fun x103_1 =>
  purK (gPur (wantV x101_1 true) (some x96_1)) fun x104_1 =>
  resK (gRes (wantV x101_1 true) H (call lim 63 [x104_1] H)) fun x105_1 H =>
  purK (gPur (wantV x101_1 true) (binA Tryd.prog H .gtr 3 x103_1 x105_1)) fun x106_1 =>
  purK (pickA x101_1 x106_1 (.bool false)) fun x107_1 =>
  condK x107_1
  (
    purK (slT x0 (some x96_1) none) fun x110_1 =>
    resK (call lim 62 [x110_1, x1] H) fun x112_1 H =>
    purK (binA Tryd.prog H .geq 3 x112_1 (.int .i64 0)) fun x114_1 =>
    N52_9 ρ call yc lim k x96_1 x112_1 x114_1 H (fun H =>
      N52_8 ρ call yc lim k H R) R)
  (
    purK (ld1 ρ H (.xp ⟨2, 0, none⟩)) fun x119_1 =>
    purK (binA Tryd.prog H .gtr 3 x5 x119_1) fun x120_1 =>
    purK (gPur (wantV x120_1 true) (some x98_1)) fun x122_1 =>
    purK (gPur (wantV x120_1 true) (some x96_1)) fun x123_1 =>
    purK (gPur (wantV x120_1 true) (binA Tryd.prog H .shr 3 x123_1 (.int .u64 4))) fun x124_1 =>
    purK (gPur (wantV x120_1 true) (binA Tryd.prog H .add 3 (.int .i64 4) x124_1)) fun x125_1 =>
    purK (gPur (wantV x120_1 true) (binA Tryd.prog H .geq 3 x122_1 x125_1)) fun x126_1 =>
    purK (pickA x120_1 x126_1 (.bool false)) fun x127_1 =>
    purK (gPur (wantV x127_1 true) (some x96_1)) fun x129_1 =>
    purK (gPur (wantV x127_1 true) (some x9)) fun x130_1 =>
    purK (gPur (wantV x127_1 true) (binA Tryd.prog H .lss 3 x129_1 x130_1)) fun x131_1 =>
    purK (pickA x127_1 x131_1 (.bool false)) fun x132_1 =>
    N52_10 ρ call yc lim k x0 x1 x5 x6 x7 x96_1 x9 x98_1 x132_1 H kn R)
theorem N52_7_x (ρ : Addr → Option Value) (call : CallF) (yc : YieldF) (lim k : Nat) (J : CodeF) (x0 x1 x5 x6 x7 x8 x9 x10 : AV) (H : Heap) (kn : KS) (k2 : KS) (k1 : KS) (R : List AV → Heap → Res) :
    evX (cx ρ) call yc false 52 lim k J (Code.at [1, 1, 1, 1, 1, 1, 1, 1, 0, 0, 0, 1, 0, 1, 1] c52) (sp 143 [(0, x0), (1, x1), (5, x5), (6, x6), (7, x7), (8, x8), (9, x9), (10, x10)]) H (kk (some [0, 1, 5, 6, 7, 8, 9, 10]) kn [(2, (some [0, 1, 5, 6, 7, 8, 9, 10]), k2), (1, (some []), k1)] R [4]) =
  purK (binA Tryd.prog H .add 3 x8 (.int .i64 1)) fun x96_1 =>
  purK (binA Tryd.prog H .add 3 x10 (.int .i64 1)) fun x98_1 =>
  purK (ld1 ρ H (.xp ⟨2, 0, none⟩)) fun x100_1 =>
  purK (binA Tryd.prog H .leq 3 x5 x100_1) fun x101_1 =>
  purK (gPur (wantV x101_1 true) (some x98_1)) fun x103_1 =>
  purK (gPur (wantV x101_1 true) (some x96_1)) fun x104_1 =>
  resK (gRes (wantV x101_1 true) H (call lim 63 [x104_1] H)) fun x105_1 H =>
  purK (gPur (wantV x101_1 true) (binA Tryd.prog H .gtr 3 x103_1 x105_1)) fun x106_1 =>
  purK (pickA x101_1 x106_1 (.bool false)) fun x107_1 =>
  condK x107_1
  (
    purK (slT x0 (some x96_1) none) fun x110_1 =>
    resK (call lim 62 [x110_1, x1] H) fun x112_1 H =>
    purK (binA Tryd.prog H .geq 3 x112_1 (.int .i64 0)) fun x114_1 =>
    J (Code.at [1, 1, 1, 1, 1, 1, 1, 1, 0, 0, 0, 1, 0, 1, 1, 1, 1, 1, 0, 1, 0, 1] c52) (sp 143 [(8, x96_1), (12, x112_1), (114, x114_1)]) H (kk (some []) (fun s H => J (Code.at [1, 1, 1, 1, 1, 1, 1, 1, 0, 0, 0, 1, 0, 1, 1, 1, 1, 1, 0, 1, 1] c52) s H (kk (some [0, 1, 5, 6, 7, 8, 9, 10]) kn [(2, (some [0, 1, 5, 6, 7, 8, 9, 10]), k2), (1, (some []), k1)] R [4])) [(2, (some [0, 1, 5, 6, 7, 8, 9, 10]), k2), (1, (some []), k1)] R [4]))
  (
    purK (ld1 ρ H (.xp ⟨2, 0, none⟩)) fun x119_1 =>
    purK (binA Tryd.prog H .gtr 3 x5 x119_1) fun x120_1 =>
    purK (gPur (wantV x120_1 true) (some x98_1)) fun x122_1 =>
    purK (gPur (wantV x120_1 true) (some x96_1)) fun x123_1 =>
    purK (gPur (wantV x120_1 true) (binA Tryd.prog H .shr 3 x123_1 (.int .u64 4))) fun x124_1 =>
    purK (gPur (wantV x120_1 true) (binA Tryd.prog H .add 3 (.int .i64 4) x124_1)) fun x125_1 =>
    purK (gPur (wantV x120_1 true) (binA Tryd.prog H .geq 3 x122_1 x125_1)) fun x126_1 =>
    purK (pickA x120_1 x126_1 (.bool false)) fun x127_1 =>
    purK (gPur (wantV x127_1 true) (some x96_1)) fun x129_1 =>
    purK (gPur (wantV x127_1 true) (some x9)) fun x130_1 =>
    purK (gPur (wantV x127_1 true) (binA Tryd.prog H .lss 3 x129_1 x130_1)) fun x131_1 =>
    purK (pickA x127_1 x131_1 (.bool false)) fun x132_1 =>
    J (Code.at [1, 1, 1, 1, 1, 1, 1, 1, 0, 0, 0, 1, 0, 1, 1, 1, 1, 1, 1, 1] c52) (sp 143 [(0, x0), (1, x1), (5, x5), (6, x6), (7, x7), (8, x96_1), (9, x9), (10, x98_1), (132, x132_1)]) H (kk (some [0, 1, 5, 6, 7, 8, 9, 10]) kn [(2, (some [0, 1, 5, 6, 7, 8, 9, 10]), k2), (1, (some []), k1)] R [4])) := by
  kernel_rfl
theorem N52_7_eq (ρ : Addr → Option Value) (call : CallF) (yc : YieldF) (lim k : Nat) (x0 x1 x5 x6 x7 x8 x9 x10 : AV) (H : Heap) (kn : KS) (k2 : KS) (k1 : KS) (R : List AV → Heap → Res) :
    evL (cx ρ) call yc false 52 lim k (Code.at [1, 1, 1, 1, 1, 1, 1, 1, 0, 0, 0, 1, 0, 1, 1] c52) (sp 143 [(0, x0), (1, x1), (5, x5), (6, x6), (7, x7), (8, x8), (9, x9), (10, x10)]) H (kk (some [0, 1, 5, 6, 7, 8, 9, 10]) kn [(2, (some [0, 1, 5, 6, 7, 8, 9, 10]), k2), (1, (some []), k1)] R [4]) = N52_7 ρ call yc lim k x0 x1 x5 x6 x7 x8 x9 x10 H (fun x8 x10 H => kn (sp 143 [(0, x0), (1, x1), (5, x5), (6, x6), (7, x7), (8, x8), (9, x9), (10, x10)]) H) R := by
  rw [evL_X, N52_7_x]
  simp only [← evL_X, N52_7, N52_10_eq, N52_8_eq, N52_9_eq]
noncomputable def N52_11 (ρ : Addr → Option Value) (call : CallF) (yc : YieldF) (lim k : Nat) (x0 x1 x5 x6 x7 x8 x9 x10 x93 : AV) (H : Heap) (kn : AV → AV → Heap → Res) (R : List AV → Heap → Res) : Res :=
  condK x93
  (
    R [x8] H)
  (
    kn x8 x10 H)
theorem N52_11_eq (ρ : Addr → Option Value) (call : CallF) (yc : YieldF) (lim k : Nat) (x0 x1 x5 x6 x7 x8 x9 x10 x93 : AV) (H : Heap) (kn : KS) (k2 : KS) (k1 : KS) (R : List AV → Heap → Res) :
    evL (cx ρ) call yc false 52 lim k (Code.at [1, 1, 1, 1, 1, 1, 1, 1, 0, 0, 0, 1, 0, 1, 0, 1] c52) (sp 143 [(0, x0), (1, x1), (5, x5), (6, x6), (7, x7), (8, x8), (9, x9), (10, x10), (93, x93)]) H (kk (some [0, 1, 5, 6, 7, 8, 9, 10]) kn [(2, (some [0, 1, 5, 6, 7, 8, 9, 10]), k2), (1, (some []), k1)] R [4]) = N52_11 ρ call yc lim k x0 x1 x5 x6 x7 x8 x9 x10 x93 H (fun x8 x10 H => kn (sp 143 [(0, x0), (1, x1), (5, x5), (6, x6), (7, x7), (8, x8), (9, x9), (10, x10)]) H) R := by
  kernel_rfl
noncomputable def N52_6 (ρ : Addr → Option Value) (call : CallF) (yc : YieldF) (lim k : Nat) (x0 x1 x5 x6 x7 x8 x9 x10 : AV) (H : Heap) (kn : AV → AV → Heap → Res) (R : List AV → Heap → Res) : Res :=
  purK (binA Tryd.prog H .add 3 x8 (.int .i64 1)) fun x80_1 =>
  purK (ixT x0 x80_1) fun x81_1 =>
  purK (binA Tryd.prog H .eql 5 x81_1 x7) fun x83_1 =>
  purK (gPur (wantV x83_1 true) (some x0)) fun x85_1 =>
  purK (gPur (wantV x83_1 true) (some x8)) fun x86_1 =>
  purK (gPur (wantV x83_1 true) (some x8)) fun x87_1 =>
  purK (gPur (wantV x83_1 true) (some x5)) fun x88_1 =>
  purK (gPur (wantV x83_1 true) (binA Tryd.prog H .add 3 x87_1 x88_1)) fun x89_1 =>
  purK (gPur (wantV x83_1 true) (slT x85_1 (some x86_1) (some x89_1))) fun x90_1 =>
  purK (gPur (wantV x83_1 true) (some x1)) fun x91_1 =>
  purK (gPur (wantV x83_1 true) (binA Tryd.prog H .eql 9 x90_1 x91_1)) fun x92_1 =>
  purK (pickA x83_1 x92_1 (.bool false)) fun x93_1 =>
  N52_11 ρ call yc lim k x0 x1 x5 x6 x7 x8 x9 x10 x93_1 H (fun x8_1 x10_1 H =>
    N52_7 ρ call yc lim k x0 x1 x5 x6 x7 x8_1 x9 x10_1 H kn R) R
theorem N52_6_x (ρ : Addr → Option Value) (call : CallF) (yc : YieldF) (lim k : Nat) (J : CodeF) (x0 x1 x5 x6 x7 x8 x9 x10 : AV) (H : Heap) (kn : KS) (k2 : KS) (k1 : KS) (R : List AV → Heap → Res) :
    evX (cx ρ) call yc false 52 lim k J (Code.at [1, 1, 1, 1, 1, 1, 1, 1, 0, 0, 0, 1, 0, 1] c52) (sp 143 [(0, x0), (1, x1), (5, x5), (6, x6), (7, x7), (8, x8), (9, x9), (10, x10)]) H (kk (some [0, 1, 5, 6, 7, 8, 9, 10]) kn [(2, (some [0, 1, 5, 6, 7, 8, 9, 10]), k2), (1, (some []), k1)] R [4]) =
  purK (binA Tryd.prog H .add 3 x8 (.int .i64 1)) fun x80_1 =>
  purK (ixT x0 x80_1) fun x81_1 =>
  purK (binA Tryd.prog H .eql 5 x81_1 x7) fun x83_1 =>
  purK (gPur (wantV x83_1 true) (some x0)) fun x85_1 =>
  purK (gPur (wantV x83_1 true) (some x8)) fun x86_1 =>
  purK (gPur (wantV x83_1 true) (some x8)) fun x87_1 =>
  purK (gPur (wantV x83_1 true) (some x5)) fun x88_1 =>
  purK (gPur (wantV x83_1 true) (binA Tryd.prog H .add 3 x87_1 x88_1)) fun x89_1 =>
  purK (gPur (wantV x83_1 true) (slT x85_1 (some x86_1) (some x89_1))) fun x90_1 =>
  purK (gPur (wantV x83_1 true) (some x1)) fun x91_1 =>
  purK (gPur (wantV x83_1 true) (binA Tryd.prog H .eql 9 x90_1 x91_1)) fun x92_1 =>
  purK (pickA x83_1 x92_1 (.bool false)) fun x93_1 =>
  J (Code.at [1, 1, 1, 1, 1, 1, 1, 1, 0, 0, 0, 1, 0, 1, 0, 1] c52) (sp 143 [(0, x0), (1, x1), (5, x5), (6, x6), (7, x7), (8, x8), (9, x9), (10, x10), (93, x93_1)]) H (kk (some [0, 1, 5, 6, 7, 8, 9, 10]) (fun s H => J (Code.at [1, 1, 1, 1, 1, 1, 1, 1, 0, 0, 0, 1, 0, 1, 1] c52) s H (kk (some [0, 1, 5, 6, 7, 8, 9, 10]) kn [(2, (some [0, 1, 5, 6, 7, 8, 9, 10]), k2), (1, (some []), k1)] R [4])) [(2, (some [0, 1, 5, 6, 7, 8, 9, 10]), k2), (1, (some []), k1)] R [4]) := by
  kernel_rfl
theorem N52_6_eq (ρ : Addr → Option Value) (call : CallF) (yc : YieldF) (lim k : Nat) (x0 x1 x5 x6 x7 x8 x9 x10 : AV) (H : Heap) (kn : KS) (k2 : KS) (k1 : KS) (R : List AV → Heap → Res) :
    evL (cx ρ) call yc false 52 lim k (Code.at [1, 1, 1, 1, 1, 1, 1, 1, 0, 0, 0, 1, 0, 1] c52) (sp 143 [(0, x0), (1, x1), (5, x5), (6, x6), (7, x7), (8, x8), (9, x9), (10, x10)]) H (kk (some [0, 1, 5, 6, 7, 8, 9, 10]) kn [(2, (some [0, 1, 5, 6, 7, 8, 9, 10]), k2), (1, (some []), k1)] R [4]) = N52_6 ρ call yc lim k x0 x1 x5 x6 x7 x8 x9 x10 H (fun x8 x10 H => kn (sp 143 [(0, x0), (1, x1), (5, x5), (6, x6), (7, x7), (8, x8), (9, x9), (10, x10)]) H) R := by
  rw [evL_X, N52_6_x]
  simp only [← evL_X, N52_6, N52_11_eq, N52_7_eq]
noncomputable def N52_5b (ρ : Addr → Option Value) (call : CallF) (yc : YieldF) (lim k : Nat) (x0 x1 x5 x6 x7 x8 x9 x10 : AV) (H : Heap) (kn : AV → AV → Heap → Res) (k1 : Heap → Res) (R : List AV → Heap → Res) : Res :=
  purK (binA Tryd.prog H .lss 3 x8 x9) fun x59_1 =>
  condK x59_1
  (
    purK (ixT x0 x8) fun x62_1 =>
    purK (binA Tryd.prog H .neq 5 x62_1 x6) fun x64_1 =>
    condK x64_1
    (
      purK (binA Tryd.prog H .add 3 x8 (.int .i64 1)) fun x67_1 =>
      purK (slT x0 (some x67_1) (some x9)) fun x69_1 =>
      resK (call lim 47 [x69_1, x6] H) fun x71_1 H =>
      purK (binA Tryd.prog H .lss 3 x71_1 (.int .i64 0)) fun x73_1 =>
      condK x73_1
      (
        R [(.int .i64 (-1))] H)
      (
        purK (binA Tryd.prog H .add 3 x71_1 (.int .i64 1)) fun x76_1 =>
        purK (binA Tryd.prog H .add 3 x8 x76_1) fun x77_1 =>
        N52_6 ρ call yc lim k x0 x1 x5 x6 x7 x77_1 x9 x10 H kn R))
    (
      N52_6 ρ call yc lim k x0 x1 x5 x6 x7 x8 x9 x10 H kn R))
  (
    k1 H)
theorem N52_5b_x (ρ : Addr → Option Value) (call : CallF) (yc : YieldF) (lim k : Nat) (J : CodeF) (x0 x1 x5 x6 x7 x8 x9 x10 : AV) (H : Heap) (kn : KS) (k1 : KS) (R : List AV → Heap → Res) :
    evX (cx ρ) call yc false 52 lim k J (Code.at [1, 1, 1, 1, 1, 1, 1, 1, 0, 0, 0] c52) (sp 143 [(0, x0), (1, x1), (5, x5), (6, x6), (7, x7), (8, x8), (9, x9), (10, x10)]) H (kk (some [0, 1, 5, 6, 7, 8, 9, 10]) kn [(1, (some []), k1)] R [4]) =
  purK (binA Tryd.prog H .lss 3 x8 x9) fun x59_1 =>
  condK x59_1
  (
    purK (ixT x0 x8) fun x62_1 =>
    purK (binA Tryd.prog H .neq 5 x62_1 x6) fun x64_1 =>
    condK x64_1
    (
      purK (binA Tryd.prog H .add 3 x8 (.int .i64 1)) fun x67_1 =>
      purK (slT x0 (some x67_1) (some x9)) fun x69_1 =>
      resK (call lim 47 [x69_1, x6] H) fun x71_1 H =>
      purK (binA Tryd.prog H .lss 3 x71_1 (.int .i64 0)) fun x73_1 =>
      condK x73_1
      (
        R [(.int .i64 (-1))] H)
      (
        purK (binA Tryd.prog H .add 3 x71_1 (.int .i64 1)) fun x76_1 =>
        purK (binA Tryd.prog H .add 3 x8 x76_1) fun x77_1 =>
        J (Code.at [1, 1, 1, 1, 1, 1, 1, 1, 0, 0, 0, 1, 0, 1] c52) (sp 143 [(0, x0), (1, x1), (5, x5), (6, x6), (7, x7), (8, x77_1), (9, x9), (10, x10)]) H (kk (some [0, 1, 5, 6, 7, 8, 9, 10]) kn [(2, (some [0, 1, 5, 6, 7, 8, 9, 10]), kn), (1, (some []), k1)] R [4])))
    (
      J (Code.at [1, 1, 1, 1, 1, 1, 1, 1, 0, 0, 0, 1, 0, 1] c52) (sp 143 [(0, x0), (1, x1), (5, x5), (6, x6), (7, x7), (8, x8), (9, x9), (10, x10)]) H (kk (some [0, 1, 5, 6, 7, 8, 9, 10]) kn [(2, (some [0, 1, 5, 6, 7, 8, 9, 10]), kn), (1, (some []), k1)] R [4])))
  (
    k1 (sp 143 []) H) := by
  kernel_rfl
theorem N52_5b_eq (ρ : Addr → Option Value) (call : CallF) (yc : YieldF) (lim k : Nat) (x0 x1 x5 x6 x7 x8 x9 x10 : AV) (H : Heap) (kn : KS) (k1 : KS) (R : List AV → Heap → Res) :
    evL (cx ρ) call yc false 52 lim k (Code.at [1, 1, 1, 1, 1, 1, 1, 1, 0, 0, 0] c52) (sp 143 [(0, x0), (1, x1), (5, x5), (6, x6), (7, x7), (8, x8), (9, x9), (10, x10)]) H (kk (some [0, 1, 5, 6, 7, 8, 9, 10]) kn [(1, (some []), k1)] R [4]) = N52_5b ρ call yc lim k x0 x1 x5 x6 x7 x8 x9 x10 H (fun x8 x10 H => kn (sp 143 [(0, x0), (1, x1), (5, x5), (6, x6), (7, x7), (8, x8), (9, x9), (10, x10)]) H) (fun H => k1 (sp 143 []) H) R := by
  rw [evL_X, N52_5b_x]
  simp only [← evL_X, N52_5b, N52_6_eq]
noncomputable def N52_5 (ρ : Addr → Option Value) (call : CallF) (yc : YieldF) (lim k : Nat) (x0 x1 x5 x6 x7 x8 x9 x10 : AV) (H : Heap) (k1 : Heap → Res) (R : List AV → Heap → Res) : Res :=
  loopL (fun (x : AV × AV) H kn => N52_5b ρ call yc lim k x0 x1 x5 x6 x7 x.1 x9 x.2 H (fun x8 x10 H => kn (x8, x10) H) k1 R) k (x8, x10) H
theorem N52_5_eq (ρ : Addr → Option Value) (call : CallF) (yc : YieldF) (lim k : Nat) (x0 x1 x5 x6 x7 x8 x9 x10 : AV) (H : Heap) (kn : KS) (k1 : KS) (R : List AV → Heap → Res) :
    evL (cx ρ) call yc false 52 lim k (Code.at [1, 1, 1, 1, 1, 1, 1, 1, 0, 0] c52) (sp 143 [(0, x0), (1, x1), (5, x5), (6, x6), (7, x7), (8, x8), (9, x9), (10, x10)]) H (kk (some []) kn [(1, (some []), k1)] R [4]) = N52_5 ρ call yc lim k x0 x1 x5 x6 x7 x8 x9 x10 H (fun H => k1 (sp 143 []) H) R := by
  have e : Code.at [1, 1, 1, 1, 1, 1, 1, 1, 0, 0] c52 = .loop (Code.at [1, 1, 1, 1, 1, 1, 1, 1, 0, 0, 0] c52) := by kernel_rfl
  rw [e]
  unfold N52_5
  exact loop_node [0, 1, 5, 6, 7, 8, 9, 10] (fun x : AV × AV => (sp 143 [(0, x0), (1, x1), (5, x5), (6, x6), (7, x7), (8, (x.1)), (9, x9), (10, (x.2))])) (fun (x : AV × AV) H kn => N52_5b ρ call yc lim k x0 x1 x5 x6 x7 x.1 x9 x.2 H (fun x8 x10 H => kn (x8, x10) H) (fun H => k1 (sp 143 []) H) R) (by kernel_rfl) (fun x => by kernel_rfl) (fun x H kn => N52_5b_eq ρ call yc lim k x0 x1 x5 x6 x7 (x.1) x9 (x.2) H kn k1 R) (x8, x10) (sp 143 [(0, x0), (1, x1), (5, x5), (6, x6), (7, x7), (8, x8), (9, x9), (10, x10)]) H (by kernel_rfl)
noncomputable def N52_3 (ρ : Addr → Option Value) (call : CallF) (yc : YieldF) (lim k : Nat) (x0 x1 x5 x6 x7 x8 x9 x10 : AV) (H : Heap) (R : List AV → Heap → Res) : Res :=
  N52_5 ρ call yc lim k x0 x1 x5 x6 x7 x8 x9 x10 H (fun H =>
    N52_4 ρ call yc lim k H R) R
theorem N52_3_x (ρ : Addr → Option Value) (call : CallF) (yc : YieldF) (lim k : Nat) (J : CodeF) (x0 x1 x5 x6 x7 x8 x9 x10 : AV) (H : Heap) (R : List AV → Heap → Res) :
    evX (cx ρ) call yc false 52 lim k J (Code.at [1, 1, 1, 1, 1, 1, 1, 1] c52) (sp 143 [(0, x0), (1, x1), (5, x5), (6, x6), (7, x7), (8, x8), (9, x9), (10, x10)]) H (kk none (fun s H => R (([4] : List Nat).map fun t => s.getD t (.tup [])) H) [] R [4]) =
  J (Code.at [1, 1, 1, 1, 1, 1, 1, 1, 0, 0] c52) (sp 143 [(0, x0), (1, x1), (5, x5), (6, x6), (7, x7), (8, x8), (9, x9), (10, x10)]) H (kk (some []) (fun s H => J (Code.at [1, 1, 1, 1, 1, 1, 1, 1, 1] c52) s H (kk none (fun s H => R (([4] : List Nat).map fun t => s.getD t (.tup [])) H) [] R [4])) [(1, (some []), (fun s H => J (Code.at [1, 1, 1, 1, 1, 1, 1, 1, 1] c52) s H (kk none (fun s H => R (([4] : List Nat).map fun t => s.getD t (.tup [])) H) [] R [4])))] R [4]) := by
  kernel_rfl
theorem N52_3_eq (ρ : Addr → Option Value) (call : CallF) (yc : YieldF) (lim k : Nat) (x0 x1 x5 x6 x7 x8 x9 x10 : AV) (H : Heap) (R : List AV → Heap → Res) :
    evL (cx ρ) call yc false 52 lim k (Code.at [1, 1, 1, 1, 1, 1, 1, 1] c52) (sp 143 [(0, x0), (1, x1), (5, x5), (6, x6), (7, x7), (8, x8), (9, x9), (10, x10)]) H (kk none (fun s H => R (([4] : List Nat).map fun t => s.getD t (.tup [])) H) [] R [4]) = N52_3 ρ call yc lim k x0 x1 x5 x6 x7 x8 x9 x10 H R := by
  rw [evL_X, N52_3_x]
  simp only [← evL_X, N52_3, N52_4_eq, N52_5_eq]
noncomputable def N52_2 (ρ : Addr → Option Value) (call : CallF) (yc : YieldF) (lim k : Nat) (x0 x1 x5 x6 x7 : AV) (H : Heap) (R : List AV → Heap → Res) : Res :=
  purK (lenT x0) fun x53_1 =>
  purK (binA Tryd.prog H .sub 3 x53_1 x5) fun x55_1 =>
  purK (binA Tryd.prog H .add 3 x55_1 (.int .i64 1)) fun x56_1 =>
  N52_3 ρ call yc lim k x0 x1 x5 x6 x7 (.int .i64 0) x56_1 (.int .i64 0) H R
theorem N52_2_x (ρ : Addr → Option Value) (call : CallF) (yc : YieldF) (lim k : Nat) (J : CodeF) (x0 x1 x5 x6 x7 : AV) (H : Heap) (R : List AV → Heap → Res) :
    evX (cx ρ) call yc false 52 lim k J (Code.at [1, 1, 1, 1, 1] c52) (sp 143 [(0, x0), (1, x1), (5, x5), (6, x6), (7, x7)]) H (kk none (fun s H => R (([4] : List Nat).map fun t => s.getD t (.tup [])) H) [] R [4]) =
  purK (lenT x0) fun x53_1 =>
  purK (binA Tryd.prog H .sub 3 x53_1 x5) fun x55_1 =>
  purK (binA Tryd.prog H .add 3 x55_1 (.int .i64 1)) fun x56_1 =>
  J (Code.at [1, 1, 1, 1, 1, 1, 1, 1] c52) (sp 143 [(0, x0), (1, x1), (5, x5), (6, x6), (7, x7), (8, (.int .i64 0)), (9, x56_1), (10, (.int .i64 0))]) H (kk none (fun s H => R (([4] : List Nat).map fun t => s.getD t (.tup [])) H) [] R [4]) := by
  kernel_rfl
theorem N52_2_eq (ρ : Addr → Option Value) (call : CallF) (yc : YieldF) (lim k : Nat) (x0 x1 x5 x6 x7 : AV) (H : Heap) (R : List AV → Heap → Res) :
    evL (cx ρ) call yc false 52 lim k (Code.at [1, 1, 1, 1, 1] c52) (sp 143 [(0, x0), (1, x1), (5, x5), (6, x6), (7, x7)]) H (kk none (fun s H => R (([4] : List Nat).map fun t => s.getD t (.tup [])) H) [] R [4]) = N52_2 ρ call yc lim k x0 x1 x5 x6 x7 H R := by
  rw [evL_X, N52_2_x]
  simp only [← evL_X, N52_2, N52_3_eq]
noncomputable def N52_1 (ρ : Addr → Option Value) (call : CallF) (yc : YieldF) (lim k : Nat) (x0 x1 x5 : AV) (H : Heap) (R : List AV → Heap → Res) : Res :=
  purK (ixT x1 (.int .i64 0)) fun x49_1 =>
  purK (ixT x1 (.int .i64 1)) fun x51_1 =>
  N52_2 ρ call yc lim k x0 x1 x5 x49_1 x51_1 H R
theorem N52_1_x (ρ : Addr → Option Value) (call : CallF) (yc : YieldF) (lim k : Nat) (J : CodeF) (x0 x1 x5 : AV) (H : Heap) (R : List AV → Heap → Res) :
    evX (cx ρ) call yc false 52 lim k J (Code.at [1, 1, 1] c52) (sp 143 [(0, x0), (1, x1), (5, x5)]) H (kk none (fun s H => R (([4] : List Nat).map fun t => s.getD t (.tup [])) H) [] R [4]) =
  purK (ixT x1 (.int .i64 0)) fun x49_1 =>
  purK (ixT x1 (.int .i64 1)) fun x51_1 =>
  J (Code.at [1, 1, 1, 1, 1] c52) (sp 143 [(0, x0), (1, x1), (5, x5), (6, x49_1), (7, x51_1)]) H (kk none (fun s H => R (([4] : List Nat).map fun t => s.getD t (.tup [])) H) [] R [4]) := by
  kernel_rfl
theorem N52_1_eq (ρ : Addr → Option Value) (call : CallF) (yc : YieldF) (lim k : Nat) (x0 x1 x5 : AV) (H : Heap) (R : List AV → Heap → Res) :
    evL (cx ρ) call yc false 52 lim k (Code.at [1, 1, 1] c52) (sp 143 [(0, x0), (1, x1), (5, x5)]) H (kk none (fun s H => R (([4] : List Nat).map fun t => s.getD t (.tup [])) H) [] R [4]) = N52_1 ρ call yc lim k x0 x1 x5 H R := by
  rw [evL_X, N52_1_x]
  simp only [← evL_X, N52_1, N52_2_eq]
noncomputable def N52_12 (ρ : Addr → Option Value) (call : CallF) (yc : YieldF) (lim k : Nat) (x0 x1 x5 x36 : AV) (H : Heap) (kn : AV → AV → AV → Heap → Res) (R : List AV → Heap → Res) : Res :=
  condK x36
  (
    resK (call lim 62 [x0, x1] H) fun x47_1 H =>
    R [x47_1] H)
  (
    kn x0 x1 x5 H)
theorem N52_12_eq (ρ : Addr → Option Value) (call : CallF) (yc : YieldF) (lim k : Nat) (x0 x1 x5 x36 : AV) (H : Heap) (kn : KS) (k0 : KS) (R : List AV → Heap → Res) :
    evL (cx ρ) call yc false 52 lim k (Code.at [1, 1, 0, 0, 1, 1, 1, 1, 1, 1, 1] c52) (sp 143 [(0, x0), (1, x1), (5, x5), (36, x36)]) H (kk (some [0, 1, 5]) kn [(0, (some [0, 1, 5]), k0)] R [4]) = N52_12 ρ call yc lim k x0 x1 x5 x36 H (fun x0 x1 x5 H => kn (sp 143 [(0, x0), (1, x1), (5, x5)]) H) R := by
  kernel_rfl
noncomputable def L52 (ρ : Addr → Option Value) (call : CallF) (yc : YieldF) (lim k : Nat) (x0 x1 : AV) (H : Heap) : Res :=
  purK (lenT x1) fun x15 =>
  purK (binA Tryd.prog H .eql 3 x15 (.int .i64 0)) fun x18 =>
  purK (gPur (wantV x18 false) (some x1)) fun x20 =>
  purK (gPur (wantV x18 false) (some x0)) fun x21 =>
  purK (gPur (wantV x18 false) (binA Tryd.prog H .eql 9 x20 x21)) fun x22 =>
  purK (pickA x18 (.bool true) x22) fun x23 =>
  condK x23
  (
    retK [(.int .i64 0)] H)
  (
    purK (binA Tryd.prog H .eql 3 x15 (.int .i64 1)) fun x26 =>
    condK x26
    (
      purK (ixT x1 (.int .i64 0)) fun x29 =>
      resK (call lim 47 [x0, x29] H) fun x30 H =>
      retK [x30] H)
    (
      purK (lenT x0) fun x34 =>
      purK (binA Tryd.prog H .geq 3 x15 x34) fun x35 =>
      condK x35
      (
        retK [(.int .i64 (-1))] H)
      (
        purK (ld1 ρ H (.xp ⟨2, 0, none⟩)) fun x38 =>
        purK (binA Tryd.prog H .leq 3 x15 x38) fun x39 =>
        purK (gPur (wantV x39 true) (some x0)) fun x41 =>
        purK (gPur (wantV x39 true) (lenT x41)) fun x42 =>
        purK (gPur (wantV x39 true) (binA Tryd.prog H .leq 3 x42 (.int .i64 64))) fun x43 =>
        purK (pickA x39 x43 (.bool false)) fun x44 =>
        N52_12 ρ call yc lim k x0 x1 x15 x44 H (fun x0_1 x1_1 x5 H =>
          N52_1 ρ call yc lim k x0_1 x1_1 x5 H retK) retK)))
theorem L52_x (ρ : Addr → Option Value) (call : CallF) (yc : YieldF) (lim k : Nat) (J : CodeF) (x0 x1 : AV) (H : Heap) :
    evX (cx ρ) call yc false 52 lim k J c52 [x0, x1, (.tup []), (.tup []), (.tup []), (.tup []), (.tup []), (.tup []), (.tup []), (.tup []), (.tup []), (.tup []), (.tup []), (.tup []), (.tup []), (.tup []), (.tup []), (.tup []), (.tup []), (.tup []), (.tup []), (.tup []), (.tup []), (.tup []), (.tup []), (.tup []), (.tup []), (.tup []), (.tup []), (.tup []), (.tup []), (.tup []), (.tup []), (.tup []), (.tup []), (.tup []), (.tup []), (.tup []), (.tup []), (.tup []), (.tup []), (.tup []), (.tup []), (.tup []), (.tup []), (.tup []), (.tup []), (.tup []), (.tup []), (.tup []), (.tup []), (.tup []), (.tup []), (.tup []), (.tup []), (.tup []), (.tup []), (.tup []), (.tup []), (.tup []), (.tup []), (.tup []), (.tup []), (.tup []), (.tup []), (.tup []), (.tup []), (.tup []), (.tup []), (.tup []), (.tup []), (.tup []), (.tup []), (.tup []), (.tup []), (.tup []), (.tup []), (.tup []), (.tup []), (.tup []), (.tup []), (.tup []), (.tup []), (.tup []), (.tup []), (.tup []), (.tup []), (.tup []), (.tup []), (.tup []), (.tup []), (.tup []), (.tup []), (.tup []), (.tup []), (.tup []), (.tup []), (.tup []), (.tup []), (.tup []), (.tup []), (.tup []), (.tup []), (.tup []), (.tup []), (.tup []), (.tup []), (.tup []), (.tup []), (.tup []), (.tup []), (.tup []), (.tup []), (.tup []), (.tup []), (.tup []), (.tup []), (.tup []), (.tup []), (.tup []), (.tup []), (.tup []), (.tup []), (.tup []), (.tup []), (.tup []), (.tup []), (.tup []), (.tup []), (.tup []), (.tup []), (.tup []), (.tup []), (.tup []), (.tup []), (.tup []), (.tup []), (.tup []), (.tup []), (.tup []), (.tup []), (.tup []), (.tup [])] H (kk none (fun s H => retK (([4] : List Nat).map fun t => s.getD t (.tup [])) H) [] retK [4]) =
  purK (lenT x1) fun x15 =>
  purK (binA Tryd.prog H .eql 3 x15 (.int .i64 0)) fun x18 =>
  purK (gPur (wantV x18 false) (some x1)) fun x20 =>
  purK (gPur (wantV x18 false) (some x0)) fun x21 =>
  purK (gPur (wantV x18 false) (binA Tryd.prog H .eql 9 x20 x21)) fun x22 =>
  purK (pickA x18 (.bool true) x22) fun x23 =>
  condK x23
  (
    retK [(.int .i64 0)] H)
  (
    purK (binA Tryd.prog H .eql 3 x15 (.int .i64 1)) fun x26 =>
    condK x26
    (
      purK (ixT x1 (.int .i64 0)) fun x29 =>
      resK (call lim 47 [x0, x29] H) fun x30 H =>
      retK [x30] H)
    (
      purK (lenT x0) fun x34 =>
      purK (binA Tryd.prog H .geq 3 x15 x34) fun x35 =>
      condK x35
      (
        retK [(.int .i64 (-1))] H)
      (
        purK (ld1 ρ H (.xp ⟨2, 0, none⟩)) fun x38 =>
        purK (binA Tryd.prog H .leq 3 x15 x38) fun x39 =>
        purK (gPur (wantV x39 true) (some x0)) fun x41 =>
        purK (gPur (wantV x39 true) (lenT x41)) fun x42 =>
        purK (gPur (wantV x39 true) (binA Tryd.prog H .leq 3 x42 (.int .i64 64))) fun x43 =>
        purK (pickA x39 x43 (.bool false)) fun x44 =>
        J (Code.at [1, 1, 0, 0, 1, 1, 1, 1, 1, 1, 1] c52) (sp 143 [(0, x0), (1, x1), (5, x15), (36, x44)]) H (kk (some [0, 1, 5]) (fun s H => J (Code.at [1, 1, 1] c52) s H (kk none (fun s H => retK (([4] : List Nat).map fun t => s.getD t (.tup [])) H) [] retK [4])) [(0, (some [0, 1, 5]), (fun s H => J (Code.at [1, 1, 1] c52) s H (kk none (fun s H => retK (([4] : List Nat).map fun t => s.getD t (.tup [])) H) [] retK [4])))] retK [4])))) := by
  kernel_rfl
theorem G52 (ρ : Addr → Option Value) (call : CallF) (yc : YieldF) (lim k : Nat) (x0 x1 : AV) (H : Heap) :
    evL (cx ρ) call yc false 52 lim k c52 [x0, x1, (.tup []), (.tup []), (.tup []), (.tup []), (.tup []), (.tup []), (.tup []), (.tup []), (.tup []), (.tup []), (.tup []), (.tup []), (.tup []), (.tup []), (.tup []), (.tup []), (.tup []), (.tup []), (.tup []), (.tup []), (.tup []), (.tup []), (.tup []), (.tup []), (.tup []), (.tup []), (.tup []), (.tup []), (.tup []), (.tup []), (.tup []), (.tup []), (.tup []), (.tup []), (.tup []), (.tup []), (.tup []), (.tup []), (.tup []), (.tup []), (.tup []), (.tup []), (.tup []), (.tup []), (.tup []), (.tup []), (.tup []), (.tup []), (.tup []), (.tup []), (.tup []), (.tup []), (.tup []), (.tup []), (.tup []), (.tup []), (.tup []), (.tup []), (.tup []), (.tup []), (.tup []), (.tup []), (.tup []), (.tup []), (.tup []), (.tup []), (.tup []), (.tup []), (.tup []), (.tup []), (.tup []), (.tup []), (.tup []), (.tup []), (.tup []), (.tup []), (.tup []), (.tup []), (.tup []), (.tup []), (.tup []), (.tup []), (.tup []), (.tup []), (.tup []), (.tup []), (.tup []), (.tup []), (.tup []), (.tup []), (.tup []), (.tup []), (.tup []), (.tup []), (.tup []), (.tup []), (.tup []), (.tup []), (.tup []), (.tup []), (.tup []), (.tup []), (.tup []), (.tup []), (.tup []), (.tup []), (.tup []), (.tup []), (.tup []), (.tup []), (.tup []), (.tup []), (.tup []), (.tup []), (.tup []), (.tup []), (.tup []), (.tup []), (.tup []), (.tup []), (.tup []), (.tup []), (.tup []), (.tup []), (.tup []), (.tup []), (.tup []), (.tup []), (.tup []), (.tup []), (.tup []), (.tup []), (.tup []), (.tup []), (.tup []), (.tup []), (.tup []), (.tup []), (.tup []), (.tup []), (.tup [])] H (kk none (fun s H => retK (([4] : List Nat).map fun t => s.getD t (.tup [])) H) [] retK [4]) = L52 ρ call yc lim k x0 x1 H := by
  rw [evL_X, L52_x]
  simp only [← evL_X, L52, N52_12_eq, N52_1_eq]
theorem E52 (ρ : Addr → Option Value) (k lim : Nat) (x0 x1 : AV) (H : Heap) : evCall (cx ρ) (k + 1) lim 52 [x0, x1] H = L52 ρ (evCall (cx ρ) k) (evCY (cx ρ) k).2 lim k x0 x1 H := by
  rw [evCall_body (cx ρ) k lim 52 _ H Tryd.f52 c52 [4] (by kernel_rfl) (by kernel_rfl) (by kernel_rfl) (by kernel_rfl) (by kernel_rfl)]
  exact G52 ρ (evCall (cx ρ) k) (evCY (cx ρ) k).2 lim k x0 x1 H
-- strings.genSplit
noncomputable def c53 : Code := Code.of Tryd.prog 53
noncomputable def N53_4 (ρ : Addr → Option Value) (call : CallF) (yc : YieldF) (lim k : Nat) (x0 x9 x10 : AV) (H : Heap) (R : List AV → Heap → Res) : Res :=
  purK (ixS 1 x9 x10) fun x61_1 =>
  effK H (stA lim H 1 x61_1 x0) fun _ H =>
  purK (binA Tryd.prog H .add 3 x10 (.int .i64 1)) fun x64_1 =>
  purK (slS 1 x9 none (some x64_1) none) fun x65_1 =>
  R [x65_1] H
theorem N53_4_eq (ρ : Addr → Option Value) (call : CallF) (yc : YieldF) (lim k : Nat) (x0 x9 x10 : AV) (H : Heap) (R : List AV → Heap → Res) :
    evL (cx ρ) call yc false 53 lim k (Code.at [1, 1, 1, 1, 1, 1, 1, 1, 1] c53) (sp 66 [(0, x0), (9, x9), (10, x10)]) H (kk none (fun s H => R (([8] : List Nat).map fun t => s.getD t (.tup [])) H) [] R [8]) = N53_4 ρ call yc lim k x0 x9 x10 H R := by
  kernel_rfl
noncomputable def N53_6 (ρ : Addr → Option Value) (call : CallF) (yc : YieldF) (lim k : Nat) (x0 x1 x2 x3 x9 x10 : AV) (H : Heap) (kn : AV → AV → Heap → Res) : Res :=
  purK (binA Tryd.prog H .add 3 x10 (.int .i64 1)) fun x57_1 =>
  kn x0 x57_1 H
theorem N53_6_eq (ρ : Addr → Option Value) (call : CallF) (yc : YieldF) (lim k : Nat) (x0 x1 x2 x3 x9 x10 : AV) (H : Heap) (kn : KS) (k1 : KS) (k0 : KS) (R : List AV → Heap → Res) :
    evL (cx ρ) call yc false 53 lim k (Code.at [1, 1, 1, 1, 1, 1, 1, 1, 0, 0, 0, 1, 0, 1, 1, 1, 1] c53) (sp 66 [(0, x0), (1, x1), (2, x2), (3, x3), (9, x9), (10, x10)]) H (kk (some [0, 1, 2, 3, 9, 10]) kn [(1, (some [0, 1, 2, 3, 9, 10]), k1), (0, (some [0, 9, 10]), k0)] R [8]) = N53_6 ρ call yc lim k x0 x1 x2 x3 x9 x10 H (fun x0 x10 H => kn (sp 66 [(0, x0), (1, x1), (2, x2), (3, x3), (9, x9), (10, x10)]) H) := by
  kernel_rfl
noncomputable def N53_5b (ρ : Addr → Option Value) (call : CallF) (yc : YieldF) (lim k : Nat) (x0 x1 x2 x3 x9 x10 : AV) (H : Heap) (kn : AV → AV → Heap → Res) (k0 : AV → AV → AV → Heap → Res) : Res :=
  purK (binA Tryd.prog H .lss 3 x10 x3) fun x36_1 =>
  condK x36_1
  (
    resK (call lim 67 [x0, x1] H) fun x39_1 H =>
    purK (binA Tryd.prog H .lss 3 x39_1 (.int .i64 0)) fun x41_1 =>
    condK x41_1
    (
      k0 x0 x9 x10 H)
    (
      purK (binA Tryd.prog H .add 3 x39_1 x2) fun x47_1 =>
      purK (slT x0 none (some x47_1)) fun x48_1 =>
      purK (ixS 1 x9 x10) fun x49_1 =>
      effK H (stA lim H 1 x49_1 x48_1) fun _ H =>
      purK (lenT x1) fun x53_1 =>
      purK (binA Tryd.prog H .add 3 x39_1 x53_1) fun x54_1 =>
      purK (slT x0 (some x54_1) none) fun x55_1 =>
      N53_6 ρ call yc lim k x55_1 x1 x2 x3 x9 x10 H kn))
  (
    k0 x0 x9 x10 H)
theorem N53_5b_x (ρ : Addr → Option Value) (call : CallF) (yc : YieldF) (lim k : Nat) (J : CodeF) (x0 x1 x2 x3 x9 x10 : AV) (H : Heap) (kn : KS) (k0 : KS) (R : List AV → Heap → Res) :
    evX (cx ρ) call yc false 53 lim k J (Code.at [1, 1, 1, 1, 1, 1, 1, 1, 0, 0, 0] c53) (sp 66 [(0, x0), (1, x1), (2, x2), (3, x3), (9, x9), (10, x10)]) H (kk (some [0, 1, 2, 3, 9, 10]) kn [(0, (some [0, 9, 10]), k0)] R [8]) =
  purK (binA Tryd.prog H .lss 3 x10 x3) fun x36_1 =>
  condK x36_1
  (
    resK (call lim 67 [x0, x1] H) fun x39_1 H =>
    purK (binA Tryd.prog H .lss 3 x39_1 (.int .i64 0)) fun x41_1 =>
    condK x41_1
    (
      k0 (sp 66 [(0, x0), (9, x9), (10, x10)]) H)
    (
      purK (binA Tryd.prog H .add 3 x39_1 x2) fun x47_1 =>
      purK (slT x0 none (some x47_1)) fun x48_1 =>
      purK (ixS 1 x9 x10) fun x49_1 =>
      effK H (stA lim H 1 x49_1 x48_1) fun _ H =>
      purK (lenT x1) fun x53_1 =>
      purK (binA Tryd.prog H .add 3 x39_1 x53_1) fun x54_1 =>
      purK (slT x0 (some x54_1) none) fun x55_1 =>
      J (Code.at [1, 1, 1, 1, 1, 1, 1, 1, 0, 0, 0, 1, 0, 1, 1, 1, 1] c53) (sp 66 [(0, x55_1), (1, x1), (2, x2), (3, x3), (9, x9), (10, x10)]) H (kk (some [0, 1, 2, 3, 9, 10]) kn [(1, (some [0, 1, 2, 3, 9, 10]), kn), (0, (some [0, 9, 10]), k0)] R [8])))
  (
    k0 (sp 66 [(0, x0), (9, x9), (10, x10)]) H) := by
  kernel_rfl
theorem N53_5b_eq (ρ : Addr → Option Value) (call : CallF) (yc : YieldF) (lim k : Nat) (x0 x1 x2 x3 x9 x10 : AV) (H : Heap) (kn : KS) (k0 : KS) (R : List AV → Heap → Res) :
    evL (cx ρ) call yc false 53 lim k (Code.at [1, 1, 1, 1, 1, 1, 1, 1, 0, 0, 0] c53) (sp 66 [(0, x0), (1, x1), (2, x2), (3, x3), (9, x9), (10, x10)]) H (kk (some [0, 1, 2, 3, 9, 10]) kn [(0, (some [0, 9, 10]), k0)] R [8]) = N53_5b ρ call yc lim k x0 x1 x2 x3 x9 x10 H (fun x0 x10 H => kn (sp 66 [(0, x0), (1, x1), (2, x2), (3, x3), (9, x9), (10, x10)]) H) (fun x0 x9 x10 H => k0 (sp 66 [(0, x0), (9, x9), (10, x10)]) H) := by
  rw [evL_X, N53_5b_x]
  simp only [← evL_X, N53_5b, N53_6_eq]
noncomputable def N53_5 (ρ : Addr → Option Value) (call : CallF) (yc : YieldF) (lim k : Nat) (x0 x1 x2 x3 x9 x10 : AV) (H : Heap) (k0 : AV → AV → AV → Heap → Res) : Res :=
  loopL (fun (x : AV × AV) H kn => N53_5b ρ call yc lim k x.1 x1 x2 x3 x9 x.2 H (fun x0 x10 H => kn (x0, x10) H) k0) k (x0, x10) H
theorem N53_5_eq (ρ : Addr → Option Value) (call : CallF) (yc : YieldF) (lim k : Nat) (x0 x1 x2 x3 x9 x10 : AV) (H : Heap) (kn : KS) (k0 : KS) (R : List AV → Heap → Res) :
    evL (cx ρ) call yc false 53 lim k (Code.at [1, 1, 1, 1, 1, 1, 1, 1, 0, 0] c53) (sp 66 [(0, x0), (1, x1), (2, x2), (3, x3), (9, x9), (10, x10)]) H (kk (some [0, 9, 10]) kn [(0, (some [0, 9, 10]), k0)] R [8]) = N53_5 ρ call yc lim k x0 x1 x2 x3 x9 x10 H (fun x0 x9 x10 H => k0 (sp 66 [(0, x0), (9, x9), (10, x10)]) H) := by
  have e : Code.at [1, 1, 1, 1, 1, 1, 1, 1, 0, 0] c53 = .loop (Code.at [1, 1, 1, 1, 1, 1, 1, 1, 0, 0, 0] c53) := by kernel_rfl
  rw [e]
  unfold N53_5
  exact loop_node [0, 1, 2, 3, 9, 10] (fun x : AV × AV => (sp 66 [(0, (x.1)), (1, x1), (2, x2), (3, x3), (9, x9), (10, (x.2))])) (fun (x : AV × AV) H kn => N53_5b ρ call yc lim k x.1 x1 x2 x3 x9 x.2 H (fun x0 x10 H => kn (x0, x10) H) (fun x0 x9 x10 H => k0 (sp 66 [(0, x0), (9, x9), (10, x10)]) H)) (by kernel_rfl) (fun x => by kernel_rfl) (fun x H kn => N53_5b_eq ρ call yc lim k (x.1) x1 x2 x3 x9 (x.2) H kn k0 R) (x0, x10) (sp 66 [(0, x0), (1, x1), (2, x2), (3, x3), (9, x9), (10, x10)]) H (by kernel_rfl)
noncomputable def N53_3 (ρ : Addr → Option Value) (call : CallF) (yc : YieldF) (lim k : Nat) (x0 x1 x2 x3 x9 x10 : AV) (H : Heap) (R : List AV → Heap → Res) : Res :=
  N53_5 ρ call yc lim k x0 x1 x2 x3 x9 x10 H (fun x0_1 x9_1 x10_1 H =>
    N53_4 ρ call yc lim k x0_1 x9_1 x10_1 H R)
theorem N53_3_x (ρ : Addr → Option Value) (call : CallF) (yc : YieldF) (lim k : Nat) (J : CodeF) (x0 x1 x2 x3 x9 x10 : AV) (H : Heap) (R : List AV → Heap → Res) :
    evX (cx ρ) call yc false 53 lim k J (Code.at [1, 1, 1, 1, 1, 1, 1, 1] c53) (sp 66 [(0, x0), (1, x1), (2, x2), (3, x3), (9, x9), (10, x10)]) H (kk none (fun s H => R (([8] : List Nat).map fun t => s.getD t (.tup [])) H) [] R [8]) =
  J (Code.at [1, 1, 1, 1, 1, 1, 1, 1, 0, 0] c53) (sp 66 [(0, x0), (1, x1), (2, x2), (3, x3), (9, x9), (10, x10)]) H (kk (some [0, 9, 10]) (fun s H => J (Code.at [1, 1, 1, 1, 1, 1, 1, 1, 1] c53) s H (kk none (fun s H => R (([8] : List Nat).map fun t => s.getD t (.tup [])) H) [] R [8])) [(0, (some [0, 9, 10]), (fun s H => J (Code.at [1, 1, 1, 1, 1, 1, 1, 1, 1] c53) s H (kk none (fun s H => R (([8] : List Nat).map fun t => s.getD t (.tup [])) H) [] R [8])))] R [8]) := by
  kernel_rfl
theorem N53_3_eq (ρ : Addr → Option Value) (call : CallF) (yc : YieldF) (lim k : Nat) (x0 x1 x2 x3 x9 x10 : AV) (H : Heap) (R : List AV → Heap → Res) :
    evL (cx ρ) call yc false 53 lim k (Code.at [1, 1, 1, 1, 1, 1, 1, 1] c53) (sp 66 [(0, x0), (1, x1), (2, x2), (3, x3), (9, x9), (10, x10)]) H (kk none (fun s H => R (([8] : List Nat).map fun t => s.getD t (.tup [])) H) [] R [8]) = N53_3 ρ call yc lim k x0 x1 x2 x3 x9 x10 H R := by
  rw [evL_X, N53_3_x]
  simp only [← evL_X, N53_3, N53_4_eq, N53_5_eq]
noncomputable def N53_2 (ρ : Addr → Option Value) (call : CallF) (yc : YieldF) (lim k : Nat) (x0 x1 x2 x3 x9 : AV) (H : Heap) (R : List AV → Heap → Res) : Res :=
  purK (binA Tryd.prog H .sub 3 x3 (.int .i64 1)) fun x33_1 =>
  N53_3 ρ call yc lim k x0 x1 x2 x33_1 x9 (.int .i64 0) H R
theorem N53_2_x (ρ : Addr → Option Value) (call : CallF) (yc : YieldF) (lim k : Nat) (J : CodeF) (x0 x1 x2 x3 x9 : AV) (H : Heap) (R : List AV → Heap → Res) :
    evX (cx ρ) call yc false 53 lim k J (Code.at [1, 1, 1, 1, 1, 1] c53) (sp 66 [(0, x0), (1, x1), (2, x2), (3, x3), (9, x9)]) H (kk none (fun s H => R (([8] : List Nat).map fun t => s.getD t (.tup [])) H) [] R [8]) =
  purK (binA Tryd.prog H .sub 3 x3 (.int .i64 1)) fun x33_1 =>
  J (Code.at [1, 1, 1, 1, 1, 1, 1, 1] c53) (sp 66 [(0, x0), (1, x1), (2, x2), (3, x33_1), (9, x9), (10, (.int .i64 0))]) H (kk none (fun s H => R (([8] : List Nat).map fun t => s.getD t (.tup [])) H) [] R [8]) := by
  kernel_rfl
theorem N53_2_eq (ρ : Addr → Option Value) (call : CallF) (yc : YieldF) (lim k : Nat) (x0 x1 x2 x3 x9 : AV) (H : Heap) (R : List AV → Heap → Res) :
    evL (cx ρ) call yc false 53 lim k (Code.at [1, 1, 1, 1, 1, 1] c53) (sp 66 [(0, x0), (1, x1), (2, x2), (3, x3), (9, x9)]) H (kk none (fun s H => R (([8] : List Nat).map fun t => s.getD t (.tup [])) H) [] R [8]) = N53_2 ρ call yc lim k x0 x1 x2 x3 x9 H R := by
  rw [evL_X, N53_2_x]
  simp only [← evL_X, N53_2, N53_3_eq]
noncomputable def N53_1 (ρ : Addr → Option Value) (call : CallF) (yc : YieldF) (lim k : Nat) (x0 x1 x2 x3 : AV) (H : Heap) (R : List AV → Heap → Res) : Res :=
  purK (lenT x0) fun x27_1 =>
  purK (binA Tryd.prog H .add 3 x27_1 (.int .i64 1)) fun x28_1 =>
  purK (foldsA minA [x3, x28_1]) fun x29_1 =>
  effK H (mkS H 9 1 16 [.str ByteArray.empty] x29_1 x29_1) fun x31_1 H =>
  N53_2 ρ call yc lim k x0 x1 x2 x29_1 x31_1 H R
theorem N53_1_x (ρ : Addr → Option Value) (call : CallF) (yc : YieldF) (lim k : Nat) (J : CodeF) (x0 x1 x2 x3 : AV) (H : Heap) (R : List AV → Heap → Res) :
    evX (cx ρ) call yc false 53 lim k J (Code.at [1, 1, 1, 1] c53) (sp 66 [(0, x0), (1, x1), (2, x2), (3, x3)]) H (kk none (fun s H => R (([8] : List Nat).map fun t => s.getD t (.tup [])) H) [] R [8]) =
  purK (lenT x0) fun x27_1 =>
  purK (binA Tryd.prog H .add 3 x27_1 (.int .i64 1)) fun x28_1 =>
  purK (foldsA minA [x3, x28_1]) fun x29_1 =>
  effK H (mkS H 9 1 16 [.str ByteArray.empty] x29_1 x29_1) fun x31_1 H =>
  J (Code.at [1, 1, 1, 1, 1, 1] c53) (sp 66 [(0, x0), (1, x1), (2, x2), (3, x29_1), (9, x31_1)]) H (kk none (fun s H => R (([8] : List Nat).map fun t => s.getD t (.tup [])) H) [] R [8]) := by
  kernel_rfl
theorem N53_1_eq (ρ : Addr → Option Value) (call : CallF) (yc : YieldF) (lim k : Nat) (x0 x1 x2 x3 : AV) (H : Heap) (R : List AV → Heap → Res) :
    evL (cx ρ) call yc false 53 lim k (Code.at [1, 1, 1, 1] c53) (sp 66 [(0, x0), (1, x1), (2, x2), (3, x3)]) H (kk none (fun s H => R (([8] : List Nat).map fun t => s.getD t (.tup [])) H) [] R [8]) = N53_1 ρ call yc lim k x0 x1 x2 x3 H R := by
  rw [evL_X, N53_1_x]
  simp only [← evL_X, N53_1, N53_2_eq]
noncomputable def L53 (ρ : Addr → Option Value) (call : CallF) (yc : YieldF) (lim k : Nat) (x0 x1 x2 x3 : AV) (H : Heap) : Res :=
  purK (binA Tryd.prog H .eql 3 x3 (.int .i64 0)) fun x13 =>
  condK x13
  (
    retK [.nils] H)
  (
    purK (binA Tryd.prog H .eql 9 x1 (.str (ByteArray.mk #[]))) fun x15 =>
    condK x15
    (
      resK (call lim 65 [x0, x3] H) fun x18 H =>
      retK [x18] H)
    (
      purK (binA Tryd.prog H .lss 3 x3 (.int .i64 0)) fun x20 =>
      condK x20
      (
        resK (call lim 66 [x0, x1] H) fun x23 H =>
        purK (binA Tryd.prog H .add 3 x23 (.int .i64 1)) fun x24 =>
        N53_1 ρ call yc lim k x0 x1 x2 x24 H retK)
      (
        N53_1 ρ call yc lim k x0 x1 x2 x3 H retK)))
theorem L53_x (ρ : Addr → Option Value) (call : CallF) (yc : YieldF) (lim k : Nat) (J : CodeF) (x0 x1 x2 x3 : AV) (H : Heap) :
    evX (cx ρ) call yc false 53 lim k J c53 [x0, x1, x2, x3, (.tup []), (.tup []), (.tup []), (.tup []), (.tup []), (.tup []), (.tup []), (.tup []), (.tup []), (.tup []), (.tup []), (.tup []), (.tup []), (.tup []), (.tup []), (.tup []), (.tup []), (.tup []), (.tup []), (.tup []), (.tup []), (.tup []), (.tup []), (.tup []), (.tup []), (.tup []), (.tup []), (.tup []), (.tup []), (.tup []), (.tup []), (.tup []), (.tup []), (.tup []), (.tup []), (.tup []), (.tup []), (.tup []), (.tup []), (.tup []), (.tup []), (.tup []), (.tup []), (.tup []), (.tup []), (.tup []), (.tup []), (.tup []), (.tup []), (.tup []), (.tup []), (.tup []), (.tup []), (.tup []), (.tup []), (.tup []), (.tup []), (.tup []), (.tup []), (.tup []), (.tup []), (.tup [])] H (kk none (fun s H => retK (([8] : List Nat).map fun t => s.getD t (.tup [])) H) [] retK [8]) =
  purK (binA Tryd.prog H .eql 3 x3 (.int .i64 0)) fun x13 =>
  condK x13
  (
    retK [.nils] H)
  (
    purK (binA Tryd.prog H .eql 9 x1 (.str (ByteArray.mk #[]))) fun x15 =>
    condK x15
    (
      resK (call lim 65 [x0, x3] H) fun x18 H =>
      retK [x18] H)
    (
      purK (binA Tryd.prog H .lss 3 x3 (.int .i64 0)) fun x20 =>
      condK x20
      (
        resK (call lim 66 [x0, x1] H) fun x23 H =>
        purK (binA Tryd.prog H .add 3 x23 (.int .i64 1)) fun x24 =>
        J (Code.at [1, 1, 1, 1] c53) (sp 66 [(0, x0), (1, x1), (2, x2), (3, x24)]) H (kk none (fun s H => retK (([8] : List Nat).map fun t => s.getD t (.tup [])) H) [] retK [8]))
      (
        J (Code.at [1, 1, 1, 1] c53) (sp 66 [(0, x0), (1, x1), (2, x2), (3, x3)]) H (kk none (fun s H => retK (([8] : List Nat).map fun t => s.getD t (.tup [])) H) [] retK [8])))) := by
  kernel_rfl
theorem G53 (ρ : Addr → Option Value) (call : CallF) (yc : YieldF) (lim k : Nat) (x0 x1 x2 x3 : AV) (H : Heap) :
    evL (cx ρ) call yc false 53 lim k c53 [x0, x1, x2, x3, (.tup []), (.tup []), (.tup []), (.tup []), (.tup []), (.tup []), (.tup []), (.tup []), (.tup []), (.tup []), (.tup []), (.tup []), (.tup []), (.tup []), (.tup []), (.tup []), (.tup []), (.tup []), (.tup []), (.tup []), (.tup []), (.tup []), (.tup []), (.tup []), (.tup []), (.tup []), (.tup []), (.tup []), (.tup []), (.tup []), (.tup []), (.tup []), (.tup []), (.tup []), (.tup []), (.tup []), (.tup []), (.tup []), (.tup []), (.tup []), (.tup []), (.tup []), (.tup []), (.tup []), (.tup []), (.tup []), (.tup []), (.tup []), (.tup []), (.tup []), (.tup []), (.tup []), (.tup []), (.tup []), (.tup []), (.tup []), (.tup []), (.tup []), (.tup []), (.tup []), (.tup []), (.tup [])] H (kk none (fun s H => retK (([8] : List Nat).map fun t => s.getD t (.tup [])) H) [] retK [8]) = L53 ρ call yc lim k x0 x1 x2 x3 H := by
  rw [evL_X, L53_x]
  simp only [← evL_X, L53, N53_1_eq]
theorem E53 (ρ : Addr → Option Value) (k lim : Nat) (x0 x1 x2 x3 : AV) (H : Heap) : evCall (cx ρ) (k + 1) lim 53 [x0, x1, x2, x3] H = L53 ρ (evCall (cx ρ) k) (evCY (cx ρ) k).2 lim k x0 x1 x2 x3 H := by
  rw [evCall_body (cx ρ) k lim 53 _ H Tryd.f53 c53 [8] (by kernel_rfl) (by kernel_rfl) (by kernel_rfl) (by kernel_rfl) (by kernel_rfl)]
  exact G53 ρ (evCall (cx ρ) k) (evCY (cx ρ) k).2 lim k x0 x1 x2 x3 H
-- haycroft/script.number
noncomputable def c54 : Code := Code.of Tryd.prog 54
noncomputable def L54 (ρ : Addr → Option Value) (call : CallF) (yc : YieldF) (lim k : Nat) (x0 x1 : AV) (H : Heap) : Res :=
  resK (call lim 68 [x0, (.int .i64 10), (.int .i64 64)] H) fun x10 H =>
  purK (extA 0 x10) fun x11 =>
  purK (extA 1 x10) fun x12 =>
  purK (eqI Tryd.prog .eql true x12 .nili) fun x15 =>
  purK (gPur (wantV x15 true) (some x11)) fun x17 =>
  purK (gPur (wantV x15 true) (some x1)) fun x18 =>
  purK (gPur (wantV x15 true) (binA Tryd.prog H .leq 38 x17 x18)) fun x19 =>
  purK (pickA x15 x19 (.bool false)) fun x20 =>
  purK (gPur (wantV x20 true) (some x11)) fun x22 =>
  resK (gRes (wantV x20 true) H (call lim 49 [x22, (.int .i64 10)] H)) fun x23 H =>
  purK (gPur (wantV x20 true) (some x0)) fun x24 =>
  purK (gPur (wantV x20 true) (binA Tryd.prog H .eql 9 x23 x24)) fun x25 =>
  purK (pickA x20 x25 (.bool false)) fun x26 =>
  retK [x11, x26] H
theorem G54 (ρ : Addr → Option Value) (call : CallF) (yc : YieldF) (lim k : Nat) (x0 x1 : AV) (H : Heap) :
    evL (cx ρ) call yc false 54 lim k c54 [x0, x1, (.tup []), (.tup []), (.tup []), (.tup []), (.tup []), (.tup []), (.tup []), (.tup []), (.tup []), (.tup []), (.tup []), (.tup []), (.tup []), (.tup []), (.tup []), (.tup []), (.tup []), (.tup []), (.tup []), (.tup []), (.tup []), (.tup []), (.tup []), (.tup []), (.tup [])] H (kk none (fun s H => retK (([4, 5] : List Nat).map fun t => s.getD t (.tup [])) H) [] retK [4, 5]) = L54 ρ call yc lim k x0 x1 H := by
  kernel_rfl
theorem E54 (ρ : Addr → Option Value) (k lim : Nat) (x0 x1 : AV) (H : Heap) : evCall (cx ρ) (k + 1) lim 54 [x0, x1] H = L54 ρ (evCall (cx ρ) k) (evCY (cx ρ) k).2 lim k x0 x1 H := by
  rw [evCall_body (cx ρ) k lim 54 _ H Tryd.f54 c54 [4, 5] (by kernel_rfl) (by kernel_rfl) (by kernel_rfl) (by kernel_rfl) (by kernel_rfl)]
  exact G54 ρ (evCall (cx ρ) k) (evCY (cx ρ) k).2 lim k x0 x1 H
-- (*haycroft/script.reader).text
noncomputable def c55 : Code := Code.of Tryd.prog 55
noncomputable def L55 (ρ : Addr → Option Value) (call : CallF) (yc : YieldF) (lim k : Nat) (x0 : AV) (H : Heap) : Res :=
  resK (call lim 39 [x0] H) fun x7 H =>
  resK (call lim 11 [x7] H) fun x8 H =>
  purK (extA 0 x8) fun x9 =>
  purK (extA 1 x8) fun x10 =>
  purK (nilChkA x0) fun x13 =>
  purK (addA 1 x13) fun x14 =>
  purK (ld1 ρ H x14) fun x15 =>
  purK (gPur (wantV x15 false) (some x10)) fun x17 =>
  purK (gPur (wantV x15 false) (binA Tryd.prog H .neq 24 x17 (.int .i64 0))) fun x18 =>
  purK (pickA x15 (.bool true) x18) fun x19 =>
  purK (nilChkA x0) fun x20 =>
  purK (addA 1 x20) fun x21 =>
  effK H (stA lim H 1 x21 x19) fun _ H =>
  retK [x9] H
theorem G55 (ρ : Addr → Option Value) (call : CallF) (yc : YieldF) (lim k : Nat) (x0 : AV) (H : Heap) :
    evL (cx ρ) call yc false 55 lim k c55 [x0, (.tup []), (.tup []), (.tup []), (.tup []), (.tup []), (.tup []), (.tup []), (.tup []), (.tup []), (.tup []), (.tup []), (.tup []), (.tup []), (.tup []), (.tup []), (.tup []), (.tup []), (.tup []), (.tup []), (.tup []), (.tup []), (.tup [])] H (kk none (fun s H => retK (([2] : List Nat).map fun t => s.getD t (.tup [])) H) [] retK [2]) = L55 ρ call yc lim k x0 H := by
  kernel_rfl
theorem E55 (ρ : Addr → Option Value) (k lim : Nat) (x0 : AV) (H : Heap) : evCall (cx ρ) (k + 1) lim 55 [x0] H = L55 ρ (evCall (cx ρ) k) (evCY (cx ρ) k).2 lim k x0 H := by
  rw [evCall_body (cx ρ) k lim 55 _ H Tryd.f55 c55 [2] (by kernel_rfl) (by kernel_rfl) (by kernel_rfl) (by kernel_rfl) (by kernel_rfl)]
  exact G55 ρ (evCall (cx ρ) k) (evCY (cx ρ) k).2 lim k x0 H
-- internal/stringslite.HasPrefix
noncomputable def c57 : Code := Code.of Tryd.prog 57
noncomputable def L57 (ρ : Addr → Option Value) (call : CallF) (yc : YieldF) (lim k : Nat) (x0 x1 : AV) (H : Heap) : Res :=
  purK (lenT x0) fun x6 =>
  purK (lenT x1) fun x8 =>
  purK (binA Tryd.prog H .geq 3 x6 x8) fun x9 =>
  purK (gPur (wantV x9 true) (some x0)) fun x11 =>
  purK (gPur (wantV x9 true) (some x1)) fun x12 =>
  purK (gPur (wantV x9 true) (lenT x12)) fun x13 =>
  purK (gPur (wantV x9 true) (slT x11 none (some x13))) fun x14 =>
  purK (gPur (wantV x9 true) (some x1)) fun x15 =>
  purK (gPur (wantV x9 true) (binA Tryd.prog H .eql 9 x14 x15)) fun x16 =>
  purK (pickA x9 x16 (.bool false)) fun x17 =>
  retK [x17] H
theorem G57 (ρ : Addr → Option Value) (call : CallF) (yc : YieldF) (lim k : Nat) (x0 x1 : AV) (H : Heap) :
    evL (cx ρ) call yc false 57 lim k c57 [x0, x1, (.tup []), (.tup []), (.tup []), (.tup []), (.tup []), (.tup []), (.tup []), (.tup []), (.tup []), (.tup []), (.tup []), (.tup []), (.tup []), (.tup []), (.tup []), (.tup [])] H (kk none (fun s H => retK (([4] : List Nat).map fun t => s.getD t (.tup [])) H) [] retK [4]) = L57 ρ call yc lim k x0 x1 H := by
  kernel_rfl
theorem E57 (ρ : Addr → Option Value) (k lim : Nat) (x0 x1 : AV) (H : Heap) : evCall (cx ρ) (k + 1) lim 57 [x0, x1] H = L57 ρ (evCall (cx ρ) k) (evCY (cx ρ) k).2 lim k x0 x1 H := by
  rw [evCall_body (cx ρ) k lim 57 _ H Tryd.f57 c57 [4] (by kernel_rfl) (by kernel_rfl) (by kernel_rfl) (by kernel_rfl) (by kernel_rfl)]
  exact G57 ρ (evCall (cx ρ) k) (evCY (cx ρ) k).2 lim k x0 x1 H
-- internal/strconv.FormatUint
noncomputable def c60 : Code := Code.of Tryd.prog 60
noncomputable def N60_1 (ρ : Addr → Option Value) (call : CallF) (yc : YieldF) (lim k : Nat) (x8 : AV) (H : Heap) (R : List AV → Heap → Res) : Res :=
  R [x8] H
theorem N60_1_eq (ρ : Addr → Option Value) (call : CallF) (yc : YieldF) (lim k : Nat) (x8 : AV) (H : Heap) (R : List AV → Heap → Res) :
    evL (cx ρ) call yc false 60 lim k (Code.at [1, 1, 1] c60) (sp 32 [(8, x8)]) H (kk none (fun s H => R (([4] : List Nat).map fun t => s.getD t (.tup [])) H) [] R [4]) = N60_1 ρ call yc lim k x8 H R := by
  kernel_rfl
noncomputable def L60 (ρ : Addr → Option Value) (call : CallF) (yc : YieldF) (lim k : Nat) (x0 x1 : AV) (H : Heap) : Res :=
  purK (binA Tryd.prog H .eql 3 x1 (.int .i64 10)) fun x10 =>
  condK x10
  (
    purK (binA Tryd.prog H .lss 38 x0 (.int .u64 100)) fun x12 =>
    condK x12
    (
      purK (cvI .i64 x0) fun x14 =>
      resK (call lim 70 [x14] H) fun x15 H =>
      retK [x15] H)
    (
      effK H (some (.ptr H.sz 0 0, .new (newCells 99 false [.int .u8 0, .int .u8 0, .int .u8 0, .int .u8 0, .int .u8 0, .int .u8 0, .int .u8 0, .int .u8 0, .int .u8 0, .int .u8 0, .int .u8 0, .int .u8 0, .int .u8 0, .int .u8 0, .int .u8 0, .int .u8 0, .int .u8 0, .int .u8 0, .int .u8 0, .int .u8 0, .int .u8 0, .int .u8 0, .int .u8 0, .int .u8 0]))) fun x5 H =>
      resK (call lim 71 [x0] H) fun x17 H =>
      purK (slR 1 24 x5 none (some x17) none) fun x19 =>
      resK (call lim 72 [x19, x0] H) fun x21 H =>
      purK (slR 1 24 x5 none (some x17) none) fun x23 =>
      purK (b2s ρ H x23) fun x24 =>
      retK [x24] H))
  (
    resK (call lim 73 [.nils, x0, x1, (.bool false), (.bool false)] H) fun x28 H =>
    purK (extA 0 x28) fun x29 =>
    purK (extA 1 x28) fun x30 =>
    N60_1 ρ call yc lim k x30 H retK)
theorem L60_x (ρ : Addr → Option Value) (call : CallF) (yc : YieldF) (lim k : Nat) (J : CodeF) (x0 x1 : AV) (H : Heap) :
    evX (cx ρ) call yc false 60 lim k J c60 [x0, x1, (.tup []), (.tup []), (.tup []), (.tup []), (.tup []), (.tup []), (.tup []), (.tup []), (.tup []), (.tup []), (.tup []), (.tup []), (.tup []), (.tup []), (.tup []), (.tup []), (.tup []), (.tup []), (.tup []), (.tup []), (.tup []), (.tup []), (.tup []), (.tup []), (.tup []), (.tup []), (.tup []), (.tup []), (.tup []), (.tup [])] H (kk none (fun s H => retK (([4] : List Nat).map fun t => s.getD t (.tup [])) H) [] retK [4]) =
  purK (binA Tryd.prog H .eql 3 x1 (.int .i64 10)) fun x10 =>
  condK x10
  (
    purK (binA Tryd.prog H .lss 38 x0 (.int .u64 100)) fun x12 =>
    condK x12
    (
      purK (cvI .i64 x0) fun x14 =>
      resK (call lim 70 [x14] H) fun x15 H =>
      retK [x15] H)
    (
      effK H (some (.ptr H.sz 0 0, .new (newCells 99 false [.int .u8 0, .int .u8 0, .int .u8 0, .int .u8 0, .int .u8 0, .int .u8 0, .int .u8 0, .int .u8 0, .int .u8 0, .int .u8 0, .int .u8 0, .int .u8 0, .int .u8 0, .int .u8 0, .int .u8 0, .int .u8 0, .int .u8 0, .int .u8 0, .int .u8 0, .int .u8 0, .int .u8 0, .int .u8 0, .int .u8 0, .int .u8 0]))) fun x5 H =>
      resK (call lim 71 [x0] H) fun x17 H =>
      purK (slR 1 24 x5 none (some x17) none) fun x19 =>
      resK (call lim 72 [x19, x0] H) fun x21 H =>
      purK (slR 1 24 x5 none (some x17) none) fun x23 =>
      purK (b2s ρ H x23) fun x24 =>
      retK [x24] H))
  (
    resK (call lim 73 [.nils, x0, x1, (.bool false), (.bool false)] H) fun x28 H =>
    purK (extA 0 x28) fun x29 =>
    purK (extA 1 x28) fun x30 =>
    J (Code.at [1, 1, 1] c60) (sp 32 [(8, x30)]) H (kk none (fun s H => retK (([4] : List Nat).map fun t => s.getD t (.tup [])) H) [] retK [4])) := by
  kernel_rfl
theorem G60 (ρ : Addr → Option Value) (call : CallF) (yc : YieldF) (lim k : Nat) (x0 x1 : AV) (H : Heap) :
    evL (cx ρ) call yc false 60 lim k c60 [x0, x1, (.tup []), (.tup []), (.tup []), (.tup []), (.tup []), (.tup []), (.tup []), (.tup []), (.tup []), (.tup []), (.tup []), (.tup []), (.tup []), (.tup []), (.tup []), (.tup []), (.tup []), (.tup []), (.tup []), (.tup []), (.tup []), (.tup []), (.tup []), (.tup []), (.tup []), (.tup []), (.tup []), (.tup []), (.tup []), (.tup [])] H (kk none (fun s H => retK (([4] : List Nat).map fun t => s.getD t (.tup [])) H) [] retK [4]) = L60 ρ call yc lim k x0 x1 H := by
  rw [evL_X, L60_x]
  simp only [← evL_X, L60, N60_1_eq]
theorem E60 (ρ : Addr → Option Value) (k lim : Nat) (x0 x1 : AV) (H : Heap) : evCall (cx ρ) (k + 1) lim 60 [x0, x1] H = L60 ρ (evCall (cx ρ) k) (evCY (cx ρ) k).2 lim k x0 x1 H := by
  rw [evCall_body (cx ρ) k lim 60 _ H Tryd.f60 c60 [4] (by kernel_rfl) (by kernel_rfl) (by kernel_rfl) (by kernel_rfl) (by kernel_rfl)]
  exact G60 ρ (evCall (cx ρ) k) (evCY (cx ρ) k).2 lim k x0 x1 H
end Go.Proofs.YtnkeebchblfbgaaDoor

-- part Sc5
/- Functions, lifted. Printed by a program of this repo. -/
set_option linter.unusedVariables false
set_option linter.unusedSimpArgs false
set_option maxRecDepth 100000
set_option maxHeartbeats 4000000
namespace Go.Proofs.YtnkeebchblfbgaaDoor
open Go.Ev Go.RowKit
-- strings.Count
noncomputable def c66 : Code := Code.of Tryd.prog 66
noncomputable def N66_2b (ρ : Addr → Option Value) (call : CallF) (yc : YieldF) (lim k : Nat) (x0 x1 x5 : AV) (H : Heap) (kn : AV → AV → Heap → Res) (R : List AV → Heap → Res) : Res :=
  resK (call lim 67 [x0, x1] H) fun x22_1 H =>
  purK (binA Tryd.prog H .eql 3 x22_1 (.int .i64 (-1))) fun x24_1 =>
  condK x24_1
  (
    R [x5] H)
  (
    purK (binA Tryd.prog H .add 3 x5 (.int .i64 1)) fun x27_1 =>
    purK (lenT x1) fun x31_1 =>
    purK (binA Tryd.prog H .add 3 x22_1 x31_1) fun x32_1 =>
    purK (slT x0 (some x32_1) none) fun x33_1 =>
    kn x33_1 x27_1 H)
theorem N66_2b_eq (ρ : Addr → Option Value) (call : CallF) (yc : YieldF) (lim k : Nat) (x0 x1 x5 : AV) (H : Heap) (kn : KS) (R : List AV → Heap → Res) :
    evL (cx ρ) call yc false 66 lim k (Code.at [1, 1, 1, 1, 0, 0] c66) (sp 34 [(0, x0), (1, x1), (5, x5)]) H (kk (some [0, 1, 5]) kn [(0, none, (fun s H => R (([4] : List Nat).map fun t => s.getD t (.tup [])) H))] R [4]) = N66_2b ρ call yc lim k x0 x1 x5 H (fun x0 x5 H => kn (sp 34 [(0, x0), (1, x1), (5, x5)]) H) R := by
  kernel_rfl
noncomputable def N66_2 (ρ : Addr → Option Value) (call : CallF) (yc : YieldF) (lim k : Nat) (x0 x1 x5 : AV) (H : Heap) (R : List AV → Heap → Res) : Res :=
  loopL (fun (x : AV × AV) H kn => N66_2b ρ call yc lim k x.1 x1 x.2 H (fun x0 x5 H => kn (x0, x5) H) R) k (x0, x5) H
theorem N66_2_eq (ρ : Addr → Option Value) (call : CallF) (yc : YieldF) (lim k : Nat) (x0 x1 x5 : AV) (H : Heap) (R : List AV → Heap → Res) :
    evL (cx ρ) call yc false 66 lim k (Code.at [1, 1, 1, 1, 0] c66) (sp 34 [(0, x0), (1, x1), (5, x5)]) H (kk none (fun s H => R (([4] : List Nat).map fun t => s.getD t (.tup [])) H) [(0, none, (fun s H => R (([4] : List Nat).map fun t => s.getD t (.tup [])) H))] R [4]) = N66_2 ρ call yc lim k x0 x1 x5 H R := by
  have e : Code.at [1, 1, 1, 1, 0] c66 = .loop (Code.at [1, 1, 1, 1, 0, 0] c66) := by kernel_rfl
  rw [e]
  unfold N66_2
  exact loop_node [0, 1, 5] (fun x : AV × AV => (sp 34 [(0, (x.1)), (1, x1), (5, (x.2))])) (fun (x : AV × AV) H kn => N66_2b ρ call yc lim k x.1 x1 x.2 H (fun x0 x5 H => kn (x0, x5) H) R) (by kernel_rfl) (fun x => by kernel_rfl) (fun x H kn => N66_2b_eq ρ call yc lim k (x.1) x1 (x.2) H kn R) (x0, x5) (sp 34 [(0, x0), (1, x1), (5, x5)]) H (by kernel_rfl)
noncomputable def N66_1 (ρ : Addr → Option Value) (call : CallF) (yc : YieldF) (lim k : Nat) (x0 x1 x5 : AV) (H : Heap) (R : List AV → Heap → Res) : Res :=
  N66_2 ρ call yc lim k x0 x1 x5 H R
theorem N66_1_x (ρ : Addr → Option Value) (call : CallF) (yc : YieldF) (lim k : Nat) (J : CodeF) (x0 x1 x5 : AV) (H : Heap) (R : List AV → Heap → Res) :
    evX (cx ρ) call yc false 66 lim k J (Code.at [1, 1, 1, 1] c66) (sp 34 [(0, x0), (1, x1), (5, x5)]) H (kk none (fun s H => R (([4] : List Nat).map fun t => s.getD t (.tup [])) H) [] R [4]) =
  J (Code.at [1, 1, 1, 1, 0] c66) (sp 34 [(0, x0), (1, x1), (5, x5)]) H (kk none (fun s H => R (([4] : List Nat).map fun t => s.getD t (.tup [])) H) [(0, none, (fun s H => R (([4] : List Nat).map fun t => s.getD t (.tup [])) H))] R [4]) := by
  kernel_rfl
theorem N66_1_eq (ρ : Addr → Option Value) (call : CallF) (yc : YieldF) (lim k : Nat) (x0 x1 x5 : AV) (H : Heap) (R : List AV → Heap → Res) :
    evL (cx ρ) call yc false 66 lim k (Code.at [1, 1, 1, 1] c66) (sp 34 [(0, x0), (1, x1), (5, x5)]) H (kk none (fun s H => R (([4] : List Nat).map fun t => s.getD t (.tup [])) H) [] R [4]) = N66_1 ρ call yc lim k x0 x1 x5 H R := by
  rw [evL_X, N66_1_x]
  simp only [← evL_X, N66_1, N66_2_eq]
noncomputable def L66 (ρ : Addr → Option Value) (call : CallF) (yc : YieldF) (lim k : Nat) (x0 x1 : AV) (H : Heap) : Res :=
  purK (lenT x1) fun x8 =>
  purK (binA Tryd.prog H .eql 3 x8 (.int .i64 0)) fun x9 =>
  condK x9
  (
    resK (call lim 76 [x0] H) fun x11 H =>
    purK (binA Tryd.prog H .add 3 x11 (.int .i64 1)) fun x12 =>
    retK [x12] H)
  (
    purK (lenT x1) fun x14 =>
    purK (binA Tryd.prog H .eql 3 x14 (.int .i64 1)) fun x15 =>
    condK x15
    (
      purK (ixT x1 (.int .i64 0)) fun x18 =>
      resK (call lim 78 [x0, x18] H) fun x19 H =>
      retK [x19] H)
    (
      N66_1 ρ call yc lim k x0 x1 (.int .i64 0) H retK))
theorem L66_x (ρ : Addr → Option Value) (call : CallF) (yc : YieldF) (lim k : Nat) (J : CodeF) (x0 x1 : AV) (H : Heap) :
    evX (cx ρ) call yc false 66 lim k J c66 [x0, x1, (.tup []), (.tup []), (.tup []), (.tup []), (.tup []), (.tup []), (.tup []), (.tup []), (.tup []), (.tup []), (.tup []), (.tup []), (.tup []), (.tup []), (.tup []), (.tup []), (.tup []), (.tup []), (.tup []), (.tup []), (.tup []), (.tup []), (.tup []), (.tup []), (.tup []), (.tup []), (.tup []), (.tup []), (.tup []), (.tup []), (.tup []), (.tup [])] H (kk none (fun s H => retK (([4] : List Nat).map fun t => s.getD t (.tup [])) H) [] retK [4]) =
  purK (lenT x1) fun x8 =>
  purK (binA Tryd.prog H .eql 3 x8 (.int .i64 0)) fun x9 =>
  condK x9
  (
    resK (call lim 76 [x0] H) fun x11 H =>
    purK (binA Tryd.prog H .add 3 x11 (.int .i64 1)) fun x12 =>
    retK [x12] H)
  (
    purK (lenT x1) fun x14 =>
    purK (binA Tryd.prog H .eql 3 x14 (.int .i64 1)) fun x15 =>
    condK x15
    (
      purK (ixT x1 (.int .i64 0)) fun x18 =>
      resK (call lim 78 [x0, x18] H) fun x19 H =>
      retK [x19] H)
    (
      J (Code.at [1, 1, 1, 1] c66) (sp 34 [(0, x0), (1, x1), (5, (.int .i64 0))]) H (kk none (fun s H => retK (([4] : List Nat).map fun t => s.getD t (.tup [])) H) [] retK [4]))) := by
  kernel_rfl
theorem G66 (ρ : Addr → Option Value) (call : CallF) (yc : YieldF) (lim k : Nat) (x0 x1 : AV) (H : Heap) :
    evL (cx ρ) call yc false 66 lim k c66 [x0, x1, (.tup []), (.tup []), (.tup []), (.tup []), (.tup []), (.tup []), (.tup []), (.tup []), (.tup []), (.tup []), (.tup []), (.tup []), (.tup []), (.tup []), (.tup []), (.tup []), (.tup []), (.tup []), (.tup []), (.tup []), (.tup []), (.tup []), (.tup []), (.tup []), (.tup []), (.tup []), (.tup []), (.tup []), (.tup []), (.tup []), (.tup []), (.tup [])] H (kk none (fun s H => retK (([4] : List Nat).map fun t => s.getD t (.tup [])) H) [] retK [4]) = L66 ρ call yc lim k x0 x1 H := by
  rw [evL_X, L66_x]
  simp only [← evL_X, L66, N66_1_eq]
theorem E66 (ρ : Addr → Option Value) (k lim : Nat) (x0 x1 : AV) (H : Heap) : evCall (cx ρ) (k + 1) lim 66 [x0, x1] H = L66 ρ (evCall (cx ρ) k) (evCY (cx ρ) k).2 lim k x0 x1 H := by
  rw [evCall_body (cx ρ) k lim 66 _ H Tryd.f66 c66 [4] (by kernel_rfl) (by kernel_rfl) (by kernel_rfl) (by kernel_rfl) (by kernel_rfl)]
  exact G66 ρ (evCall (cx ρ) k) (evCY (cx ρ) k).2 lim k x0 x1 H
-- strings.Index
noncomputable def c67 : Code := Code.of Tryd.prog 67
noncomputable def L67 (ρ : Addr → Option Value) (call : CallF) (yc : YieldF) (lim k : Nat) (x0 x1 : AV) (H : Heap) : Res :=
  resK (call lim 52 [x0, x1] H) fun x7 H =>
  retK [x7] H
theorem G67 (ρ : Addr → Option Value) (call : CallF) (yc : YieldF) (lim k : Nat) (x0 x1 : AV) (H : Heap) :
    evL (cx ρ) call yc false 67 lim k c67 [x0, x1, (.tup []), (.tup []), (.tup []), (.tup []), (.tup []), (.tup [])] H (kk none (fun s H => retK (([4] : List Nat).map fun t => s.getD t (.tup [])) H) [] retK [4]) = L67 ρ call yc lim k x0 x1 H := by
  kernel_rfl
theorem E67 (ρ : Addr → Option Value) (k lim : Nat) (x0 x1 : AV) (H : Heap) : evCall (cx ρ) (k + 1) lim 67 [x0, x1] H = L67 ρ (evCall (cx ρ) k) (evCY (cx ρ) k).2 lim k x0 x1 H := by
  rw [evCall_body (cx ρ) k lim 67 _ H Tryd.f67 c67 [4] (by kernel_rfl) (by kernel_rfl) (by kernel_rfl) (by kernel_rfl) (by kernel_rfl)]
  exact G67 ρ (evCall (cx ρ) k) (evCY (cx ρ) k).2 lim k x0 x1 H
-- strconv.ParseUint
noncomputable def c68 : Code := Code.of Tryd.prog 68
noncomputable def L68 (ρ : Addr → Option Value) (call : CallF) (yc : YieldF) (lim k : Nat) (x0 x1 x2 : AV) (H : Heap) : Res :=
  resK (call lim 79 [x0, x1, x2] H) fun x14 H =>
  purK (extA 0 x14) fun x15 =>
  purK (extA 1 x14) fun x16 =>
  purK (eqI Tryd.prog .neq true x16 .nili) fun x18 =>
  condK x18
  (
    resK (call lim 80 [(.str (ByteArray.mk #[80, 97, 114, 115, 101, 85, 105, 110, 116])), x0, x1, x2, x16] H) fun x24 H =>
    retK [x15, x24] H)
  (
    retK [x15, .nili] H)
theorem G68 (ρ : Addr → Option Value) (call : CallF) (yc : YieldF) (lim k : Nat) (x0 x1 x2 : AV) (H : Heap) :
    evL (cx ρ) call yc false 68 lim k c68 [x0, x1, x2, (.tup []), (.tup []), (.tup []), (.tup []), (.tup []), (.tup []), (.tup []), (.tup []), (.tup []), (.tup []), (.tup []), (.tup []), (.tup []), (.tup []), (.tup []), (.tup []), (.tup []), (.tup []), (.tup []), (.tup []), (.tup []), (.tup []), (.tup [])] H (kk none (fun s H => retK (([6, 7] : List Nat).map fun t => s.getD t (.tup [])) H) [] retK [6, 7]) = L68 ρ call yc lim k x0 x1 x2 H := by
  kernel_rfl
theorem E68 (ρ : Addr → Option Value) (k lim : Nat) (x0 x1 x2 : AV) (H : Heap) : evCall (cx ρ) (k + 1) lim 68 [x0, x1, x2] H = L68 ρ (evCall (cx ρ) k) (evCY (cx ρ) k).2 lim k x0 x1 x2 H := by
  rw [evCall_body (cx ρ) k lim 68 _ H Tryd.f68 c68 [6, 7] (by kernel_rfl) (by kernel_rfl) (by kernel_rfl) (by kernel_rfl) (by kernel_rfl)]
  exact G68 ρ (evCall (cx ρ) k) (evCY (cx ρ) k).2 lim k x0 x1 x2 H
-- internal/strconv.small
noncomputable def c70 : Code := Code.of Tryd.prog 70
noncomputable def L70 (ρ : Addr → Option Value) (call : CallF) (yc : YieldF) (lim k : Nat) (x0 : AV) (H : Heap) : Res :=
  purK (binA Tryd.prog H .lss 3 x0 (.int .i64 10)) fun x4 =>
  condK x4
  (
    purK (binA Tryd.prog H .add 3 x0 (.int .i64 1)) fun x7 =>
    purK (slT (.str (ByteArray.mk #[48, 49, 50, 51, 52, 53, 54, 55, 56, 57, 97, 98, 99, 100, 101, 102, 103, 104, 105, 106, 107, 108, 109, 110, 111, 112, 113, 114, 115, 116, 117, 118, 119, 120, 121, 122])) (some x0) (some x7)) fun x8 =>
    retK [x8] H)
  (
    purK (binA Tryd.prog H .mul 3 x0 (.int .i64 2)) fun x10 =>
    purK (binA Tryd.prog H .mul 3 x0 (.int .i64 2)) fun x12 =>
    purK (binA Tryd.prog H .add 3 x12 (.int .i64 2)) fun x13 =>
    purK (slT (.str (ByteArray.mk #[48, 48, 48, 49, 48, 50, 48, 51, 48, 52, 48, 53, 48, 54, 48, 55, 48, 56, 48, 57, 49, 48, 49, 49, 49, 50, 49, 51, 49, 52, 49, 53, 49, 54, 49, 55, 49, 56, 49, 57, 50, 48, 50, 49, 50, 50, 50, 51, 50, 52, 50, 53, 50, 54, 50, 55, 50, 56, 50, 57, 51, 48, 51, 49, 51, 50, 51, 51, 51, 52, 51, 53, 51, 54, 51, 55, 51, 56, 51, 57, 52, 48, 52, 49, 52, 50, 52, 51, 52, 52, 52, 53, 52, 54, 52, 55, 52, 56, 52, 57, 53, 48, 53, 49, 53, 50, 53, 51, 53, 52, 53, 53, 53, 54, 53, 55, 53, 56, 53, 57, 54, 48, 54, 49, 54, 50, 54, 51, 54, 52, 54, 53, 54, 54, 54, 55, 54, 56, 54, 57, 55, 48, 55, 49, 55, 50, 55, 51, 55, 52, 55, 53, 55, 54, 55, 55, 55, 56, 55, 57, 56, 48, 56, 49, 56, 50, 56, 51, 56, 52, 56, 53, 56, 54, 56, 55, 56, 56, 56, 57, 57, 48, 57, 49, 57, 50, 57, 51, 57, 52, 57, 53, 57, 54, 57, 55, 57, 56, 57, 57])) (some x10) (some x13)) fun x14 =>
    retK [x14] H)
theorem G70 (ρ : Addr → Option Value) (call : CallF) (yc : YieldF) (lim k : Nat) (x0 : AV) (H : Heap) :
    evL (cx ρ) call yc false 70 lim k c70 [x0, (.tup []), (.tup []), (.tup []), (.tup []), (.tup []), (.tup []), (.tup []), (.tup []), (.tup []), (.tup []), (.tup []), (.tup []), (.tup []), (.tup [])] H (kk none (fun s H => retK (([2] : List Nat).map fun t => s.getD t (.tup [])) H) [] retK [2]) = L70 ρ call yc lim k x0 H := by
  kernel_rfl
theorem E70 (ρ : Addr → Option Value) (k lim : Nat) (x0 : AV) (H : Heap) : evCall (cx ρ) (k + 1) lim 70 [x0] H = L70 ρ (evCall (cx ρ) k) (evCY (cx ρ) k).2 lim k x0 H := by
  rw [evCall_body (cx ρ) k lim 70 _ H Tryd.f70 c70 [2] (by kernel_rfl) (by kernel_rfl) (by kernel_rfl) (by kernel_rfl) (by kernel_rfl)]
  exact G70 ρ (evCall (cx ρ) k) (evCY (cx ρ) k).2 lim k x0 H
-- internal/strconv.numDigits
noncomputable def c71 : Code := Code.of Tryd.prog 71
noncomputable def L71 (ρ : Addr → Option Value) (call : CallF) (yc : YieldF) (lim k : Nat) (x0 : AV) (H : Heap) : Res :=
  resK (call lim 82 [x0] H) fun x5 H =>
  resK (call lim 81 [x5] H) fun x6 H =>
  purK (ixR 1 20 (.xp ⟨3, 0, none⟩) x6) fun x10 =>
  purK (ld1 ρ H x10) fun x11 =>
  purK (binA Tryd.prog H .geq 38 x0 x11) fun x12 =>
  resK (call lim 83 [x12] H) fun x13 H =>
  purK (binA Tryd.prog H .add 3 x6 x13) fun x14 =>
  retK [x14] H
theorem G71 (ρ : Addr → Option Value) (call : CallF) (yc : YieldF) (lim k : Nat) (x0 : AV) (H : Heap) :
    evL (cx ρ) call yc false 71 lim k c71 [x0, (.tup []), (.tup []), (.tup []), (.tup []), (.tup []), (.tup []), (.tup []), (.tup []), (.tup []), (.tup []), (.tup []), (.tup []), (.tup []), (.tup [])] H (kk none (fun s H => retK (([2] : List Nat).map fun t => s.getD t (.tup [])) H) [] retK [2]) = L71 ρ call yc lim k x0 H := by
  kernel_rfl
theorem E71 (ρ : Addr → Option Value) (k lim : Nat) (x0 : AV) (H : Heap) : evCall (cx ρ) (k + 1) lim 71 [x0] H = L71 ρ (evCall (cx ρ) k) (evCY (cx ρ) k).2 lim k x0 H := by
  rw [evCall_body (cx ρ) k lim 71 _ H Tryd.f71 c71 [2] (by kernel_rfl) (by kernel_rfl) (by kernel_rfl) (by kernel_rfl) (by kernel_rfl)]
  exact G71 ρ (evCall (cx ρ) k) (evCY (cx ρ) k).2 lim k x0 H
end Go.Proofs.YtnkeebchblfbgaaDoor

-- part Sc6
/- Functions, lifted. Printed by a program of this repo. -/
set_option linter.unusedVariables false
set_option linter.unusedSimpArgs false
set_option maxRecDepth 100000
set_option maxHeartbeats 4000000
namespace Go.Proofs.YtnkeebchblfbgaaDoor
open Go.Ev Go.RowKit
-- internal/strconv.formatBase10
noncomputable def c72 : Code := Code.of Tryd.prog 72
noncomputable def N72_4 (ρ : Addr → Option Value) (call : CallF) (yc : YieldF) (lim k : Nat) (x0 x4 x12 : AV) (H : Heap) (R : List AV → Heap → Res) : Res :=
  purK (binA Tryd.prog H .gtr 3 x4 (.int .i64 0)) fun x161_1 =>
  condK x161_1
  (
    purK (binA Tryd.prog H .add 104 (.int .u32 48) x12) fun x164_1 =>
    purK (cvI .u8 x164_1) fun x165_1 =>
    purK (ixS 1 x0 (.int .i64 0)) fun x166_1 =>
    effK H (stA lim H 1 x166_1 x165_1) fun _ H =>
    R [] H)
  (
    R [] H)
theorem N72_4_eq (ρ : Addr → Option Value) (call : CallF) (yc : YieldF) (lim k : Nat) (x0 x4 x12 : AV) (H : Heap) (R : List AV → Heap → Res) :
    evL (cx ρ) call yc false 72 lim k (Code.at [1, 1, 1, 1, 1] c72) (sp 167 [(0, x0), (4, x4), (12, x12)]) H (kk none (fun s H => R (([] : List Nat).map fun t => s.getD t (.tup [])) H) [] R []) = N72_4 ρ call yc lim k x0 x4 x12 H R := by
  kernel_rfl
noncomputable def N72_5 (ρ : Addr → Option Value) (call : CallF) (yc : YieldF) (lim k : Nat) (x0 x4 x12 x16 : AV) (H : Heap) (kn : AV → AV → AV → Heap → Res) : Res :=
  purK (binA Tryd.prog H .sub 3 x4 (.int .i64 1)) fun x147_1 =>
  purK (binA Tryd.prog H .sub 3 x4 (.int .i64 2)) fun x150_1 =>
  purK (binA Tryd.prog H .add 104 x16 (.int .u32 1)) fun x152_1 =>
  purK (ixT (.str (ByteArray.mk #[48, 48, 48, 49, 48, 50, 48, 51, 48, 52, 48, 53, 48, 54, 48, 55, 48, 56, 48, 57, 49, 48, 49, 49, 49, 50, 49, 51, 49, 52, 49, 53, 49, 54, 49, 55, 49, 56, 49, 57, 50, 48, 50, 49, 50, 50, 50, 51, 50, 52, 50, 53, 50, 54, 50, 55, 50, 56, 50, 57, 51, 48, 51, 49, 51, 50, 51, 51, 51, 52, 51, 53, 51, 54, 51, 55, 51, 56, 51, 57, 52, 48, 52, 49, 52, 50, 52, 51, 52, 52, 52, 53, 52, 54, 52, 55, 52, 56, 52, 57, 53, 48, 53, 49, 53, 50, 53, 51, 53, 52, 53, 53, 53, 54, 53, 55, 53, 56, 53, 57, 54, 48, 54, 49, 54, 50, 54, 51, 54, 52, 54, 53, 54, 54, 54, 55, 54, 56, 54, 57, 55, 48, 55, 49, 55, 50, 55, 51, 55, 52, 55, 53, 55, 54, 55, 55, 55, 56, 55, 57, 56, 48, 56, 49, 56, 50, 56, 51, 56, 52, 56, 53, 56, 54, 56, 55, 56, 56, 56, 57, 57, 48, 57, 49, 57, 50, 57, 51, 57, 52, 57, 53, 57, 54, 57, 55, 57, 56, 57, 57])) x152_1) fun x153_1 =>
  purK (ixT (.str (ByteArray.mk #[48, 48, 48, 49, 48, 50, 48, 51, 48, 52, 48, 53, 48, 54, 48, 55, 48, 56, 48, 57, 49, 48, 49, 49, 49, 50, 49, 51, 49, 52, 49, 53, 49, 54, 49, 55, 49, 56, 49, 57, 50, 48, 50, 49, 50, 50, 50, 51, 50, 52, 50, 53, 50, 54, 50, 55, 50, 56, 50, 57, 51, 48, 51, 49, 51, 50, 51, 51, 51, 52, 51, 53, 51, 54, 51, 55, 51, 56, 51, 57, 52, 48, 52, 49, 52, 50, 52, 51, 52, 52, 52, 53, 52, 54, 52, 55, 52, 56, 52, 57, 53, 48, 53, 49, 53, 50, 53, 51, 53, 52, 53, 53, 53, 54, 53, 55, 53, 56, 53, 57, 54, 48, 54, 49, 54, 50, 54, 51, 54, 52, 54, 53, 54, 54, 54, 55, 54, 56, 54, 57, 55, 48, 55, 49, 55, 50, 55, 51, 55, 52, 55, 53, 55, 54, 55, 55, 55, 56, 55, 57, 56, 48, 56, 49, 56, 50, 56, 51, 56, 52, 56, 53, 56, 54, 56, 55, 56, 56, 56, 57, 57, 48, 57, 49, 57, 50, 57, 51, 57, 52, 57, 53, 57, 54, 57, 55, 57, 56, 57, 57])) x16) fun x155_1 =>
  purK (ixS 1 x0 x147_1) fun x156_1 =>
  effK H (stA lim H 1 x156_1 x153_1) fun _ H => bif (agn (binA Tryd.prog H .sub 3 x4 (.int .i64 2)) x150_1 && true) then
    purK (ixS 1 x0 x150_1) fun x157_1 =>
    effK H (stA lim H 1 x157_1 x155_1) fun _ H =>
    purK (binA Tryd.prog H .sub 3 x4 (.int .i64 2)) fun x159_1 =>
    kn x0 x159_1 x12 H
  else none
theorem N72_5_eq (ρ : Addr → Option Value) (call : CallF) (yc : YieldF) (lim k : Nat) (x0 x4 x12 x16 : AV) (H : Heap) (kn : KS) (R : List AV → Heap → Res) :
    evL (cx ρ) call yc false 72 lim k (Code.at [1, 1, 1, 1, 0, 1, 0, 1, 1] c72) (sp 167 [(0, x0), (4, x4), (12, x12), (16, x16)]) H (kk (some [0, 4, 12]) kn [] R []) = N72_5 ρ call yc lim k x0 x4 x12 x16 H (fun x0 x4 x12 H => kn (sp 167 [(0, x0), (4, x4), (12, x12)]) H) := by
  kernel_rfl
noncomputable def N72_3 (ρ : Addr → Option Value) (call : CallF) (yc : YieldF) (lim k : Nat) (x0 x4 x12 : AV) (H : Heap) (R : List AV → Heap → Res) : Res :=
  purK (binA Tryd.prog H .geq 3 x4 (.int .i64 2)) fun x139_1 =>
  condK x139_1
  (
    purK (binA Tryd.prog H .rem 104 x12 (.int .u32 100)) fun x141_1 =>
    purK (binA Tryd.prog H .mul 104 x141_1 (.int .u32 2)) fun x142_1 =>
    purK (binA Tryd.prog H .quo 104 x12 (.int .u32 100)) fun x144_1 =>
    N72_5 ρ call yc lim k x0 x4 x144_1 x142_1 H (fun x0_1 x4_1 x12_1 H =>
      N72_4 ρ call yc lim k x0_1 x4_1 x12_1 H R))
  (
    N72_4 ρ call yc lim k x0 x4 x12 H R)
theorem N72_3_x (ρ : Addr → Option Value) (call : CallF) (yc : YieldF) (lim k : Nat) (J : CodeF) (x0 x4 x12 : AV) (H : Heap) (R : List AV → Heap → Res) :
    evX (cx ρ) call yc false 72 lim k J (Code.at [1, 1, 1, 1] c72) (sp 167 [(0, x0), (4, x4), (12, x12)]) H (kk none (fun s H => R (([] : List Nat).map fun t => s.getD t (.tup [])) H) [] R []) =
  purK (binA Tryd.prog H .geq 3 x4 (.int .i64 2)) fun x139_1 =>
  condK x139_1
  (
    purK (binA Tryd.prog H .rem 104 x12 (.int .u32 100)) fun x141_1 =>
    purK (binA Tryd.prog H .mul 104 x141_1 (.int .u32 2)) fun x142_1 =>
    purK (binA Tryd.prog H .quo 104 x12 (.int .u32 100)) fun x144_1 =>
    J (Code.at [1, 1, 1, 1, 0, 1, 0, 1, 1] c72) (sp 167 [(0, x0), (4, x4), (12, x144_1), (16, x142_1)]) H (kk (some [0, 4, 12]) (fun s H => J (Code.at [1, 1, 1, 1, 1] c72) s H (kk none (fun s H => R (([] : List Nat).map fun t => s.getD t (.tup [])) H) [] R [])) [] R []))
  (
    J (Code.at [1, 1, 1, 1, 1] c72) (sp 167 [(0, x0), (4, x4), (12, x12)]) H (kk none (fun s H => R (([] : List Nat).map fun t => s.getD t (.tup [])) H) [] R [])) := by
  kernel_rfl
theorem N72_3_eq (ρ : Addr → Option Value) (call : CallF) (yc : YieldF) (lim k : Nat) (x0 x4 x12 : AV) (H : Heap) (R : List AV → Heap → Res) :
    evL (cx ρ) call yc false 72 lim k (Code.at [1, 1, 1, 1] c72) (sp 167 [(0, x0), (4, x4), (12, x12)]) H (kk none (fun s H => R (([] : List Nat).map fun t => s.getD t (.tup [])) H) [] R []) = N72_3 ρ call yc lim k x0 x4 x12 H R := by
  rw [evL_X, N72_3_x]
  simp only [← evL_X, N72_3, N72_4_eq, N72_5_eq]
noncomputable def N72_6 (ρ : Addr → Option Value) (call : CallF) (yc : YieldF) (lim k : Nat) (x0 x4 x12 x14 : AV) (H : Heap) (kn : AV → AV → AV → Heap → Res) : Res :=
  purK (binA Tryd.prog H .sub 3 x4 (.int .i64 3)) fun x125_1 =>
  purK (binA Tryd.prog H .sub 3 x4 (.int .i64 4)) fun x128_1 =>
  purK (binA Tryd.prog H .add 104 x14 (.int .u32 1)) fun x130_1 =>
  purK (ixT (.str (ByteArray.mk #[48, 48, 48, 49, 48, 50, 48, 51, 48, 52, 48, 53, 48, 54, 48, 55, 48, 56, 48, 57, 49, 48, 49, 49, 49, 50, 49, 51, 49, 52, 49, 53, 49, 54, 49, 55, 49, 56, 49, 57, 50, 48, 50, 49, 50, 50, 50, 51, 50, 52, 50, 53, 50, 54, 50, 55, 50, 56, 50, 57, 51, 48, 51, 49, 51, 50, 51, 51, 51, 52, 51, 53, 51, 54, 51, 55, 51, 56, 51, 57, 52, 48, 52, 49, 52, 50, 52, 51, 52, 52, 52, 53, 52, 54, 52, 55, 52, 56, 52, 57, 53, 48, 53, 49, 53, 50, 53, 51, 53, 52, 53, 53, 53, 54, 53, 55, 53, 56, 53, 57, 54, 48, 54, 49, 54, 50, 54, 51, 54, 52, 54, 53, 54, 54, 54, 55, 54, 56, 54, 57, 55, 48, 55, 49, 55, 50, 55, 51, 55, 52, 55, 53, 55, 54, 55, 55, 55, 56, 55, 57, 56, 48, 56, 49, 56, 50, 56, 51, 56, 52, 56, 53, 56, 54, 56, 55, 56, 56, 56, 57, 57, 48, 57, 49, 57, 50, 57, 51, 57, 52, 57, 53, 57, 54, 57, 55, 57, 56, 57, 57])) x130_1) fun x131_1 =>
  purK (ixT (.str (ByteArray.mk #[48, 48, 48, 49, 48, 50, 48, 51, 48, 52, 48, 53, 48, 54, 48, 55, 48, 56, 48, 57, 49, 48, 49, 49, 49, 50, 49, 51, 49, 52, 49, 53, 49, 54, 49, 55, 49, 56, 49, 57, 50, 48, 50, 49, 50, 50, 50, 51, 50, 52, 50, 53, 50, 54, 50, 55, 50, 56, 50, 57, 51, 48, 51, 49, 51, 50, 51, 51, 51, 52, 51, 53, 51, 54, 51, 55, 51, 56, 51, 57, 52, 48, 52, 49, 52, 50, 52, 51, 52, 52, 52, 53, 52, 54, 52, 55, 52, 56, 52, 57, 53, 48, 53, 49, 53, 50, 53, 51, 53, 52, 53, 53, 53, 54, 53, 55, 53, 56, 53, 57, 54, 48, 54, 49, 54, 50, 54, 51, 54, 52, 54, 53, 54, 54, 54, 55, 54, 56, 54, 57, 55, 48, 55, 49, 55, 50, 55, 51, 55, 52, 55, 53, 55, 54, 55, 55, 55, 56, 55, 57, 56, 48, 56, 49, 56, 50, 56, 51, 56, 52, 56, 53, 56, 54, 56, 55, 56, 56, 56, 57, 57, 48, 57, 49, 57, 50, 57, 51, 57, 52, 57, 53, 57, 54, 57, 55, 57, 56, 57, 57])) x14) fun x133_1 =>
  purK (ixS 1 x0 x125_1) fun x134_1 =>
  effK H (stA lim H 1 x134_1 x131_1) fun _ H => bif (agn (binA Tryd.prog H .sub 3 x4 (.int .i64 4)) x128_1 && true) then
    purK (ixS 1 x0 x128_1) fun x135_1 =>
    effK H (stA lim H 1 x135_1 x133_1) fun _ H =>
    purK (binA Tryd.prog H .sub 3 x4 (.int .i64 4)) fun x137_1 =>
    kn x0 x137_1 x12 H
  else none
theorem N72_6_eq (ρ : Addr → Option Value) (call : CallF) (yc : YieldF) (lim k : Nat) (x0 x4 x12 x14 : AV) (H : Heap) (kn : KS) (R : List AV → Heap → Res) :
    evL (cx ρ) call yc false 72 lim k (Code.at [1, 1, 1, 0, 1, 0, 1, 1, 1, 1] c72) (sp 167 [(0, x0), (4, x4), (12, x12), (14, x14)]) H (kk (some [0, 4, 12]) kn [] R []) = N72_6 ρ call yc lim k x0 x4 x12 x14 H (fun x0 x4 x12 H => kn (sp 167 [(0, x0), (4, x4), (12, x12)]) H) := by
  kernel_rfl
noncomputable def N72_2 (ρ : Addr → Option Value) (call : CallF) (yc : YieldF) (lim k : Nat) (x0 x1 x4 : AV) (H : Heap) (R : List AV → Heap → Res) : Res :=
  purK (cvI .u32 x1) fun x97_1 =>
  purK (binA Tryd.prog H .geq 3 x4 (.int .i64 4)) fun x99_1 =>
  condK x99_1
  (
    purK (binA Tryd.prog H .rem 104 x97_1 (.int .u32 10000)) fun x101_1 =>
    purK (binA Tryd.prog H .quo 104 x97_1 (.int .u32 10000)) fun x103_1 =>
    purK (binA Tryd.prog H .quo 104 x101_1 (.int .u32 100)) fun x105_1 =>
    purK (binA Tryd.prog H .mul 104 x105_1 (.int .u32 2)) fun x106_1 =>
    purK (binA Tryd.prog H .rem 104 x101_1 (.int .u32 100)) fun x108_1 =>
    purK (binA Tryd.prog H .mul 104 x108_1 (.int .u32 2)) fun x109_1 =>
    purK (binA Tryd.prog H .sub 3 x4 (.int .i64 1)) fun x112_1 =>
    purK (binA Tryd.prog H .sub 3 x4 (.int .i64 2)) fun x115_1 =>
    purK (binA Tryd.prog H .add 104 x109_1 (.int .u32 1)) fun x117_1 =>
    purK (ixT (.str (ByteArray.mk #[48, 48, 48, 49, 48, 50, 48, 51, 48, 52, 48, 53, 48, 54, 48, 55, 48, 56, 48, 57, 49, 48, 49, 49, 49, 50, 49, 51, 49, 52, 49, 53, 49, 54, 49, 55, 49, 56, 49, 57, 50, 48, 50, 49, 50, 50, 50, 51, 50, 52, 50, 53, 50, 54, 50, 55, 50, 56, 50, 57, 51, 48, 51, 49, 51, 50, 51, 51, 51, 52, 51, 53, 51, 54, 51, 55, 51, 56, 51, 57, 52, 48, 52, 49, 52, 50, 52, 51, 52, 52, 52, 53, 52, 54, 52, 55, 52, 56, 52, 57, 53, 48, 53, 49, 53, 50, 53, 51, 53, 52, 53, 53, 53, 54, 53, 55, 53, 56, 53, 57, 54, 48, 54, 49, 54, 50, 54, 51, 54, 52, 54, 53, 54, 54, 54, 55, 54, 56, 54, 57, 55, 48, 55, 49, 55, 50, 55, 51, 55, 52, 55, 53, 55, 54, 55, 55, 55, 56, 55, 57, 56, 48, 56, 49, 56, 50, 56, 51, 56, 52, 56, 53, 56, 54, 56, 55, 56, 56, 56, 57, 57, 48, 57, 49, 57, 50, 57, 51, 57, 52, 57, 53, 57, 54, 57, 55, 57, 56, 57, 57])) x117_1) fun x118_1 =>
    purK (ixT (.str (ByteArray.mk #[48, 48, 48, 49, 48, 50, 48, 51, 48, 52, 48, 53, 48, 54, 48, 55, 48, 56, 48, 57, 49, 48, 49, 49, 49, 50, 49, 51, 49, 52, 49, 53, 49, 54, 49, 55, 49, 56, 49, 57, 50, 48, 50, 49, 50, 50, 50, 51, 50, 52, 50, 53, 50, 54, 50, 55, 50, 56, 50, 57, 51, 48, 51, 49, 51, 50, 51, 51, 51, 52, 51, 53, 51, 54, 51, 55, 51, 56, 51, 57, 52, 48, 52, 49, 52, 50, 52, 51, 52, 52, 52, 53, 52, 54, 52, 55, 52, 56, 52, 57, 53, 48, 53, 49, 53, 50, 53, 51, 53, 52, 53, 53, 53, 54, 53, 55, 53, 56, 53, 57, 54, 48, 54, 49, 54, 50, 54, 51, 54, 52, 54, 53, 54, 54, 54, 55, 54, 56, 54, 57, 55, 48, 55, 49, 55, 50, 55, 51, 55, 52, 55, 53, 55, 54, 55, 55, 55, 56, 55, 57, 56, 48, 56, 49, 56, 50, 56, 51, 56, 52, 56, 53, 56, 54, 56, 55, 56, 56, 56, 57, 57, 48, 57, 49, 57, 50, 57, 51, 57, 52, 57, 53, 57, 54, 57, 55, 57, 56, 57, 57])) x109_1) fun x120_1 =>
    purK (ixS 1 x0 x112_1) fun x121_1 =>
    effK H (stA lim H 1 x121_1 x118_1) fun _ H => bif (agn (binA Tryd.prog H .sub 3 x4 (.int .i64 2)) x115_1 && true) then
      purK (ixS 1 x0 x115_1) fun x122_1 =>
      effK H (stA lim H 1 x122_1 x120_1) fun _ H =>
      N72_6 ρ call yc lim k x0 x4 x103_1 x106_1 H (fun x0_1 x4_1 x12_1 H =>
        N72_3 ρ call yc lim k x0_1 x4_1 x12_1 H R)
    else none)
  (
    N72_3 ρ call yc lim k x0 x4 x97_1 H R)
theorem N72_2_x (ρ : Addr → Option Value) (call : CallF) (yc : YieldF) (lim k : Nat) (J : CodeF) (x0 x1 x4 : AV) (H : Heap) (R : List AV → Heap → Res) :
    evX (cx ρ) call yc false 72 lim k J (Code.at [1, 1] c72) (sp 167 [(0, x0), (1, x1), (4, x4)]) H (kk none (fun s H => R (([] : List Nat).map fun t => s.getD t (.tup [])) H) [] R []) =
  purK (cvI .u32 x1) fun x97_1 =>
  purK (binA Tryd.prog H .geq 3 x4 (.int .i64 4)) fun x99_1 =>
  condK x99_1
  (
    purK (binA Tryd.prog H .rem 104 x97_1 (.int .u32 10000)) fun x101_1 =>
    purK (binA Tryd.prog H .quo 104 x97_1 (.int .u32 10000)) fun x103_1 =>
    purK (binA Tryd.prog H .quo 104 x101_1 (.int .u32 100)) fun x105_1 =>
    purK (binA Tryd.prog H .mul 104 x105_1 (.int .u32 2)) fun x106_1 =>
    purK (binA Tryd.prog H .rem 104 x101_1 (.int .u32 100)) fun x108_1 =>
    purK (binA Tryd.prog H .mul 104 x108_1 (.int .u32 2)) fun x109_1 =>
    purK (binA Tryd.prog H .sub 3 x4 (.int .i64 1)) fun x112_1 =>
    purK (binA Tryd.prog H .sub 3 x4 (.int .i64 2)) fun x115_1 =>
    purK (binA Tryd.prog H .add 104 x109_1 (.int .u32 1)) fun x117_1 =>
    purK (ixT (.str (ByteArray.mk #[48, 48, 48, 49, 48, 50, 48, 51, 48, 52, 48, 53, 48, 54, 48, 55, 48, 56, 48, 57, 49, 48, 49, 49, 49, 50, 49, 51, 49, 52, 49, 53, 49, 54, 49, 55, 49, 56, 49, 57, 50, 48, 50, 49, 50, 50, 50, 51, 50, 52, 50, 53, 50, 54, 50, 55, 50, 56, 50, 57, 51, 48, 51, 49, 51, 50, 51, 51, 51, 52, 51, 53, 51, 54, 51, 55, 51, 56, 51, 57, 52, 48, 52, 49, 52, 50, 52, 51, 52, 52, 52, 53, 52, 54, 52, 55, 52, 56, 52, 57, 53, 48, 53, 49, 53, 50, 53, 51, 53, 52, 53, 53, 53, 54, 53, 55, 53, 56, 53, 57, 54, 48, 54, 49, 54, 50, 54, 51, 54, 52, 54, 53, 54, 54, 54, 55, 54, 56, 54, 57, 55, 48, 55, 49, 55, 50, 55, 51, 55, 52, 55, 53, 55, 54, 55, 55, 55, 56, 55, 57, 56, 48, 56, 49, 56, 50, 56, 51, 56, 52, 56, 53, 56, 54, 56, 55, 56, 56, 56, 57, 57, 48, 57, 49, 57, 50, 57, 51, 57, 52, 57, 53, 57, 54, 57, 55, 57, 56, 57, 57])) x117_1) fun x118_1 =>
    purK (ixT (.str (ByteArray.mk #[48, 48, 48, 49, 48, 50, 48, 51, 48, 52, 48, 53, 48, 54, 48, 55, 48, 56, 48, 57, 49, 48, 49, 49, 49, 50, 49, 51, 49, 52, 49, 53, 49, 54, 49, 55, 49, 56, 49, 57, 50, 48, 50, 49, 50, 50, 50, 51, 50, 52, 50, 53, 50, 54, 50, 55, 50, 56, 50, 57, 51, 48, 51, 49, 51, 50, 51, 51, 51, 52, 51, 53, 51, 54, 51, 55, 51, 56, 51, 57, 52, 48, 52, 49, 52, 50, 52, 51, 52, 52, 52, 53, 52, 54, 52, 55, 52, 56, 52, 57, 53, 48, 53, 49, 53, 50, 53, 51, 53, 52, 53, 53, 53, 54, 53, 55, 53, 56, 53, 57, 54, 48, 54, 49, 54, 50, 54, 51, 54, 52, 54, 53, 54, 54, 54, 55, 54, 56, 54, 57, 55, 48, 55, 49, 55, 50, 55, 51, 55, 52, 55, 53, 55, 54, 55, 55, 55, 56, 55, 57, 56, 48, 56, 49, 56, 50, 56, 51, 56, 52, 56, 53, 56, 54, 56, 55, 56, 56, 56, 57, 57, 48, 57, 49, 57, 50, 57, 51, 57, 52, 57, 53, 57, 54, 57, 55, 57, 56, 57, 57])) x109_1) fun x120_1 =>
    purK (ixS 1 x0 x112_1) fun x121_1 =>
    effK H (stA lim H 1 x121_1 x118_1) fun _ H => bif (agn (binA Tryd.prog H .sub 3 x4 (.int .i64 2)) x115_1 && true) then
      purK (ixS 1 x0 x115_1) fun x122_1 =>
      effK H (stA lim H 1 x122_1 x120_1) fun _ H =>
      J (Code.at [1, 1, 1, 0, 1, 0, 1, 1, 1, 1] c72) (sp 167 [(0, x0), (4, x4), (12, x103_1), (14, x106_1)]) H (kk (some [0, 4, 12]) (fun s H => J (Code.at [1, 1, 1, 1] c72) s H (kk none (fun s H => R (([] : List Nat).map fun t => s.getD t (.tup [])) H) [] R [])) [] R [])
    else none)
  (
    J (Code.at [1, 1, 1, 1] c72) (sp 167 [(0, x0), (4, x4), (12, x97_1)]) H (kk none (fun s H => R (([] : List Nat).map fun t => s.getD t (.tup [])) H) [] R [])) := by
  kernel_rfl
theorem N72_2_eq (ρ : Addr → Option Value) (call : CallF) (yc : YieldF) (lim k : Nat) (x0 x1 x4 : AV) (H : Heap) (R : List AV → Heap → Res) :
    evL (cx ρ) call yc false 72 lim k (Code.at [1, 1] c72) (sp 167 [(0, x0), (1, x1), (4, x4)]) H (kk none (fun s H => R (([] : List Nat).map fun t => s.getD t (.tup [])) H) [] R []) = N72_2 ρ call yc lim k x0 x1 x4 H R := by
  rw [evL_X, N72_2_x]
  simp only [← evL_X, N72_2, N72_3_eq, N72_6_eq]
noncomputable def N72_10 (ρ : Addr → Option Value) (call : CallF) (yc : YieldF) (lim k : Nat) (x0 x1 x4 : AV) (H : Heap) (kn : AV → AV → Heap → Res) : Res :=
  purK (binA Tryd.prog H .sub 3 x4 (.int .i64 8)) fun x95_1 =>
  kn x1 x95_1 H
theorem N72_10_eq (ρ : Addr → Option Value) (call : CallF) (yc : YieldF) (lim k : Nat) (x0 x1 x4 : AV) (H : Heap) (kn : KS) (k1 : KS) (k0 : KS) (R : List AV → Heap → Res) :
    evL (cx ρ) call yc false 72 lim k (Code.at [1, 0, 0, 0, 1, 0, 1, 1, 1, 1, 1, 1, 1, 1, 1] c72) (sp 167 [(0, x0), (1, x1), (4, x4)]) H (kk (some [0, 1, 4]) kn [(1, (some [0, 1, 4]), k1), (0, (some [0, 1, 4]), k0)] R []) = N72_10 ρ call yc lim k x0 x1 x4 H (fun x1 x4 H => kn (sp 167 [(0, x0), (1, x1), (4, x4)]) H) := by
  kernel_rfl
noncomputable def N72_9 (ρ : Addr → Option Value) (call : CallF) (yc : YieldF) (lim k : Nat) (x0 x1 x4 x10 x11 : AV) (H : Heap) (kn : AV → AV → Heap → Res) : Res :=
  purK (binA Tryd.prog H .sub 3 x4 (.int .i64 5)) fun x70_1 =>
  purK (binA Tryd.prog H .sub 3 x4 (.int .i64 6)) fun x73_1 =>
  purK (binA Tryd.prog H .add 104 x11 (.int .u32 1)) fun x75_1 =>
  purK (ixT (.str (ByteArray.mk #[48, 48, 48, 49, 48, 50, 48, 51, 48, 52, 48, 53, 48, 54, 48, 55, 48, 56, 48, 57, 49, 48, 49, 49, 49, 50, 49, 51, 49, 52, 49, 53, 49, 54, 49, 55, 49, 56, 49, 57, 50, 48, 50, 49, 50, 50, 50, 51, 50, 52, 50, 53, 50, 54, 50, 55, 50, 56, 50, 57, 51, 48, 51, 49, 51, 50, 51, 51, 51, 52, 51, 53, 51, 54, 51, 55, 51, 56, 51, 57, 52, 48, 52, 49, 52, 50, 52, 51, 52, 52, 52, 53, 52, 54, 52, 55, 52, 56, 52, 57, 53, 48, 53, 49, 53, 50, 53, 51, 53, 52, 53, 53, 53, 54, 53, 55, 53, 56, 53, 57, 54, 48, 54, 49, 54, 50, 54, 51, 54, 52, 54, 53, 54, 54, 54, 55, 54, 56, 54, 57, 55, 48, 55, 49, 55, 50, 55, 51, 55, 52, 55, 53, 55, 54, 55, 55, 55, 56, 55, 57, 56, 48, 56, 49, 56, 50, 56, 51, 56, 52, 56, 53, 56, 54, 56, 55, 56, 56, 56, 57, 57, 48, 57, 49, 57, 50, 57, 51, 57, 52, 57, 53, 57, 54, 57, 55, 57, 56, 57, 57])) x75_1) fun x76_1 =>
  purK (ixT (.str (ByteArray.mk #[48, 48, 48, 49, 48, 50, 48, 51, 48, 52, 48, 53, 48, 54, 48, 55, 48, 56, 48, 57, 49, 48, 49, 49, 49, 50, 49, 51, 49, 52, 49, 53, 49, 54, 49, 55, 49, 56, 49, 57, 50, 48, 50, 49, 50, 50, 50, 51, 50, 52, 50, 53, 50, 54, 50, 55, 50, 56, 50, 57, 51, 48, 51, 49, 51, 50, 51, 51, 51, 52, 51, 53, 51, 54, 51, 55, 51, 56, 51, 57, 52, 48, 52, 49, 52, 50, 52, 51, 52, 52, 52, 53, 52, 54, 52, 55, 52, 56, 52, 57, 53, 48, 53, 49, 53, 50, 53, 51, 53, 52, 53, 53, 53, 54, 53, 55, 53, 56, 53, 57, 54, 48, 54, 49, 54, 50, 54, 51, 54, 52, 54, 53, 54, 54, 54, 55, 54, 56, 54, 57, 55, 48, 55, 49, 55, 50, 55, 51, 55, 52, 55, 53, 55, 54, 55, 55, 55, 56, 55, 57, 56, 48, 56, 49, 56, 50, 56, 51, 56, 52, 56, 53, 56, 54, 56, 55, 56, 56, 56, 57, 57, 48, 57, 49, 57, 50, 57, 51, 57, 52, 57, 53, 57, 54, 57, 55, 57, 56, 57, 57])) x11) fun x78_1 =>
  purK (ixS 1 x0 x70_1) fun x79_1 =>
  effK H (stA lim H 1 x79_1 x76_1) fun _ H => bif (agn (binA Tryd.prog H .sub 3 x4 (.int .i64 6)) x73_1 && true) then
    purK (ixS 1 x0 x73_1) fun x80_1 =>
    effK H (stA lim H 1 x80_1 x78_1) fun _ H =>
    purK (binA Tryd.prog H .sub 3 x4 (.int .i64 7)) fun x83_1 =>
    purK (binA Tryd.prog H .sub 3 x4 (.int .i64 8)) fun x86_1 =>
    purK (binA Tryd.prog H .add 104 x10 (.int .u32 1)) fun x88_1 =>
    purK (ixT (.str (ByteArray.mk #[48, 48, 48, 49, 48, 50, 48, 51, 48, 52, 48, 53, 48, 54, 48, 55, 48, 56, 48, 57, 49, 48, 49, 49, 49, 50, 49, 51, 49, 52, 49, 53, 49, 54, 49, 55, 49, 56, 49, 57, 50, 48, 50, 49, 50, 50, 50, 51, 50, 52, 50, 53, 50, 54, 50, 55, 50, 56, 50, 57, 51, 48, 51, 49, 51, 50, 51, 51, 51, 52, 51, 53, 51, 54, 51, 55, 51, 56, 51, 57, 52, 48, 52, 49, 52, 50, 52, 51, 52, 52, 52, 53, 52, 54, 52, 55, 52, 56, 52, 57, 53, 48, 53, 49, 53, 50, 53, 51, 53, 52, 53, 53, 53, 54, 53, 55, 53, 56, 53, 57, 54, 48, 54, 49, 54, 50, 54, 51, 54, 52, 54, 53, 54, 54, 54, 55, 54, 56, 54, 57, 55, 48, 55, 49, 55, 50, 55, 51, 55, 52, 55, 53, 55, 54, 55, 55, 55, 56, 55, 57, 56, 48, 56, 49, 56, 50, 56, 51, 56, 52, 56, 53, 56, 54, 56, 55, 56, 56, 56, 57, 57, 48, 57, 49, 57, 50, 57, 51, 57, 52, 57, 53, 57, 54, 57, 55, 57, 56, 57, 57])) x88_1) fun x89_1 =>
    purK (ixT (.str (ByteArray.mk #[48, 48, 48, 49, 48, 50, 48, 51, 48, 52, 48, 53, 48, 54, 48, 55, 48, 56, 48, 57, 49, 48, 49, 49, 49, 50, 49, 51, 49, 52, 49, 53, 49, 54, 49, 55, 49, 56, 49, 57, 50, 48, 50, 49, 50, 50, 50, 51, 50, 52, 50, 53, 50, 54, 50, 55, 50, 56, 50, 57, 51, 48, 51, 49, 51, 50, 51, 51, 51, 52, 51, 53, 51, 54, 51, 55, 51, 56, 51, 57, 52, 48, 52, 49, 52, 50, 52, 51, 52, 52, 52, 53, 52, 54, 52, 55, 52, 56, 52, 57, 53, 48, 53, 49, 53, 50, 53, 51, 53, 52, 53, 53, 53, 54, 53, 55, 53, 56, 53, 57, 54, 48, 54, 49, 54, 50, 54, 51, 54, 52, 54, 53, 54, 54, 54, 55, 54, 56, 54, 57, 55, 48, 55, 49, 55, 50, 55, 51, 55, 52, 55, 53, 55, 54, 55, 55, 55, 56, 55, 57, 56, 48, 56, 49, 56, 50, 56, 51, 56, 52, 56, 53, 56, 54, 56, 55, 56, 56, 56, 57, 57, 48, 57, 49, 57, 50, 57, 51, 57, 52, 57, 53, 57, 54, 57, 55, 57, 56, 57, 57])) x10) fun x91_1 =>
    purK (ixS 1 x0 x83_1) fun x92_1 =>
    effK H (stA lim H 1 x92_1 x89_1) fun _ H => bif (agn (binA Tryd.prog H .sub 3 x4 (.int .i64 8)) x86_1 && true) then
      purK (ixS 1 x0 x86_1) fun x93_1 =>
      effK H (stA lim H 1 x93_1 x91_1) fun _ H =>
      N72_10 ρ call yc lim k x0 x1 x4 H kn
    else none
  else none
theorem N72_9_x (ρ : Addr → Option Value) (call : CallF) (yc : YieldF) (lim k : Nat) (J : CodeF) (x0 x1 x4 x10 x11 : AV) (H : Heap) (kn : KS) (k1 : KS) (k0 : KS) (R : List AV → Heap → Res) :
    evX (cx ρ) call yc false 72 lim k J (Code.at [1, 0, 0, 0, 1, 0, 1, 1, 1, 1, 1, 1, 1] c72) (sp 167 [(0, x0), (1, x1), (4, x4), (10, x10), (11, x11)]) H (kk (some [0, 1, 4]) kn [(1, (some [0, 1, 4]), k1), (0, (some [0, 1, 4]), k0)] R []) =
  purK (binA Tryd.prog H .sub 3 x4 (.int .i64 5)) fun x70_1 =>
  purK (binA Tryd.prog H .sub 3 x4 (.int .i64 6)) fun x73_1 =>
  purK (binA Tryd.prog H .add 104 x11 (.int .u32 1)) fun x75_1 =>
  purK (ixT (.str (ByteArray.mk #[48, 48, 48, 49, 48, 50, 48, 51, 48, 52, 48, 53, 48, 54, 48, 55, 48, 56, 48, 57, 49, 48, 49, 49, 49, 50, 49, 51, 49, 52, 49, 53, 49, 54, 49, 55, 49, 56, 49, 57, 50, 48, 50, 49, 50, 50, 50, 51, 50, 52, 50, 53, 50, 54, 50, 55, 50, 56, 50, 57, 51, 48, 51, 49, 51, 50, 51, 51, 51, 52, 51, 53, 51, 54, 51, 55, 51, 56, 51, 57, 52, 48, 52, 49, 52, 50, 52, 51, 52, 52, 52, 53, 52, 54, 52, 55, 52, 56, 52, 57, 53, 48, 53, 49, 53, 50, 53, 51, 53, 52, 53, 53, 53, 54, 53, 55, 53, 56, 53, 57, 54, 48, 54, 49, 54, 50, 54, 51, 54, 52, 54, 53, 54, 54, 54, 55, 54, 56, 54, 57, 55, 48, 55, 49, 55, 50, 55, 51, 55, 52, 55, 53, 55, 54, 55, 55, 55, 56, 55, 57, 56, 48, 56, 49, 56, 50, 56, 51, 56, 52, 56, 53, 56, 54, 56, 55, 56, 56, 56, 57, 57, 48, 57, 49, 57, 50, 57, 51, 57, 52, 57, 53, 57, 54, 57, 55, 57, 56, 57, 57])) x75_1) fun x76_1 =>
  purK (ixT (.str (ByteArray.mk #[48, 48, 48, 49, 48, 50, 48, 51, 48, 52, 48, 53, 48, 54, 48, 55, 48, 56, 48, 57, 49, 48, 49, 49, 49, 50, 49, 51, 49, 52, 49, 53, 49, 54, 49, 55, 49, 56, 49, 57, 50, 48, 50, 49, 50, 50, 50, 51, 50, 52, 50, 53, 50, 54, 50, 55, 50, 56, 50, 57, 51, 48, 51, 49, 51, 50, 51, 51, 51, 52, 51, 53, 51, 54, 51, 55, 51, 56, 51, 57, 52, 48, 52, 49, 52, 50, 52, 51, 52, 52, 52, 53, 52, 54, 52, 55, 52, 56, 52, 57, 53, 48, 53, 49, 53, 50, 53, 51, 53, 52, 53, 53, 53, 54, 53, 55, 53, 56, 53, 57, 54, 48, 54, 49, 54, 50, 54, 51, 54, 52, 54, 53, 54, 54, 54, 55, 54, 56, 54, 57, 55, 48, 55, 49, 55, 50, 55, 51, 55, 52, 55, 53, 55, 54, 55, 55, 55, 56, 55, 57, 56, 48, 56, 49, 56, 50, 56, 51, 56, 52, 56, 53, 56, 54, 56, 55, 56, 56, 56, 57, 57, 48, 57, 49, 57, 50, 57, 51, 57, 52, 57, 53, 57, 54, 57, 55, 57, 56, 57, 57])) x11) fun x78_1 =>
  purK (ixS 1 x0 x70_1) fun x79_1 =>
  effK H (stA lim H 1 x79_1 x76_1) fun _ H => bif (agn (binA Tryd.prog H .sub 3 x4 (.int .i64 6)) x73_1 && true) then
    purK (ixS 1 x0 x73_1) fun x80_1 =>
    effK H (stA lim H 1 x80_1 x78_1) fun _ H =>
    purK (binA Tryd.prog H .sub 3 x4 (.int .i64 7)) fun x83_1 =>
    purK (binA Tryd.prog H .sub 3 x4 (.int .i64 8)) fun x86_1 =>
    purK (binA Tryd.prog H .add 104 x10 (.int .u32 1)) fun x88_1 =>
    purK (ixT (.str (ByteArray.mk #[48, 48, 48, 49, 48, 50, 48, 51, 48, 52, 48, 53, 48, 54, 48, 55, 48, 56, 48, 57, 49, 48, 49, 49, 49, 50, 49, 51, 49, 52, 49, 53, 49, 54, 49, 55, 49, 56, 49, 57, 50, 48, 50, 49, 50, 50, 50, 51, 50, 52, 50, 53, 50, 54, 50, 55, 50, 56, 50, 57, 51, 48, 51, 49, 51, 50, 51, 51, 51, 52, 51, 53, 51, 54, 51, 55, 51, 56, 51, 57, 52, 48, 52, 49, 52, 50, 52, 51, 52, 52, 52, 53, 52, 54, 52, 55, 52, 56, 52, 57, 53, 48, 53, 49, 53, 50, 53, 51, 53, 52, 53, 53, 53, 54, 53, 55, 53, 56, 53, 57, 54, 48, 54, 49, 54, 50, 54, 51, 54, 52, 54, 53, 54, 54, 54, 55, 54, 56, 54, 57, 55, 48, 55, 49, 55, 50, 55, 51, 55, 52, 55, 53, 55, 54, 55, 55, 55, 56, 55, 57, 56, 48, 56, 49, 56, 50, 56, 51, 56, 52, 56, 53, 56, 54, 56, 55, 56, 56, 56, 57, 57, 48, 57, 49, 57, 50, 57, 51, 57, 52, 57, 53, 57, 54, 57, 55, 57, 56, 57, 57])) x88_1) fun x89_1 =>
    purK (ixT (.str (ByteArray.mk #[48, 48, 48, 49, 48, 50, 48, 51, 48, 52, 48, 53, 48, 54, 48, 55, 48, 56, 48, 57, 49, 48, 49, 49, 49, 50, 49, 51, 49, 52, 49, 53, 49, 54, 49, 55, 49, 56, 49, 57, 50, 48, 50, 49, 50, 50, 50, 51, 50, 52, 50, 53, 50, 54, 50, 55, 50, 56, 50, 57, 51, 48, 51, 49, 51, 50, 51, 51, 51, 52, 51, 53, 51, 54, 51, 55, 51, 56, 51, 57, 52, 48, 52, 49, 52, 50, 52, 51, 52, 52, 52, 53, 52, 54, 52, 55, 52, 56, 52, 57, 53, 48, 53, 49, 53, 50, 53, 51, 53, 52, 53, 53, 53, 54, 53, 55, 53, 56, 53, 57, 54, 48, 54, 49, 54, 50, 54, 51, 54, 52, 54, 53, 54, 54, 54, 55, 54, 56, 54, 57, 55, 48, 55, 49, 55, 50, 55, 51, 55, 52, 55, 53, 55, 54, 55, 55, 55, 56, 55, 57, 56, 48, 56, 49, 56, 50, 56, 51, 56, 52, 56, 53, 56, 54, 56, 55, 56, 56, 56, 57, 57, 48, 57, 49, 57, 50, 57, 51, 57, 52, 57, 53, 57, 54, 57, 55, 57, 56, 57, 57])) x10) fun x91_1 =>
    purK (ixS 1 x0 x83_1) fun x92_1 =>
    effK H (stA lim H 1 x92_1 x89_1) fun _ H => bif (agn (binA Tryd.prog H .sub 3 x4 (.int .i64 8)) x86_1 && true) then
      purK (ixS 1 x0 x86_1) fun x93_1 =>
      effK H (stA lim H 1 x93_1 x91_1) fun _ H =>
      J (Code.at [1, 0, 0, 0, 1, 0, 1, 1, 1, 1, 1, 1, 1, 1, 1] c72) (sp 167 [(0, x0), (1, x1), (4, x4)]) H (kk (some [0, 1, 4]) kn [(1, (some [0, 1, 4]), k1), (0, (some [0, 1, 4]), k0)] R [])
    else none
  else none := by
  kernel_rfl
theorem N72_9_eq (ρ : Addr → Option Value) (call : CallF) (yc : YieldF) (lim k : Nat) (x0 x1 x4 x10 x11 : AV) (H : Heap) (kn : KS) (k1 : KS) (k0 : KS) (R : List AV → Heap → Res) :
    evL (cx ρ) call yc false 72 lim k (Code.at [1, 0, 0, 0, 1, 0, 1, 1, 1, 1, 1, 1, 1] c72) (sp 167 [(0, x0), (1, x1), (4, x4), (10, x10), (11, x11)]) H (kk (some [0, 1, 4]) kn [(1, (some [0, 1, 4]), k1), (0, (some [0, 1, 4]), k0)] R []) = N72_9 ρ call yc lim k x0 x1 x4 x10 x11 H (fun x1 x4 H => kn (sp 167 [(0, x0), (1, x1), (4, x4)]) H) := by
  rw [evL_X, N72_9_x]
  simp only [← evL_X, N72_9, N72_10_eq]
noncomputable def N72_8 (ρ : Addr → Option Value) (call : CallF) (yc : YieldF) (lim k : Nat) (x0 x1 x4 x8 x9 x10 x11 : AV) (H : Heap) (kn : AV → AV → Heap → Res) : Res :=
  purK (binA Tryd.prog H .sub 3 x4 (.int .i64 1)) fun x44_1 =>
  purK (binA Tryd.prog H .sub 3 x4 (.int .i64 2)) fun x47_1 =>
  purK (binA Tryd.prog H .add 104 x9 (.int .u32 1)) fun x49_1 =>
  purK (ixT (.str (ByteArray.mk #[48, 48, 48, 49, 48, 50, 48, 51, 48, 52, 48, 53, 48, 54, 48, 55, 48, 56, 48, 57, 49, 48, 49, 49, 49, 50, 49, 51, 49, 52, 49, 53, 49, 54, 49, 55, 49, 56, 49, 57, 50, 48, 50, 49, 50, 50, 50, 51, 50, 52, 50, 53, 50, 54, 50, 55, 50, 56, 50, 57, 51, 48, 51, 49, 51, 50, 51, 51, 51, 52, 51, 53, 51, 54, 51, 55, 51, 56, 51, 57, 52, 48, 52, 49, 52, 50, 52, 51, 52, 52, 52, 53, 52, 54, 52, 55, 52, 56, 52, 57, 53, 48, 53, 49, 53, 50, 53, 51, 53, 52, 53, 53, 53, 54, 53, 55, 53, 56, 53, 57, 54, 48, 54, 49, 54, 50, 54, 51, 54, 52, 54, 53, 54, 54, 54, 55, 54, 56, 54, 57, 55, 48, 55, 49, 55, 50, 55, 51, 55, 52, 55, 53, 55, 54, 55, 55, 55, 56, 55, 57, 56, 48, 56, 49, 56, 50, 56, 51, 56, 52, 56, 53, 56, 54, 56, 55, 56, 56, 56, 57, 57, 48, 57, 49, 57, 50, 57, 51, 57, 52, 57, 53, 57, 54, 57, 55, 57, 56, 57, 57])) x49_1) fun x50_1 =>
  purK (ixT (.str (ByteArray.mk #[48, 48, 48, 49, 48, 50, 48, 51, 48, 52, 48, 53, 48, 54, 48, 55, 48, 56, 48, 57, 49, 48, 49, 49, 49, 50, 49, 51, 49, 52, 49, 53, 49, 54, 49, 55, 49, 56, 49, 57, 50, 48, 50, 49, 50, 50, 50, 51, 50, 52, 50, 53, 50, 54, 50, 55, 50, 56, 50, 57, 51, 48, 51, 49, 51, 50, 51, 51, 51, 52, 51, 53, 51, 54, 51, 55, 51, 56, 51, 57, 52, 48, 52, 49, 52, 50, 52, 51, 52, 52, 52, 53, 52, 54, 52, 55, 52, 56, 52, 57, 53, 48, 53, 49, 53, 50, 53, 51, 53, 52, 53, 53, 53, 54, 53, 55, 53, 56, 53, 57, 54, 48, 54, 49, 54, 50, 54, 51, 54, 52, 54, 53, 54, 54, 54, 55, 54, 56, 54, 57, 55, 48, 55, 49, 55, 50, 55, 51, 55, 52, 55, 53, 55, 54, 55, 55, 55, 56, 55, 57, 56, 48, 56, 49, 56, 50, 56, 51, 56, 52, 56, 53, 56, 54, 56, 55, 56, 56, 56, 57, 57, 48, 57, 49, 57, 50, 57, 51, 57, 52, 57, 53, 57, 54, 57, 55, 57, 56, 57, 57])) x9) fun x52_1 =>
  purK (ixS 1 x0 x44_1) fun x53_1 =>
  effK H (stA lim H 1 x53_1 x50_1) fun _ H => bif (agn (binA Tryd.prog H .sub 3 x4 (.int .i64 2)) x47_1 && true) then
    purK (ixS 1 x0 x47_1) fun x54_1 =>
    effK H (stA lim H 1 x54_1 x52_1) fun _ H =>
    purK (binA Tryd.prog H .sub 3 x4 (.int .i64 3)) fun x57_1 =>
    purK (binA Tryd.prog H .sub 3 x4 (.int .i64 4)) fun x60_1 =>
    purK (binA Tryd.prog H .add 104 x8 (.int .u32 1)) fun x62_1 =>
    purK (ixT (.str (ByteArray.mk #[48, 48, 48, 49, 48, 50, 48, 51, 48, 52, 48, 53, 48, 54, 48, 55, 48, 56, 48, 57, 49, 48, 49, 49, 49, 50, 49, 51, 49, 52, 49, 53, 49, 54, 49, 55, 49, 56, 49, 57, 50, 48, 50, 49, 50, 50, 50, 51, 50, 52, 50, 53, 50, 54, 50, 55, 50, 56, 50, 57, 51, 48, 51, 49, 51, 50, 51, 51, 51, 52, 51, 53, 51, 54, 51, 55, 51, 56, 51, 57, 52, 48, 52, 49, 52, 50, 52, 51, 52, 52, 52, 53, 52, 54, 52, 55, 52, 56, 52, 57, 53, 48, 53, 49, 53, 50, 53, 51, 53, 52, 53, 53, 53, 54, 53, 55, 53, 56, 53, 57, 54, 48, 54, 49, 54, 50, 54, 51, 54, 52, 54, 53, 54, 54, 54, 55, 54, 56, 54, 57, 55, 48, 55, 49, 55, 50, 55, 51, 55, 52, 55, 53, 55, 54, 55, 55, 55, 56, 55, 57, 56, 48, 56, 49, 56, 50, 56, 51, 56, 52, 56, 53, 56, 54, 56, 55, 56, 56, 56, 57, 57, 48, 57, 49, 57, 50, 57, 51, 57, 52, 57, 53, 57, 54, 57, 55, 57, 56, 57, 57])) x62_1) fun x63_1 =>
    purK (ixT (.str (ByteArray.mk #[48, 48, 48, 49, 48, 50, 48, 51, 48, 52, 48, 53, 48, 54, 48, 55, 48, 56, 48, 57, 49, 48, 49, 49, 49, 50, 49, 51, 49, 52, 49, 53, 49, 54, 49, 55, 49, 56, 49, 57, 50, 48, 50, 49, 50, 50, 50, 51, 50, 52, 50, 53, 50, 54, 50, 55, 50, 56, 50, 57, 51, 48, 51, 49, 51, 50, 51, 51, 51, 52, 51, 53, 51, 54, 51, 55, 51, 56, 51, 57, 52, 48, 52, 49, 52, 50, 52, 51, 52, 52, 52, 53, 52, 54, 52, 55, 52, 56, 52, 57, 53, 48, 53, 49, 53, 50, 53, 51, 53, 52, 53, 53, 53, 54, 53, 55, 53, 56, 53, 57, 54, 48, 54, 49, 54, 50, 54, 51, 54, 52, 54, 53, 54, 54, 54, 55, 54, 56, 54, 57, 55, 48, 55, 49, 55, 50, 55, 51, 55, 52, 55, 53, 55, 54, 55, 55, 55, 56, 55, 57, 56, 48, 56, 49, 56, 50, 56, 51, 56, 52, 56, 53, 56, 54, 56, 55, 56, 56, 56, 57, 57, 48, 57, 49, 57, 50, 57, 51, 57, 52, 57, 53, 57, 54, 57, 55, 57, 56, 57, 57])) x8) fun x65_1 =>
    purK (ixS 1 x0 x57_1) fun x66_1 =>
    effK H (stA lim H 1 x66_1 x63_1) fun _ H => bif (agn (binA Tryd.prog H .sub 3 x4 (.int .i64 4)) x60_1 && true) then
      purK (ixS 1 x0 x60_1) fun x67_1 =>
      effK H (stA lim H 1 x67_1 x65_1) fun _ H =>
      N72_9 ρ call yc lim k x0 x1 x4 x10 x11 H kn
    else none
  else none
theorem N72_8_x (ρ : Addr → Option Value) (call : CallF) (yc : YieldF) (lim k : Nat) (J : CodeF) (x0 x1 x4 x8 x9 x10 x11 : AV) (H : Heap) (kn : KS) (k1 : KS) (k0 : KS) (R : List AV → Heap → Res) :
    evX (cx ρ) call yc false 72 lim k J (Code.at [1, 0, 0, 0, 1, 0, 1, 1, 1, 1, 1] c72) (sp 167 [(0, x0), (1, x1), (4, x4), (8, x8), (9, x9), (10, x10), (11, x11)]) H (kk (some [0, 1, 4]) kn [(1, (some [0, 1, 4]), k1), (0, (some [0, 1, 4]), k0)] R []) =
  purK (binA Tryd.prog H .sub 3 x4 (.int .i64 1)) fun x44_1 =>
  purK (binA Tryd.prog H .sub 3 x4 (.int .i64 2)) fun x47_1 =>
  purK (binA Tryd.prog H .add 104 x9 (.int .u32 1)) fun x49_1 =>
  purK (ixT (.str (ByteArray.mk #[48, 48, 48, 49, 48, 50, 48, 51, 48, 52, 48, 53, 48, 54, 48, 55, 48, 56, 48, 57, 49, 48, 49, 49, 49, 50, 49, 51, 49, 52, 49, 53, 49, 54, 49, 55, 49, 56, 49, 57, 50, 48, 50, 49, 50, 50, 50, 51, 50, 52, 50, 53, 50, 54, 50, 55, 50, 56, 50, 57, 51, 48, 51, 49, 51, 50, 51, 51, 51, 52, 51, 53, 51, 54, 51, 55, 51, 56, 51, 57, 52, 48, 52, 49, 52, 50, 52, 51, 52, 52, 52, 53, 52, 54, 52, 55, 52, 56, 52, 57, 53, 48, 53, 49, 53, 50, 53, 51, 53, 52, 53, 53, 53, 54, 53, 55, 53, 56, 53, 57, 54, 48, 54, 49, 54, 50, 54, 51, 54, 52, 54, 53, 54, 54, 54, 55, 54, 56, 54, 57, 55, 48, 55, 49, 55, 50, 55, 51, 55, 52, 55, 53, 55, 54, 55, 55, 55, 56, 55, 57, 56, 48, 56, 49, 56, 50, 56, 51, 56, 52, 56, 53, 56, 54, 56, 55, 56, 56, 56, 57, 57, 48, 57, 49, 57, 50, 57, 51, 57, 52, 57, 53, 57, 54, 57, 55, 57, 56, 57, 57])) x49_1) fun x50_1 =>
  purK (ixT (.str (ByteArray.mk #[48, 48, 48, 49, 48, 50, 48, 51, 48, 52, 48, 53, 48, 54, 48, 55, 48, 56, 48, 57, 49, 48, 49, 49, 49, 50, 49, 51, 49, 52, 49, 53, 49, 54, 49, 55, 49, 56, 49, 57, 50, 48, 50, 49, 50, 50, 50, 51, 50, 52, 50, 53, 50, 54, 50, 55, 50, 56, 50, 57, 51, 48, 51, 49, 51, 50, 51, 51, 51, 52, 51, 53, 51, 54, 51, 55, 51, 56, 51, 57, 52, 48, 52, 49, 52, 50, 52, 51, 52, 52, 52, 53, 52, 54, 52, 55, 52, 56, 52, 57, 53, 48, 53, 49, 53, 50, 53, 51, 53, 52, 53, 53, 53, 54, 53, 55, 53, 56, 53, 57, 54, 48, 54, 49, 54, 50, 54, 51, 54, 52, 54, 53, 54, 54, 54, 55, 54, 56, 54, 57, 55, 48, 55, 49, 55, 50, 55, 51, 55, 52, 55, 53, 55, 54, 55, 55, 55, 56, 55, 57, 56, 48, 56, 49, 56, 50, 56, 51, 56, 52, 56, 53, 56, 54, 56, 55, 56, 56, 56, 57, 57, 48, 57, 49, 57, 50, 57, 51, 57, 52, 57, 53, 57, 54, 57, 55, 57, 56, 57, 57])) x9) fun x52_1 =>
  purK (ixS 1 x0 x44_1) fun x53_1 =>
  effK H (stA lim H 1 x53_1 x50_1) fun _ H => bif (agn (binA Tryd.prog H .sub 3 x4 (.int .i64 2)) x47_1 && true) then
    purK (ixS 1 x0 x47_1) fun x54_1 =>
    effK H (stA lim H 1 x54_1 x52_1) fun _ H =>
    purK (binA Tryd.prog H .sub 3 x4 (.int .i64 3)) fun x57_1 =>
    purK (binA Tryd.prog H .sub 3 x4 (.int .i64 4)) fun x60_1 =>
    purK (binA Tryd.prog H .add 104 x8 (.int .u32 1)) fun x62_1 =>
    purK (ixT (.str (ByteArray.mk #[48, 48, 48, 49, 48, 50, 48, 51, 48, 52, 48, 53, 48, 54, 48, 55, 48, 56, 48, 57, 49, 48, 49, 49, 49, 50, 49, 51, 49, 52, 49, 53, 49, 54, 49, 55, 49, 56, 49, 57, 50, 48, 50, 49, 50, 50, 50, 51, 50, 52, 50, 53, 50, 54, 50, 55, 50, 56, 50, 57, 51, 48, 51, 49, 51, 50, 51, 51, 51, 52, 51, 53, 51, 54, 51, 55, 51, 56, 51, 57, 52, 48, 52, 49, 52, 50, 52, 51, 52, 52, 52, 53, 52, 54, 52, 55, 52, 56, 52, 57, 53, 48, 53, 49, 53, 50, 53, 51, 53, 52, 53, 53, 53, 54, 53, 55, 53, 56, 53, 57, 54, 48, 54, 49, 54, 50, 54, 51, 54, 52, 54, 53, 54, 54, 54, 55, 54, 56, 54, 57, 55, 48, 55, 49, 55, 50, 55, 51, 55, 52, 55, 53, 55, 54, 55, 55, 55, 56, 55, 57, 56, 48, 56, 49, 56, 50, 56, 51, 56, 52, 56, 53, 56, 54, 56, 55, 56, 56, 56, 57, 57, 48, 57, 49, 57, 50, 57, 51, 57, 52, 57, 53, 57, 54, 57, 55, 57, 56, 57, 57])) x62_1) fun x63_1 =>
    purK (ixT (.str (ByteArray.mk #[48, 48, 48, 49, 48, 50, 48, 51, 48, 52, 48, 53, 48, 54, 48, 55, 48, 56, 48, 57, 49, 48, 49, 49, 49, 50, 49, 51, 49, 52, 49, 53, 49, 54, 49, 55, 49, 56, 49, 57, 50, 48, 50, 49, 50, 50, 50, 51, 50, 52, 50, 53, 50, 54, 50, 55, 50, 56, 50, 57, 51, 48, 51, 49, 51, 50, 51, 51, 51, 52, 51, 53, 51, 54, 51, 55, 51, 56, 51, 57, 52, 48, 52, 49, 52, 50, 52, 51, 52, 52, 52, 53, 52, 54, 52, 55, 52, 56, 52, 57, 53, 48, 53, 49, 53, 50, 53, 51, 53, 52, 53, 53, 53, 54, 53, 55, 53, 56, 53, 57, 54, 48, 54, 49, 54, 50, 54, 51, 54, 52, 54, 53, 54, 54, 54, 55, 54, 56, 54, 57, 55, 48, 55, 49, 55, 50, 55, 51, 55, 52, 55, 53, 55, 54, 55, 55, 55, 56, 55, 57, 56, 48, 56, 49, 56, 50, 56, 51, 56, 52, 56, 53, 56, 54, 56, 55, 56, 56, 56, 57, 57, 48, 57, 49, 57, 50, 57, 51, 57, 52, 57, 53, 57, 54, 57, 55, 57, 56, 57, 57])) x8) fun x65_1 =>
    purK (ixS 1 x0 x57_1) fun x66_1 =>
    effK H (stA lim H 1 x66_1 x63_1) fun _ H => bif (agn (binA Tryd.prog H .sub 3 x4 (.int .i64 4)) x60_1 && true) then
      purK (ixS 1 x0 x60_1) fun x67_1 =>
      effK H (stA lim H 1 x67_1 x65_1) fun _ H =>
      J (Code.at [1, 0, 0, 0, 1, 0, 1, 1, 1, 1, 1, 1, 1] c72) (sp 167 [(0, x0), (1, x1), (4, x4), (10, x10), (11, x11)]) H (kk (some [0, 1, 4]) kn [(1, (some [0, 1, 4]), k1), (0, (some [0, 1, 4]), k0)] R [])
    else none
  else none := by
  kernel_rfl
theorem N72_8_eq (ρ : Addr → Option Value) (call : CallF) (yc : YieldF) (lim k : Nat) (x0 x1 x4 x8 x9 x10 x11 : AV) (H : Heap) (kn : KS) (k1 : KS) (k0 : KS) (R : List AV → Heap → Res) :
    evL (cx ρ) call yc false 72 lim k (Code.at [1, 0, 0, 0, 1, 0, 1, 1, 1, 1, 1] c72) (sp 167 [(0, x0), (1, x1), (4, x4), (8, x8), (9, x9), (10, x10), (11, x11)]) H (kk (some [0, 1, 4]) kn [(1, (some [0, 1, 4]), k1), (0, (some [0, 1, 4]), k0)] R []) = N72_8 ρ call yc lim k x0 x1 x4 x8 x9 x10 x11 H (fun x1 x4 H => kn (sp 167 [(0, x0), (1, x1), (4, x4)]) H) := by
  rw [evL_X, N72_8_x]
  simp only [← evL_X, N72_8, N72_9_eq]
noncomputable def N72_7b (ρ : Addr → Option Value) (call : CallF) (yc : YieldF) (lim k : Nat) (x0 x1 x4 : AV) (H : Heap) (kn : AV → AV → Heap → Res) (k0 : AV → AV → AV → Heap → Res) : Res :=
  purK (binA Tryd.prog H .geq 3 x4 (.int .i64 8)) fun x20_1 =>
  condK x20_1
  (
    purK (binA Tryd.prog H .rem 38 x1 (.int .u64 100000000)) fun x22_1 =>
    purK (cvI .u32 x22_1) fun x23_1 =>
    purK (binA Tryd.prog H .quo 38 x1 (.int .u64 100000000)) fun x25_1 =>
    purK (binA Tryd.prog H .quo 104 x23_1 (.int .u32 10000)) fun x27_1 =>
    purK (binA Tryd.prog H .rem 104 x23_1 (.int .u32 10000)) fun x29_1 =>
    purK (binA Tryd.prog H .quo 104 x29_1 (.int .u32 100)) fun x31_1 =>
    purK (binA Tryd.prog H .mul 104 x31_1 (.int .u32 2)) fun x32_1 =>
    purK (binA Tryd.prog H .rem 104 x29_1 (.int .u32 100)) fun x34_1 =>
    purK (binA Tryd.prog H .mul 104 x34_1 (.int .u32 2)) fun x35_1 =>
    purK (binA Tryd.prog H .quo 104 x27_1 (.int .u32 100)) fun x37_1 =>
    purK (binA Tryd.prog H .mul 104 x37_1 (.int .u32 2)) fun x38_1 =>
    purK (binA Tryd.prog H .rem 104 x27_1 (.int .u32 100)) fun x40_1 =>
    purK (binA Tryd.prog H .mul 104 x40_1 (.int .u32 2)) fun x41_1 =>
    N72_8 ρ call yc lim k x0 x25_1 x4 x32_1 x35_1 x38_1 x41_1 H kn)
  (
    k0 x0 x1 x4 H)
theorem N72_7b_x (ρ : Addr → Option Value) (call : CallF) (yc : YieldF) (lim k : Nat) (J : CodeF) (x0 x1 x4 : AV) (H : Heap) (kn : KS) (k0 : KS) (R : List AV → Heap → Res) :
    evX (cx ρ) call yc false 72 lim k J (Code.at [1, 0, 0, 0] c72) (sp 167 [(0, x0), (1, x1), (4, x4)]) H (kk (some [0, 1, 4]) kn [(0, (some [0, 1, 4]), k0)] R []) =
  purK (binA Tryd.prog H .geq 3 x4 (.int .i64 8)) fun x20_1 =>
  condK x20_1
  (
    purK (binA Tryd.prog H .rem 38 x1 (.int .u64 100000000)) fun x22_1 =>
    purK (cvI .u32 x22_1) fun x23_1 =>
    purK (binA Tryd.prog H .quo 38 x1 (.int .u64 100000000)) fun x25_1 =>
    purK (binA Tryd.prog H .quo 104 x23_1 (.int .u32 10000)) fun x27_1 =>
    purK (binA Tryd.prog H .rem 104 x23_1 (.int .u32 10000)) fun x29_1 =>
    purK (binA Tryd.prog H .quo 104 x29_1 (.int .u32 100)) fun x31_1 =>
    purK (binA Tryd.prog H .mul 104 x31_1 (.int .u32 2)) fun x32_1 =>
    purK (binA Tryd.prog H .rem 104 x29_1 (.int .u32 100)) fun x34_1 =>
    purK (binA Tryd.prog H .mul 104 x34_1 (.int .u32 2)) fun x35_1 =>
    purK (binA Tryd.prog H .quo 104 x27_1 (.int .u32 100)) fun x37_1 =>
    purK (binA Tryd.prog H .mul 104 x37_1 (.int .u32 2)) fun x38_1 =>
    purK (binA Tryd.prog H .rem 104 x27_1 (.int .u32 100)) fun x40_1 =>
    purK (binA Tryd.prog H .mul 104 x40_1 (.int .u32 2)) fun x41_1 =>
    J (Code.at [1, 0, 0, 0, 1, 0, 1, 1, 1, 1, 1] c72) (sp 167 [(0, x0), (1, x25_1), (4, x4), (8, x32_1), (9, x35_1), (10, x38_1), (11, x41_1)]) H (kk (some [0, 1, 4]) kn [(1, (some [0, 1, 4]), kn), (0, (some [0, 1, 4]), k0)] R []))
  (
    k0 (sp 167 [(0, x0), (1, x1), (4, x4)]) H) := by
  kernel_rfl
theorem N72_7b_eq (ρ : Addr → Option Value) (call : CallF) (yc : YieldF) (lim k : Nat) (x0 x1 x4 : AV) (H : Heap) (kn : KS) (k0 : KS) (R : List AV → Heap → Res) :
    evL (cx ρ) call yc false 72 lim k (Code.at [1, 0, 0, 0] c72) (sp 167 [(0, x0), (1, x1), (4, x4)]) H (kk (some [0, 1, 4]) kn [(0, (some [0, 1, 4]), k0)] R []) = N72_7b ρ call yc lim k x0 x1 x4 H (fun x1 x4 H => kn (sp 167 [(0, x0), (1, x1), (4, x4)]) H) (fun x0 x1 x4 H => k0 (sp 167 [(0, x0), (1, x1), (4, x4)]) H) := by
  rw [evL_X, N72_7b_x]
  simp only [← evL_X, N72_7b, N72_8_eq]
noncomputable def N72_7 (ρ : Addr → Option Value) (call : CallF) (yc : YieldF) (lim k : Nat) (x0 x1 x4 : AV) (H : Heap) (k0 : AV → AV → AV → Heap → Res) : Res :=
  loopL (fun (x : AV × AV) H kn => N72_7b ρ call yc lim k x0 x.1 x.2 H (fun x1 x4 H => kn (x1, x4) H) k0) k (x1, x4) H
theorem N72_7_eq (ρ : Addr → Option Value) (call : CallF) (yc : YieldF) (lim k : Nat) (x0 x1 x4 : AV) (H : Heap) (kn : KS) (k0 : KS) (R : List AV → Heap → Res) :
    evL (cx ρ) call yc false 72 lim k (Code.at [1, 0, 0] c72) (sp 167 [(0, x0), (1, x1), (4, x4)]) H (kk (some [0, 1, 4]) kn [(0, (some [0, 1, 4]), k0)] R []) = N72_7 ρ call yc lim k x0 x1 x4 H (fun x0 x1 x4 H => k0 (sp 167 [(0, x0), (1, x1), (4, x4)]) H) := by
  have e : Code.at [1, 0, 0] c72 = .loop (Code.at [1, 0, 0, 0] c72) := by kernel_rfl
  rw [e]
  unfold N72_7
  exact loop_node [0, 1, 4] (fun x : AV × AV => (sp 167 [(0, x0), (1, (x.1)), (4, (x.2))])) (fun (x : AV × AV) H kn => N72_7b ρ call yc lim k x0 x.1 x.2 H (fun x1 x4 H => kn (x1, x4) H) (fun x0 x1 x4 H => k0 (sp 167 [(0, x0), (1, x1), (4, x4)]) H)) (by kernel_rfl) (fun x => by kernel_rfl) (fun x H kn => N72_7b_eq ρ call yc lim k x0 (x.1) (x.2) H kn k0 R) (x1, x4) (sp 167 [(0, x0), (1, x1), (4, x4)]) H (by kernel_rfl)
noncomputable def N72_1 (ρ : Addr → Option Value) (call : CallF) (yc : YieldF) (lim k : Nat) (x0 x1 x4 : AV) (H : Heap) (R : List AV → Heap → Res) : Res :=
  N72_7 ρ call yc lim k x0 x1 x4 H (fun x0_1 x1_1 x4_1 H =>
    N72_2 ρ call yc lim k x0_1 x1_1 x4_1 H R)
theorem N72_1_x (ρ : Addr → Option Value) (call : CallF) (yc : YieldF) (lim k : Nat) (J : CodeF) (x0 x1 x4 : AV) (H : Heap) (R : List AV → Heap → Res) :
    evX (cx ρ) call yc false 72 lim k J (Code.at [1] c72) (sp 167 [(0, x0), (1, x1), (4, x4)]) H (kk none (fun s H => R (([] : List Nat).map fun t => s.getD t (.tup [])) H) [] R []) =
  J (Code.at [1, 0, 0] c72) (sp 167 [(0, x0), (1, x1), (4, x4)]) H (kk (some [0, 1, 4]) (fun s H => J (Code.at [1, 1] c72) s H (kk none (fun s H => R (([] : List Nat).map fun t => s.getD t (.tup [])) H) [] R [])) [(0, (some [0, 1, 4]), (fun s H => J (Code.at [1, 1] c72) s H (kk none (fun s H => R (([] : List Nat).map fun t => s.getD t (.tup [])) H) [] R [])))] R []) := by
  kernel_rfl
theorem N72_1_eq (ρ : Addr → Option Value) (call : CallF) (yc : YieldF) (lim k : Nat) (x0 x1 x4 : AV) (H : Heap) (R : List AV → Heap → Res) :
    evL (cx ρ) call yc false 72 lim k (Code.at [1] c72) (sp 167 [(0, x0), (1, x1), (4, x4)]) H (kk none (fun s H => R (([] : List Nat).map fun t => s.getD t (.tup [])) H) [] R []) = N72_1 ρ call yc lim k x0 x1 x4 H R := by
  rw [evL_X, N72_1_x]
  simp only [← evL_X, N72_1, N72_2_eq, N72_7_eq]
noncomputable def L72 (ρ : Addr → Option Value) (call : CallF) (yc : YieldF) (lim k : Nat) (x0 x1 : AV) (H : Heap) : Res :=
  purK (lenS x0) fun x18 =>
  N72_1 ρ call yc lim k x0 x1 x18 H retK
theorem L72_x (ρ : Addr → Option Value) (call : CallF) (yc : YieldF) (lim k : Nat) (J : CodeF) (x0 x1 : AV) (H : Heap) :
    evX (cx ρ) call yc false 72 lim k J c72 [x0, x1, (.tup []), (.tup []), (.tup []), (.tup []), (.tup []), (.tup []), (.tup []), (.tup []), (.tup []), (.tup []), (.tup []), (.tup []), (.tup []), (.tup []), (.tup []), (.tup []), (.tup []), (.tup []), (.tup []), (.tup []), (.tup []), (.tup []), (.tup []), (.tup []), (.tup []), (.tup []), (.tup []), (.tup []), (.tup []), (.tup []), (.tup []), (.tup []), (.tup []), (.tup []), (.tup []), (.tup []), (.tup []), (.tup []), (.tup []), (.tup []), (.tup []), (.tup []), (.tup []), (.tup []), (.tup []), (.tup []), (.tup []), (.tup []), (.tup []), (.tup []), (.tup []), (.tup []), (.tup []), (.tup []), (.tup []), (.tup []), (.tup []), (.tup []), (.tup []), (.tup []), (.tup []), (.tup []), (.tup []), (.tup []), (.tup []), (.tup []), (.tup []), (.tup []), (.tup []), (.tup []), (.tup []), (.tup []), (.tup []), (.tup []), (.tup []), (.tup []), (.tup []), (.tup []), (.tup []), (.tup []), (.tup []), (.tup []), (.tup []), (.tup []), (.tup []), (.tup []), (.tup []), (.tup []), (.tup []), (.tup []), (.tup []), (.tup []), (.tup []), (.tup []), (.tup []), (.tup []), (.tup []), (.tup []), (.tup []), (.tup []), (.tup []), (.tup []), (.tup []), (.tup []), (.tup []), (.tup []), (.tup []), (.tup []), (.tup []), (.tup []), (.tup []), (.tup []), (.tup []), (.tup []), (.tup []), (.tup []), (.tup []), (.tup []), (.tup []), (.tup []), (.tup []), (.tup []), (.tup []), (.tup []), (.tup []), (.tup []), (.tup []), (.tup []), (.tup []), (.tup []), (.tup []), (.tup []), (.tup []), (.tup []), (.tup []), (.tup []), (.tup []), (.tup []), (.tup []), (.tup []), (.tup []), (.tup []), (.tup []), (.tup []), (.tup []), (.tup []), (.tup []), (.tup []), (.tup []), (.tup []), (.tup []), (.tup []), (.tup []), (.tup []), (.tup []), (.tup []), (.tup []), (.tup []), (.tup []), (.tup []), (.tup []), (.tup []), (.tup []), (.tup []), (.tup [])] H (kk none (fun s H => retK (([] : List Nat).map fun t => s.getD t (.tup [])) H) [] retK []) =
  purK (lenS x0) fun x18 =>
  J (Code.at [1] c72) (sp 167 [(0, x0), (1, x1), (4, x18)]) H (kk none (fun s H => retK (([] : List Nat).map fun t => s.getD t (.tup [])) H) [] retK []) := by
  kernel_rfl
theorem G72 (ρ : Addr → Option Value) (call : CallF) (yc : YieldF) (lim k : Nat) (x0 x1 : AV) (H : Heap) :
    evL (cx ρ) call yc false 72 lim k c72 [x0, x1, (.tup []), (.tup []), (.tup []), (.tup []), (.tup []), (.tup []), (.tup []), (.tup []), (.tup []), (.tup []), (.tup []), (.tup []), (.tup []), (.tup []), (.tup []), (.tup []), (.tup []), (.tup []), (.tup []), (.tup []), (.tup []), (.tup []), (.tup []), (.tup []), (.tup []), (.tup []), (.tup []), (.tup []), (.tup []), (.tup []), (.tup []), (.tup []), (.tup []), (.tup []), (.tup []), (.tup []), (.tup []), (.tup []), (.tup []), (.tup []), (.tup []), (.tup []), (.tup []), (.tup []), (.tup []), (.tup []), (.tup []), (.tup []), (.tup []), (.tup []), (.tup []), (.tup []), (.tup []), (.tup []), (.tup []), (.tup []), (.tup []), (.tup []), (.tup []), (.tup []), (.tup []), (.tup []), (.tup []), (.tup []), (.tup []), (.tup []), (.tup []), (.tup []), (.tup []), (.tup []), (.tup []), (.tup []), (.tup []), (.tup []), (.tup []), (.tup []), (.tup []), (.tup []), (.tup []), (.tup []), (.tup []), (.tup []), (.tup []), (.tup []), (.tup []), (.tup []), (.tup []), (.tup []), (.tup []), (.tup []), (.tup []), (.tup []), (.tup []), (.tup []), (.tup []), (.tup []), (.tup []), (.tup []), (.tup []), (.tup []), (.tup []), (.tup []), (.tup []), (.tup []), (.tup []), (.tup []), (.tup []), (.tup []), (.tup []), (.tup []), (.tup []), (.tup []), (.tup []), (.tup []), (.tup []), (.tup []), (.tup []), (.tup []), (.tup []), (.tup []), (.tup []), (.tup []), (.tup []), (.tup []), (.tup []), (.tup []), (.tup []), (.tup []), (.tup []), (.tup []), (.tup []), (.tup []), (.tup []), (.tup []), (.tup []), (.tup []), (.tup []), (.tup []), (.tup []), (.tup []), (.tup []), (.tup []), (.tup []), (.tup []), (.tup []), (.tup []), (.tup []), (.tup []), (.tup []), (.tup []), (.tup []), (.tup []), (.tup []), (.tup []), (.tup []), (.tup []), (.tup []), (.tup []), (.tup []), (.tup []), (.tup []), (.tup []), (.tup []), (.tup []), (.tup [])] H (kk none (fun s H => retK (([] : List Nat).map fun t => s.getD t (.tup [])) H) [] retK []) = L72 ρ call yc lim k x0 x1 H := by
  rw [evL_X, L72_x]
  simp only [← evL_X, L72, N72_1_eq]
theorem E72 (ρ : Addr → Option Value) (k lim : Nat) (x0 x1 : AV) (H : Heap) : evCall (cx ρ) (k + 1) lim 72 [x0, x1] H = L72 ρ (evCall (cx ρ) k) (evCY (cx ρ) k).2 lim k x0 x1 H := by
  rw [evCall_body (cx ρ) k lim 72 _ H Tryd.f72 c72 [] (by kernel_rfl) (by kernel_rfl) (by kernel_rfl) (by kernel_rfl) (by kernel_rfl)]
  exact G72 ρ (evCall (cx ρ) k) (evCY (cx ρ) k).2 lim k x0 x1 H
end Go.Proofs.YtnkeebchblfbgaaDoor

-- part Sc7
/- Functions, lifted. Printed by a program of this repo. -/
set_option linter.unusedVariables false
set_option linter.unusedSimpArgs false
set_option maxRecDepth 100000
set_option maxHeartbeats 4000000
namespace Go.Proofs.YtnkeebchblfbgaaDoor
open Go.Ev Go.RowKit
-- internal/strconv.ParseUint
noncomputable def c79 : Code := Code.of Tryd.prog 79
noncomputable def N79_5 (ρ : Addr → Option Value) (call : CallF) (yc : YieldF) (lim k : Nat) (x9 x12 x13 : AV) (H : Heap) (R : List AV → Heap → Res) : Res :=
  purK (gPur (wantV x12 true) (some x9)) fun x166_1 =>
  resK (gRes (wantV x12 true) H (call lim 89 [x166_1] H)) fun x167_1 H =>
  purK (gPur (wantV x12 true) (unA .not x167_1)) fun x168_1 =>
  purK (pickA x12 x168_1 (.bool false)) fun x169_1 =>
  condK x169_1
  (
    R [(.int .u64 0), (.ifc 115 (.int .i64 2))] H)
  (
    R [x13, .nili] H)
theorem N79_5_eq (ρ : Addr → Option Value) (call : CallF) (yc : YieldF) (lim k : Nat) (x9 x12 x13 : AV) (H : Heap) (R : List AV → Heap → Res) :
    evL (cx ρ) call yc false 79 lim k (Code.at [1, 1, 1, 1, 1, 1, 1, 1, 1, 1, 1, 1] c79) (sp 172 [(9, x9), (12, x12), (13, x13)]) H (kk none (fun s H => R (([6, 7] : List Nat).map fun t => s.getD t (.tup [])) H) [] R [6, 7]) = N79_5 ρ call yc lim k x9 x12 x13 H R := by
  kernel_rfl
noncomputable def N79_8 (ρ : Addr → Option Value) (call : CallF) (yc : YieldF) (lim k : Nat) (x1 x8 x9 x10 x11 x12 x13 x99 x100 x101 : AV) (H : Heap) (kn : AV → AV → AV → Heap → Res) : Res :=
  purK (binA Tryd.prog H .add 3 x101 (.int .i64 1)) fun x163_1 =>
  kn x12 x13 x163_1 H
theorem N79_8_eq (ρ : Addr → Option Value) (call : CallF) (yc : YieldF) (lim k : Nat) (x1 x8 x9 x10 x11 x12 x13 x99 x100 x101 : AV) (H : Heap) (kn : KS) (k3 : KS) (R : List AV → Heap → Res) :
    evL (cx ρ) call yc false 79 lim k (Code.at [1, 1, 1, 1, 1, 1, 1, 1, 1, 1, 1, 0, 1, 0, 0, 1, 1, 1] c79) (sp 172 [(1, x1), (8, x8), (9, x9), (10, x10), (11, x11), (12, x12), (13, x13), (99, x99), (100, x100), (101, x101)]) H (kk (some [1, 8, 9, 10, 11, 12, 13, 99, 100, 101]) kn [(3, (some [9, 12, 13]), k3)] R [6, 7]) = N79_8 ρ call yc lim k x1 x8 x9 x10 x11 x12 x13 x99 x100 x101 H (fun x12 x13 x101 H => kn (sp 172 [(1, x1), (8, x8), (9, x9), (10, x10), (11, x11), (12, x12), (13, x13), (99, x99), (100, x100), (101, x101)]) H) := by
  kernel_rfl
noncomputable def N79_11 (ρ : Addr → Option Value) (call : CallF) (yc : YieldF) (lim k : Nat) (x1 x8 x9 x10 x11 x12 x17 x99 x100 x101 : AV) (H : Heap) (kn : AV → AV → AV → Heap → Res) : Res :=
  kn x12 x17 x101 H
theorem N79_11_eq (ρ : Addr → Option Value) (call : CallF) (yc : YieldF) (lim k : Nat) (x1 x8 x9 x10 x11 x12 x17 x99 x100 x101 : AV) (H : Heap) (kn : KS) (k4 : KS) (k3 : KS) (R : List AV → Heap → Res) :
    evL (cx ρ) call yc false 79 lim k (Code.at [1, 1, 1, 1, 1, 1, 1, 1, 1, 1, 1, 0, 1, 0, 0, 1, 1, 0, 0, 1, 1, 1, 1, 1, 1, 1, 1] c79) (sp 172 [(1, x1), (8, x8), (9, x9), (10, x10), (11, x11), (12, x12), (17, x17), (99, x99), (100, x100), (101, x101)]) H (kk (some [1, 8, 9, 10, 11, 12, 13, 99, 100, 101]) kn [(4, (some [1, 8, 9, 10, 11, 12, 13, 99, 100, 101]), k4), (3, (some [9, 12, 13]), k3)] R [6, 7]) = N79_11 ρ call yc lim k x1 x8 x9 x10 x11 x12 x17 x99 x100 x101 H (fun x12 x13 x101 H => kn (sp 172 [(1, x1), (8, x8), (9, x9), (10, x10), (11, x11), (12, x12), (13, x13), (99, x99), (100, x100), (101, x101)]) H) := by
  kernel_rfl
noncomputable def N79_12 (ρ : Addr → Option Value) (call : CallF) (yc : YieldF) (lim k : Nat) (x1 x8 x9 x10 x11 x12 x17 x99 x100 x101 x159 : AV) (H : Heap) (kn : AV → AV → AV → Heap → Res) (R : List AV → Heap → Res) : Res :=
  condK x159
  (
    R [x11, (.ifc 115 (.int .i64 1))] H)
  (
    kn x12 x17 x101 H)
theorem N79_12_eq (ρ : Addr → Option Value) (call : CallF) (yc : YieldF) (lim k : Nat) (x1 x8 x9 x10 x11 x12 x17 x99 x100 x101 x159 : AV) (H : Heap) (kn : KS) (k4 : KS) (k3 : KS) (R : List AV → Heap → Res) :
    evL (cx ρ) call yc false 79 lim k (Code.at [1, 1, 1, 1, 1, 1, 1, 1, 1, 1, 1, 0, 1, 0, 0, 1, 1, 0, 0, 1, 1, 1, 1, 1, 1, 1, 0, 1] c79) (sp 172 [(1, x1), (8, x8), (9, x9), (10, x10), (11, x11), (12, x12), (17, x17), (99, x99), (100, x100), (101, x101), (159, x159)]) H (kk (some [1, 8, 9, 10, 11, 12, 17, 99, 100, 101]) kn [(4, (some [1, 8, 9, 10, 11, 12, 13, 99, 100, 101]), k4), (3, (some [9, 12, 13]), k3)] R [6, 7]) = N79_12 ρ call yc lim k x1 x8 x9 x10 x11 x12 x17 x99 x100 x101 x159 H (fun x12 x17 x101 H => kn (sp 172 [(1, x1), (8, x8), (9, x9), (10, x10), (11, x11), (12, x12), (17, x17), (99, x99), (100, x100), (101, x101)]) H) R := by
  kernel_rfl
noncomputable def N79_10 (ρ : Addr → Option Value) (call : CallF) (yc : YieldF) (lim k : Nat) (x1 x8 x9 x10 x11 x12 x13 x16 x99 x100 x101 : AV) (H : Heap) (kn : AV → AV → AV → Heap → Res) (R : List AV → Heap → Res) : Res :=
  purK (binA Tryd.prog H .geq 38 x13 x10) fun x141_1 =>
  condK x141_1
  (
    R [x11, (.ifc 115 (.int .i64 1))] H)
  (
    purK (cvI .u64 x1) fun x146_1 =>
    purK (binA Tryd.prog H .mul 38 x13 x146_1) fun x147_1 =>
    purK (cvI .u64 x16) fun x150_1 =>
    purK (binA Tryd.prog H .add 38 x147_1 x150_1) fun x151_1 =>
    purK (binA Tryd.prog H .lss 38 x151_1 x147_1) fun x154_1 =>
    purK (gPur (wantV x154_1 false) (some x151_1)) fun x156_1 =>
    purK (gPur (wantV x154_1 false) (some x11)) fun x157_1 =>
    purK (gPur (wantV x154_1 false) (binA Tryd.prog H .gtr 38 x156_1 x157_1)) fun x158_1 =>
    purK (pickA x154_1 (.bool true) x158_1) fun x159_1 =>
    N79_12 ρ call yc lim k x1 x8 x9 x10 x11 x12 x151_1 x99 x100 x101 x159_1 H (fun x12_1 x17_1 x101_1 H =>
      N79_11 ρ call yc lim k x1 x8 x9 x10 x11 x12_1 x17_1 x99 x100 x101_1 H kn) R)
theorem N79_10_x (ρ : Addr → Option Value) (call : CallF) (yc : YieldF) (lim k : Nat) (J : CodeF) (x1 x8 x9 x10 x11 x12 x13 x16 x99 x100 x101 : AV) (H : Heap) (kn : KS) (k4 : KS) (k3 : KS) (R : List AV → Heap → Res) :
    evX (cx ρ) call yc false 79 lim k J (Code.at [1, 1, 1, 1, 1, 1, 1, 1, 1, 1, 1, 0, 1, 0, 0, 1, 1, 0, 0, 1, 1, 1, 1] c79) (sp 172 [(1, x1), (8, x8), (9, x9), (10, x10), (11, x11), (12, x12), (13, x13), (16, x16), (99, x99), (100, x100), (101, x101)]) H (kk (some [1, 8, 9, 10, 11, 12, 13, 99, 100, 101]) kn [(4, (some [1, 8, 9, 10, 11, 12, 13, 99, 100, 101]), k4), (3, (some [9, 12, 13]), k3)] R [6, 7]) =
  purK (binA Tryd.prog H .geq 38 x13 x10) fun x141_1 =>
  condK x141_1
  (
    R [x11, (.ifc 115 (.int .i64 1))] H)
  (
    purK (cvI .u64 x1) fun x146_1 =>
    purK (binA Tryd.prog H .mul 38 x13 x146_1) fun x147_1 =>
    purK (cvI .u64 x16) fun x150_1 =>
    purK (binA Tryd.prog H .add 38 x147_1 x150_1) fun x151_1 =>
    purK (binA Tryd.prog H .lss 38 x151_1 x147_1) fun x154_1 =>
    purK (gPur (wantV x154_1 false) (some x151_1)) fun x156_1 =>
    purK (gPur (wantV x154_1 false) (some x11)) fun x157_1 =>
    purK (gPur (wantV x154_1 false) (binA Tryd.prog H .gtr 38 x156_1 x157_1)) fun x158_1 =>
    purK (pickA x154_1 (.bool true) x158_1) fun x159_1 =>
    J (Code.at [1, 1, 1, 1, 1, 1, 1, 1, 1, 1, 1, 0, 1, 0, 0, 1, 1, 0, 0, 1, 1, 1, 1, 1, 1, 1, 0, 1] c79) (sp 172 [(1, x1), (8, x8), (9, x9), (10, x10), (11, x11), (12, x12), (17, x151_1), (99, x99), (100, x100), (101, x101), (159, x159_1)]) H (kk (some [1, 8, 9, 10, 11, 12, 17, 99, 100, 101]) (fun s H => J (Code.at [1, 1, 1, 1, 1, 1, 1, 1, 1, 1, 1, 0, 1, 0, 0, 1, 1, 0, 0, 1, 1, 1, 1, 1, 1, 1, 1] c79) s H (kk (some [1, 8, 9, 10, 11, 12, 13, 99, 100, 101]) kn [(4, (some [1, 8, 9, 10, 11, 12, 13, 99, 100, 101]), k4), (3, (some [9, 12, 13]), k3)] R [6, 7])) [(4, (some [1, 8, 9, 10, 11, 12, 13, 99, 100, 101]), k4), (3, (some [9, 12, 13]), k3)] R [6, 7])) := by
  kernel_rfl
theorem N79_10_eq (ρ : Addr → Option Value) (call : CallF) (yc : YieldF) (lim k : Nat) (x1 x8 x9 x10 x11 x12 x13 x16 x99 x100 x101 : AV) (H : Heap) (kn : KS) (k4 : KS) (k3 : KS) (R : List AV → Heap → Res) :
    evL (cx ρ) call yc false 79 lim k (Code.at [1, 1, 1, 1, 1, 1, 1, 1, 1, 1, 1, 0, 1, 0, 0, 1, 1, 0, 0, 1, 1, 1, 1] c79) (sp 172 [(1, x1), (8, x8), (9, x9), (10, x10), (11, x11), (12, x12), (13, x13), (16, x16), (99, x99), (100, x100), (101, x101)]) H (kk (some [1, 8, 9, 10, 11, 12, 13, 99, 100, 101]) kn [(4, (some [1, 8, 9, 10, 11, 12, 13, 99, 100, 101]), k4), (3, (some [9, 12, 13]), k3)] R [6, 7]) = N79_10 ρ call yc lim k x1 x8 x9 x10 x11 x12 x13 x16 x99 x100 x101 H (fun x12 x13 x101 H => kn (sp 172 [(1, x1), (8, x8), (9, x9), (10, x10), (11, x11), (12, x12), (13, x13), (99, x99), (100, x100), (101, x101)]) H) R := by
  rw [evL_X, N79_10_x]
  simp only [← evL_X, N79_10, N79_11_eq, N79_12_eq]
noncomputable def N79_13 (ρ : Addr → Option Value) (call : CallF) (yc : YieldF) (lim k : Nat) (x1 x8 x9 x10 x11 x12 x13 x16 x99 x100 x101 x137 : AV) (H : Heap) (kn : AV → AV → AV → AV → Heap → Res) (R : List AV → Heap → Res) : Res :=
  condK x137
  (
    R [(.int .u64 0), (.ifc 115 (.int .i64 2))] H)
  (
    kn x12 x13 x16 x101 H)
theorem N79_13_eq (ρ : Addr → Option Value) (call : CallF) (yc : YieldF) (lim k : Nat) (x1 x8 x9 x10 x11 x12 x13 x16 x99 x100 x101 x137 : AV) (H : Heap) (kn : KS) (k4 : KS) (k3 : KS) (R : List AV → Heap → Res) :
    evL (cx ρ) call yc false 79 lim k (Code.at [1, 1, 1, 1, 1, 1, 1, 1, 1, 1, 1, 0, 1, 0, 0, 1, 1, 0, 0, 1, 1, 1, 0, 1] c79) (sp 172 [(1, x1), (8, x8), (9, x9), (10, x10), (11, x11), (12, x12), (13, x13), (16, x16), (99, x99), (100, x100), (101, x101), (137, x137)]) H (kk (some [1, 8, 9, 10, 11, 12, 13, 16, 99, 100, 101]) kn [(4, (some [1, 8, 9, 10, 11, 12, 13, 99, 100, 101]), k4), (3, (some [9, 12, 13]), k3)] R [6, 7]) = N79_13 ρ call yc lim k x1 x8 x9 x10 x11 x12 x13 x16 x99 x100 x101 x137 H (fun x12 x13 x16 x101 H => kn (sp 172 [(1, x1), (8, x8), (9, x9), (10, x10), (11, x11), (12, x12), (13, x13), (16, x16), (99, x99), (100, x100), (101, x101)]) H) R := by
  kernel_rfl
noncomputable def N79_9 (ρ : Addr → Option Value) (call : CallF) (yc : YieldF) (lim k : Nat) (x1 x8 x9 x10 x11 x12 x13 x16 x99 x100 x101 : AV) (H : Heap) (kn : AV → AV → AV → Heap → Res) (R : List AV → Heap → Res) : Res :=
  purK (cvI .u8 x1) fun x136_1 =>
  purK (binA Tryd.prog H .geq 5 x16 x136_1) fun x137_1 =>
  N79_13 ρ call yc lim k x1 x8 x9 x10 x11 x12 x13 x16 x99 x100 x101 x137_1 H (fun x12_1 x13_1 x16_1 x101_1 H =>
    N79_10 ρ call yc lim k x1 x8 x9 x10 x11 x12_1 x13_1 x16_1 x99 x100 x101_1 H kn R) R
theorem N79_9_x (ρ : Addr → Option Value) (call : CallF) (yc : YieldF) (lim k : Nat) (J : CodeF) (x1 x8 x9 x10 x11 x12 x13 x16 x99 x100 x101 : AV) (H : Heap) (kn : KS) (k4 : KS) (k3 : KS) (R : List AV → Heap → Res) :
    evX (cx ρ) call yc false 79 lim k J (Code.at [1, 1, 1, 1, 1, 1, 1, 1, 1, 1, 1, 0, 1, 0, 0, 1, 1, 0, 0, 1, 1, 1] c79) (sp 172 [(1, x1), (8, x8), (9, x9), (10, x10), (11, x11), (12, x12), (13, x13), (16, x16), (99, x99), (100, x100), (101, x101)]) H (kk (some [1, 8, 9, 10, 11, 12, 13, 99, 100, 101]) kn [(4, (some [1, 8, 9, 10, 11, 12, 13, 99, 100, 101]), k4), (3, (some [9, 12, 13]), k3)] R [6, 7]) =
  purK (cvI .u8 x1) fun x136_1 =>
  purK (binA Tryd.prog H .geq 5 x16 x136_1) fun x137_1 =>
  J (Code.at [1, 1, 1, 1, 1, 1, 1, 1, 1, 1, 1, 0, 1, 0, 0, 1, 1, 0, 0, 1, 1, 1, 0, 1] c79) (sp 172 [(1, x1), (8, x8), (9, x9), (10, x10), (11, x11), (12, x12), (13, x13), (16, x16), (99, x99), (100, x100), (101, x101), (137, x137_1)]) H (kk (some [1, 8, 9, 10, 11, 12, 13, 16, 99, 100, 101]) (fun s H => J (Code.at [1, 1, 1, 1, 1, 1, 1, 1, 1, 1, 1, 0, 1, 0, 0, 1, 1, 0, 0, 1, 1, 1, 1] c79) s H (kk (some [1, 8, 9, 10, 11, 12, 13, 99, 100, 101]) kn [(4, (some [1, 8, 9, 10, 11, 12, 13, 99, 100, 101]), k4), (3, (some [9, 12, 13]), k3)] R [6, 7])) [(4, (some [1, 8, 9, 10, 11, 12, 13, 99, 100, 101]), k4), (3, (some [9, 12, 13]), k3)] R [6, 7]) := by
  kernel_rfl
theorem N79_9_eq (ρ : Addr → Option Value) (call : CallF) (yc : YieldF) (lim k : Nat) (x1 x8 x9 x10 x11 x12 x13 x16 x99 x100 x101 : AV) (H : Heap) (kn : KS) (k4 : KS) (k3 : KS) (R : List AV → Heap → Res) :
    evL (cx ρ) call yc false 79 lim k (Code.at [1, 1, 1, 1, 1, 1, 1, 1, 1, 1, 1, 0, 1, 0, 0, 1, 1, 0, 0, 1, 1, 1] c79) (sp 172 [(1, x1), (8, x8), (9, x9), (10, x10), (11, x11), (12, x12), (13, x13), (16, x16), (99, x99), (100, x100), (101, x101)]) H (kk (some [1, 8, 9, 10, 11, 12, 13, 99, 100, 101]) kn [(4, (some [1, 8, 9, 10, 11, 12, 13, 99, 100, 101]), k4), (3, (some [9, 12, 13]), k3)] R [6, 7]) = N79_9 ρ call yc lim k x1 x8 x9 x10 x11 x12 x13 x16 x99 x100 x101 H (fun x12 x13 x101 H => kn (sp 172 [(1, x1), (8, x8), (9, x9), (10, x10), (11, x11), (12, x12), (13, x13), (99, x99), (100, x100), (101, x101)]) H) R := by
  rw [evL_X, N79_9_x]
  simp only [← evL_X, N79_9, N79_10_eq, N79_13_eq]
noncomputable def N79_14 (ρ : Addr → Option Value) (call : CallF) (yc : YieldF) (lim k : Nat) (x1 x8 x9 x10 x11 x12 x13 x15 x99 x100 x101 x121 : AV) (H : Heap) (kn : AV → AV → AV → AV → Heap → Res) (R : List AV → Heap → Res) : Res :=
  condK x121
  (
    resK (call lim 88 [x15] H) fun x131_1 H =>
    purK (binA Tryd.prog H .sub 5 x131_1 (.int .u8 97)) fun x132_1 =>
    purK (binA Tryd.prog H .add 5 x132_1 (.int .u8 10)) fun x133_1 =>
    kn x12 x13 x133_1 x101 H)
  (
    R [(.int .u64 0), (.ifc 115 (.int .i64 2))] H)
theorem N79_14_eq (ρ : Addr → Option Value) (call : CallF) (yc : YieldF) (lim k : Nat) (x1 x8 x9 x10 x11 x12 x13 x15 x99 x100 x101 x121 : AV) (H : Heap) (kn : KS) (k5 : KS) (k4 : KS) (k3 : KS) (R : List AV → Heap → Res) :
    evL (cx ρ) call yc false 79 lim k (Code.at [1, 1, 1, 1, 1, 1, 1, 1, 1, 1, 1, 0, 1, 0, 0, 1, 1, 0, 0, 1, 1, 0, 0, 1, 1, 1, 1, 1] c79) (sp 172 [(1, x1), (8, x8), (9, x9), (10, x10), (11, x11), (12, x12), (13, x13), (15, x15), (99, x99), (100, x100), (101, x101), (121, x121)]) H (kk (some [1, 8, 9, 10, 11, 12, 13, 16, 99, 100, 101]) kn [(5, (some [1, 8, 9, 10, 11, 12, 13, 16, 99, 100, 101]), k5), (4, (some [1, 8, 9, 10, 11, 12, 13, 99, 100, 101]), k4), (3, (some [9, 12, 13]), k3)] R [6, 7]) = N79_14 ρ call yc lim k x1 x8 x9 x10 x11 x12 x13 x15 x99 x100 x101 x121 H (fun x12 x13 x16 x101 H => kn (sp 172 [(1, x1), (8, x8), (9, x9), (10, x10), (11, x11), (12, x12), (13, x13), (16, x16), (99, x99), (100, x100), (101, x101)]) H) R := by
  kernel_rfl
noncomputable def N79_7b (ρ : Addr → Option Value) (call : CallF) (yc : YieldF) (lim k : Nat) (x1 x8 x9 x10 x11 x12 x13 x99 x100 x101 : AV) (H : Heap) (kn : AV → AV → AV → Heap → Res) (k3 : AV → AV → AV → Heap → Res) (R : List AV → Heap → Res) : Res :=
  purK (binA Tryd.prog H .lss 3 x101 x100) fun x102_1 =>
  condK x102_1
  (
    purK (ixS 1 x99 x101) fun x103_1 =>
    purK (ld1 ρ H x103_1) fun x104_1 =>
    purK (binA Tryd.prog H .eql 5 x104_1 (.int .u8 95)) fun x108_1 =>
    purK (gPur (wantV x108_1 true) (some x8)) fun x110_1 =>
    purK (pickA x108_1 x110_1 (.bool false)) fun x111_1 =>
    condK x111_1
    (
      N79_8 ρ call yc lim k x1 x8 x9 x10 x11 (.bool true) x13 x99 x100 x101 H kn)
    (
      purK (binA Tryd.prog H .leq 5 (.int .u8 48) x104_1) fun x114_1 =>
      purK (gPur (wantV x114_1 true) (some x104_1)) fun x116_1 =>
      purK (gPur (wantV x114_1 true) (binA Tryd.prog H .leq 5 x116_1 (.int .u8 57))) fun x117_1 =>
      purK (pickA x114_1 x117_1 (.bool false)) fun x118_1 =>
      condK x118_1
      (
        purK (binA Tryd.prog H .sub 5 x104_1 (.int .u8 48)) fun x120_1 =>
        N79_9 ρ call yc lim k x1 x8 x9 x10 x11 x12 x13 x120_1 x99 x100 x101 H (fun x12_1 x13_1 x101_1 H =>
          N79_8 ρ call yc lim k x1 x8 x9 x10 x11 x12_1 x13_1 x99 x100 x101_1 H kn) R)
      (
        resK (call lim 88 [x104_1] H) fun x123_1 H =>
        purK (binA Tryd.prog H .leq 5 (.int .u8 97) x123_1) fun x124_1 =>
        purK (gPur (wantV x124_1 true) (some x104_1)) fun x126_1 =>
        resK (gRes (wantV x124_1 true) H (call lim 88 [x126_1] H)) fun x127_1 H =>
        purK (gPur (wantV x124_1 true) (binA Tryd.prog H .leq 5 x127_1 (.int .u8 122))) fun x128_1 =>
        purK (pickA x124_1 x128_1 (.bool false)) fun x129_1 =>
        N79_14 ρ call yc lim k x1 x8 x9 x10 x11 x12 x13 x104_1 x99 x100 x101 x129_1 H (fun x12_2 x13_2 x16_1 x101_2 H =>
          N79_9 ρ call yc lim k x1 x8 x9 x10 x11 x12_2 x13_2 x16_1 x99 x100 x101_2 H (fun x12_3 x13_3 x101_3 H =>
            N79_8 ρ call yc lim k x1 x8 x9 x10 x11 x12_3 x13_3 x99 x100 x101_3 H kn) R) R)))
  (
    k3 x9 x12 x13 H)
theorem N79_7b_x (ρ : Addr → Option Value) (call : CallF) (yc : YieldF) (lim k : Nat) (J : CodeF) (x1 x8 x9 x10 x11 x12 x13 x99 x100 x101 : AV) (H : Heap) (kn : KS) (k3 : KS) (R : List AV → Heap → Res) :
    evX (cx ρ) call yc false 79 lim k J (Code.at [1, 1, 1, 1, 1, 1, 1, 1, 1, 1, 1, 0, 1, 0, 0] c79) (sp 172 [(1, x1), (8, x8), (9, x9), (10, x10), (11, x11), (12, x12), (13, x13), (99, x99), (100, x100), (101, x101)]) H (kk (some [1, 8, 9, 10, 11, 12, 13, 99, 100, 101]) kn [(3, (some [9, 12, 13]), k3)] R [6, 7]) =
  purK (binA Tryd.prog H .lss 3 x101 x100) fun x102_1 =>
  condK x102_1
  (
    purK (ixS 1 x99 x101) fun x103_1 =>
    purK (ld1 ρ H x103_1) fun x104_1 =>
    purK (binA Tryd.prog H .eql 5 x104_1 (.int .u8 95)) fun x108_1 =>
    purK (gPur (wantV x108_1 true) (some x8)) fun x110_1 =>
    purK (pickA x108_1 x110_1 (.bool false)) fun x111_1 =>
    condK x111_1
    (
      J (Code.at [1, 1, 1, 1, 1, 1, 1, 1, 1, 1, 1, 0, 1, 0, 0, 1, 1, 1] c79) (sp 172 [(1, x1), (8, x8), (9, x9), (10, x10), (11, x11), (12, (.bool true)), (13, x13), (99, x99), (100, x100), (101, x101)]) H (kk (some [1, 8, 9, 10, 11, 12, 13, 99, 100, 101]) kn [(3, (some [9, 12, 13]), k3)] R [6, 7]))
    (
      purK (binA Tryd.prog H .leq 5 (.int .u8 48) x104_1) fun x114_1 =>
      purK (gPur (wantV x114_1 true) (some x104_1)) fun x116_1 =>
      purK (gPur (wantV x114_1 true) (binA Tryd.prog H .leq 5 x116_1 (.int .u8 57))) fun x117_1 =>
      purK (pickA x114_1 x117_1 (.bool false)) fun x118_1 =>
      condK x118_1
      (
        purK (binA Tryd.prog H .sub 5 x104_1 (.int .u8 48)) fun x120_1 =>
        J (Code.at [1, 1, 1, 1, 1, 1, 1, 1, 1, 1, 1, 0, 1, 0, 0, 1, 1, 0, 0, 1, 1, 1] c79) (sp 172 [(1, x1), (8, x8), (9, x9), (10, x10), (11, x11), (12, x12), (13, x13), (16, x120_1), (99, x99), (100, x100), (101, x101)]) H (kk (some [1, 8, 9, 10, 11, 12, 13, 99, 100, 101]) (fun s H => J (Code.at [1, 1, 1, 1, 1, 1, 1, 1, 1, 1, 1, 0, 1, 0, 0, 1, 1, 1] c79) s H (kk (some [1, 8, 9, 10, 11, 12, 13, 99, 100, 101]) kn [(3, (some [9, 12, 13]), k3)] R [6, 7])) [(4, (some [1, 8, 9, 10, 11, 12, 13, 99, 100, 101]), (fun s H => J (Code.at [1, 1, 1, 1, 1, 1, 1, 1, 1, 1, 1, 0, 1, 0, 0, 1, 1, 1] c79) s H (kk (some [1, 8, 9, 10, 11, 12, 13, 99, 100, 101]) kn [(3, (some [9, 12, 13]), k3)] R [6, 7]))), (3, (some [9, 12, 13]), k3)] R [6, 7]))
      (
        resK (call lim 88 [x104_1] H) fun x123_1 H =>
        purK (binA Tryd.prog H .leq 5 (.int .u8 97) x123_1) fun x124_1 =>
        purK (gPur (wantV x124_1 true) (some x104_1)) fun x126_1 =>
        resK (gRes (wantV x124_1 true) H (call lim 88 [x126_1] H)) fun x127_1 H =>
        purK (gPur (wantV x124_1 true) (binA Tryd.prog H .leq 5 x127_1 (.int .u8 122))) fun x128_1 =>
        purK (pickA x124_1 x128_1 (.bool false)) fun x129_1 =>
        J (Code.at [1, 1, 1, 1, 1, 1, 1, 1, 1, 1, 1, 0, 1, 0, 0, 1, 1, 0, 0, 1, 1, 0, 0, 1, 1, 1, 1, 1] c79) (sp 172 [(1, x1), (8, x8), (9, x9), (10, x10), (11, x11), (12, x12), (13, x13), (15, x104_1), (99, x99), (100, x100), (101, x101), (121, x129_1)]) H (kk (some [1, 8, 9, 10, 11, 12, 13, 16, 99, 100, 101]) (fun s H => J (Code.at [1, 1, 1, 1, 1, 1, 1, 1, 1, 1, 1, 0, 1, 0, 0, 1, 1, 0, 0, 1, 1, 1] c79) s H (kk (some [1, 8, 9, 10, 11, 12, 13, 99, 100, 101]) (fun s H => J (Code.at [1, 1, 1, 1, 1, 1, 1, 1, 1, 1, 1, 0, 1, 0, 0, 1, 1, 1] c79) s H (kk (some [1, 8, 9, 10, 11, 12, 13, 99, 100, 101]) kn [(3, (some [9, 12, 13]), k3)] R [6, 7])) [(4, (some [1, 8, 9, 10, 11, 12, 13, 99, 100, 101]), (fun s H => J (Code.at [1, 1, 1, 1, 1, 1, 1, 1, 1, 1, 1, 0, 1, 0, 0, 1, 1, 1] c79) s H (kk (some [1, 8, 9, 10, 11, 12, 13, 99, 100, 101]) kn [(3, (some [9, 12, 13]), k3)] R [6, 7]))), (3, (some [9, 12, 13]), k3)] R [6, 7])) [(5, (some [1, 8, 9, 10, 11, 12, 13, 16, 99, 100, 101]), (fun s H => J (Code.at [1, 1, 1, 1, 1, 1, 1, 1, 1, 1, 1, 0, 1, 0, 0, 1, 1, 0, 0, 1, 1, 1] c79) s H (kk (some [1, 8, 9, 10, 11, 12, 13, 99, 100, 101]) (fun s H => J (Code.at [1, 1, 1, 1, 1, 1, 1, 1, 1, 1, 1, 0, 1, 0, 0, 1, 1, 1] c79) s H (kk (some [1, 8, 9, 10, 11, 12, 13, 99, 100, 101]) kn [(3, (some [9, 12, 13]), k3)] R [6, 7])) [(4, (some [1, 8, 9, 10, 11, 12, 13, 99, 100, 101]), (fun s H => J (Code.at [1, 1, 1, 1, 1, 1, 1, 1, 1, 1, 1, 0, 1, 0, 0, 1, 1, 1] c79) s H (kk (some [1, 8, 9, 10, 11, 12, 13, 99, 100, 101]) kn [(3, (some [9, 12, 13]), k3)] R [6, 7]))), (3, (some [9, 12, 13]), k3)] R [6, 7]))), (4, (some [1, 8, 9, 10, 11, 12, 13, 99, 100, 101]), (fun s H => J (Code.at [1, 1, 1, 1, 1, 1, 1, 1, 1, 1, 1, 0, 1, 0, 0, 1, 1, 1] c79) s H (kk (some [1, 8, 9, 10, 11, 12, 13, 99, 100, 101]) kn [(3, (some [9, 12, 13]), k3)] R [6, 7]))), (3, (some [9, 12, 13]), k3)] R [6, 7]))))
  (
    k3 (sp 172 [(9, x9), (12, x12), (13, x13)]) H) := by
  kernel_rfl
theorem N79_7b_eq (ρ : Addr → Option Value) (call : CallF) (yc : YieldF) (lim k : Nat) (x1 x8 x9 x10 x11 x12 x13 x99 x100 x101 : AV) (H : Heap) (kn : KS) (k3 : KS) (R : List AV → Heap → Res) :
    evL (cx ρ) call yc false 79 lim k (Code.at [1, 1, 1, 1, 1, 1, 1, 1, 1, 1, 1, 0, 1, 0, 0] c79) (sp 172 [(1, x1), (8, x8), (9, x9), (10, x10), (11, x11), (12, x12), (13, x13), (99, x99), (100, x100), (101, x101)]) H (kk (some [1, 8, 9, 10, 11, 12, 13, 99, 100, 101]) kn [(3, (some [9, 12, 13]), k3)] R [6, 7]) = N79_7b ρ call yc lim k x1 x8 x9 x10 x11 x12 x13 x99 x100 x101 H (fun x12 x13 x101 H => kn (sp 172 [(1, x1), (8, x8), (9, x9), (10, x10), (11, x11), (12, x12), (13, x13), (99, x99), (100, x100), (101, x101)]) H) (fun x9 x12 x13 H => k3 (sp 172 [(9, x9), (12, x12), (13, x13)]) H) R := by
  rw [evL_X, N79_7b_x]
  simp only [← evL_X, N79_7b, N79_14_eq, N79_8_eq, N79_9_eq]
noncomputable def N79_7 (ρ : Addr → Option Value) (call : CallF) (yc : YieldF) (lim k : Nat) (x1 x8 x9 x10 x11 x12 x13 x99 x100 x101 : AV) (H : Heap) (k3 : AV → AV → AV → Heap → Res) (R : List AV → Heap → Res) : Res :=
  loopL (fun (x : AV × AV × AV) H kn => N79_7b ρ call yc lim k x1 x8 x9 x10 x11 x.1 x.2.1 x99 x100 x.2.2 H (fun x12 x13 x101 H => kn (x12, x13, x101) H) k3 R) k (x12, x13, x101) H
theorem N79_7_eq (ρ : Addr → Option Value) (call : CallF) (yc : YieldF) (lim k : Nat) (x1 x8 x9 x10 x11 x12 x13 x99 x100 x101 : AV) (H : Heap) (kn : KS) (k3 : KS) (R : List AV → Heap → Res) :
    evL (cx ρ) call yc false 79 lim k (Code.at [1, 1, 1, 1, 1, 1, 1, 1, 1, 1, 1, 0, 1, 0] c79) (sp 172 [(1, x1), (8, x8), (9, x9), (10, x10), (11, x11), (12, x12), (13, x13), (99, x99), (100, x100), (101, x101)]) H (kk (some [9, 12, 13]) kn [(3, (some [9, 12, 13]), k3)] R [6, 7]) = N79_7 ρ call yc lim k x1 x8 x9 x10 x11 x12 x13 x99 x100 x101 H (fun x9 x12 x13 H => k3 (sp 172 [(9, x9), (12, x12), (13, x13)]) H) R := by
  have e : Code.at [1, 1, 1, 1, 1, 1, 1, 1, 1, 1, 1, 0, 1, 0] c79 = .loop (Code.at [1, 1, 1, 1, 1, 1, 1, 1, 1, 1, 1, 0, 1, 0, 0] c79) := by kernel_rfl
  rw [e]
  unfold N79_7
  exact loop_node [1, 8, 9, 10, 11, 12, 13, 99, 100, 101] (fun x : AV × AV × AV => (sp 172 [(1, x1), (8, x8), (9, x9), (10, x10), (11, x11), (12, (x.1)), (13, (x.2.1)), (99, x99), (100, x100), (101, (x.2.2))])) (fun (x : AV × AV × AV) H kn => N79_7b ρ call yc lim k x1 x8 x9 x10 x11 x.1 x.2.1 x99 x100 x.2.2 H (fun x12 x13 x101 H => kn (x12, x13, x101) H) (fun x9 x12 x13 H => k3 (sp 172 [(9, x9), (12, x12), (13, x13)]) H) R) (by kernel_rfl) (fun x => by kernel_rfl) (fun x H kn => N79_7b_eq ρ call yc lim k x1 x8 x9 x10 x11 (x.1) (x.2.1) x99 x100 (x.2.2) H kn k3 R) (x12, x13, x101) (sp 172 [(1, x1), (8, x8), (9, x9), (10, x10), (11, x11), (12, x12), (13, x13), (99, x99), (100, x100), (101, x101)]) H (by kernel_rfl)
noncomputable def N79_6 (ρ : Addr → Option Value) (call : CallF) (yc : YieldF) (lim k : Nat) (x1 x8 x9 x10 x11 x12 x13 x99 x100 x101 : AV) (H : Heap) (kn : AV → AV → AV → Heap → Res) (R : List AV → Heap → Res) : Res :=
  N79_7 ρ call yc lim k x1 x8 x9 x10 x11 x12 x13 x99 x100 x101 H kn R
theorem N79_6_x (ρ : Addr → Option Value) (call : CallF) (yc : YieldF) (lim k : Nat) (J : CodeF) (x1 x8 x9 x10 x11 x12 x13 x99 x100 x101 : AV) (H : Heap) (kn : KS) (R : List AV → Heap → Res) :
    evX (cx ρ) call yc false 79 lim k J (Code.at [1, 1, 1, 1, 1, 1, 1, 1, 1, 1, 1, 0, 1] c79) (sp 172 [(1, x1), (8, x8), (9, x9), (10, x10), (11, x11), (12, x12), (13, x13), (99, x99), (100, x100), (101, x101)]) H (kk (some [9, 12, 13]) kn [] R [6, 7]) =
  J (Code.at [1, 1, 1, 1, 1, 1, 1, 1, 1, 1, 1, 0, 1, 0] c79) (sp 172 [(1, x1), (8, x8), (9, x9), (10, x10), (11, x11), (12, x12), (13, x13), (99, x99), (100, x100), (101, x101)]) H (kk (some [9, 12, 13]) kn [(3, (some [9, 12, 13]), kn)] R [6, 7]) := by
  kernel_rfl
theorem N79_6_eq (ρ : Addr → Option Value) (call : CallF) (yc : YieldF) (lim k : Nat) (x1 x8 x9 x10 x11 x12 x13 x99 x100 x101 : AV) (H : Heap) (kn : KS) (R : List AV → Heap → Res) :
    evL (cx ρ) call yc false 79 lim k (Code.at [1, 1, 1, 1, 1, 1, 1, 1, 1, 1, 1, 0, 1] c79) (sp 172 [(1, x1), (8, x8), (9, x9), (10, x10), (11, x11), (12, x12), (13, x13), (99, x99), (100, x100), (101, x101)]) H (kk (some [9, 12, 13]) kn [] R [6, 7]) = N79_6 ρ call yc lim k x1 x8 x9 x10 x11 x12 x13 x99 x100 x101 H (fun x9 x12 x13 H => kn (sp 172 [(9, x9), (12, x12), (13, x13)]) H) R := by
  rw [evL_X, N79_6_x]
  simp only [← evL_X, N79_6, N79_7_eq]
noncomputable def N79_4 (ρ : Addr → Option Value) (call : CallF) (yc : YieldF) (lim k : Nat) (x0 x1 x8 x9 x10 x11 : AV) (H : Heap) (R : List AV → Heap → Res) : Res :=
  effK H (s2bT H 5 x0) fun x99_1 H =>
  purK (lenS x99_1) fun x100_1 =>
  N79_6 ρ call yc lim k x1 x8 x9 x10 x11 (.bool false) (.int .u64 0) x99_1 x100_1 (.int .i64 0) H (fun x9_1 x12_1 x13_1 H =>
    N79_5 ρ call yc lim k x9_1 x12_1 x13_1 H R) R
theorem N79_4_x (ρ : Addr → Option Value) (call : CallF) (yc : YieldF) (lim k : Nat) (J : CodeF) (x0 x1 x8 x9 x10 x11 : AV) (H : Heap) (R : List AV → Heap → Res) :
    evX (cx ρ) call yc false 79 lim k J (Code.at [1, 1, 1, 1, 1, 1, 1, 1, 1] c79) (sp 172 [(0, x0), (1, x1), (8, x8), (9, x9), (10, x10), (11, x11)]) H (kk none (fun s H => R (([6, 7] : List Nat).map fun t => s.getD t (.tup [])) H) [] R [6, 7]) =
  effK H (s2bT H 5 x0) fun x99_1 H =>
  purK (lenS x99_1) fun x100_1 =>
  J (Code.at [1, 1, 1, 1, 1, 1, 1, 1, 1, 1, 1, 0, 1] c79) (sp 172 [(1, x1), (8, x8), (9, x9), (10, x10), (11, x11), (12, (.bool false)), (13, (.int .u64 0)), (99, x99_1), (100, x100_1), (101, (.int .i64 0))]) H (kk (some [9, 12, 13]) (fun s H => J (Code.at [1, 1, 1, 1, 1, 1, 1, 1, 1, 1, 1, 1] c79) s H (kk none (fun s H => R (([6, 7] : List Nat).map fun t => s.getD t (.tup [])) H) [] R [6, 7])) [] R [6, 7]) := by
  kernel_rfl
theorem N79_4_eq (ρ : Addr → Option Value) (call : CallF) (yc : YieldF) (lim k : Nat) (x0 x1 x8 x9 x10 x11 : AV) (H : Heap) (R : List AV → Heap → Res) :
    evL (cx ρ) call yc false 79 lim k (Code.at [1, 1, 1, 1, 1, 1, 1, 1, 1] c79) (sp 172 [(0, x0), (1, x1), (8, x8), (9, x9), (10, x10), (11, x11)]) H (kk none (fun s H => R (([6, 7] : List Nat).map fun t => s.getD t (.tup [])) H) [] R [6, 7]) = N79_4 ρ call yc lim k x0 x1 x8 x9 x10 x11 H R := by
  rw [evL_X, N79_4_x]
  simp only [← evL_X, N79_4, N79_5_eq, N79_6_eq]
noncomputable def N79_3 (ρ : Addr → Option Value) (call : CallF) (yc : YieldF) (lim k : Nat) (x0 x1 x2 x8 x9 x10 : AV) (H : Heap) (R : List AV → Heap → Res) : Res :=
  purK (cvI .u64 x2) fun x95_1 =>
  purK (binA Tryd.prog H .shl 38 (.int .u64 1) x95_1) fun x96_1 =>
  purK (binA Tryd.prog H .sub 38 x96_1 (.int .u64 1)) fun x97_1 =>
  N79_4 ρ call yc lim k x0 x1 x8 x9 x10 x97_1 H R
theorem N79_3_x (ρ : Addr → Option Value) (call : CallF) (yc : YieldF) (lim k : Nat) (J : CodeF) (x0 x1 x2 x8 x9 x10 : AV) (H : Heap) (R : List AV → Heap → Res) :
    evX (cx ρ) call yc false 79 lim k J (Code.at [1, 1, 1, 1, 1, 1, 1, 1] c79) (sp 172 [(0, x0), (1, x1), (2, x2), (8, x8), (9, x9), (10, x10)]) H (kk none (fun s H => R (([6, 7] : List Nat).map fun t => s.getD t (.tup [])) H) [] R [6, 7]) =
  purK (cvI .u64 x2) fun x95_1 =>
  purK (binA Tryd.prog H .shl 38 (.int .u64 1) x95_1) fun x96_1 =>
  purK (binA Tryd.prog H .sub 38 x96_1 (.int .u64 1)) fun x97_1 =>
  J (Code.at [1, 1, 1, 1, 1, 1, 1, 1, 1] c79) (sp 172 [(0, x0), (1, x1), (8, x8), (9, x9), (10, x10), (11, x97_1)]) H (kk none (fun s H => R (([6, 7] : List Nat).map fun t => s.getD t (.tup [])) H) [] R [6, 7]) := by
  kernel_rfl
theorem N79_3_eq (ρ : Addr → Option Value) (call : CallF) (yc : YieldF) (lim k : Nat) (x0 x1 x2 x8 x9 x10 : AV) (H : Heap) (R : List AV → Heap → Res) :
    evL (cx ρ) call yc false 79 lim k (Code.at [1, 1, 1, 1, 1, 1, 1, 1] c79) (sp 172 [(0, x0), (1, x1), (2, x2), (8, x8), (9, x9), (10, x10)]) H (kk none (fun s H => R (([6, 7] : List Nat).map fun t => s.getD t (.tup [])) H) [] R [6, 7]) = N79_3 ρ call yc lim k x0 x1 x2 x8 x9 x10 H R := by
  rw [evL_X, N79_3_x]
  simp only [← evL_X, N79_3, N79_4_eq]
noncomputable def N79_2 (ρ : Addr → Option Value) (call : CallF) (yc : YieldF) (lim k : Nat) (x0 x1 x2 x8 x9 : AV) (H : Heap) (R : List AV → Heap → Res) : Res :=
  purK (binA Tryd.prog H .eql 3 x1 (.int .i64 10)) fun x91_1 =>
  condK x91_1
  (
    N79_3 ρ call yc lim k x0 x1 x2 x8 x9 (.int .u64 1844674407370955162) H R)
  (
    purK (binA Tryd.prog H .eql 3 x1 (.int .i64 16)) fun x93_1 =>
    condK x93_1
    (
      N79_3 ρ call yc lim k x0 x1 x2 x8 x9 (.int .u64 1152921504606846976) H R)
    (
      purK (cvI .u64 x1) fun x87_1 =>
      purK (binA Tryd.prog H .quo 38 (.int .u64 18446744073709551615) x87_1) fun x88_1 =>
      purK (binA Tryd.prog H .add 38 x88_1 (.int .u64 1)) fun x89_1 =>
      N79_3 ρ call yc lim k x0 x1 x2 x8 x9 x89_1 H R))
theorem N79_2_x (ρ : Addr → Option Value) (call : CallF) (yc : YieldF) (lim k : Nat) (J : CodeF) (x0 x1 x2 x8 x9 : AV) (H : Heap) (R : List AV → Heap → Res) :
    evX (cx ρ) call yc false 79 lim k J (Code.at [1, 1, 1, 1, 1, 1] c79) (sp 172 [(0, x0), (1, x1), (2, x2), (8, x8), (9, x9)]) H (kk none (fun s H => R (([6, 7] : List Nat).map fun t => s.getD t (.tup [])) H) [] R [6, 7]) =
  purK (binA Tryd.prog H .eql 3 x1 (.int .i64 10)) fun x91_1 =>
  condK x91_1
  (
    J (Code.at [1, 1, 1, 1, 1, 1, 1, 1] c79) (sp 172 [(0, x0), (1, x1), (2, x2), (8, x8), (9, x9), (10, (.int .u64 1844674407370955162))]) H (kk none (fun s H => R (([6, 7] : List Nat).map fun t => s.getD t (.tup [])) H) [] R [6, 7]))
  (
    purK (binA Tryd.prog H .eql 3 x1 (.int .i64 16)) fun x93_1 =>
    condK x93_1
    (
      J (Code.at [1, 1, 1, 1, 1, 1, 1, 1] c79) (sp 172 [(0, x0), (1, x1), (2, x2), (8, x8), (9, x9), (10, (.int .u64 1152921504606846976))]) H (kk none (fun s H => R (([6, 7] : List Nat).map fun t => s.getD t (.tup [])) H) [] R [6, 7]))
    (
      purK (cvI .u64 x1) fun x87_1 =>
      purK (binA Tryd.prog H .quo 38 (.int .u64 18446744073709551615) x87_1) fun x88_1 =>
      purK (binA Tryd.prog H .add 38 x88_1 (.int .u64 1)) fun x89_1 =>
      J (Code.at [1, 1, 1, 1, 1, 1, 1, 1] c79) (sp 172 [(0, x0), (1, x1), (2, x2), (8, x8), (9, x9), (10, x89_1)]) H (kk none (fun s H => R (([6, 7] : List Nat).map fun t => s.getD t (.tup [])) H) [] R [6, 7]))) := by
  kernel_rfl
theorem N79_2_eq (ρ : Addr → Option Value) (call : CallF) (yc : YieldF) (lim k : Nat) (x0 x1 x2 x8 x9 : AV) (H : Heap) (R : List AV → Heap → Res) :
    evL (cx ρ) call yc false 79 lim k (Code.at [1, 1, 1, 1, 1, 1] c79) (sp 172 [(0, x0), (1, x1), (2, x2), (8, x8), (9, x9)]) H (kk none (fun s H => R (([6, 7] : List Nat).map fun t => s.getD t (.tup [])) H) [] R [6, 7]) = N79_2 ρ call yc lim k x0 x1 x2 x8 x9 H R := by
  rw [evL_X, N79_2_x]
  simp only [← evL_X, N79_2, N79_3_eq]
noncomputable def N79_1 (ρ : Addr → Option Value) (call : CallF) (yc : YieldF) (lim k : Nat) (x0 x1 x2 x8 x9 : AV) (H : Heap) (R : List AV → Heap → Res) : Res :=
  purK (binA Tryd.prog H .eql 3 x2 (.int .i64 0)) fun x77_1 =>
  condK x77_1
  (
    N79_2 ρ call yc lim k x0 x1 (.int .i64 64) x8 x9 H R)
  (
    purK (binA Tryd.prog H .lss 3 x2 (.int .i64 0)) fun x79_1 =>
    purK (gPur (wantV x79_1 false) (some x2)) fun x81_1 =>
    purK (gPur (wantV x79_1 false) (binA Tryd.prog H .gtr 3 x81_1 (.int .i64 64))) fun x82_1 =>
    purK (pickA x79_1 (.bool true) x82_1) fun x83_1 =>
    condK x83_1
    (
      R [(.int .u64 0), (.ifc 115 (.int .i64 4))] H)
    (
      N79_2 ρ call yc lim k x0 x1 x2 x8 x9 H R))
theorem N79_1_x (ρ : Addr → Option Value) (call : CallF) (yc : YieldF) (lim k : Nat) (J : CodeF) (x0 x1 x2 x8 x9 : AV) (H : Heap) (R : List AV → Heap → Res) :
    evX (cx ρ) call yc false 79 lim k J (Code.at [1, 1, 1, 1, 1] c79) (sp 172 [(0, x0), (1, x1), (2, x2), (8, x8), (9, x9)]) H (kk none (fun s H => R (([6, 7] : List Nat).map fun t => s.getD t (.tup [])) H) [] R [6, 7]) =
  purK (binA Tryd.prog H .eql 3 x2 (.int .i64 0)) fun x77_1 =>
  condK x77_1
  (
    J (Code.at [1, 1, 1, 1, 1, 1] c79) (sp 172 [(0, x0), (1, x1), (2, (.int .i64 64)), (8, x8), (9, x9)]) H (kk none (fun s H => R (([6, 7] : List Nat).map fun t => s.getD t (.tup [])) H) [] R [6, 7]))
  (
    purK (binA Tryd.prog H .lss 3 x2 (.int .i64 0)) fun x79_1 =>
    purK (gPur (wantV x79_1 false) (some x2)) fun x81_1 =>
    purK (gPur (wantV x79_1 false) (binA Tryd.prog H .gtr 3 x81_1 (.int .i64 64))) fun x82_1 =>
    purK (pickA x79_1 (.bool true) x82_1) fun x83_1 =>
    condK x83_1
    (
      R [(.int .u64 0), (.ifc 115 (.int .i64 4))] H)
    (
      J (Code.at [1, 1, 1, 1, 1, 1] c79) (sp 172 [(0, x0), (1, x1), (2, x2), (8, x8), (9, x9)]) H (kk none (fun s H => R (([6, 7] : List Nat).map fun t => s.getD t (.tup [])) H) [] R [6, 7]))) := by
  kernel_rfl
theorem N79_1_eq (ρ : Addr → Option Value) (call : CallF) (yc : YieldF) (lim k : Nat) (x0 x1 x2 x8 x9 : AV) (H : Heap) (R : List AV → Heap → Res) :
    evL (cx ρ) call yc false 79 lim k (Code.at [1, 1, 1, 1, 1] c79) (sp 172 [(0, x0), (1, x1), (2, x2), (8, x8), (9, x9)]) H (kk none (fun s H => R (([6, 7] : List Nat).map fun t => s.getD t (.tup [])) H) [] R [6, 7]) = N79_1 ρ call yc lim k x0 x1 x2 x8 x9 H R := by
  rw [evL_X, N79_1_x]
  simp only [← evL_X, N79_1, N79_2_eq]
noncomputable def N79_16 (ρ : Addr → Option Value) (call : CallF) (yc : YieldF) (lim k : Nat) (x0 x2 x8 x9 x64 : AV) (H : Heap) (kn : AV → AV → AV → AV → AV → Heap → Res) : Res :=
  condK x64
  (
    purK (slT x0 (some (.int .i64 2)) none) fun x75_1 =>
    kn x75_1 (.int .i64 16) x2 x8 x9 H)
  (
    purK (slT x0 (some (.int .i64 1)) none) fun x39_1 =>
    kn x39_1 (.int .i64 8) x2 x8 x9 H)
theorem N79_16_eq (ρ : Addr → Option Value) (call : CallF) (yc : YieldF) (lim k : Nat) (x0 x2 x8 x9 x64 : AV) (H : Heap) (kn : KS) (k1 : KS) (k0 : KS) (R : List AV → Heap → Res) :
    evL (cx ρ) call yc false 79 lim k (Code.at [1, 1, 1, 1, 0, 0, 1, 1, 1, 0, 1, 1, 0, 0, 1, 1, 1, 1, 1] c79) (sp 172 [(0, x0), (2, x2), (8, x8), (9, x9), (64, x64)]) H (kk (some [0, 1, 2, 8, 9]) kn [(1, (some [0, 1, 2, 8, 9]), k1), (0, (some [0, 1, 2, 8, 9]), k0)] R [6, 7]) = N79_16 ρ call yc lim k x0 x2 x8 x9 x64 H (fun x0 x1 x2 x8 x9 H => kn (sp 172 [(0, x0), (1, x1), (2, x2), (8, x8), (9, x9)]) H) := by
  kernel_rfl
noncomputable def N79_15 (ρ : Addr → Option Value) (call : CallF) (yc : YieldF) (lim k : Nat) (x0 x1 x2 x8 x9 x37 : AV) (H : Heap) (kn : AV → AV → AV → AV → AV → Heap → Res) : Res :=
  condK x37
  (
    purK (lenT x0) fun x42_1 =>
    purK (binA Tryd.prog H .geq 3 x42_1 (.int .i64 3)) fun x43_1 =>
    purK (gPur (wantV x43_1 true) (some x0)) fun x45_1 =>
    purK (gPur (wantV x43_1 true) (ixT x45_1 (.int .i64 1))) fun x46_1 =>
    resK (gRes (wantV x43_1 true) H (call lim 88 [x46_1] H)) fun x47_1 H =>
    purK (gPur (wantV x43_1 true) (binA Tryd.prog H .eql 5 x47_1 (.int .u8 98))) fun x48_1 =>
    purK (pickA x43_1 x48_1 (.bool false)) fun x49_1 =>
    condK x49_1
    (
      purK (slT x0 (some (.int .i64 2)) none) fun x51_1 =>
      kn x51_1 (.int .i64 2) x2 x8 x9 H)
    (
      purK (lenT x0) fun x54_1 =>
      purK (binA Tryd.prog H .geq 3 x54_1 (.int .i64 3)) fun x55_1 =>
      purK (gPur (wantV x55_1 true) (some x0)) fun x57_1 =>
      purK (gPur (wantV x55_1 true) (ixT x57_1 (.int .i64 1))) fun x58_1 =>
      resK (gRes (wantV x55_1 true) H (call lim 88 [x58_1] H)) fun x59_1 H =>
      purK (gPur (wantV x55_1 true) (binA Tryd.prog H .eql 5 x59_1 (.int .u8 111))) fun x60_1 =>
      purK (pickA x55_1 x60_1 (.bool false)) fun x61_1 =>
      condK x61_1
      (
        purK (slT x0 (some (.int .i64 2)) none) fun x63_1 =>
        kn x63_1 (.int .i64 8) x2 x8 x9 H)
      (
        purK (lenT x0) fun x66_1 =>
        purK (binA Tryd.prog H .geq 3 x66_1 (.int .i64 3)) fun x67_1 =>
        purK (gPur (wantV x67_1 true) (some x0)) fun x69_1 =>
        purK (gPur (wantV x67_1 true) (ixT x69_1 (.int .i64 1))) fun x70_1 =>
        resK (gRes (wantV x67_1 true) H (call lim 88 [x70_1] H)) fun x71_1 H =>
        purK (gPur (wantV x67_1 true) (binA Tryd.prog H .eql 5 x71_1 (.int .u8 120))) fun x72_1 =>
        purK (pickA x67_1 x72_1 (.bool false)) fun x73_1 =>
        N79_16 ρ call yc lim k x0 x2 x8 x9 x73_1 H kn)))
  (
    kn x0 x1 x2 x8 x9 H)
theorem N79_15_x (ρ : Addr → Option Value) (call : CallF) (yc : YieldF) (lim k : Nat) (J : CodeF) (x0 x1 x2 x8 x9 x37 : AV) (H : Heap) (kn : KS) (k0 : KS) (R : List AV → Heap → Res) :
    evX (cx ρ) call yc false 79 lim k J (Code.at [1, 1, 1, 1, 0, 0, 1, 1, 1, 0, 1, 1] c79) (sp 172 [(0, x0), (1, x1), (2, x2), (8, x8), (9, x9), (37, x37)]) H (kk (some [0, 1, 2, 8, 9]) kn [(0, (some [0, 1, 2, 8, 9]), k0)] R [6, 7]) =
  condK x37
  (
    purK (lenT x0) fun x42_1 =>
    purK (binA Tryd.prog H .geq 3 x42_1 (.int .i64 3)) fun x43_1 =>
    purK (gPur (wantV x43_1 true) (some x0)) fun x45_1 =>
    purK (gPur (wantV x43_1 true) (ixT x45_1 (.int .i64 1))) fun x46_1 =>
    resK (gRes (wantV x43_1 true) H (call lim 88 [x46_1] H)) fun x47_1 H =>
    purK (gPur (wantV x43_1 true) (binA Tryd.prog H .eql 5 x47_1 (.int .u8 98))) fun x48_1 =>
    purK (pickA x43_1 x48_1 (.bool false)) fun x49_1 =>
    condK x49_1
    (
      purK (slT x0 (some (.int .i64 2)) none) fun x51_1 =>
      kn (sp 172 [(0, x51_1), (1, (.int .i64 2)), (2, x2), (8, x8), (9, x9)]) H)
    (
      purK (lenT x0) fun x54_1 =>
      purK (binA Tryd.prog H .geq 3 x54_1 (.int .i64 3)) fun x55_1 =>
      purK (gPur (wantV x55_1 true) (some x0)) fun x57_1 =>
      purK (gPur (wantV x55_1 true) (ixT x57_1 (.int .i64 1))) fun x58_1 =>
      resK (gRes (wantV x55_1 true) H (call lim 88 [x58_1] H)) fun x59_1 H =>
      purK (gPur (wantV x55_1 true) (binA Tryd.prog H .eql 5 x59_1 (.int .u8 111))) fun x60_1 =>
      purK (pickA x55_1 x60_1 (.bool false)) fun x61_1 =>
      condK x61_1
      (
        purK (slT x0 (some (.int .i64 2)) none) fun x63_1 =>
        kn (sp 172 [(0, x63_1), (1, (.int .i64 8)), (2, x2), (8, x8), (9, x9)]) H)
      (
        purK (lenT x0) fun x66_1 =>
        purK (binA Tryd.prog H .geq 3 x66_1 (.int .i64 3)) fun x67_1 =>
        purK (gPur (wantV x67_1 true) (some x0)) fun x69_1 =>
        purK (gPur (wantV x67_1 true) (ixT x69_1 (.int .i64 1))) fun x70_1 =>
        resK (gRes (wantV x67_1 true) H (call lim 88 [x70_1] H)) fun x71_1 H =>
        purK (gPur (wantV x67_1 true) (binA Tryd.prog H .eql 5 x71_1 (.int .u8 120))) fun x72_1 =>
        purK (pickA x67_1 x72_1 (.bool false)) fun x73_1 =>
        J (Code.at [1, 1, 1, 1, 0, 0, 1, 1, 1, 0, 1, 1, 0, 0, 1, 1, 1, 1, 1] c79) (sp 172 [(0, x0), (2, x2), (8, x8), (9, x9), (64, x73_1)]) H (kk (some [0, 1, 2, 8, 9]) kn [(1, (some [0, 1, 2, 8, 9]), kn), (0, (some [0, 1, 2, 8, 9]), k0)] R [6, 7]))))
  (
    kn (sp 172 [(0, x0), (1, x1), (2, x2), (8, x8), (9, x9)]) H) := by
  kernel_rfl
theorem N79_15_eq (ρ : Addr → Option Value) (call : CallF) (yc : YieldF) (lim k : Nat) (x0 x1 x2 x8 x9 x37 : AV) (H : Heap) (kn : KS) (k0 : KS) (R : List AV → Heap → Res) :
    evL (cx ρ) call yc false 79 lim k (Code.at [1, 1, 1, 1, 0, 0, 1, 1, 1, 0, 1, 1] c79) (sp 172 [(0, x0), (1, x1), (2, x2), (8, x8), (9, x9), (37, x37)]) H (kk (some [0, 1, 2, 8, 9]) kn [(0, (some [0, 1, 2, 8, 9]), k0)] R [6, 7]) = N79_15 ρ call yc lim k x0 x1 x2 x8 x9 x37 H (fun x0 x1 x2 x8 x9 H => kn (sp 172 [(0, x0), (1, x1), (2, x2), (8, x8), (9, x9)]) H) := by
  rw [evL_X, N79_15_x]
  simp only [← evL_X, N79_15, N79_16_eq]
noncomputable def L79 (ρ : Addr → Option Value) (call : CallF) (yc : YieldF) (lim k : Nat) (x0 x1 x2 : AV) (H : Heap) : Res :=
  purK (binA Tryd.prog H .eql 9 x0 (.str (ByteArray.mk #[]))) fun x19 =>
  condK x19
  (
    retK [(.int .u64 0), (.ifc 115 (.int .i64 2))] H)
  (
    purK (binA Tryd.prog H .eql 3 x1 (.int .i64 0)) fun x22 =>
    purK (binA Tryd.prog H .leq 3 (.int .i64 2) x1) fun x27 =>
    purK (gPur (wantV x27 true) (some x1)) fun x29 =>
    purK (gPur (wantV x27 true) (binA Tryd.prog H .leq 3 x29 (.int .i64 36))) fun x30 =>
    purK (pickA x27 x30 (.bool false)) fun x31 =>
    condK x31
    (
      N79_1 ρ call yc lim k x0 x1 x2 x22 x0 H retK)
    (
      purK (binA Tryd.prog H .eql 3 x1 (.int .i64 0)) fun x34 =>
      condK x34
      (
        purK (ixT x0 (.int .i64 0)) fun x36 =>
        purK (binA Tryd.prog H .eql 5 x36 (.int .u8 48)) fun x37 =>
        N79_15 ρ call yc lim k x0 (.int .i64 10) x2 x22 x0 x37 H (fun x0_1 x1_1 x2_1 x8 x9 H =>
          N79_1 ρ call yc lim k x0_1 x1_1 x2_1 x8 x9 H retK))
      (
        retK [(.int .u64 0), (.ifc 115 (.int .i64 3))] H)))
theorem L79_x (ρ : Addr → Option Value) (call : CallF) (yc : YieldF) (lim k : Nat) (J : CodeF) (x0 x1 x2 : AV) (H : Heap) :
    evX (cx ρ) call yc false 79 lim k J c79 [x0, x1, x2, (.tup []), (.tup []), (.tup []), (.tup []), (.tup []), (.tup []), (.tup []), (.tup []), (.tup []), (.tup []), (.tup []), (.tup []), (.tup []), (.tup []), (.tup []), (.tup []), (.tup []), (.tup []), (.tup []), (.tup []), (.tup []), (.tup []), (.tup []), (.tup []), (.tup []), (.tup []), (.tup []), (.tup []), (.tup []), (.tup []), (.tup []), (.tup []), (.tup []), (.tup []), (.tup []), (.tup []), (.tup []), (.tup []), (.tup []), (.tup []), (.tup []), (.tup []), (.tup []), (.tup []), (.tup []), (.tup []), (.tup []), (.tup []), (.tup []), (.tup []), (.tup []), (.tup []), (.tup []), (.tup []), (.tup []), (.tup []), (.tup []), (.tup []), (.tup []), (.tup []), (.tup []), (.tup []), (.tup []), (.tup []), (.tup []), (.tup []), (.tup []), (.tup []), (.tup []), (.tup []), (.tup []), (.tup []), (.tup []), (.tup []), (.tup []), (.tup []), (.tup []), (.tup []), (.tup []), (.tup []), (.tup []), (.tup []), (.tup []), (.tup []), (.tup []), (.tup []), (.tup []), (.tup []), (.tup []), (.tup []), (.tup []), (.tup []), (.tup []), (.tup []), (.tup []), (.tup []), (.tup []), (.tup []), (.tup []), (.tup []), (.tup []), (.tup []), (.tup []), (.tup []), (.tup []), (.tup []), (.tup []), (.tup []), (.tup []), (.tup []), (.tup []), (.tup []), (.tup []), (.tup []), (.tup []), (.tup []), (.tup []), (.tup []), (.tup []), (.tup []), (.tup []), (.tup []), (.tup []), (.tup []), (.tup []), (.tup []), (.tup []), (.tup []), (.tup []), (.tup []), (.tup []), (.tup []), (.tup []), (.tup []), (.tup []), (.tup []), (.tup []), (.tup []), (.tup []), (.tup []), (.tup []), (.tup []), (.tup []), (.tup []), (.tup []), (.tup []), (.tup []), (.tup []), (.tup []), (.tup []), (.tup []), (.tup []), (.tup []), (.tup []), (.tup []), (.tup []), (.tup []), (.tup []), (.tup []), (.tup []), (.tup []), (.tup []), (.tup []), (.tup []), (.tup []), (.tup []), (.tup []), (.tup []), (.tup [])] H (kk none (fun s H => retK (([6, 7] : List Nat).map fun t => s.getD t (.tup [])) H) [] retK [6, 7]) =
  purK (binA Tryd.prog H .eql 9 x0 (.str (ByteArray.mk #[]))) fun x19 =>
  condK x19
  (
    retK [(.int .u64 0), (.ifc 115 (.int .i64 2))] H)
  (
    purK (binA Tryd.prog H .eql 3 x1 (.int .i64 0)) fun x22 =>
    purK (binA Tryd.prog H .leq 3 (.int .i64 2) x1) fun x27 =>
    purK (gPur (wantV x27 true) (some x1)) fun x29 =>
    purK (gPur (wantV x27 true) (binA Tryd.prog H .leq 3 x29 (.int .i64 36))) fun x30 =>
    purK (pickA x27 x30 (.bool false)) fun x31 =>
    condK x31
    (
      J (Code.at [1, 1, 1, 1, 1] c79) (sp 172 [(0, x0), (1, x1), (2, x2), (8, x22), (9, x0)]) H (kk none (fun s H => retK (([6, 7] : List Nat).map fun t => s.getD t (.tup [])) H) [] retK [6, 7]))
    (
      purK (binA Tryd.prog H .eql 3 x1 (.int .i64 0)) fun x34 =>
      condK x34
      (
        purK (ixT x0 (.int .i64 0)) fun x36 =>
        purK (binA Tryd.prog H .eql 5 x36 (.int .u8 48)) fun x37 =>
        J (Code.at [1, 1, 1, 1, 0, 0, 1, 1, 1, 0, 1, 1] c79) (sp 172 [(0, x0), (1, (.int .i64 10)), (2, x2), (8, x22), (9, x0), (37, x37)]) H (kk (some [0, 1, 2, 8, 9]) (fun s H => J (Code.at [1, 1, 1, 1, 1] c79) s H (kk none (fun s H => retK (([6, 7] : List Nat).map fun t => s.getD t (.tup [])) H) [] retK [6, 7])) [(0, (some [0, 1, 2, 8, 9]), (fun s H => J (Code.at [1, 1, 1, 1, 1] c79) s H (kk none (fun s H => retK (([6, 7] : List Nat).map fun t => s.getD t (.tup [])) H) [] retK [6, 7])))] retK [6, 7]))
      (
        retK [(.int .u64 0), (.ifc 115 (.int .i64 3))] H))) := by
  kernel_rfl
theorem G79 (ρ : Addr → Option Value) (call : CallF) (yc : YieldF) (lim k : Nat) (x0 x1 x2 : AV) (H : Heap) :
    evL (cx ρ) call yc false 79 lim k c79 [x0, x1, x2, (.tup []), (.tup []), (.tup []), (.tup []), (.tup []), (.tup []), (.tup []), (.tup []), (.tup []), (.tup []), (.tup []), (.tup []), (.tup []), (.tup []), (.tup []), (.tup []), (.tup []), (.tup []), (.tup []), (.tup []), (.tup []), (.tup []), (.tup []), (.tup []), (.tup []), (.tup []), (.tup []), (.tup []), (.tup []), (.tup []), (.tup []), (.tup []), (.tup []), (.tup []), (.tup []), (.tup []), (.tup []), (.tup []), (.tup []), (.tup []), (.tup []), (.tup []), (.tup []), (.tup []), (.tup []), (.tup []), (.tup []), (.tup []), (.tup []), (.tup []), (.tup []), (.tup []), (.tup []), (.tup []), (.tup []), (.tup []), (.tup []), (.tup []), (.tup []), (.tup []), (.tup []), (.tup []), (.tup []), (.tup []), (.tup []), (.tup []), (.tup []), (.tup []), (.tup []), (.tup []), (.tup []), (.tup []), (.tup []), (.tup []), (.tup []), (.tup []), (.tup []), (.tup []), (.tup []), (.tup []), (.tup []), (.tup []), (.tup []), (.tup []), (.tup []), (.tup []), (.tup []), (.tup []), (.tup []), (.tup []), (.tup []), (.tup []), (.tup []), (.tup []), (.tup []), (.tup []), (.tup []), (.tup []), (.tup []), (.tup []), (.tup []), (.tup []), (.tup []), (.tup []), (.tup []), (.tup []), (.tup []), (.tup []), (.tup []), (.tup []), (.tup []), (.tup []), (.tup []), (.tup []), (.tup []), (.tup []), (.tup []), (.tup []), (.tup []), (.tup []), (.tup []), (.tup []), (.tup []), (.tup []), (.tup []), (.tup []), (.tup []), (.tup []), (.tup []), (.tup []), (.tup []), (.tup []), (.tup []), (.tup []), (.tup []), (.tup []), (.tup []), (.tup []), (.tup []), (.tup []), (.tup []), (.tup []), (.tup []), (.tup []), (.tup []), (.tup []), (.tup []), (.tup []), (.tup []), (.tup []), (.tup []), (.tup []), (.tup []), (.tup []), (.tup []), (.tup []), (.tup []), (.tup []), (.tup []), (.tup []), (.tup []), (.tup []), (.tup []), (.tup []), (.tup []), (.tup []), (.tup []), (.tup []), (.tup [])] H (kk none (fun s H => retK (([6, 7] : List Nat).map fun t => s.getD t (.tup [])) H) [] retK [6, 7]) = L79 ρ call yc lim k x0 x1 x2 H := by
  rw [evL_X, L79_x]
  simp only [← evL_X, L79, N79_15_eq, N79_1_eq]
theorem E79 (ρ : Addr → Option Value) (k lim : Nat) (x0 x1 x2 : AV) (H : Heap) : evCall (cx ρ) (k + 1) lim 79 [x0, x1, x2] H = L79 ρ (evCall (cx ρ) k) (evCY (cx ρ) k).2 lim k x0 x1 x2 H := by
  rw [evCall_body (cx ρ) k lim 79 _ H Tryd.f79 c79 [6, 7] (by kernel_rfl) (by kernel_rfl) (by kernel_rfl) (by kernel_rfl) (by kernel_rfl)]
  exact G79 ρ (evCall (cx ρ) k) (evCY (cx ρ) k).2 lim k x0 x1 x2 H
-- strconv.toError
noncomputable def c80 : Code := Code.of Tryd.prog 80
noncomputable def L80 (ρ : Addr → Option Value) (call : CallF) (yc : YieldF) (lim k : Nat) (x0 x1 x2 x3 x4 : AV) (H : Heap) : Res :=
  purK (eqI Tryd.prog .eql false x4 (.ifc 115 (.int .i64 2))) fun x14 =>
  condK x14
  (
    resK (call lim 90 [x0, x1] H) fun x17 H =>
    retK [(.ifc 116 x17)] H)
  (
    purK (eqI Tryd.prog .eql false x4 (.ifc 115 (.int .i64 1))) fun x21 =>
    condK x21
    (
      resK (call lim 91 [x0, x1] H) fun x24 H =>
      retK [(.ifc 116 x24)] H)
    (
      purK (eqI Tryd.prog .eql false x4 (.ifc 115 (.int .i64 3))) fun x28 =>
      condK x28
      (
        resK (call lim 92 [x0, x1, x2] H) fun x32 H =>
        retK [(.ifc 116 x32)] H)
      (
        purK (eqI Tryd.prog .eql false x4 (.ifc 115 (.int .i64 4))) fun x36 =>
        condK x36
        (
          resK (call lim 93 [x0, x1, x3] H) fun x40 H =>
          retK [(.ifc 116 x40)] H)
        (
          retK [x4] H))))
theorem G80 (ρ : Addr → Option Value) (call : CallF) (yc : YieldF) (lim k : Nat) (x0 x1 x2 x3 x4 : AV) (H : Heap) :
    evL (cx ρ) call yc false 80 lim k c80 [x0, x1, x2, x3, x4, (.tup []), (.tup []), (.tup []), (.tup []), (.tup []), (.tup []), (.tup []), (.tup []), (.tup []), (.tup []), (.tup []), (.tup []), (.tup []), (.tup []), (.tup []), (.tup []), (.tup []), (.tup []), (.tup []), (.tup []), (.tup []), (.tup []), (.tup []), (.tup []), (.tup []), (.tup []), (.tup []), (.tup []), (.tup []), (.tup []), (.tup []), (.tup []), (.tup []), (.tup []), (.tup []), (.tup []), (.tup []), (.tup [])] H (kk none (fun s H => retK (([10] : List Nat).map fun t => s.getD t (.tup [])) H) [] retK [10]) = L80 ρ call yc lim k x0 x1 x2 x3 x4 H := by
  kernel_rfl
theorem E80 (ρ : Addr → Option Value) (k lim : Nat) (x0 x1 x2 x3 x4 : AV) (H : Heap) : evCall (cx ρ) (k + 1) lim 80 [x0, x1, x2, x3, x4] H = L80 ρ (evCall (cx ρ) k) (evCY (cx ρ) k).2 lim k x0 x1 x2 x3 x4 H := by
  rw [evCall_body (cx ρ) k lim 80 _ H Tryd.f80 c80 [10] (by kernel_rfl) (by kernel_rfl) (by kernel_rfl) (by kernel_rfl) (by kernel_rfl)]
  exact G80 ρ (evCall (cx ρ) k) (evCY (cx ρ) k).2 lim k x0 x1 x2 x3 x4 H
-- internal/strconv.log10Pow2
noncomputable def c81 : Code := Code.of Tryd.prog 81
noncomputable def L81 (ρ : Addr → Option Value) (call : CallF) (yc : YieldF) (lim k : Nat) (x0 : AV) (H : Heap) : Res :=
  purK (binA Tryd.prog H .mul 3 x0 (.int .i64 78913)) fun x4 =>
  purK (binA Tryd.prog H .shr 3 x4 (.int .u64 18)) fun x5 =>
  retK [x5] H
theorem G81 (ρ : Addr → Option Value) (call : CallF) (yc : YieldF) (lim k : Nat) (x0 : AV) (H : Heap) :
    evL (cx ρ) call yc false 81 lim k c81 [x0, (.tup []), (.tup []), (.tup []), (.tup []), (.tup [])] H (kk none (fun s H => retK (([2] : List Nat).map fun t => s.getD t (.tup [])) H) [] retK [2]) = L81 ρ call yc lim k x0 H := by
  kernel_rfl
theorem E81 (ρ : Addr → Option Value) (k lim : Nat) (x0 : AV) (H : Heap) : evCall (cx ρ) (k + 1) lim 81 [x0] H = L81 ρ (evCall (cx ρ) k) (evCY (cx ρ) k).2 lim k x0 H := by
  rw [evCall_body (cx ρ) k lim 81 _ H Tryd.f81 c81 [2] (by kernel_rfl) (by kernel_rfl) (by kernel_rfl) (by kernel_rfl) (by kernel_rfl)]
  exact G81 ρ (evCall (cx ρ) k) (evCY (cx ρ) k).2 lim k x0 H
-- math/bits.Len64
noncomputable def c82 : Code := Code.of Tryd.prog 82
noncomputable def N82_3 (ρ : Addr → Option Value) (call : CallF) (yc : YieldF) (lim k : Nat) (x0 x2 : AV) (H : Heap) (R : List AV → Heap → Res) : Res :=
  purK (cvI .u8 x0) fun x21_1 =>
  purK (ixT (.str (ByteArray.mk #[0, 1, 2, 2, 3, 3, 3, 3, 4, 4, 4, 4, 4, 4, 4, 4, 5, 5, 5, 5, 5, 5, 5, 5, 5, 5, 5, 5, 5, 5, 5, 5, 6, 6, 6, 6, 6, 6, 6, 6, 6, 6, 6, 6, 6, 6, 6, 6, 6, 6, 6, 6, 6, 6, 6, 6, 6, 6, 6, 6, 6, 6, 6, 6, 7, 7, 7, 7, 7, 7, 7, 7, 7, 7, 7, 7, 7, 7, 7, 7, 7, 7, 7, 7, 7, 7, 7, 7, 7, 7, 7, 7, 7, 7, 7, 7, 7, 7, 7, 7, 7, 7, 7, 7, 7, 7, 7, 7, 7, 7, 7, 7, 7, 7, 7, 7, 7, 7, 7, 7, 7, 7, 7, 7, 7, 7, 7, 7, 8, 8, 8, 8, 8, 8, 8, 8, 8, 8, 8, 8, 8, 8, 8, 8, 8, 8, 8, 8, 8, 8, 8, 8, 8, 8, 8, 8, 8, 8, 8, 8, 8, 8, 8, 8, 8, 8, 8, 8, 8, 8, 8, 8, 8, 8, 8, 8, 8, 8, 8, 8, 8, 8, 8, 8, 8, 8, 8, 8, 8, 8, 8, 8, 8, 8, 8, 8, 8, 8, 8, 8, 8, 8, 8, 8, 8, 8, 8, 8, 8, 8, 8, 8, 8, 8, 8, 8, 8, 8, 8, 8, 8, 8, 8, 8, 8, 8, 8, 8, 8, 8, 8, 8, 8, 8, 8, 8, 8, 8, 8, 8, 8, 8, 8, 8, 8, 8, 8, 8, 8, 8, 8, 8, 8, 8, 8, 8])) x21_1) fun x22_1 =>
  purK (cvI .i64 x22_1) fun x23_1 =>
  purK (binA Tryd.prog H .add 3 x2 x23_1) fun x24_1 =>
  R [x24_1] H
theorem N82_3_eq (ρ : Addr → Option Value) (call : CallF) (yc : YieldF) (lim k : Nat) (x0 x2 : AV) (H : Heap) (R : List AV → Heap → Res) :
    evL (cx ρ) call yc false 82 lim k (Code.at [1, 1, 1, 1] c82) (sp 25 [(0, x0), (2, x2)]) H (kk none (fun s H => R (([2] : List Nat).map fun t => s.getD t (.tup [])) H) [] R [2]) = N82_3 ρ call yc lim k x0 x2 H R := by
  kernel_rfl
noncomputable def N82_2 (ρ : Addr → Option Value) (call : CallF) (yc : YieldF) (lim k : Nat) (x0 x2 : AV) (H : Heap) (R : List AV → Heap → Res) : Res :=
  purK (binA Tryd.prog H .geq 38 x0 (.int .u64 256)) fun x14_1 =>
  condK x14_1
  (
    purK (binA Tryd.prog H .shr 38 x0 (.int .u64 8)) fun x16_1 =>
    purK (binA Tryd.prog H .add 3 x2 (.int .i64 8)) fun x18_1 =>
    N82_3 ρ call yc lim k x16_1 x18_1 H R)
  (
    N82_3 ρ call yc lim k x0 x2 H R)
theorem N82_2_x (ρ : Addr → Option Value) (call : CallF) (yc : YieldF) (lim k : Nat) (J : CodeF) (x0 x2 : AV) (H : Heap) (R : List AV → Heap → Res) :
    evX (cx ρ) call yc false 82 lim k J (Code.at [1, 1, 1] c82) (sp 25 [(0, x0), (2, x2)]) H (kk none (fun s H => R (([2] : List Nat).map fun t => s.getD t (.tup [])) H) [] R [2]) =
  purK (binA Tryd.prog H .geq 38 x0 (.int .u64 256)) fun x14_1 =>
  condK x14_1
  (
    purK (binA Tryd.prog H .shr 38 x0 (.int .u64 8)) fun x16_1 =>
    purK (binA Tryd.prog H .add 3 x2 (.int .i64 8)) fun x18_1 =>
    J (Code.at [1, 1, 1, 1] c82) (sp 25 [(0, x16_1), (2, x18_1)]) H (kk none (fun s H => R (([2] : List Nat).map fun t => s.getD t (.tup [])) H) [] R [2]))
  (
    J (Code.at [1, 1, 1, 1] c82) (sp 25 [(0, x0), (2, x2)]) H (kk none (fun s H => R (([2] : List Nat).map fun t => s.getD t (.tup [])) H) [] R [2])) := by
  kernel_rfl
theorem N82_2_eq (ρ : Addr → Option Value) (call : CallF) (yc : YieldF) (lim k : Nat) (x0 x2 : AV) (H : Heap) (R : List AV → Heap → Res) :
    evL (cx ρ) call yc false 82 lim k (Code.at [1, 1, 1] c82) (sp 25 [(0, x0), (2, x2)]) H (kk none (fun s H => R (([2] : List Nat).map fun t => s.getD t (.tup [])) H) [] R [2]) = N82_2 ρ call yc lim k x0 x2 H R := by
  rw [evL_X, N82_2_x]
  simp only [← evL_X, N82_2, N82_3_eq]
noncomputable def N82_1 (ρ : Addr → Option Value) (call : CallF) (yc : YieldF) (lim k : Nat) (x0 x2 : AV) (H : Heap) (R : List AV → Heap → Res) : Res :=
  purK (binA Tryd.prog H .geq 38 x0 (.int .u64 65536)) fun x8_1 =>
  condK x8_1
  (
    purK (binA Tryd.prog H .shr 38 x0 (.int .u64 16)) fun x10_1 =>
    purK (binA Tryd.prog H .add 3 x2 (.int .i64 16)) fun x12_1 =>
    N82_2 ρ call yc lim k x10_1 x12_1 H R)
  (
    N82_2 ρ call yc lim k x0 x2 H R)
theorem N82_1_x (ρ : Addr → Option Value) (call : CallF) (yc : YieldF) (lim k : Nat) (J : CodeF) (x0 x2 : AV) (H : Heap) (R : List AV → Heap → Res) :
    evX (cx ρ) call yc false 82 lim k J (Code.at [1, 1] c82) (sp 25 [(0, x0), (2, x2)]) H (kk none (fun s H => R (([2] : List Nat).map fun t => s.getD t (.tup [])) H) [] R [2]) =
  purK (binA Tryd.prog H .geq 38 x0 (.int .u64 65536)) fun x8_1 =>
  condK x8_1
  (
    purK (binA Tryd.prog H .shr 38 x0 (.int .u64 16)) fun x10_1 =>
    purK (binA Tryd.prog H .add 3 x2 (.int .i64 16)) fun x12_1 =>
    J (Code.at [1, 1, 1] c82) (sp 25 [(0, x10_1), (2, x12_1)]) H (kk none (fun s H => R (([2] : List Nat).map fun t => s.getD t (.tup [])) H) [] R [2]))
  (
    J (Code.at [1, 1, 1] c82) (sp 25 [(0, x0), (2, x2)]) H (kk none (fun s H => R (([2] : List Nat).map fun t => s.getD t (.tup [])) H) [] R [2])) := by
  kernel_rfl
theorem N82_1_eq (ρ : Addr → Option Value) (call : CallF) (yc : YieldF) (lim k : Nat) (x0 x2 : AV) (H : Heap) (R : List AV → Heap → Res) :
    evL (cx ρ) call yc false 82 lim k (Code.at [1, 1] c82) (sp 25 [(0, x0), (2, x2)]) H (kk none (fun s H => R (([2] : List Nat).map fun t => s.getD t (.tup [])) H) [] R [2]) = N82_1 ρ call yc lim k x0 x2 H R := by
  rw [evL_X, N82_1_x]
  simp only [← evL_X, N82_1, N82_2_eq]
noncomputable def L82 (ρ : Addr → Option Value) (call : CallF) (yc : YieldF) (lim k : Nat) (x0 : AV) (H : Heap) : Res :=
  purK (binA Tryd.prog H .geq 38 x0 (.int .u64 4294967296)) fun x4 =>
  condK x4
  (
    purK (binA Tryd.prog H .shr 38 x0 (.int .u64 32)) fun x6 =>
    N82_1 ρ call yc lim k x6 (.int .i64 32) H retK)
  (
    N82_1 ρ call yc lim k x0 (.int .i64 0) H retK)
theorem L82_x (ρ : Addr → Option Value) (call : CallF) (yc : YieldF) (lim k : Nat) (J : CodeF) (x0 : AV) (H : Heap) :
    evX (cx ρ) call yc false 82 lim k J c82 [x0, (.tup []), (.tup []), (.tup []), (.tup []), (.tup []), (.tup []), (.tup []), (.tup []), (.tup []), (.tup []), (.tup []), (.tup []), (.tup []), (.tup []), (.tup []), (.tup []), (.tup []), (.tup []), (.tup []), (.tup []), (.tup []), (.tup []), (.tup []), (.tup [])] H (kk none (fun s H => retK (([2] : List Nat).map fun t => s.getD t (.tup [])) H) [] retK [2]) =
  purK (binA Tryd.prog H .geq 38 x0 (.int .u64 4294967296)) fun x4 =>
  condK x4
  (
    purK (binA Tryd.prog H .shr 38 x0 (.int .u64 32)) fun x6 =>
    J (Code.at [1, 1] c82) (sp 25 [(0, x6), (2, (.int .i64 32))]) H (kk none (fun s H => retK (([2] : List Nat).map fun t => s.getD t (.tup [])) H) [] retK [2]))
  (
    J (Code.at [1, 1] c82) (sp 25 [(0, x0), (2, (.int .i64 0))]) H (kk none (fun s H => retK (([2] : List Nat).map fun t => s.getD t (.tup [])) H) [] retK [2])) := by
  kernel_rfl
theorem G82 (ρ : Addr → Option Value) (call : CallF) (yc : YieldF) (lim k : Nat) (x0 : AV) (H : Heap) :
    evL (cx ρ) call yc false 82 lim k c82 [x0, (.tup []), (.tup []), (.tup []), (.tup []), (.tup []), (.tup []), (.tup []), (.tup []), (.tup []), (.tup []), (.tup []), (.tup []), (.tup []), (.tup []), (.tup []), (.tup []), (.tup []), (.tup []), (.tup []), (.tup []), (.tup []), (.tup []), (.tup []), (.tup [])] H (kk none (fun s H => retK (([2] : List Nat).map fun t => s.getD t (.tup [])) H) [] retK [2]) = L82 ρ call yc lim k x0 H := by
  rw [evL_X, L82_x]
  simp only [← evL_X, L82, N82_1_eq]
theorem E82 (ρ : Addr → Option Value) (k lim : Nat) (x0 : AV) (H : Heap) : evCall (cx ρ) (k + 1) lim 82 [x0] H = L82 ρ (evCall (cx ρ) k) (evCY (cx ρ) k).2 lim k x0 H := by
  rw [evCall_body (cx ρ) k lim 82 _ H Tryd.f82 c82 [2] (by kernel_rfl) (by kernel_rfl) (by kernel_rfl) (by kernel_rfl) (by kernel_rfl)]
  exact G82 ρ (evCall (cx ρ) k) (evCY (cx ρ) k).2 lim k x0 H
-- internal/strconv.bool2[int]
noncomputable def c83 : Code := Code.of Tryd.prog 83
noncomputable def L83 (ρ : Addr → Option Value) (call : CallF) (yc : YieldF) (lim k : Nat) (x0 : AV) (H : Heap) : Res :=
  condK x0
  (
    retK [(.int .i64 1)] H)
  (
    retK [(.int .i64 0)] H)
theorem G83 (ρ : Addr → Option Value) (call : CallF) (yc : YieldF) (lim k : Nat) (x0 : AV) (H : Heap) :
    evL (cx ρ) call yc false 83 lim k c83 [x0, (.tup []), (.tup []), (.tup [])] H (kk none (fun s H => retK (([2] : List Nat).map fun t => s.getD t (.tup [])) H) [] retK [2]) = L83 ρ call yc lim k x0 H := by
  kernel_rfl
theorem E83 (ρ : Addr → Option Value) (k lim : Nat) (x0 : AV) (H : Heap) : evCall (cx ρ) (k + 1) lim 83 [x0] H = L83 ρ (evCall (cx ρ) k) (evCY (cx ρ) k).2 lim k x0 H := by
  rw [evCall_body (cx ρ) k lim 83 _ H Tryd.f83 c83 [2] (by kernel_rfl) (by kernel_rfl) (by kernel_rfl) (by kernel_rfl) (by kernel_rfl)]
  exact G83 ρ (evCall (cx ρ) k) (evCY (cx ρ) k).2 lim k x0 H
end Go.Proofs.YtnkeebchblfbgaaDoor

-- part Sc8
/- Functions, lifted. Printed by a program of this repo. -/
set_option linter.unusedVariables false
set_option linter.unusedSimpArgs false
set_option maxRecDepth 100000
set_option maxHeartbeats 4000000
namespace Go.Proofs.YtnkeebchblfbgaaDoor
open Go.Ev Go.RowKit
-- internal/strconv.lower
noncomputable def c88 : Code := Code.of Tryd.prog 88
noncomputable def L88 (ρ : Addr → Option Value) (call : CallF) (yc : YieldF) (lim k : Nat) (x0 : AV) (H : Heap) : Res :=
  purK (binA Tryd.prog H .or 5 x0 (.int .u8 32)) fun x4 =>
  retK [x4] H
theorem G88 (ρ : Addr → Option Value) (call : CallF) (yc : YieldF) (lim k : Nat) (x0 : AV) (H : Heap) :
    evL (cx ρ) call yc false 88 lim k c88 [x0, (.tup []), (.tup []), (.tup []), (.tup [])] H (kk none (fun s H => retK (([2] : List Nat).map fun t => s.getD t (.tup [])) H) [] retK [2]) = L88 ρ call yc lim k x0 H := by
  kernel_rfl
theorem E88 (ρ : Addr → Option Value) (k lim : Nat) (x0 : AV) (H : Heap) : evCall (cx ρ) (k + 1) lim 88 [x0] H = L88 ρ (evCall (cx ρ) k) (evCY (cx ρ) k).2 lim k x0 H := by
  rw [evCall_body (cx ρ) k lim 88 _ H Tryd.f88 c88 [2] (by kernel_rfl) (by kernel_rfl) (by kernel_rfl) (by kernel_rfl) (by kernel_rfl)]
  exact G88 ρ (evCall (cx ρ) k) (evCY (cx ρ) k).2 lim k x0 H
-- strconv.syntaxError
noncomputable def c90 : Code := Code.of Tryd.prog 90
noncomputable def L90 (ρ : Addr → Option Value) (call : CallF) (yc : YieldF) (lim k : Nat) (x0 x1 : AV) (H : Heap) : Res :=
  purK (ld1 ρ H (.xp ⟨6, 0, none⟩)) fun x8 =>
  resK (call lim 96 [x1] H) fun x7 H => bif (agn (ld1 ρ H (.xp ⟨6, 0, none⟩)) x8 && true) then
    purK (bldA [.str ByteArray.empty, .str ByteArray.empty, .nili] [(0, 1, x0), (1, 1, x7), (2, 1, x8)]) fun x9 =>
    effK H (boxA H 125 x9) fun x10 H =>
    retK [x10] H
  else none
theorem G90 (ρ : Addr → Option Value) (call : CallF) (yc : YieldF) (lim k : Nat) (x0 x1 : AV) (H : Heap) :
    evL (cx ρ) call yc false 90 lim k c90 [x0, x1, (.tup []), (.tup []), (.tup []), (.tup []), (.tup []), (.tup []), (.tup []), (.tup []), (.tup [])] H (kk none (fun s H => retK (([4] : List Nat).map fun t => s.getD t (.tup [])) H) [] retK [4]) = L90 ρ call yc lim k x0 x1 H := by
  kernel_rfl
theorem E90 (ρ : Addr → Option Value) (k lim : Nat) (x0 x1 : AV) (H : Heap) : evCall (cx ρ) (k + 1) lim 90 [x0, x1] H = L90 ρ (evCall (cx ρ) k) (evCY (cx ρ) k).2 lim k x0 x1 H := by
  rw [evCall_body (cx ρ) k lim 90 _ H Tryd.f90 c90 [4] (by kernel_rfl) (by kernel_rfl) (by kernel_rfl) (by kernel_rfl) (by kernel_rfl)]
  exact G90 ρ (evCall (cx ρ) k) (evCY (cx ρ) k).2 lim k x0 x1 H
-- strconv.rangeError
noncomputable def c91 : Code := Code.of Tryd.prog 91
noncomputable def L91 (ρ : Addr → Option Value) (call : CallF) (yc : YieldF) (lim k : Nat) (x0 x1 : AV) (H : Heap) : Res :=
  purK (ld1 ρ H (.xp ⟨7, 0, none⟩)) fun x8 =>
  resK (call lim 96 [x1] H) fun x7 H => bif (agn (ld1 ρ H (.xp ⟨7, 0, none⟩)) x8 && true) then
    purK (bldA [.str ByteArray.empty, .str ByteArray.empty, .nili] [(0, 1, x0), (1, 1, x7), (2, 1, x8)]) fun x9 =>
    effK H (boxA H 125 x9) fun x10 H =>
    retK [x10] H
  else none
theorem G91 (ρ : Addr → Option Value) (call : CallF) (yc : YieldF) (lim k : Nat) (x0 x1 : AV) (H : Heap) :
    evL (cx ρ) call yc false 91 lim k c91 [x0, x1, (.tup []), (.tup []), (.tup []), (.tup []), (.tup []), (.tup []), (.tup []), (.tup []), (.tup [])] H (kk none (fun s H => retK (([4] : List Nat).map fun t => s.getD t (.tup [])) H) [] retK [4]) = L91 ρ call yc lim k x0 x1 H := by
  kernel_rfl
theorem E91 (ρ : Addr → Option Value) (k lim : Nat) (x0 x1 : AV) (H : Heap) : evCall (cx ρ) (k + 1) lim 91 [x0, x1] H = L91 ρ (evCall (cx ρ) k) (evCY (cx ρ) k).2 lim k x0 x1 H := by
  rw [evCall_body (cx ρ) k lim 91 _ H Tryd.f91 c91 [4] (by kernel_rfl) (by kernel_rfl) (by kernel_rfl) (by kernel_rfl) (by kernel_rfl)]
  exact G91 ρ (evCall (cx ρ) k) (evCY (cx ρ) k).2 lim k x0 x1 H
-- internal/stringslite.Clone
noncomputable def c96 : Code := Code.of Tryd.prog 96
noncomputable def L96 (ρ : Addr → Option Value) (call : CallF) (yc : YieldF) (lim k : Nat) (x0 : AV) (H : Heap) : Res :=
  purK (lenT x0) fun x5 =>
  purK (binA Tryd.prog H .eql 3 x5 (.int .i64 0)) fun x6 =>
  condK x6
  (
    retK [(.str (ByteArray.mk #[]))] H)
  (
    purK (lenT x0) fun x8 =>
    effK H (mkS H 5 1 1 [.int .u8 0] x8 x8) fun x9 H =>
    effK H (builtinA (cx ρ) lim H .copy #[52, 9] [x9, x0]) fun x12 H =>
    purK (ixS 1 x9 (.int .i64 0)) fun x14 =>
    purK (lenS x9) fun x16 =>
    effK H (builtinA (cx ρ) lim H .unsafeString #[84, 3] [x14, x16]) fun x17 H =>
    retK [x17] H)
theorem G96 (ρ : Addr → Option Value) (call : CallF) (yc : YieldF) (lim k : Nat) (x0 : AV) (H : Heap) :
    evL (cx ρ) call yc false 96 lim k c96 [x0, (.tup []), (.tup []), (.tup []), (.tup []), (.tup []), (.tup []), (.tup []), (.tup []), (.tup []), (.tup []), (.tup []), (.tup []), (.tup []), (.tup []), (.tup []), (.tup []), (.tup [])] H (kk none (fun s H => retK (([2] : List Nat).map fun t => s.getD t (.tup [])) H) [] retK [2]) = L96 ρ call yc lim k x0 H := by
  kernel_rfl
theorem E96 (ρ : Addr → Option Value) (k lim : Nat) (x0 : AV) (H : Heap) : evCall (cx ρ) (k + 1) lim 96 [x0] H = L96 ρ (evCall (cx ρ) k) (evCY (cx ρ) k).2 lim k x0 H := by
  rw [evCall_body (cx ρ) k lim 96 _ H Tryd.f96 c96 [2] (by kernel_rfl) (by kernel_rfl) (by kernel_rfl) (by kernel_rfl) (by kernel_rfl)]
  exact G96 ρ (evCall (cx ρ) k) (evCY (cx ρ) k).2 lim k x0 H
end Go.Proofs.YtnkeebchblfbgaaDoor

-- part Sc
/- All functions that are lifted. Printed by a program of this repo. -/
set_option linter.unusedVariables false
set_option linter.unusedSimpArgs false
set_option maxRecDepth 100000
set_option maxHeartbeats 4000000
namespace Go.Proofs.YtnkeebchblfbgaaDoor
open Go.Ev Go.RowKit

theorem ldT40 (ρ : Addr → Option Value) (H : Heap) (x : AV) : loadA (cx ρ) H 40 x = ldN ρ H 4 x := by kernel_rfl
theorem ldT43 (ρ : Addr → Option Value) (H : Heap) (x : AV) : loadA (cx ρ) H 43 x = ldN ρ H 8 x := by kernel_rfl
noncomputable def tr3 (ρ : Addr → Option Value) (c : CallF) (y : YieldF) (k : Nat) : DT := .node 3 (ar1 (fun lim a0 H => L3 ρ c y lim k a0 H) (fun lim args H => slowF (cx ρ) c y k lim 3 args H)) .leaf .leaf
theorem tr3_all (ρ : Addr → Option Value) (k : Nat) : (tr3 ρ (evCY (cx ρ) k).1 (evCY (cx ρ) k).2 k).All fun f h => h = fun lim args H => (evCY (cx ρ) (k + 1)).1 lim f args H :=
  ⟨ar1_eq (F := fun lim args H => (evCY (cx ρ) (k + 1)).1 lim 3 args H) (slow_at (cx ρ) k 3) (fun lim a0 H => E3 ρ k lim a0 H), trivial, trivial⟩
noncomputable def tr7 (ρ : Addr → Option Value) (c : CallF) (y : YieldF) (k : Nat) : DT := .node 7 (ar1 (fun lim a0 H => L7 ρ c y lim k a0 H) (fun lim args H => slowF (cx ρ) c y k lim 7 args H)) .leaf .leaf
theorem tr7_all (ρ : Addr → Option Value) (k : Nat) : (tr7 ρ (evCY (cx ρ) k).1 (evCY (cx ρ) k).2 k).All fun f h => h = fun lim args H => (evCY (cx ρ) (k + 1)).1 lim f args H :=
  ⟨ar1_eq (F := fun lim args H => (evCY (cx ρ) (k + 1)).1 lim 7 args H) (slow_at (cx ρ) k 7) (fun lim a0 H => E7 ρ k lim a0 H), trivial, trivial⟩
noncomputable def tr6 (ρ : Addr → Option Value) (c : CallF) (y : YieldF) (k : Nat) : DT := .node 6 (ar0 (fun lim H => L6 ρ c y lim k H) (fun lim args H => slowF (cx ρ) c y k lim 6 args H)) (tr3 ρ c y k) (tr7 ρ c y k)
theorem tr6_all (ρ : Addr → Option Value) (k : Nat) : (tr6 ρ (evCY (cx ρ) k).1 (evCY (cx ρ) k).2 k).All fun f h => h = fun lim args H => (evCY (cx ρ) (k + 1)).1 lim f args H :=
  ⟨ar0_eq (F := fun lim args H => (evCY (cx ρ) (k + 1)).1 lim 6 args H) (slow_at (cx ρ) k 6) (fun lim H => E6 ρ k lim H), tr3_all ρ k, tr7_all ρ k⟩
noncomputable def tr9 (ρ : Addr → Option Value) (c : CallF) (y : YieldF) (k : Nat) : DT := .node 9 (ar2 (fun lim a0 a1 H => L9 ρ c y lim k a0 a1 H) (fun lim args H => slowF (cx ρ) c y k lim 9 args H)) .leaf .leaf
theorem tr9_all (ρ : Addr → Option Value) (k : Nat) : (tr9 ρ (evCY (cx ρ) k).1 (evCY (cx ρ) k).2 k).All fun f h => h = fun lim args H => (evCY (cx ρ) (k + 1)).1 lim f args H :=
  ⟨ar2_eq (F := fun lim args H => (evCY (cx ρ) (k + 1)).1 lim 9 args H) (slow_at (cx ρ) k 9) (fun lim a0 a1 H => E9 ρ k lim a0 a1 H), trivial, trivial⟩
noncomputable def tr11 (ρ : Addr → Option Value) (c : CallF) (y : YieldF) (k : Nat) : DT := .node 11 (ar1 (fun lim a0 H => L11 ρ c y lim k a0 H) (fun lim args H => slowF (cx ρ) c y k lim 11 args H)) (tr9 ρ c y k) .leaf
theorem tr11_all (ρ : Addr → Option Value) (k : Nat) : (tr11 ρ (evCY (cx ρ) k).1 (evCY (cx ρ) k).2 k).All fun f h => h = fun lim args H => (evCY (cx ρ) (k + 1)).1 lim f args H :=
  ⟨ar1_eq (F := fun lim args H => (evCY (cx ρ) (k + 1)).1 lim 11 args H) (slow_at (cx ρ) k 11) (fun lim a0 H => E11 ρ k lim a0 H), tr9_all ρ k, trivial⟩
noncomputable def tr8 (ρ : Addr → Option Value) (c : CallF) (y : YieldF) (k : Nat) : DT := .node 8 (ar1 (fun lim a0 H => L8 ρ c y lim k a0 H) (fun lim args H => slowF (cx ρ) c y k lim 8 args H)) (tr6 ρ c y k) (tr11 ρ c y k)
theorem tr8_all (ρ : Addr → Option Value) (k : Nat) : (tr8 ρ (evCY (cx ρ) k).1 (evCY (cx ρ) k).2 k).All fun f h => h = fun lim args H => (evCY (cx ρ) (k + 1)).1 lim f args H :=
  ⟨ar1_eq (F := fun lim args H => (evCY (cx ρ) (k + 1)).1 lim 8 args H) (slow_at (cx ρ) k 8) (fun lim a0 H => E8 ρ k lim a0 H), tr6_all ρ k, tr11_all ρ k⟩
noncomputable def tr17 (ρ : Addr → Option Value) (c : CallF) (y : YieldF) (k : Nat) : DT := .node 17 (ar2 (fun lim a0 a1 H => L17 ρ c y lim k a0 a1 H) (fun lim args H => slowF (cx ρ) c y k lim 17 args H)) .leaf .leaf
theorem tr17_all (ρ : Addr → Option Value) (k : Nat) : (tr17 ρ (evCY (cx ρ) k).1 (evCY (cx ρ) k).2 k).All fun f h => h = fun lim args H => (evCY (cx ρ) (k + 1)).1 lim f args H :=
  ⟨ar2_eq (F := fun lim args H => (evCY (cx ρ) (k + 1)).1 lim 17 args H) (slow_at (cx ρ) k 17) (fun lim a0 a1 H => E17 ρ k lim a0 a1 H), trivial, trivial⟩
noncomputable def tr19 (ρ : Addr → Option Value) (c : CallF) (y : YieldF) (k : Nat) : DT := .node 19 (ar2 (fun lim a0 a1 H => L19 ρ c y lim k a0 a1 H) (fun lim args H => slowF (cx ρ) c y k lim 19 args H)) .leaf .leaf
theorem tr19_all (ρ : Addr → Option Value) (k : Nat) : (tr19 ρ (evCY (cx ρ) k).1 (evCY (cx ρ) k).2 k).All fun f h => h = fun lim args H => (evCY (cx ρ) (k + 1)).1 lim f args H :=
  ⟨ar2_eq (F := fun lim args H => (evCY (cx ρ) (k + 1)).1 lim 19 args H) (slow_at (cx ρ) k 19) (fun lim a0 a1 H => E19 ρ k lim a0 a1 H), trivial, trivial⟩
noncomputable def tr18 (ρ : Addr → Option Value) (c : CallF) (y : YieldF) (k : Nat) : DT := .node 18 (ar1 (fun lim a0 H => L18 ρ c y lim k a0 H) (fun lim args H => slowF (cx ρ) c y k lim 18 args H)) (tr17 ρ c y k) (tr19 ρ c y k)
theorem tr18_all (ρ : Addr → Option Value) (k : Nat) : (tr18 ρ (evCY (cx ρ) k).1 (evCY (cx ρ) k).2 k).All fun f h => h = fun lim args H => (evCY (cx ρ) (k + 1)).1 lim f args H :=
  ⟨ar1_eq (F := fun lim args H => (evCY (cx ρ) (k + 1)).1 lim 18 args H) (slow_at (cx ρ) k 18) (fun lim a0 H => E18 ρ k lim a0 H), tr17_all ρ k, tr19_all ρ k⟩
noncomputable def tr21 (ρ : Addr → Option Value) (c : CallF) (y : YieldF) (k : Nat) : DT := .node 21 (ar2 (fun lim a0 a1 H => L21 ρ c y lim k a0 a1 H) (fun lim args H => slowF (cx ρ) c y k lim 21 args H)) .leaf .leaf
theorem tr21_all (ρ : Addr → Option Value) (k : Nat) : (tr21 ρ (evCY (cx ρ) k).1 (evCY (cx ρ) k).2 k).All fun f h => h = fun lim args H => (evCY (cx ρ) (k + 1)).1 lim f args H :=
  ⟨ar2_eq (F := fun lim args H => (evCY (cx ρ) (k + 1)).1 lim 21 args H) (slow_at (cx ρ) k 21) (fun lim a0 a1 H => E21 ρ k lim a0 a1 H), trivial, trivial⟩
noncomputable def tr22 (ρ : Addr → Option Value) (c : CallF) (y : YieldF) (k : Nat) : DT := .node 22 (ar2 (fun lim a0 a1 H => L22 ρ c y lim k a0 a1 H) (fun lim args H => slowF (cx ρ) c y k lim 22 args H)) (tr21 ρ c y k) .leaf
theorem tr22_all (ρ : Addr → Option Value) (k : Nat) : (tr22 ρ (evCY (cx ρ) k).1 (evCY (cx ρ) k).2 k).All fun f h => h = fun lim args H => (evCY (cx ρ) (k + 1)).1 lim f args H :=
  ⟨ar2_eq (F := fun lim args H => (evCY (cx ρ) (k + 1)).1 lim 22 args H) (slow_at (cx ρ) k 22) (fun lim a0 a1 H => E22 ρ k lim a0 a1 H), tr21_all ρ k, trivial⟩
noncomputable def tr20 (ρ : Addr → Option Value) (c : CallF) (y : YieldF) (k : Nat) : DT := .node 20 (ar1 (fun lim a0 H => L20 ρ c y lim k a0 H) (fun lim args H => slowF (cx ρ) c y k lim 20 args H)) (tr18 ρ c y k) (tr22 ρ c y k)
theorem tr20_all (ρ : Addr → Option Value) (k : Nat) : (tr20 ρ (evCY (cx ρ) k).1 (evCY (cx ρ) k).2 k).All fun f h => h = fun lim args H => (evCY (cx ρ) (k + 1)).1 lim f args H :=
  ⟨ar1_eq (F := fun lim args H => (evCY (cx ρ) (k + 1)).1 lim 20 args H) (slow_at (cx ρ) k 20) (fun lim a0 H => E20 ρ k lim a0 H), tr18_all ρ k, tr22_all ρ k⟩
noncomputable def tr12 (ρ : Addr → Option Value) (c : CallF) (y : YieldF) (k : Nat) : DT := .node 12 (ar1 (fun lim a0 H => L12 ρ c y lim k a0 H) (fun lim args H => slowF (cx ρ) c y k lim 12 args H)) (tr8 ρ c y k) (tr20 ρ c y k)
theorem tr12_all (ρ : Addr → Option Value) (k : Nat) : (tr12 ρ (evCY (cx ρ) k).1 (evCY (cx ρ) k).2 k).All fun f h => h = fun lim args H => (evCY (cx ρ) (k + 1)).1 lim f args H :=
  ⟨ar1_eq (F := fun lim args H => (evCY (cx ρ) (k + 1)).1 lim 12 args H) (slow_at (cx ρ) k 12) (fun lim a0 H => E12 ρ k lim a0 H), tr8_all ρ k, tr20_all ρ k⟩
noncomputable def tr25 (ρ : Addr → Option Value) (c : CallF) (y : YieldF) (k : Nat) : DT := .node 25 (ar1 (fun lim a0 H => L25 ρ c y lim k a0 H) (fun lim args H => slowF (cx ρ) c y k lim 25 args H)) .leaf .leaf
theorem tr25_all (ρ : Addr → Option Value) (k : Nat) : (tr25 ρ (evCY (cx ρ) k).1 (evCY (cx ρ) k).2 k).All fun f h => h = fun lim args H => (evCY (cx ρ) (k + 1)).1 lim f args H :=
  ⟨ar1_eq (F := fun lim args H => (evCY (cx ρ) (k + 1)).1 lim 25 args H) (slow_at (cx ρ) k 25) (fun lim a0 H => E25 ρ k lim a0 H), trivial, trivial⟩
noncomputable def tr27 (ρ : Addr → Option Value) (c : CallF) (y : YieldF) (k : Nat) : DT := .node 27 (ar2 (fun lim a0 a1 H => L27 ρ c y lim k a0 a1 H) (fun lim args H => slowF (cx ρ) c y k lim 27 args H)) .leaf .leaf
theorem tr27_all (ρ : Addr → Option Value) (k : Nat) : (tr27 ρ (evCY (cx ρ) k).1 (evCY (cx ρ) k).2 k).All fun f h => h = fun lim args H => (evCY (cx ρ) (k + 1)).1 lim f args H :=
  ⟨ar2_eq (F := fun lim args H => (evCY (cx ρ) (k + 1)).1 lim 27 args H) (slow_at (cx ρ) k 27) (fun lim a0 a1 H => E27 ρ k lim a0 a1 H), trivial, trivial⟩
noncomputable def tr26 (ρ : Addr → Option Value) (c : CallF) (y : YieldF) (k : Nat) : DT := .node 26 (ar2 (fun lim a0 a1 H => L26 ρ c y lim k a0 a1 H) (fun lim args H => slowF (cx ρ) c y k lim 26 args H)) (tr25 ρ c y k) (tr27 ρ c y k)
theorem tr26_all (ρ : Addr → Option Value) (k : Nat) : (tr26 ρ (evCY (cx ρ) k).1 (evCY (cx ρ) k).2 k).All fun f h => h = fun lim args H => (evCY (cx ρ) (k + 1)).1 lim f args H :=
  ⟨ar2_eq (F := fun lim args H => (evCY (cx ρ) (k + 1)).1 lim 26 args H) (slow_at (cx ρ) k 26) (fun lim a0 a1 H => E26 ρ k lim a0 a1 H), tr25_all ρ k, tr27_all ρ k⟩
noncomputable def tr29 (ρ : Addr → Option Value) (c : CallF) (y : YieldF) (k : Nat) : DT := .node 29 (ar1 (fun lim a0 H => L29 ρ c y lim k a0 H) (fun lim args H => slowF (cx ρ) c y k lim 29 args H)) .leaf .leaf
theorem tr29_all (ρ : Addr → Option Value) (k : Nat) : (tr29 ρ (evCY (cx ρ) k).1 (evCY (cx ρ) k).2 k).All fun f h => h = fun lim args H => (evCY (cx ρ) (k + 1)).1 lim f args H :=
  ⟨ar1_eq (F := fun lim args H => (evCY (cx ρ) (k + 1)).1 lim 29 args H) (slow_at (cx ρ) k 29) (fun lim a0 H => E29 ρ k lim a0 H), trivial, trivial⟩
noncomputable def tr36 (ρ : Addr → Option Value) (c : CallF) (y : YieldF) (k : Nat) : DT := .node 36 (ar2 (fun lim a0 a1 H => L36 ρ c y lim k a0 a1 H) (fun lim args H => slowF (cx ρ) c y k lim 36 args H)) (tr29 ρ c y k) .leaf
theorem tr36_all (ρ : Addr → Option Value) (k : Nat) : (tr36 ρ (evCY (cx ρ) k).1 (evCY (cx ρ) k).2 k).All fun f h => h = fun lim args H => (evCY (cx ρ) (k + 1)).1 lim f args H :=
  ⟨ar2_eq (F := fun lim args H => (evCY (cx ρ) (k + 1)).1 lim 36 args H) (slow_at (cx ρ) k 36) (fun lim a0 a1 H => E36 ρ k lim a0 a1 H), tr29_all ρ k, trivial⟩
noncomputable def tr28 (ρ : Addr → Option Value) (c : CallF) (y : YieldF) (k : Nat) : DT := .node 28 (ar1 (fun lim a0 H => L28 ρ c y lim k a0 H) (fun lim args H => slowF (cx ρ) c y k lim 28 args H)) (tr26 ρ c y k) (tr36 ρ c y k)
theorem tr28_all (ρ : Addr → Option Value) (k : Nat) : (tr28 ρ (evCY (cx ρ) k).1 (evCY (cx ρ) k).2 k).All fun f h => h = fun lim args H => (evCY (cx ρ) (k + 1)).1 lim f args H :=
  ⟨ar1_eq (F := fun lim args H => (evCY (cx ρ) (k + 1)).1 lim 28 args H) (slow_at (cx ρ) k 28) (fun lim a0 H => E28 ρ k lim a0 H), tr26_all ρ k, tr36_all ρ k⟩
noncomputable def tr38 (ρ : Addr → Option Value) (c : CallF) (y : YieldF) (k : Nat) : DT := .node 38 (ar2 (fun lim a0 a1 H => L38 ρ c y lim k a0 a1 H) (fun lim args H => slowF (cx ρ) c y k lim 38 args H)) .leaf .leaf
theorem tr38_all (ρ : Addr → Option Value) (k : Nat) : (tr38 ρ (evCY (cx ρ) k).1 (evCY (cx ρ) k).2 k).All fun f h => h = fun lim args H => (evCY (cx ρ) (k + 1)).1 lim f args H :=
  ⟨ar2_eq (F := fun lim args H => (evCY (cx ρ) (k + 1)).1 lim 38 args H) (slow_at (cx ρ) k 38) (fun lim a0 a1 H => E38 ρ k lim a0 a1 H), trivial, trivial⟩
noncomputable def tr39 (ρ : Addr → Option Value) (c : CallF) (y : YieldF) (k : Nat) : DT := .node 39 (ar1 (fun lim a0 H => L39 ρ c y lim k a0 H) (fun lim args H => slowF (cx ρ) c y k lim 39 args H)) (tr38 ρ c y k) .leaf
theorem tr39_all (ρ : Addr → Option Value) (k : Nat) : (tr39 ρ (evCY (cx ρ) k).1 (evCY (cx ρ) k).2 k).All fun f h => h = fun lim args H => (evCY (cx ρ) (k + 1)).1 lim f args H :=
  ⟨ar1_eq (F := fun lim args H => (evCY (cx ρ) (k + 1)).1 lim 39 args H) (slow_at (cx ρ) k 39) (fun lim a0 H => E39 ρ k lim a0 H), tr38_all ρ k, trivial⟩
noncomputable def tr41 (ρ : Addr → Option Value) (c : CallF) (y : YieldF) (k : Nat) : DT := .node 41 (ar1 (fun lim a0 H => L41 ρ c y lim k a0 H) (fun lim args H => slowF (cx ρ) c y k lim 41 args H)) .leaf .leaf
theorem tr41_all (ρ : Addr → Option Value) (k : Nat) : (tr41 ρ (evCY (cx ρ) k).1 (evCY (cx ρ) k).2 k).All fun f h => h = fun lim args H => (evCY (cx ρ) (k + 1)).1 lim f args H :=
  ⟨ar1_eq (F := fun lim args H => (evCY (cx ρ) (k + 1)).1 lim 41 args H) (slow_at (cx ρ) k 41) (fun lim a0 H => E41 ρ k lim a0 H), trivial, trivial⟩
noncomputable def tr42 (ρ : Addr → Option Value) (c : CallF) (y : YieldF) (k : Nat) : DT := .node 42 (ar1 (fun lim a0 H => L42 ρ c y lim k a0 H) (fun lim args H => slowF (cx ρ) c y k lim 42 args H)) (tr41 ρ c y k) .leaf
theorem tr42_all (ρ : Addr → Option Value) (k : Nat) : (tr42 ρ (evCY (cx ρ) k).1 (evCY (cx ρ) k).2 k).All fun f h => h = fun lim args H => (evCY (cx ρ) (k + 1)).1 lim f args H :=
  ⟨ar1_eq (F := fun lim args H => (evCY (cx ρ) (k + 1)).1 lim 42 args H) (slow_at (cx ρ) k 42) (fun lim a0 H => E42 ρ k lim a0 H), tr41_all ρ k, trivial⟩
noncomputable def tr40 (ρ : Addr → Option Value) (c : CallF) (y : YieldF) (k : Nat) : DT := .node 40 (ar1 (fun lim a0 H => L40 ρ c y lim k a0 H) (fun lim args H => slowF (cx ρ) c y k lim 40 args H)) (tr39 ρ c y k) (tr42 ρ c y k)
theorem tr40_all (ρ : Addr → Option Value) (k : Nat) : (tr40 ρ (evCY (cx ρ) k).1 (evCY (cx ρ) k).2 k).All fun f h => h = fun lim args H => (evCY (cx ρ) (k + 1)).1 lim f args H :=
  ⟨ar1_eq (F := fun lim args H => (evCY (cx ρ) (k + 1)).1 lim 40 args H) (slow_at (cx ρ) k 40) (fun lim a0 H => E40 ρ k lim a0 H), tr39_all ρ k, tr42_all ρ k⟩
noncomputable def tr37 (ρ : Addr → Option Value) (c : CallF) (y : YieldF) (k : Nat) : DT := .node 37 (ar2 (fun lim a0 a1 H => L37 ρ c y lim k a0 a1 H) (fun lim args H => slowF (cx ρ) c y k lim 37 args H)) (tr28 ρ c y k) (tr40 ρ c y k)
theorem tr37_all (ρ : Addr → Option Value) (k : Nat) : (tr37 ρ (evCY (cx ρ) k).1 (evCY (cx ρ) k).2 k).All fun f h => h = fun lim args H => (evCY (cx ρ) (k + 1)).1 lim f args H :=
  ⟨ar2_eq (F := fun lim args H => (evCY (cx ρ) (k + 1)).1 lim 37 args H) (slow_at (cx ρ) k 37) (fun lim a0 a1 H => E37 ρ k lim a0 a1 H), tr28_all ρ k, tr40_all ρ k⟩
noncomputable def tr23 (ρ : Addr → Option Value) (c : CallF) (y : YieldF) (k : Nat) : DT := .node 23 (ar1 (fun lim a0 H => L23 ρ c y lim k a0 H) (fun lim args H => slowF (cx ρ) c y k lim 23 args H)) (tr12 ρ c y k) (tr37 ρ c y k)
theorem tr23_all (ρ : Addr → Option Value) (k : Nat) : (tr23 ρ (evCY (cx ρ) k).1 (evCY (cx ρ) k).2 k).All fun f h => h = fun lim args H => (evCY (cx ρ) (k + 1)).1 lim f args H :=
  ⟨ar1_eq (F := fun lim args H => (evCY (cx ρ) (k + 1)).1 lim 23 args H) (slow_at (cx ρ) k 23) (fun lim a0 H => E23 ρ k lim a0 H), tr12_all ρ k, tr37_all ρ k⟩
noncomputable def tr44 (ρ : Addr → Option Value) (c : CallF) (y : YieldF) (k : Nat) : DT := .node 44 (ar1 (fun lim a0 H => L44 ρ c y lim k a0 H) (fun lim args H => slowF (cx ρ) c y k lim 44 args H)) .leaf .leaf
theorem tr44_all (ρ : Addr → Option Value) (k : Nat) : (tr44 ρ (evCY (cx ρ) k).1 (evCY (cx ρ) k).2 k).All fun f h => h = fun lim args H => (evCY (cx ρ) (k + 1)).1 lim f args H :=
  ⟨ar1_eq (F := fun lim args H => (evCY (cx ρ) (k + 1)).1 lim 44 args H) (slow_at (cx ρ) k 44) (fun lim a0 H => E44 ρ k lim a0 H), trivial, trivial⟩
noncomputable def tr46 (ρ : Addr → Option Value) (c : CallF) (y : YieldF) (k : Nat) : DT := .node 46 (ar2 (fun lim a0 a1 H => L46 ρ c y lim k a0 a1 H) (fun lim args H => slowF (cx ρ) c y k lim 46 args H)) .leaf .leaf
theorem tr46_all (ρ : Addr → Option Value) (k : Nat) : (tr46 ρ (evCY (cx ρ) k).1 (evCY (cx ρ) k).2 k).All fun f h => h = fun lim args H => (evCY (cx ρ) (k + 1)).1 lim f args H :=
  ⟨ar2_eq (F := fun lim args H => (evCY (cx ρ) (k + 1)).1 lim 46 args H) (slow_at (cx ρ) k 46) (fun lim a0 a1 H => E46 ρ k lim a0 a1 H), trivial, trivial⟩
noncomputable def tr45 (ρ : Addr → Option Value) (c : CallF) (y : YieldF) (k : Nat) : DT := .node 45 (ar1 (fun lim a0 H => L45 ρ c y lim k a0 H) (fun lim args H => slowF (cx ρ) c y k lim 45 args H)) (tr44 ρ c y k) (tr46 ρ c y k)
theorem tr45_all (ρ : Addr → Option Value) (k : Nat) : (tr45 ρ (evCY (cx ρ) k).1 (evCY (cx ρ) k).2 k).All fun f h => h = fun lim args H => (evCY (cx ρ) (k + 1)).1 lim f args H :=
  ⟨ar1_eq (F := fun lim args H => (evCY (cx ρ) (k + 1)).1 lim 45 args H) (slow_at (cx ρ) k 45) (fun lim a0 H => E45 ρ k lim a0 H), tr44_all ρ k, tr46_all ρ k⟩
noncomputable def tr49 (ρ : Addr → Option Value) (c : CallF) (y : YieldF) (k : Nat) : DT := .node 49 (ar2 (fun lim a0 a1 H => L49 ρ c y lim k a0 a1 H) (fun lim args H => slowF (cx ρ) c y k lim 49 args H)) .leaf .leaf
theorem tr49_all (ρ : Addr → Option Value) (k : Nat) : (tr49 ρ (evCY (cx ρ) k).1 (evCY (cx ρ) k).2 k).All fun f h => h = fun lim args H => (evCY (cx ρ) (k + 1)).1 lim f args H :=
  ⟨ar2_eq (F := fun lim args H => (evCY (cx ρ) (k + 1)).1 lim 49 args H) (slow_at (cx ρ) k 49) (fun lim a0 a1 H => E49 ρ k lim a0 a1 H), trivial, trivial⟩
noncomputable def tr52 (ρ : Addr → Option Value) (c : CallF) (y : YieldF) (k : Nat) : DT := .node 52 (ar2 (fun lim a0 a1 H => L52 ρ c y lim k a0 a1 H) (fun lim args H => slowF (cx ρ) c y k lim 52 args H)) (tr49 ρ c y k) .leaf
theorem tr52_all (ρ : Addr → Option Value) (k : Nat) : (tr52 ρ (evCY (cx ρ) k).1 (evCY (cx ρ) k).2 k).All fun f h => h = fun lim args H => (evCY (cx ρ) (k + 1)).1 lim f args H :=
  ⟨ar2_eq (F := fun lim args H => (evCY (cx ρ) (k + 1)).1 lim 52 args H) (slow_at (cx ρ) k 52) (fun lim a0 a1 H => E52 ρ k lim a0 a1 H), tr49_all ρ k, trivial⟩
noncomputable def tr47 (ρ : Addr → Option Value) (c : CallF) (y : YieldF) (k : Nat) : DT := .node 47 (ar2 (fun lim a0 a1 H => L47 ρ c y lim k a0 a1 H) (fun lim args H => slowF (cx ρ) c y k lim 47 args H)) (tr45 ρ c y k) (tr52 ρ c y k)
theorem tr47_all (ρ : Addr → Option Value) (k : Nat) : (tr47 ρ (evCY (cx ρ) k).1 (evCY (cx ρ) k).2 k).All fun f h => h = fun lim args H => (evCY (cx ρ) (k + 1)).1 lim f args H :=
  ⟨ar2_eq (F := fun lim args H => (evCY (cx ρ) (k + 1)).1 lim 47 args H) (slow_at (cx ρ) k 47) (fun lim a0 a1 H => E47 ρ k lim a0 a1 H), tr45_all ρ k, tr52_all ρ k⟩
noncomputable def tr54 (ρ : Addr → Option Value) (c : CallF) (y : YieldF) (k : Nat) : DT := .node 54 (ar2 (fun lim a0 a1 H => L54 ρ c y lim k a0 a1 H) (fun lim args H => slowF (cx ρ) c y k lim 54 args H)) .leaf .leaf
theorem tr54_all (ρ : Addr → Option Value) (k : Nat) : (tr54 ρ (evCY (cx ρ) k).1 (evCY (cx ρ) k).2 k).All fun f h => h = fun lim args H => (evCY (cx ρ) (k + 1)).1 lim f args H :=
  ⟨ar2_eq (F := fun lim args H => (evCY (cx ρ) (k + 1)).1 lim 54 args H) (slow_at (cx ρ) k 54) (fun lim a0 a1 H => E54 ρ k lim a0 a1 H), trivial, trivial⟩
noncomputable def tr57 (ρ : Addr → Option Value) (c : CallF) (y : YieldF) (k : Nat) : DT := .node 57 (ar2 (fun lim a0 a1 H => L57 ρ c y lim k a0 a1 H) (fun lim args H => slowF (cx ρ) c y k lim 57 args H)) .leaf .leaf
theorem tr57_all (ρ : Addr → Option Value) (k : Nat) : (tr57 ρ (evCY (cx ρ) k).1 (evCY (cx ρ) k).2 k).All fun f h => h = fun lim args H => (evCY (cx ρ) (k + 1)).1 lim f args H :=
  ⟨ar2_eq (F := fun lim args H => (evCY (cx ρ) (k + 1)).1 lim 57 args H) (slow_at (cx ρ) k 57) (fun lim a0 a1 H => E57 ρ k lim a0 a1 H), trivial, trivial⟩
noncomputable def tr55 (ρ : Addr → Option Value) (c : CallF) (y : YieldF) (k : Nat) : DT := .node 55 (ar1 (fun lim a0 H => L55 ρ c y lim k a0 H) (fun lim args H => slowF (cx ρ) c y k lim 55 args H)) (tr54 ρ c y k) (tr57 ρ c y k)
theorem tr55_all (ρ : Addr → Option Value) (k : Nat) : (tr55 ρ (evCY (cx ρ) k).1 (evCY (cx ρ) k).2 k).All fun f h => h = fun lim args H => (evCY (cx ρ) (k + 1)).1 lim f args H :=
  ⟨ar1_eq (F := fun lim args H => (evCY (cx ρ) (k + 1)).1 lim 55 args H) (slow_at (cx ρ) k 55) (fun lim a0 H => E55 ρ k lim a0 H), tr54_all ρ k, tr57_all ρ k⟩
noncomputable def tr66 (ρ : Addr → Option Value) (c : CallF) (y : YieldF) (k : Nat) : DT := .node 66 (ar2 (fun lim a0 a1 H => L66 ρ c y lim k a0 a1 H) (fun lim args H => slowF (cx ρ) c y k lim 66 args H)) .leaf .leaf
theorem tr66_all (ρ : Addr → Option Value) (k : Nat) : (tr66 ρ (evCY (cx ρ) k).1 (evCY (cx ρ) k).2 k).All fun f h => h = fun lim args H => (evCY (cx ρ) (k + 1)).1 lim f args H :=
  ⟨ar2_eq (F := fun lim args H => (evCY (cx ρ) (k + 1)).1 lim 66 args H) (slow_at (cx ρ) k 66) (fun lim a0 a1 H => E66 ρ k lim a0 a1 H), trivial, trivial⟩
noncomputable def tr67 (ρ : Addr → Option Value) (c : CallF) (y : YieldF) (k : Nat) : DT := .node 67 (ar2 (fun lim a0 a1 H => L67 ρ c y lim k a0 a1 H) (fun lim args H => slowF (cx ρ) c y k lim 67 args H)) (tr66 ρ c y k) .leaf
theorem tr67_all (ρ : Addr → Option Value) (k : Nat) : (tr67 ρ (evCY (cx ρ) k).1 (evCY (cx ρ) k).2 k).All fun f h => h = fun lim args H => (evCY (cx ρ) (k + 1)).1 lim f args H :=
  ⟨ar2_eq (F := fun lim args H => (evCY (cx ρ) (k + 1)).1 lim 67 args H) (slow_at (cx ρ) k 67) (fun lim a0 a1 H => E67 ρ k lim a0 a1 H), tr66_all ρ k, trivial⟩
noncomputable def tr60 (ρ : Addr → Option Value) (c : CallF) (y : YieldF) (k : Nat) : DT := .node 60 (ar2 (fun lim a0 a1 H => L60 ρ c y lim k a0 a1 H) (fun lim args H => slowF (cx ρ) c y k lim 60 args H)) (tr55 ρ c y k) (tr67 ρ c y k)
theorem tr60_all (ρ : Addr → Option Value) (k : Nat) : (tr60 ρ (evCY (cx ρ) k).1 (evCY (cx ρ) k).2 k).All fun f h => h = fun lim args H => (evCY (cx ρ) (k + 1)).1 lim f args H :=
  ⟨ar2_eq (F := fun lim args H => (evCY (cx ρ) (k + 1)).1 lim 60 args H) (slow_at (cx ρ) k 60) (fun lim a0 a1 H => E60 ρ k lim a0 a1 H), tr55_all ρ k, tr67_all ρ k⟩
noncomputable def tr53 (ρ : Addr → Option Value) (c : CallF) (y : YieldF) (k : Nat) : DT := .node 53 (ar4 (fun lim a0 a1 a2 a3 H => L53 ρ c y lim k a0 a1 a2 a3 H) (fun lim args H => slowF (cx ρ) c y k lim 53 args H)) (tr47 ρ c y k) (tr60 ρ c y k)
theorem tr53_all (ρ : Addr → Option Value) (k : Nat) : (tr53 ρ (evCY (cx ρ) k).1 (evCY (cx ρ) k).2 k).All fun f h => h = fun lim args H => (evCY (cx ρ) (k + 1)).1 lim f args H :=
  ⟨ar4_eq (F := fun lim args H => (evCY (cx ρ) (k + 1)).1 lim 53 args H) (slow_at (cx ρ) k 53) (fun lim a0 a1 a2 a3 H => E53 ρ k lim a0 a1 a2 a3 H), tr47_all ρ k, tr60_all ρ k⟩
noncomputable def tr70 (ρ : Addr → Option Value) (c : CallF) (y : YieldF) (k : Nat) : DT := .node 70 (ar1 (fun lim a0 H => L70 ρ c y lim k a0 H) (fun lim args H => slowF (cx ρ) c y k lim 70 args H)) .leaf .leaf
theorem tr70_all (ρ : Addr → Option Value) (k : Nat) : (tr70 ρ (evCY (cx ρ) k).1 (evCY (cx ρ) k).2 k).All fun f h => h = fun lim args H => (evCY (cx ρ) (k + 1)).1 lim f args H :=
  ⟨ar1_eq (F := fun lim args H => (evCY (cx ρ) (k + 1)).1 lim 70 args H) (slow_at (cx ρ) k 70) (fun lim a0 H => E70 ρ k lim a0 H), trivial, trivial⟩
noncomputable def tr72 (ρ : Addr → Option Value) (c : CallF) (y : YieldF) (k : Nat) : DT := .node 72 (ar2 (fun lim a0 a1 H => L72 ρ c y lim k a0 a1 H) (fun lim args H => slowF (cx ρ) c y k lim 72 args H)) .leaf .leaf
theorem tr72_all (ρ : Addr → Option Value) (k : Nat) : (tr72 ρ (evCY (cx ρ) k).1 (evCY (cx ρ) k).2 k).All fun f h => h = fun lim args H => (evCY (cx ρ) (k + 1)).1 lim f args H :=
  ⟨ar2_eq (F := fun lim args H => (evCY (cx ρ) (k + 1)).1 lim 72 args H) (slow_at (cx ρ) k 72) (fun lim a0 a1 H => E72 ρ k lim a0 a1 H), trivial, trivial⟩
noncomputable def tr71 (ρ : Addr → Option Value) (c : CallF) (y : YieldF) (k : Nat) : DT := .node 71 (ar1 (fun lim a0 H => L71 ρ c y lim k a0 H) (fun lim args H => slowF (cx ρ) c y k lim 71 args H)) (tr70 ρ c y k) (tr72 ρ c y k)
theorem tr71_all (ρ : Addr → Option Value) (k : Nat) : (tr71 ρ (evCY (cx ρ) k).1 (evCY (cx ρ) k).2 k).All fun f h => h = fun lim args H => (evCY (cx ρ) (k + 1)).1 lim f args H :=
  ⟨ar1_eq (F := fun lim args H => (evCY (cx ρ) (k + 1)).1 lim 71 args H) (slow_at (cx ρ) k 71) (fun lim a0 H => E71 ρ k lim a0 H), tr70_all ρ k, tr72_all ρ k⟩
noncomputable def tr80 (ρ : Addr → Option Value) (c : CallF) (y : YieldF) (k : Nat) : DT := .node 80 (ar5 (fun lim a0 a1 a2 a3 a4 H => L80 ρ c y lim k a0 a1 a2 a3 a4 H) (fun lim args H => slowF (cx ρ) c y k lim 80 args H)) .leaf .leaf
theorem tr80_all (ρ : Addr → Option Value) (k : Nat) : (tr80 ρ (evCY (cx ρ) k).1 (evCY (cx ρ) k).2 k).All fun f h => h = fun lim args H => (evCY (cx ρ) (k + 1)).1 lim f args H :=
  ⟨ar5_eq (F := fun lim args H => (evCY (cx ρ) (k + 1)).1 lim 80 args H) (slow_at (cx ρ) k 80) (fun lim a0 a1 a2 a3 a4 H => E80 ρ k lim a0 a1 a2 a3 a4 H), trivial, trivial⟩
noncomputable def tr81 (ρ : Addr → Option Value) (c : CallF) (y : YieldF) (k : Nat) : DT := .node 81 (ar1 (fun lim a0 H => L81 ρ c y lim k a0 H) (fun lim args H => slowF (cx ρ) c y k lim 81 args H)) (tr80 ρ c y k) .leaf
theorem tr81_all (ρ : Addr → Option Value) (k : Nat) : (tr81 ρ (evCY (cx ρ) k).1 (evCY (cx ρ) k).2 k).All fun f h => h = fun lim args H => (evCY (cx ρ) (k + 1)).1 lim f args H :=
  ⟨ar1_eq (F := fun lim args H => (evCY (cx ρ) (k + 1)).1 lim 81 args H) (slow_at (cx ρ) k 81) (fun lim a0 H => E81 ρ k lim a0 H), tr80_all ρ k, trivial⟩
noncomputable def tr79 (ρ : Addr → Option Value) (c : CallF) (y : YieldF) (k : Nat) : DT := .node 79 (ar3 (fun lim a0 a1 a2 H => L79 ρ c y lim k a0 a1 a2 H) (fun lim args H => slowF (cx ρ) c y k lim 79 args H)) (tr71 ρ c y k) (tr81 ρ c y k)
theorem tr79_all (ρ : Addr → Option Value) (k : Nat) : (tr79 ρ (evCY (cx ρ) k).1 (evCY (cx ρ) k).2 k).All fun f h => h = fun lim args H => (evCY (cx ρ) (k + 1)).1 lim f args H :=
  ⟨ar3_eq (F := fun lim args H => (evCY (cx ρ) (k + 1)).1 lim 79 args H) (slow_at (cx ρ) k 79) (fun lim a0 a1 a2 H => E79 ρ k lim a0 a1 a2 H), tr71_all ρ k, tr81_all ρ k⟩
noncomputable def tr83 (ρ : Addr → Option Value) (c : CallF) (y : YieldF) (k : Nat) : DT := .node 83 (ar1 (fun lim a0 H => L83 ρ c y lim k a0 H) (fun lim args H => slowF (cx ρ) c y k lim 83 args H)) .leaf .leaf
theorem tr83_all (ρ : Addr → Option Value) (k : Nat) : (tr83 ρ (evCY (cx ρ) k).1 (evCY (cx ρ) k).2 k).All fun f h => h = fun lim args H => (evCY (cx ρ) (k + 1)).1 lim f args H :=
  ⟨ar1_eq (F := fun lim args H => (evCY (cx ρ) (k + 1)).1 lim 83 args H) (slow_at (cx ρ) k 83) (fun lim a0 H => E83 ρ k lim a0 H), trivial, trivial⟩
noncomputable def tr88 (ρ : Addr → Option Value) (c : CallF) (y : YieldF) (k : Nat) : DT := .node 88 (ar1 (fun lim a0 H => L88 ρ c y lim k a0 H) (fun lim args H => slowF (cx ρ) c y k lim 88 args H)) (tr83 ρ c y k) .leaf
theorem tr88_all (ρ : Addr → Option Value) (k : Nat) : (tr88 ρ (evCY (cx ρ) k).1 (evCY (cx ρ) k).2 k).All fun f h => h = fun lim args H => (evCY (cx ρ) (k + 1)).1 lim f args H :=
  ⟨ar1_eq (F := fun lim args H => (evCY (cx ρ) (k + 1)).1 lim 88 args H) (slow_at (cx ρ) k 88) (fun lim a0 H => E88 ρ k lim a0 H), tr83_all ρ k, trivial⟩
noncomputable def tr91 (ρ : Addr → Option Value) (c : CallF) (y : YieldF) (k : Nat) : DT := .node 91 (ar2 (fun lim a0 a1 H => L91 ρ c y lim k a0 a1 H) (fun lim args H => slowF (cx ρ) c y k lim 91 args H)) .leaf .leaf
theorem tr91_all (ρ : Addr → Option Value) (k : Nat) : (tr91 ρ (evCY (cx ρ) k).1 (evCY (cx ρ) k).2 k).All fun f h => h = fun lim args H => (evCY (cx ρ) (k + 1)).1 lim f args H :=
  ⟨ar2_eq (F := fun lim args H => (evCY (cx ρ) (k + 1)).1 lim 91 args H) (slow_at (cx ρ) k 91) (fun lim a0 a1 H => E91 ρ k lim a0 a1 H), trivial, trivial⟩
noncomputable def tr96 (ρ : Addr → Option Value) (c : CallF) (y : YieldF) (k : Nat) : DT := .node 96 (ar1 (fun lim a0 H => L96 ρ c y lim k a0 H) (fun lim args H => slowF (cx ρ) c y k lim 96 args H)) (tr91 ρ c y k) .leaf
theorem tr96_all (ρ : Addr → Option Value) (k : Nat) : (tr96 ρ (evCY (cx ρ) k).1 (evCY (cx ρ) k).2 k).All fun f h => h = fun lim args H => (evCY (cx ρ) (k + 1)).1 lim f args H :=
  ⟨ar1_eq (F := fun lim args H => (evCY (cx ρ) (k + 1)).1 lim 96 args H) (slow_at (cx ρ) k 96) (fun lim a0 H => E96 ρ k lim a0 H), tr91_all ρ k, trivial⟩
noncomputable def tr90 (ρ : Addr → Option Value) (c : CallF) (y : YieldF) (k : Nat) : DT := .node 90 (ar2 (fun lim a0 a1 H => L90 ρ c y lim k a0 a1 H) (fun lim args H => slowF (cx ρ) c y k lim 90 args H)) (tr88 ρ c y k) (tr96 ρ c y k)
theorem tr90_all (ρ : Addr → Option Value) (k : Nat) : (tr90 ρ (evCY (cx ρ) k).1 (evCY (cx ρ) k).2 k).All fun f h => h = fun lim args H => (evCY (cx ρ) (k + 1)).1 lim f args H :=
  ⟨ar2_eq (F := fun lim args H => (evCY (cx ρ) (k + 1)).1 lim 90 args H) (slow_at (cx ρ) k 90) (fun lim a0 a1 H => E90 ρ k lim a0 a1 H), tr88_all ρ k, tr96_all ρ k⟩
noncomputable def tr82 (ρ : Addr → Option Value) (c : CallF) (y : YieldF) (k : Nat) : DT := .node 82 (ar1 (fun lim a0 H => L82 ρ c y lim k a0 H) (fun lim args H => slowF (cx ρ) c y k lim 82 args H)) (tr79 ρ c y k) (tr90 ρ c y k)
theorem tr82_all (ρ : Addr → Option Value) (k : Nat) : (tr82 ρ (evCY (cx ρ) k).1 (evCY (cx ρ) k).2 k).All fun f h => h = fun lim args H => (evCY (cx ρ) (k + 1)).1 lim f args H :=
  ⟨ar1_eq (F := fun lim args H => (evCY (cx ρ) (k + 1)).1 lim 82 args H) (slow_at (cx ρ) k 82) (fun lim a0 H => E82 ρ k lim a0 H), tr79_all ρ k, tr90_all ρ k⟩
noncomputable def tr68 (ρ : Addr → Option Value) (c : CallF) (y : YieldF) (k : Nat) : DT := .node 68 (ar3 (fun lim a0 a1 a2 H => L68 ρ c y lim k a0 a1 a2 H) (fun lim args H => slowF (cx ρ) c y k lim 68 args H)) (tr53 ρ c y k) (tr82 ρ c y k)
theorem tr68_all (ρ : Addr → Option Value) (k : Nat) : (tr68 ρ (evCY (cx ρ) k).1 (evCY (cx ρ) k).2 k).All fun f h => h = fun lim args H => (evCY (cx ρ) (k + 1)).1 lim f args H :=
  ⟨ar3_eq (F := fun lim args H => (evCY (cx ρ) (k + 1)).1 lim 68 args H) (slow_at (cx ρ) k 68) (fun lim a0 a1 a2 H => E68 ρ k lim a0 a1 a2 H), tr53_all ρ k, tr82_all ρ k⟩
noncomputable def tr43 (ρ : Addr → Option Value) (c : CallF) (y : YieldF) (k : Nat) : DT := .node 43 (ar2 (fun lim a0 a1 H => L43 ρ c y lim k a0 a1 H) (fun lim args H => slowF (cx ρ) c y k lim 43 args H)) (tr23 ρ c y k) (tr68 ρ c y k)
theorem tr43_all (ρ : Addr → Option Value) (k : Nat) : (tr43 ρ (evCY (cx ρ) k).1 (evCY (cx ρ) k).2 k).All fun f h => h = fun lim args H => (evCY (cx ρ) (k + 1)).1 lim f args H :=
  ⟨ar2_eq (F := fun lim args H => (evCY (cx ρ) (k + 1)).1 lim 43 args H) (slow_at (cx ρ) k 43) (fun lim a0 a1 H => E43 ρ k lim a0 a1 H), tr23_all ρ k, tr68_all ρ k⟩
noncomputable def fast (ρ : Addr → Option Value) (k : Nat) : CallF := (fastY (cx ρ) (tr43 ρ) k).1
theorem fast_eq (ρ : Addr → Option Value) (k : Nat) : fast ρ k = evCall (cx ρ) k := congrArg Prod.fst (fastY_eq (cx ρ) (tr43 ρ) (tr43_all ρ) k)
end Go.Proofs.YtnkeebchblfbgaaDoor
