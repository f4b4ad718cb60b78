/- Part 4: ScTab Sc0 Sc1 Sc2 Sc3 Sc4. -/
import Derived.Test.YtnkeebchblfbgaaDoorBnB
import Derived.Test.YtnkeebchblfbgaaDoorProg
import Derived.KernelRfl
-- part ScTab
/- The tables of the program: what is live, how draws go. Printed by a program of this repo. -/
set_option linter.unusedVariables false
namespace Go.Proofs.YtnkeebchblfbgaaDoor
open Go.Ev Go.RowKit
abbrev RO := Addr → Option Value
abbrev KR := List AV → Heap → Res
def dr : FuncId → Nat → Option (List (Nat × Bool))
  | 11, 11 => some [(0, true), (1, true), (3, true), (4, true), (2, false), (5, false), (6, true), (7, true)]
  | 12, 12 => some [(0, true), (1, true), (2, true), (3, true), (6, true), (7, true), (8, true), (9, true), (4, false), (5, true), (10, false), (11, true), (12, true), (13, true)]
  | 13, 7 => some [(0, true), (1, true), (2, true), (3, true), (4, true), (6, true), (7, true), (8, true), (9, true), (5, false), (10, false), (11, true), (12, false), (13, false)]
  | 16, 23 => some [(0, true), (1, true), (2, true), (3, true), (4, true), (5, true), (6, true), (7, true), (8, true), (9, true), (10, true), (11, true), (12, false), (13, true), (14, false)]
  | 18, 2 => some [(5, true), (0, true), (1, true), (2, false), (3, false), (4, true), (6, false)]
  | 25, 1 => some [(0, true), (1, true), (2, true), (3, true), (5, true), (6, true), (7, true), (8, true), (9, true), (4, false), (10, false), (11, true)]
  | 31, 6 => some [(0, true), (1, true), (2, true), (4, true), (5, true), (6, true), (7, true), (8, true), (9, true), (10, true), (11, true), (12, true), (13, true), (3, false), (14, false), (15, true), (16, false), (17, false)]
  | 74, 0 => some [(0, true), (1, true), (2, true), (3, true), (4, true), (5, true), (6, true), (7, true), (9, true), (10, true), (11, true), (12, true), (13, true), (8, false), (14, true), (15, true)]
  | 90, 1 => some [(0, true), (1, true), (3, true), (2, false), (4, true), (5, false), (6, true)]
  | 91, 1 => some [(0, true), (1, true), (3, true), (2, false), (4, true), (5, false), (6, true)]
  | _, _ => none
def xk : FuncId → Option XK
  | 56 => some (.same)
  | 58 => some (.idxB)
  | 78 => some (.cntB)
  | 86 => some (.nozero #[3] 52)
  | _ => none
def lv5 : Nat → Option (List Nat)
  | 8 => some [0, 3, 4, 5, 6]
  | 9 => some [0, 3, 4, 5, 6]
  | 14 => some [0, 3, 4, 5]
  | _ => none
def lv7 : Nat → Option (List Nat)
  | 5 => some [0, 5, 6]
  | 6 => some [0, 5, 6]
  | 11 => some [0, 5, 6, 9, 10, 11]
  | 14 => some [5]
  | _ => none
def lv9 : Nat → Option (List Nat)
  | 4 => some [0, 1, 5]
  | 5 => some [0, 1, 5]
  | 8 => some []
  | 1000007 => some [0, 1, 5, 80]
  | _ => none
def lv10 : Nat → Option (List Nat)
  | 4 => some [0, 3, 8, 9]
  | 10 => some [0, 3, 8, 9]
  | 11 => some [3]
  | _ => none
def lv11 : Nat → Option (List Nat)
  | 5 => some [4, 6]
  | 13 => some [4, 6, 7, 8, 9]
  | 18 => some [4, 6, 7]
  | 19 => some [6]
  | _ => none
def lv13 : Nat → Option (List Nat)
  | 3 => some [0, 3, 4]
  | 4 => some [0, 3, 4]
  | 8 => some [3]
  | _ => none
def lv14 : Nat → Option (List Nat)
  | 4 => some [0, 3]
  | 5 => some [0, 3]
  | 8 => some []
  | 1000007 => some [0, 3, 39]
  | _ => none
def lv15 : Nat → Option (List Nat)
  | 3 => some [4, 10, 11, 12]
  | 9 => some [4, 7, 10, 11, 12]
  | 10 => some [4, 10, 11, 12]
  | 11 => some [4]
  | _ => none
def lv16 : Nat → Option (List Nat)
  | 4 => some [1, 4]
  | 7 => some [1, 5]
  | 9 => some [1, 5]
  | 12 => some [1, 5, 6]
  | 13 => some [1, 5, 6]
  | 17 => some [1, 5]
  | 22 => some [5, 7]
  | 26 => some [5, 7]
  | 28 => some [5]
  | 1000003 => some [1, 4, 76]
  | 1000008 => some [1, 5, 100]
  | 1000021 => some [5, 7, 169]
  | _ => none
def lv18 : Nat → Option (List Nat)
  | 17 => some [2, 4, 5]
  | 21 => some [2, 4, 5]
  | 1000004 => some [2, 4, 5, 64]
  | 1000010 => some [2, 4, 5, 16, 28]
  | 1000013 => some [2, 4, 5, 16, 34]
  | 1000015 => some [2, 4, 5, 16, 34]
  | 1000017 => some [2, 4, 5, 16, 42]
  | _ => none
def lv21 : Nat → Option (List Nat)
  | 4 => some [0, 1, 5]
  | 8 => some []
  | _ => none
def lv31 : Nat → Option (List Nat)
  | 4 => some [1, 3]
  | 7 => some [1, 3]
  | 22 => some [3, 87, 88, 89]
  | 26 => some [3]
  | 1000013 => some [1, 3, 23, 64]
  | 1000014 => some [1, 3, 23, 64]
  | 1000019 => some [1, 3, 23, 73]
  | _ => none
def lv35 : Nat → Option (List Nat)
  | 2 => some [0, 3]
  | _ => none
def lv38 : Nat → Option (List Nat)
  | 2 => some [0, 1, 7, 8]
  | 7 => some []
  | _ => none
def lv39 : Nat → Option (List Nat)
  | 6 => some [3]
  | _ => none
def lv41 : Nat → Option (List Nat)
  | 10 => some [0, 2, 4, 5, 6]
  | 12 => some [2, 4]
  | _ => none
def lv50 : Nat → Option (List Nat)
  | 10 => some [0, 1, 5]
  | 11 => some [0, 1, 5]
  | 12 => some [0, 1, 5, 39, 40, 41]
  | 16 => some [0, 1, 5, 7, 39, 40, 41]
  | 17 => some [0, 1, 5, 39, 40, 41]
  | 18 => some [0, 1, 5]
  | 22 => some [1, 8, 63, 64, 65]
  | 27 => some [8]
  | _ => none
def lv51 : Nat → Option (List Nat)
  | 4 => some [0, 1, 12, 13]
  | 9 => some []
  | _ => none
def lv52 : Nat → Option (List Nat)
  | 10 => some [0, 1, 5]
  | 12 => some [0, 1, 5, 6, 7]
  | 15 => some [0, 1, 5, 6, 7, 8, 9, 10]
  | 21 => some [0, 1, 5, 6, 7, 8, 9, 10]
  | 23 => some [0, 1, 5, 6, 7, 8, 9, 10]
  | 29 => some []
  | 35 => some []
  | 1000009 => some [0, 1, 5, 36]
  | 1000022 => some [0, 1, 5, 6, 7, 8, 9, 10, 93]
  | 1000028 => some [8, 12, 114]
  | 1000031 => some [0, 1, 5, 6, 7, 8, 9, 10, 132]
  | _ => none
def lv53 : Nat → Option (List Nat)
  | 7 => some [0, 1, 2, 3]
  | 9 => some [0, 1, 2, 3, 9]
  | 11 => some [0, 1, 2, 3, 9, 10]
  | 16 => some [0, 1, 2, 3, 9, 10]
  | 17 => some [0, 9, 10]
  | _ => none
def lv60 : Nat → Option (List Nat)
  | 9 => some [8]
  | _ => none
def lv61 : Nat → Option (List Nat)
  | 3 => some [0, 1]
  | _ => none
def lv66 : Nat → Option (List Nat)
  | 6 => some [0, 1, 5]
  | _ => none
def lv69 : Nat → Option (List Nat)
  | 8 => some [0, 5, 6]
  | 10 => some [0, 5, 7]
  | 14 => some [0, 1]
  | 15 => some [9]
  | _ => none
def lv72 : Nat → Option (List Nat)
  | 1 => some [0, 1, 4]
  | 7 => some [0, 1, 4, 8, 9, 10, 11]
  | 9 => some [0, 1, 4, 10, 11]
  | 11 => some [0, 1, 4]
  | 12 => some [0, 1, 4]
  | 18 => some [0, 4, 12, 14]
  | 20 => some [0, 4, 12]
  | 23 => some [0, 4, 12, 16]
  | 25 => some [0, 4, 12]
  | _ => none
def lv79 : Nat → Option (List Nat)
  | 21 => some [0, 1, 2, 8, 9]
  | 25 => some [0, 1, 2, 8, 9]
  | 32 => some [0, 1, 2, 8, 9, 10]
  | 33 => some [0, 1, 8, 9, 10, 11]
  | 36 => some [1, 8, 9, 10, 11, 12, 13, 99, 100, 101]
  | 46 => some [1, 8, 9, 10, 11, 12, 13, 16, 99, 100, 101]
  | 48 => some [1, 8, 9, 10, 11, 12, 13, 16, 99, 100, 101]
  | 54 => some [1, 8, 9, 10, 11, 12, 17, 99, 100, 101]
  | 55 => some [1, 8, 9, 10, 11, 12, 13, 99, 100, 101]
  | 56 => some [9, 12, 13]
  | 1000012 => some [0, 1, 2, 8, 9, 37]
  | 1000019 => some [0, 2, 8, 9, 64]
  | 1000045 => some [1, 8, 9, 10, 11, 12, 13, 15, 99, 100, 101, 121]
  | 1000047 => some [1, 8, 9, 10, 11, 12, 13, 16, 99, 100, 101, 137]
  | 1000053 => some [1, 8, 9, 10, 11, 12, 17, 99, 100, 101, 159]
  | _ => none
def lv82 : Nat → Option (List Nat)
  | 4 => some [0, 2]
  | 7 => some [0, 2]
  | 10 => some [0, 2]
  | _ => none
def lv : FuncId → Nat → Option (List Nat)
  | 5 => lv5
  | 7 => lv7
  | 9 => lv9
  | 10 => lv10
  | 11 => lv11
  | 13 => lv13
  | 14 => lv14
  | 15 => lv15
  | 16 => lv16
  | 18 => lv18
  | 21 => lv21
  | 31 => lv31
  | 35 => lv35
  | 38 => lv38
  | 39 => lv39
  | 41 => lv41
  | 50 => lv50
  | 51 => lv51
  | 52 => lv52
  | 53 => lv53
  | 60 => lv60
  | 61 => lv61
  | 66 => lv66
  | 69 => lv69
  | 72 => lv72
  | 79 => lv79
  | 82 => lv82
  | _ => fun _ => none
noncomputable def cx (ρ : RO) : Ctx := { P := Tryd.prog, ext := xk, ρ := ρ, live := lv, draw := dr, pur := fun _ => false, strict := false }
end Go.Proofs.YtnkeebchblfbgaaDoor

-- part Sc0
/- Functions, lifted. Printed by a program of this repo. -/
set_option linter.unusedVariables false
set_option linter.unusedSimpArgs false
set_option maxRecDepth 100000
set_option maxHeartbeats 4000000
namespace Go.Proofs.YtnkeebchblfbgaaDoor
open Go.Ev Go.RowKit
-- haycroft/haycroftlaw27.ScriptPrints
noncomputable def c5 : Code := Code.of Tryd.prog 5
noncomputable def N5_1 (ρ : RO) (call : CallF) (yc : YieldF) (lim k : Nat) (x0 x3 x4 x5 : AV) (H : Heap) (R : KR) : Res :=
  resK (call lim 7 [x3] H) fun x49_1 H =>
  purK (extA 0 x49_1) fun x50_1 =>
  purK (extA 1 x49_1) fun x51_1 =>
  purK (extA 2 x49_1) fun x52_1 =>
  purK (binA Tryd.prog H .eql 9 x3 x5) fun x55_1 =>
  purK (gPur (wantV x55_1 true) (some x4)) fun x57_1 =>
  purK (gPur (wantV x55_1 true) (binA Tryd.prog H .eql 24 x57_1 (.int .i64 0))) fun x58_1 =>
  purK (pickA x55_1 x58_1 (.bool false)) fun x59_1 =>
  purK (gPur (wantV x59_1 true) (some x0)) fun x61_1 =>
  purK (gPur (wantV x59_1 true) (some x50_1)) fun x62_1 =>
  resK (gRes (wantV x59_1 true) H (call lim 9 [x61_1, x62_1] H)) fun x63_1 H =>
  purK (pickA x59_1 x63_1 (.bool false)) fun x64_1 =>
  purK (gPur (wantV x64_1 true) (some x51_1)) fun x66_1 =>
  purK (gPur (wantV x64_1 true) (binA Tryd.prog H .eql 3 x66_1 (.int .i64 0))) fun x67_1 =>
  purK (pickA x64_1 x67_1 (.bool false)) fun x68_1 =>
  purK (gPur (wantV x68_1 true) (some x52_1)) fun x70_1 =>
  purK (gPur (wantV x68_1 true) (binA Tryd.prog H .eql 24 x70_1 (.int .i64 0))) fun x71_1 =>
  purK (pickA x68_1 x71_1 (.bool false)) fun x72_1 =>
  R [x72_1] H
theorem N5_1_eq (ρ : RO) (call : CallF) (yc : YieldF) (lim k : Nat) (x0 x3 x4 x5 : AV) (H : Heap) (R : KR) :
  evL (cx ρ) call yc false 5 lim k (Code.at [1, 1, 1, 1, 1, 1] c5) (sp 73 [(0, x0), (3, x3), (4, x4), (5, x5)]) H (kk none (fun s H => R (([2] : List Nat).map fun t => s.getD t (.tup [])) H) [] R [2]) = N5_1 ρ call yc lim k x0 x3 x4 x5 H R := by
  kernel_rfl
noncomputable def N5_4 (ρ : RO) (call : CallF) (yc : YieldF) (lim k : Nat) (x0 x3 x4 x5 x6 : AV) (H : Heap) (kn : AV → AV → Heap → Res) : Res :=
  purK (binA Tryd.prog H .add 3 x6 (.int .i64 1)) fun x26_1 =>
  kn x5 x26_1 H
theorem N5_4_eq (ρ : RO) (call : CallF) (yc : YieldF) (lim k : Nat) (x0 x3 x4 x5 x6 : AV) (H : Heap) (kn : KS) (k0 : KS) (R : KR) :
  evL (cx ρ) call yc false 5 lim k (Code.at [1, 1, 1, 1, 1, 0, 1, 0, 0, 1, 1] c5) (sp 73 [(0, x0), (3, x3), (4, x4), (5, x5), (6, x6)]) H (kk (some [0, 3, 4, 5, 6]) kn [(0, (some [0, 3, 4, 5]), k0)] R [2]) = N5_4 ρ call yc lim k x0 x3 x4 x5 x6 H (fun x5 x6 H => kn (sp 73 [(0, x0), (3, x3), (4, x4), (5, x5), (6, x6)]) H) := by
  kernel_rfl
noncomputable def N5_3b (ρ : RO) (call : CallF) (yc : YieldF) (lim k : Nat) (x0 x3 x4 x5 x6 : AV) (H : Heap) (kn : AV → AV → Heap → Res) (k0 : AV → AV → AV → AV → Heap → Res) (R : KR) : Res :=
  purK (lenS x0) fun x23_1 =>
  purK (binA Tryd.prog H .lss 3 x6 x23_1) fun x24_1 =>
  condK x24_1
  (
  purK (ixS 8 x0 x6) fun x30_1 =>
  purK (ldN ρ H 8 x30_1) fun x31_1 =>
  resK (call lim 16 [x31_1] H) fun x32_1 H =>
  purK (extA 0 x32_1) fun x33_1 =>
  purK (extA 1 x32_1) fun x34_1 =>
  purK (unA .not x34_1) fun x36_1 =>
  condK x36_1
  (
  purK (binA Tryd.prog H .eql 9 x3 (.str (ByteArray.mk #[]))) fun x38_1 =>
  purK (gPur (wantV x38_1 true) (some x4)) fun x40_1 =>
  purK (gPur (wantV x38_1 true) (binA Tryd.prog H .eql 24 x40_1 (.int .i64 1))) fun x41_1 =>
  purK (pickA x38_1 x41_1 (.bool false)) fun x42_1 =>
  R [x42_1] H)
  (
  purK (binA Tryd.prog H .add 9 x5 x33_1) fun x45_1 =>
  purK (binA Tryd.prog H .add 9 x45_1 (.str (ByteArray.mk #[10]))) fun x46_1 =>
  N5_4 ρ call yc lim k x0 x3 x4 x46_1 x6 H kn))
  (
  k0 x0 x3 x4 x5 H)
theorem N5_3b_x (ρ : RO) (call : CallF) (yc : YieldF) (lim k : Nat) (J : CodeF) (x0 x3 x4 x5 x6 : AV) (H : Heap) (kn : KS) (k0 : KS) (R : KR) :
  evX (cx ρ) call yc false 5 lim k J (Code.at [1, 1, 1, 1, 1, 0, 1, 0, 0] c5) (sp 73 [(0, x0), (3, x3), (4, x4), (5, x5), (6, x6)]) H (kk (some [0, 3, 4, 5, 6]) kn [(0, (some [0, 3, 4, 5]), k0)] R [2]) =
  purK (lenS x0) fun x23_1 =>
  purK (binA Tryd.prog H .lss 3 x6 x23_1) fun x24_1 =>
  condK x24_1
  (
  purK (ixS 8 x0 x6) fun x30_1 =>
  purK (ldN ρ H 8 x30_1) fun x31_1 =>
  resK (call lim 16 [x31_1] H) fun x32_1 H =>
  purK (extA 0 x32_1) fun x33_1 =>
  purK (extA 1 x32_1) fun x34_1 =>
  purK (unA .not x34_1) fun x36_1 =>
  condK x36_1
  (
  purK (binA Tryd.prog H .eql 9 x3 (.str (ByteArray.mk #[]))) fun x38_1 =>
  purK (gPur (wantV x38_1 true) (some x4)) fun x40_1 =>
  purK (gPur (wantV x38_1 true) (binA Tryd.prog H .eql 24 x40_1 (.int .i64 1))) fun x41_1 =>
  purK (pickA x38_1 x41_1 (.bool false)) fun x42_1 =>
  R [x42_1] H)
  (
  purK (binA Tryd.prog H .add 9 x5 x33_1) fun x45_1 =>
  purK (binA Tryd.prog H .add 9 x45_1 (.str (ByteArray.mk #[10]))) fun x46_1 =>
  J (Code.at [1, 1, 1, 1, 1, 0, 1, 0, 0, 1, 1] c5) (sp 73 [(0, x0), (3, x3), (4, x4), (5, x46_1), (6, x6)]) H (kk (some [0, 3, 4, 5, 6]) kn [(0, (some [0, 3, 4, 5]), k0)] R [2])))
  (
  k0 (sp 73 [(0, x0), (3, x3), (4, x4), (5, x5)]) H) := by
  kernel_rfl
theorem N5_3b_eq (ρ : RO) (call : CallF) (yc : YieldF) (lim k : Nat) (x0 x3 x4 x5 x6 : AV) (H : Heap) (kn : KS) (k0 : KS) (R : KR) :
  evL (cx ρ) call yc false 5 lim k (Code.at [1, 1, 1, 1, 1, 0, 1, 0, 0] c5) (sp 73 [(0, x0), (3, x3), (4, x4), (5, x5), (6, x6)]) H (kk (some [0, 3, 4, 5, 6]) kn [(0, (some [0, 3, 4, 5]), k0)] R [2]) = N5_3b ρ call yc lim k x0 x3 x4 x5 x6 H (fun x5 x6 H => kn (sp 73 [(0, x0), (3, x3), (4, x4), (5, x5), (6, x6)]) H) (fun x0 x3 x4 x5 H => k0 (sp 73 [(0, x0), (3, x3), (4, x4), (5, x5)]) H) R := by
  rw [evL_X, N5_3b_x]
  simp only [← evL_X, N5_3b, N5_4_eq]
noncomputable def N5_3 (ρ : RO) (call : CallF) (yc : YieldF) (lim k : Nat) (x0 x3 x4 x5 x6 : AV) (H : Heap) (k0 : AV → AV → AV → AV → Heap → Res) (R : KR) : Res :=
  loopL (fun (x : AV × AV) H kn => N5_3b ρ call yc lim k x0 x3 x4 x.1 x.2 H (fun x5 x6 H => kn (x5, x6) H) k0 R) k (x5, x6) H
theorem N5_3_eq (ρ : RO) (call : CallF) (yc : YieldF) (lim k : Nat) (x0 x3 x4 x5 x6 : AV) (H : Heap) (kn : KS) (k0 : KS) (R : KR) :
  evL (cx ρ) call yc false 5 lim k (Code.at [1, 1, 1, 1, 1, 0, 1, 0] c5) (sp 73 [(0, x0), (3, x3), (4, x4), (5, x5), (6, x6)]) H (kk (some [0, 3, 4, 5]) kn [(0, (some [0, 3, 4, 5]), k0)] R [2]) = N5_3 ρ call yc lim k x0 x3 x4 x5 x6 H (fun x0 x3 x4 x5 H => k0 (sp 73 [(0, x0), (3, x3), (4, x4), (5, x5)]) H) R := by
  have e : Code.at [1, 1, 1, 1, 1, 0, 1, 0] c5 = .loop (Code.at [1, 1, 1, 1, 1, 0, 1, 0, 0] c5) := by kernel_rfl
  rw [e]
  unfold N5_3
  exact loop_node [0, 3, 4, 5, 6] (fun x : AV × AV => (sp 73 [(0, x0), (3, x3), (4, x4), (5, (x.1)), (6, (x.2))])) (fun (x : AV × AV) H kn => N5_3b ρ call yc lim k x0 x3 x4 x.1 x.2 H (fun x5 x6 H => kn (x5, x6) H) (fun x0 x3 x4 x5 H => k0 (sp 73 [(0, x0), (3, x3), (4, x4), (5, x5)]) H) R) (by kernel_rfl) (fun x => by kernel_rfl) (fun x H kn => N5_3b_eq ρ call yc lim k x0 x3 x4 (x.1) (x.2) H kn k0 R) (x5, x6) (sp 73 [(0, x0), (3, x3), (4, x4), (5, x5), (6, x6)]) H (by kernel_rfl)
noncomputable def N5_2 (ρ : RO) (call : CallF) (yc : YieldF) (lim k : Nat) (x0 x3 x4 x5 x6 : AV) (H : Heap) (kn : AV → AV → AV → AV → Heap → Res) (R : KR) : Res :=
  N5_3 ρ call yc lim k x0 x3 x4 x5 x6 H kn R
theorem N5_2_x (ρ : RO) (call : CallF) (yc : YieldF) (lim k : Nat) (J : CodeF) (x0 x3 x4 x5 x6 : AV) (H : Heap) (kn : KS) (R : KR) :
  evX (cx ρ) call yc false 5 lim k J (Code.at [1, 1, 1, 1, 1, 0, 1] c5) (sp 73 [(0, x0), (3, x3), (4, x4), (5, x5), (6, x6)]) H (kk (some [0, 3, 4, 5]) kn [] R [2]) =
  J (Code.at [1, 1, 1, 1, 1, 0, 1, 0] c5) (sp 73 [(0, x0), (3, x3), (4, x4), (5, x5), (6, x6)]) H (kk (some [0, 3, 4, 5]) kn [(0, (some [0, 3, 4, 5]), kn)] R [2]) := by
  kernel_rfl
theorem N5_2_eq (ρ : RO) (call : CallF) (yc : YieldF) (lim k : Nat) (x0 x3 x4 x5 x6 : AV) (H : Heap) (kn : KS) (R : KR) :
  evL (cx ρ) call yc false 5 lim k (Code.at [1, 1, 1, 1, 1, 0, 1] c5) (sp 73 [(0, x0), (3, x3), (4, x4), (5, x5), (6, x6)]) H (kk (some [0, 3, 4, 5]) kn [] R [2]) = N5_2 ρ call yc lim k x0 x3 x4 x5 x6 H (fun x0 x3 x4 x5 H => kn (sp 73 [(0, x0), (3, x3), (4, x4), (5, x5)]) H) R := by
  rw [evL_X, N5_2_x]
  simp only [← evL_X, N5_2, N5_3_eq]
noncomputable def L5 (ρ : RO) (call : CallF) (yc : YieldF) (lim k : Nat) (x0 : AV) (H : Heap) : Res :=
  resK (call lim 6 [] H) fun x12 H =>
  purK (unA .not x12) fun x13 =>
  condK x13
  (
  retK [(.bool false)] H)
  (
  resK (call lim 14 [x0] H) fun x15 H =>
  condK x15
  (
  retK [(.bool true)] H)
  (
  resK (call lim 15 [x0] H) fun x18 H =>
  purK (extA 0 x18) fun x19 =>
  purK (extA 1 x18) fun x20 =>
  N5_2 ρ call yc lim k x0 x19 x20 (.str (ByteArray.mk #[])) (.int .i64 0) H (fun x0_1 x3 x4 x5 H =>
  N5_1 ρ call yc lim k x0_1 x3 x4 x5 H retK) retK))
theorem L5_x (ρ : RO) (call : CallF) (yc : YieldF) (lim k : Nat) (J : CodeF) (x0 : AV) (H : Heap) :
  evX (cx ρ) call yc false 5 lim k J c5 [x0, (.tup []), (.tup []), (.tup []), (.tup []), (.tup []), (.tup []), (.tup []), (.tup []), (.tup []), (.tup []), (.tup []), (.tup []), (.tup []), (.tup []), (.tup []), (.tup []), (.tup []), (.tup []), (.tup []), (.tup []), (.tup []), (.tup []), (.tup []), (.tup []), (.tup []), (.tup []), (.tup []), (.tup []), (.tup []), (.tup []), (.tup []), (.tup []), (.tup []), (.tup []), (.tup []), (.tup []), (.tup []), (.tup []), (.tup []), (.tup []), (.tup []), (.tup []), (.tup []), (.tup []), (.tup []), (.tup []), (.tup []), (.tup []), (.tup []), (.tup []), (.tup []), (.tup []), (.tup []), (.tup []), (.tup []), (.tup []), (.tup []), (.tup []), (.tup []), (.tup []), (.tup []), (.tup []), (.tup []), (.tup []), (.tup []), (.tup []), (.tup []), (.tup []), (.tup []), (.tup []), (.tup []), (.tup [])] H (kk none (fun s H => retK (([2] : List Nat).map fun t => s.getD t (.tup [])) H) [] retK [2]) =
  resK (call lim 6 [] H) fun x12 H =>
  purK (unA .not x12) fun x13 =>
  condK x13
  (
  retK [(.bool false)] H)
  (
  resK (call lim 14 [x0] H) fun x15 H =>
  condK x15
  (
  retK [(.bool true)] H)
  (
  resK (call lim 15 [x0] H) fun x18 H =>
  purK (extA 0 x18) fun x19 =>
  purK (extA 1 x18) fun x20 =>
  J (Code.at [1, 1, 1, 1, 1, 0, 1] c5) (sp 73 [(0, x0), (3, x19), (4, x20), (5, (.str (ByteArray.mk #[]))), (6, (.int .i64 0))]) H (kk (some [0, 3, 4, 5]) (fun s H => J (Code.at [1, 1, 1, 1, 1, 1] c5) s H (kk none (fun s H => retK (([2] : List Nat).map fun t => s.getD t (.tup [])) H) [] retK [2])) [] retK [2]))) := by
  kernel_rfl
theorem G5 (ρ : RO) (call : CallF) (yc : YieldF) (lim k : Nat) (x0 : AV) (H : Heap) :
  evL (cx ρ) call yc false 5 lim k c5 [x0, (.tup []), (.tup []), (.tup []), (.tup []), (.tup []), (.tup []), (.tup []), (.tup []), (.tup []), (.tup []), (.tup []), (.tup []), (.tup []), (.tup []), (.tup []), (.tup []), (.tup []), (.tup []), (.tup []), (.tup []), (.tup []), (.tup []), (.tup []), (.tup []), (.tup []), (.tup []), (.tup []), (.tup []), (.tup []), (.tup []), (.tup []), (.tup []), (.tup []), (.tup []), (.tup []), (.tup []), (.tup []), (.tup []), (.tup []), (.tup []), (.tup []), (.tup []), (.tup []), (.tup []), (.tup []), (.tup []), (.tup []), (.tup []), (.tup []), (.tup []), (.tup []), (.tup []), (.tup []), (.tup []), (.tup []), (.tup []), (.tup []), (.tup []), (.tup []), (.tup []), (.tup []), (.tup []), (.tup []), (.tup []), (.tup []), (.tup []), (.tup []), (.tup []), (.tup []), (.tup []), (.tup []), (.tup [])] H (kk none (fun s H => retK (([2] : List Nat).map fun t => s.getD t (.tup [])) H) [] retK [2]) = L5 ρ call yc lim k x0 H := by
  rw [evL_X, L5_x]
  simp only [← evL_X, L5, N5_1_eq, N5_2_eq]
theorem E5 (ρ : RO) (k lim : Nat) (x0 : AV) (H : Heap) : evCall (cx ρ) (k + 1) lim 5 [x0] H = L5 ρ (evCall (cx ρ) k) (evCY (cx ρ) k).2 lim k x0 H := by
  rw [evCall_body (cx ρ) k lim 5 _ H Tryd.f5 c5 [2] (by kernel_rfl) (by kernel_rfl) (by kernel_rfl) (by kernel_rfl) (by kernel_rfl)]
  exact G5 ρ (evCall (cx ρ) k) (evCY (cx ρ) k).2 lim k x0 H
-- haycroft/haycroftlaw27.awake
noncomputable def c6 : Code := Code.of Tryd.prog 6
noncomputable def L6 (ρ : RO) (call : CallF) (yc : YieldF) (lim k : Nat) (H : Heap) : Res :=
  resK (call lim 7 [(.str (ByteArray.mk #[97, 115, 107, 32, 48, 32, 97, 100, 100, 32, 61, 107, 32, 53, 10]))] H) fun x7 H =>
  purK (extA 0 x7) fun x8 =>
  purK (extA 1 x7) fun x9 =>
  purK (extA 2 x7) fun x10 =>
  resK (call lim 11 [(.str (ByteArray.mk #[61, 37, 52, 49]))] H) fun x12 H =>
  purK (extA 0 x12) fun x13 =>
  purK (extA 1 x12) fun x14 =>
  purK (lenS x8) fun x16 =>
  purK (binA Tryd.prog H .eql 3 x16 (.int .i64 1)) fun x17 =>
  purK (gPur (wantV x17 true) (some x9)) fun x19 =>
  purK (gPur (wantV x17 true) (binA Tryd.prog H .eql 3 x19 (.int .i64 0))) fun x20 =>
  purK (pickA x17 x20 (.bool false)) fun x21 =>
  purK (gPur (wantV x21 true) (some x10)) fun x23 =>
  purK (gPur (wantV x21 true) (binA Tryd.prog H .eql 24 x23 (.int .i64 0))) fun x24 =>
  purK (pickA x21 x24 (.bool false)) fun x25 =>
  purK (gPur (wantV x25 true) (some x8)) fun x27 =>
  purK (gPur (wantV x25 true) (ixS 8 x27 (.int .i64 0))) fun x28 =>
  purK (gPur (wantV x25 true) (addA 3 x28)) fun x29 =>
  purK (gPur (wantV x25 true) (addA 3 x29)) fun x30 =>
  purK (gPur (wantV x25 true) (ld1 ρ H x30)) fun x31 =>
  purK (gPur (wantV x25 true) (binA Tryd.prog H .eql 38 x31 (.int .u64 5))) fun x32 =>
  purK (pickA x25 x32 (.bool false)) fun x33 =>
  purK (gPur (wantV x33 true) (some x14)) fun x35 =>
  purK (gPur (wantV x33 true) (binA Tryd.prog H .eql 24 x35 (.int .i64 4))) fun x36 =>
  purK (pickA x33 x36 (.bool false)) fun x37 =>
  retK [x37] H
theorem G6 (ρ : RO) (call : CallF) (yc : YieldF) (lim k : Nat) (H : Heap) :
  evL (cx ρ) call yc false 6 lim k c6 [(.tup []), (.tup []), (.tup []), (.tup []), (.tup []), (.tup []), (.tup []), (.tup []), (.tup []), (.tup []), (.tup []), (.tup []), (.tup []), (.tup []), (.tup []), (.tup []), (.tup []), (.tup []), (.tup []), (.tup []), (.tup []), (.tup []), (.tup []), (.tup []), (.tup []), (.tup []), (.tup []), (.tup []), (.tup []), (.tup []), (.tup []), (.tup []), (.tup []), (.tup []), (.tup []), (.tup []), (.tup []), (.tup [])] H (kk none (fun s H => retK (([0] : List Nat).map fun t => s.getD t (.tup [])) H) [] retK [0]) = L6 ρ call yc lim k H := by
  kernel_rfl
theorem E6 (ρ : RO) (k lim : Nat) (H : Heap) : evCall (cx ρ) (k + 1) lim 6 [] H = L6 ρ (evCall (cx ρ) k) (evCY (cx ρ) k).2 lim k H := by
  rw [evCall_body (cx ρ) k lim 6 _ H Tryd.f6 c6 [0] (by kernel_rfl) (by kernel_rfl) (by kernel_rfl) (by kernel_rfl) (by kernel_rfl)]
  exact G6 ρ (evCall (cx ρ) k) (evCY (cx ρ) k).2 lim k H
-- haycroft/script.Parse
noncomputable def c7 : Code := Code.of Tryd.prog 7
noncomputable def N7_1 (ρ : RO) (call : CallF) (yc : YieldF) (lim k : Nat) (x5 : AV) (H : Heap) (R : KR) : Res :=
  R [x5, (.int .i64 0), (.int .i64 0)] H
theorem N7_1_eq (ρ : RO) (call : CallF) (yc : YieldF) (lim k : Nat) (x5 : AV) (H : Heap) (R : KR) :
  evL (cx ρ) call yc false 7 lim k (Code.at [1, 1, 1, 1] c7) (sp 53 [(5, x5)]) H (kk none (fun s H => R (([2, 3, 4] : List Nat).map fun t => s.getD t (.tup [])) H) [] R [2, 3, 4]) = N7_1 ρ call yc lim k x5 H R := by
  kernel_rfl
noncomputable def N7_4 (ρ : RO) (call : CallF) (yc : YieldF) (lim k : Nat) (x0 x5 x6 : AV) (H : Heap) (kn : AV → AV → AV → Heap → Res) : Res :=
  purK (binA Tryd.prog H .add 3 x6 (.int .i64 1)) fun x18_1 =>
  kn x0 x5 x18_1 H
theorem N7_4_eq (ρ : RO) (call : CallF) (yc : YieldF) (lim k : Nat) (x0 x5 x6 : AV) (H : Heap) (kn : KS) (k0 : KS) (R : KR) :
  evL (cx ρ) call yc false 7 lim k (Code.at [1, 1, 1, 0, 1, 0, 0, 1, 1] c7) (sp 53 [(0, x0), (5, x5), (6, x6)]) H (kk (some [0, 5, 6]) kn [(0, (some [5]), k0)] R [2, 3, 4]) = N7_4 ρ call yc lim k x0 x5 x6 H (fun x0 x5 x6 H => kn (sp 53 [(0, x0), (5, x5), (6, x6)]) H) := by
  kernel_rfl
noncomputable def N7_5 (ρ : RO) (call : CallF) (yc : YieldF) (lim k : Nat) (x0 x5 x6 x9 x10 x11 : AV) (H : Heap) (kn : AV → AV → AV → Heap → Res) (R : KR) : Res :=
  purK (unA .not x11) fun x42_1 =>
  purK (gPur (wantV x42_1 false) (some x9)) fun x44_1 =>
  purK (gPur (wantV x42_1 false) (unA .not x44_1)) fun x45_1 =>
  purK (pickA x42_1 (.bool true) x45_1) fun x46_1 =>
  condK x46_1
  (
  R [.nils, x6, (.int .i64 4)] H)
  (
  purK (ldN ρ H 8 x10) fun x49_1 =>
  effK H (bldS H 43 8 [.int .i64 0, .int .i64 0, .int .i64 0, .int .i64 0, .str ByteArray.empty, .str ByteArray.empty, .int .u64 0, .nils] 1 [(0, 8, x49_1)]) fun x50_1 H =>
  effK H (apA ρ lim H 43 8 96 x5 x50_1) fun x51_1 H =>
  kn x0 x51_1 x6 H)
theorem N7_5_eq (ρ : RO) (call : CallF) (yc : YieldF) (lim k : Nat) (x0 x5 x6 x9 x10 x11 : AV) (H : Heap) (kn : KS) (k1 : KS) (k0 : KS) (R : KR) :
  evL (cx ρ) call yc false 7 lim k (Code.at [1, 1, 1, 0, 1, 0, 0, 1, 0, 0, 1, 1, 1, 1] c7) (sp 53 [(0, x0), (5, x5), (6, x6), (9, x9), (10, x10), (11, x11)]) H (kk (some [0, 5, 6]) kn [(1, (some [0, 5, 6]), k1), (0, (some [5]), k0)] R [2, 3, 4]) = N7_5 ρ call yc lim k x0 x5 x6 x9 x10 x11 H (fun x0 x5 x6 H => kn (sp 53 [(0, x0), (5, x5), (6, x6)]) H) R := by
  kernel_rfl
noncomputable def N7_3b (ρ : RO) (call : CallF) (yc : YieldF) (lim k : Nat) (x0 x5 x6 : AV) (H : Heap) (kn : AV → AV → AV → Heap → Res) (k0 : AV → Heap → Res) (R : KR) : Res :=
  purK (binA Tryd.prog H .neq 9 x0 (.str (ByteArray.mk #[]))) fun x16_1 =>
  condK x16_1
  (
  resK (call lim 17 [x0, (.str (ByteArray.mk #[10]))] H) fun x21_1 H =>
  purK (extA 0 x21_1) fun x22_1 =>
  purK (extA 1 x21_1) fun x23_1 =>
  purK (extA 2 x21_1) fun x24_1 =>
  purK (gPur (wantV x24_1 true) (some x22_1)) fun x28_1 =>
  purK (gPur (wantV x24_1 true) (binA Tryd.prog H .eql 9 x28_1 (.str (ByteArray.mk #[])))) fun x29_1 =>
  purK (gPur (wantV x24_1 true) (some x29_1)) fun x30_1 =>
  purK (gPur (wantV x30_1 false) (some x22_1)) fun x31_1 =>
  purK (gPur (wantV x30_1 false) (ixT x31_1 (.int .i64 0))) fun x32_1 =>
  purK (gPur (wantV x30_1 false) (binA Tryd.prog H .eql 5 x32_1 (.int .u8 35))) fun x33_1 =>
  purK (gPur (wantV x24_1 true) (pickA x30_1 (.bool true) x33_1)) fun x34_1 =>
  purK (pickA x24_1 x34_1 (.bool false)) fun x35_1 =>
  condK x35_1
  (
  N7_4 ρ call yc lim k x23_1 x5 x6 H kn)
  (
  resK (call lim 18 [x22_1] H) fun x38_1 H =>
  purK (extA 0 x38_1) fun x39_1 =>
  purK (extA 1 x38_1) fun x40_1 =>
  effK H (some (.ptr H.sz 0 0, .new (newCells 43 false [.int .i64 0, .int .i64 0, .int .i64 0, .int .i64 0, .str ByteArray.empty, .str ByteArray.empty, .int .u64 0, .nils]))) fun x10_1 H =>
  effK H (stA lim H 8 x10_1 x39_1) fun _ H =>
  N7_5 ρ call yc lim k x23_1 x5 x6 x24_1 x10_1 x40_1 H (fun x0_1 x5_1 x6_1 H =>
  N7_4 ρ call yc lim k x0_1 x5_1 x6_1 H kn) R))
  (
  k0 x5 H)
theorem N7_3b_x (ρ : RO) (call : CallF) (yc : YieldF) (lim k : Nat) (J : CodeF) (x0 x5 x6 : AV) (H : Heap) (kn : KS) (k0 : KS) (R : KR) :
  evX (cx ρ) call yc false 7 lim k J (Code.at [1, 1, 1, 0, 1, 0, 0] c7) (sp 53 [(0, x0), (5, x5), (6, x6)]) H (kk (some [0, 5, 6]) kn [(0, (some [5]), k0)] R [2, 3, 4]) =
  purK (binA Tryd.prog H .neq 9 x0 (.str (ByteArray.mk #[]))) fun x16_1 =>
  condK x16_1
  (
  resK (call lim 17 [x0, (.str (ByteArray.mk #[10]))] H) fun x21_1 H =>
  purK (extA 0 x21_1) fun x22_1 =>
  purK (extA 1 x21_1) fun x23_1 =>
  purK (extA 2 x21_1) fun x24_1 =>
  purK (gPur (wantV x24_1 true) (some x22_1)) fun x28_1 =>
  purK (gPur (wantV x24_1 true) (binA Tryd.prog H .eql 9 x28_1 (.str (ByteArray.mk #[])))) fun x29_1 =>
  purK (gPur (wantV x24_1 true) (some x29_1)) fun x30_1 =>
  purK (gPur (wantV x30_1 false) (some x22_1)) fun x31_1 =>
  purK (gPur (wantV x30_1 false) (ixT x31_1 (.int .i64 0))) fun x32_1 =>
  purK (gPur (wantV x30_1 false) (binA Tryd.prog H .eql 5 x32_1 (.int .u8 35))) fun x33_1 =>
  purK (gPur (wantV x24_1 true) (pickA x30_1 (.bool true) x33_1)) fun x34_1 =>
  purK (pickA x24_1 x34_1 (.bool false)) fun x35_1 =>
  condK x35_1
  (
  J (Code.at [1, 1, 1, 0, 1, 0, 0, 1, 1] c7) (sp 53 [(0, x23_1), (5, x5), (6, x6)]) H (kk (some [0, 5, 6]) kn [(0, (some [5]), k0)] R [2, 3, 4]))
  (
  resK (call lim 18 [x22_1] H) fun x38_1 H =>
  purK (extA 0 x38_1) fun x39_1 =>
  purK (extA 1 x38_1) fun x40_1 =>
  effK H (some (.ptr H.sz 0 0, .new (newCells 43 false [.int .i64 0, .int .i64 0, .int .i64 0, .int .i64 0, .str ByteArray.empty, .str ByteArray.empty, .int .u64 0, .nils]))) fun x10_1 H =>
  effK H (stA lim H 8 x10_1 x39_1) fun _ H =>
  J (Code.at [1, 1, 1, 0, 1, 0, 0, 1, 0, 0, 1, 1, 1, 1] c7) (sp 53 [(0, x23_1), (5, x5), (6, x6), (9, x24_1), (10, x10_1), (11, x40_1)]) H (kk (some [0, 5, 6]) (fun s H => J (Code.at [1, 1, 1, 0, 1, 0, 0, 1, 1] c7) s H (kk (some [0, 5, 6]) kn [(0, (some [5]), k0)] R [2, 3, 4])) [(1, (some [0, 5, 6]), (fun s H => J (Code.at [1, 1, 1, 0, 1, 0, 0, 1, 1] c7) s H (kk (some [0, 5, 6]) kn [(0, (some [5]), k0)] R [2, 3, 4]))), (0, (some [5]), k0)] R [2, 3, 4])))
  (
  k0 (sp 53 [(5, x5)]) H) := by
  kernel_rfl
theorem N7_3b_eq (ρ : RO) (call : CallF) (yc : YieldF) (lim k : Nat) (x0 x5 x6 : AV) (H : Heap) (kn : KS) (k0 : KS) (R : KR) :
  evL (cx ρ) call yc false 7 lim k (Code.at [1, 1, 1, 0, 1, 0, 0] c7) (sp 53 [(0, x0), (5, x5), (6, x6)]) H (kk (some [0, 5, 6]) kn [(0, (some [5]), k0)] R [2, 3, 4]) = N7_3b ρ call yc lim k x0 x5 x6 H (fun x0 x5 x6 H => kn (sp 53 [(0, x0), (5, x5), (6, x6)]) H) (fun x5 H => k0 (sp 53 [(5, x5)]) H) R := by
  rw [evL_X, N7_3b_x]
  simp only [← evL_X, N7_3b, N7_4_eq, N7_5_eq]
noncomputable def N7_3 (ρ : RO) (call : CallF) (yc : YieldF) (lim k : Nat) (x0 x5 x6 : AV) (H : Heap) (k0 : AV → Heap → Res) (R : KR) : Res :=
  loopL (fun (x : AV × AV × AV) H kn => N7_3b ρ call yc lim k x.1 x.2.1 x.2.2 H (fun x0 x5 x6 H => kn (x0, x5, x6) H) k0 R) k (x0, x5, x6) H
theorem N7_3_eq (ρ : RO) (call : CallF) (yc : YieldF) (lim k : Nat) (x0 x5 x6 : AV) (H : Heap) (kn : KS) (k0 : KS) (R : KR) :
  evL (cx ρ) call yc false 7 lim k (Code.at [1, 1, 1, 0, 1, 0] c7) (sp 53 [(0, x0), (5, x5), (6, x6)]) H (kk (some [5]) kn [(0, (some [5]), k0)] R [2, 3, 4]) = N7_3 ρ call yc lim k x0 x5 x6 H (fun x5 H => k0 (sp 53 [(5, x5)]) H) R := by
  have e : Code.at [1, 1, 1, 0, 1, 0] c7 = .loop (Code.at [1, 1, 1, 0, 1, 0, 0] c7) := by kernel_rfl
  rw [e]
  unfold N7_3
  exact loop_node [0, 5, 6] (fun x : AV × AV × AV => (sp 53 [(0, (x.1)), (5, (x.2.1)), (6, (x.2.2))])) (fun (x : AV × AV × AV) H kn => N7_3b ρ call yc lim k x.1 x.2.1 x.2.2 H (fun x0 x5 x6 H => kn (x0, x5, x6) H) (fun x5 H => k0 (sp 53 [(5, x5)]) H) R) (by kernel_rfl) (fun x => by kernel_rfl) (fun x H kn => N7_3b_eq ρ call yc lim k (x.1) (x.2.1) (x.2.2) H kn k0 R) (x0, x5, x6) (sp 53 [(0, x0), (5, x5), (6, x6)]) H (by kernel_rfl)
noncomputable def N7_2 (ρ : RO) (call : CallF) (yc : YieldF) (lim k : Nat) (x0 x5 x6 : AV) (H : Heap) (kn : AV → Heap → Res) (R : KR) : Res :=
  N7_3 ρ call yc lim k x0 x5 x6 H kn R
theorem N7_2_x (ρ : RO) (call : CallF) (yc : YieldF) (lim k : Nat) (J : CodeF) (x0 x5 x6 : AV) (H : Heap) (kn : KS) (R : KR) :
  evX (cx ρ) call yc false 7 lim k J (Code.at [1, 1, 1, 0, 1] c7) (sp 53 [(0, x0), (5, x5), (6, x6)]) H (kk (some [5]) kn [] R [2, 3, 4]) =
  J (Code.at [1, 1, 1, 0, 1, 0] c7) (sp 53 [(0, x0), (5, x5), (6, x6)]) H (kk (some [5]) kn [(0, (some [5]), kn)] R [2, 3, 4]) := by
  kernel_rfl
theorem N7_2_eq (ρ : RO) (call : CallF) (yc : YieldF) (lim k : Nat) (x0 x5 x6 : AV) (H : Heap) (kn : KS) (R : KR) :
  evL (cx ρ) call yc false 7 lim k (Code.at [1, 1, 1, 0, 1] c7) (sp 53 [(0, x0), (5, x5), (6, x6)]) H (kk (some [5]) kn [] R [2, 3, 4]) = N7_2 ρ call yc lim k x0 x5 x6 H (fun x5 H => kn (sp 53 [(5, x5)]) H) R := by
  rw [evL_X, N7_2_x]
  simp only [← evL_X, N7_2, N7_3_eq]
noncomputable def L7 (ρ : RO) (call : CallF) (yc : YieldF) (lim k : Nat) (x0 : AV) (H : Heap) : Res :=
  purK (lenT x0) fun x13 =>
  purK (binA Tryd.prog H .gtr 3 x13 (.int .i64 100000)) fun x14 =>
  condK x14
  (
  retK [.nils, (.int .i64 0), (.int .i64 5)] H)
  (
  N7_2 ρ call yc lim k x0 .nils (.int .i64 1) H (fun x5 H =>
  N7_1 ρ call yc lim k x5 H retK) retK)
theorem L7_x (ρ : RO) (call : CallF) (yc : YieldF) (lim k : Nat) (J : CodeF) (x0 : AV) (H : Heap) :
  evX (cx ρ) call yc false 7 lim k J c7 [x0, (.tup []), (.tup []), (.tup []), (.tup []), (.tup []), (.tup []), (.tup []), (.tup []), (.tup []), (.tup []), (.tup []), (.tup []), (.tup []), (.tup []), (.tup []), (.tup []), (.tup []), (.tup []), (.tup []), (.tup []), (.tup []), (.tup []), (.tup []), (.tup []), (.tup []), (.tup []), (.tup []), (.tup []), (.tup []), (.tup []), (.tup []), (.tup []), (.tup []), (.tup []), (.tup []), (.tup []), (.tup []), (.tup []), (.tup []), (.tup []), (.tup []), (.tup []), (.tup []), (.tup []), (.tup []), (.tup []), (.tup []), (.tup []), (.tup []), (.tup []), (.tup []), (.tup [])] H (kk none (fun s H => retK (([2, 3, 4] : List Nat).map fun t => s.getD t (.tup [])) H) [] retK [2, 3, 4]) =
  purK (lenT x0) fun x13 =>
  purK (binA Tryd.prog H .gtr 3 x13 (.int .i64 100000)) fun x14 =>
  condK x14
  (
  retK [.nils, (.int .i64 0), (.int .i64 5)] H)
  (
  J (Code.at [1, 1, 1, 0, 1] c7) (sp 53 [(0, x0), (5, .nils), (6, (.int .i64 1))]) H (kk (some [5]) (fun s H => J (Code.at [1, 1, 1, 1] c7) s H (kk none (fun s H => retK (([2, 3, 4] : List Nat).map fun t => s.getD t (.tup [])) H) [] retK [2, 3, 4])) [] retK [2, 3, 4])) := by
  kernel_rfl
theorem G7 (ρ : RO) (call : CallF) (yc : YieldF) (lim k : Nat) (x0 : AV) (H : Heap) :
  evL (cx ρ) call yc false 7 lim k c7 [x0, (.tup []), (.tup []), (.tup []), (.tup []), (.tup []), (.tup []), (.tup []), (.tup []), (.tup []), (.tup []), (.tup []), (.tup []), (.tup []), (.tup []), (.tup []), (.tup []), (.tup []), (.tup []), (.tup []), (.tup []), (.tup []), (.tup []), (.tup []), (.tup []), (.tup []), (.tup []), (.tup []), (.tup []), (.tup []), (.tup []), (.tup []), (.tup []), (.tup []), (.tup []), (.tup []), (.tup []), (.tup []), (.tup []), (.tup []), (.tup []), (.tup []), (.tup []), (.tup []), (.tup []), (.tup []), (.tup []), (.tup []), (.tup []), (.tup []), (.tup []), (.tup []), (.tup [])] H (kk none (fun s H => retK (([2, 3, 4] : List Nat).map fun t => s.getD t (.tup [])) H) [] retK [2, 3, 4]) = L7 ρ call yc lim k x0 H := by
  rw [evL_X, L7_x]
  simp only [← evL_X, L7, N7_1_eq, N7_2_eq]
theorem E7 (ρ : RO) (k lim : Nat) (x0 : AV) (H : Heap) : evCall (cx ρ) (k + 1) lim 7 [x0] H = L7 ρ (evCall (cx ρ) k) (evCY (cx ρ) k).2 lim k x0 H := by
  rw [evCall_body (cx ρ) k lim 7 _ H Tryd.f7 c7 [2, 3, 4] (by kernel_rfl) (by kernel_rfl) (by kernel_rfl) (by kernel_rfl) (by kernel_rfl)]
  exact G7 ρ (evCall (cx ρ) k) (evCY (cx ρ) k).2 lim k x0 H
-- haycroft/haycroftref27.Same
noncomputable def c9 : Code := Code.of Tryd.prog 9
noncomputable def N9_1 (ρ : RO) (call : CallF) (yc : YieldF) (lim k : Nat) (H : Heap) (R : KR) : Res :=
  R [(.bool true)] H
theorem N9_1_eq (ρ : RO) (call : CallF) (yc : YieldF) (lim k : Nat) (H : Heap) (R : KR) :
  evL (cx ρ) call yc false 9 lim k (Code.at [1, 1, 1] c9) (sp 81 []) H (kk none (fun s H => R (([4] : List Nat).map fun t => s.getD t (.tup [])) H) [] R [4]) = N9_1 ρ call yc lim k H R := by
  kernel_rfl
noncomputable def N9_4 (ρ : RO) (call : CallF) (yc : YieldF) (lim k : Nat) (x0 x1 x5 : AV) (H : Heap) (kn : AV → Heap → Res) : Res :=
  purK (binA Tryd.prog H .add 3 x5 (.int .i64 1)) fun x16_1 =>
  kn x16_1 H
theorem N9_4_eq (ρ : RO) (call : CallF) (yc : YieldF) (lim k : Nat) (x0 x1 x5 : AV) (H : Heap) (kn : KS) (k0 : KS) (R : KR) :
  evL (cx ρ) call yc false 9 lim k (Code.at [1, 1, 0, 1, 0, 0, 1, 1] c9) (sp 81 [(0, x0), (1, x1), (5, x5)]) H (kk (some [0, 1, 5]) kn [(0, (some []), k0)] R [4]) = N9_4 ρ call yc lim k x0 x1 x5 H (fun x5 H => kn (sp 81 [(0, x0), (1, x1), (5, x5)]) H) := by
  kernel_rfl
noncomputable def N9_5 (ρ : RO) (call : CallF) (yc : YieldF) (lim k : Nat) (x0 x1 x5 x80 : AV) (H : Heap) (kn : AV → Heap → Res) (R : KR) : Res :=
  condK x80
  (
  R [(.bool false)] H)
  (
  kn x5 H)
theorem N9_5_eq (ρ : RO) (call : CallF) (yc : YieldF) (lim k : Nat) (x0 x1 x5 x80 : AV) (H : Heap) (kn : KS) (k1 : KS) (k0 : KS) (R : KR) :
  evL (cx ρ) call yc false 9 lim k (Code.at [1, 1, 0, 1, 0, 0, 1, 0, 0, 1] c9) (sp 81 [(0, x0), (1, x1), (5, x5), (80, x80)]) H (kk (some [0, 1, 5]) kn [(1, (some [0, 1, 5]), k1), (0, (some []), k0)] R [4]) = N9_5 ρ call yc lim k x0 x1 x5 x80 H (fun x5 H => kn (sp 81 [(0, x0), (1, x1), (5, x5)]) H) R := by
  kernel_rfl
noncomputable def N9_3b (ρ : RO) (call : CallF) (yc : YieldF) (lim k : Nat) (x0 x1 x5 : AV) (H : Heap) (kn : AV → Heap → Res) (k0 : Heap → Res) (R : KR) : Res :=
  purK (lenS x0) fun x13_1 =>
  purK (binA Tryd.prog H .lss 3 x5 x13_1) fun x14_1 =>
  condK x14_1
  (
  purK (ixS 8 x0 x5) fun x19_1 =>
  purK (addA 0 x19_1) fun x20_1 =>
  purK (ld1 ρ H x20_1) fun x21_1 =>
  purK (ixS 8 x1 x5) fun x24_1 =>
  purK (addA 0 x24_1) fun x25_1 =>
  purK (ld1 ρ H x25_1) fun x26_1 =>
  purK (binA Tryd.prog H .neq 3 x21_1 x26_1) fun x27_1 =>
  boolK (wantV x27_1 false) fun b1 => purK (bif b1 then some x0 else some (.tup [])) fun x29_1 =>
  boolK (wantV x27_1 false) fun b2 => purK (bif b2 then some x5 else some (.tup [])) fun x30_1 =>
  boolK (wantV x27_1 false) fun b3 => purK (bif b3 then ixS 8 x29_1 x30_1 else some (.tup [])) fun x31_1 =>
  boolK (wantV x27_1 false) fun b4 => purK (bif b4 then addA 1 x31_1 else some (.tup [])) fun x32_1 =>
  boolK (wantV x27_1 false) fun b5 => purK (bif b5 then ld1 ρ H x32_1 else some (.tup [])) fun x33_1 =>
  boolK (wantV x27_1 false) fun b6 => purK (bif b6 then some x1 else some (.tup [])) fun x34_1 =>
  boolK (wantV x27_1 false) fun b7 => purK (bif b7 then some x5 else some (.tup [])) fun x35_1 =>
  boolK (wantV x27_1 false) fun b8 => purK (bif b8 then ixS 8 x34_1 x35_1 else some (.tup [])) fun x36_1 =>
  boolK (wantV x27_1 false) fun b9 => purK (bif b9 then addA 1 x36_1 else some (.tup [])) fun x37_1 =>
  boolK (wantV x27_1 false) fun b10 => purK (bif b10 then ld1 ρ H x37_1 else some (.tup [])) fun x38_1 =>
  boolK (wantV x27_1 false) fun b11 => purK (bif b11 then binA Tryd.prog H .neq 3 x33_1 x38_1 else some (.tup [])) fun x39_1 =>
  purK (pickA x27_1 (.bool true) x39_1) fun x40_1 =>
  boolK (wantV x40_1 false) fun b12 => purK (bif b12 then some x0 else some (.tup [])) fun x42_1 =>
  boolK (wantV x40_1 false) fun b13 => purK (bif b13 then some x5 else some (.tup [])) fun x43_1 =>
  boolK (wantV x40_1 false) fun b14 => purK (bif b14 then ixS 8 x42_1 x43_1 else some (.tup [])) fun x44_1 =>
  boolK (wantV x40_1 false) fun b15 => purK (bif b15 then addA 2 x44_1 else some (.tup [])) fun x45_1 =>
  boolK (wantV x40_1 false) fun b16 => purK (bif b16 then ld1 ρ H x45_1 else some (.tup [])) fun x46_1 =>
  boolK (wantV x40_1 false) fun b17 => purK (bif b17 then some x1 else some (.tup [])) fun x47_1 =>
  boolK (wantV x40_1 false) fun b18 => purK (bif b18 then some x5 else some (.tup [])) fun x48_1 =>
  boolK (wantV x40_1 false) fun b19 => purK (bif b19 then ixS 8 x47_1 x48_1 else some (.tup [])) fun x49_1 =>
  boolK (wantV x40_1 false) fun b20 => purK (bif b20 then addA 2 x49_1 else some (.tup [])) fun x50_1 =>
  boolK (wantV x40_1 false) fun b21 => purK (bif b21 then ld1 ρ H x50_1 else some (.tup [])) fun x51_1 =>
  boolK (wantV x40_1 false) fun b22 => purK (bif b22 then binA Tryd.prog H .neq 3 x46_1 x51_1 else some (.tup [])) fun x52_1 =>
  purK (pickA x40_1 (.bool true) x52_1) fun x53_1 =>
  boolK (wantV x53_1 false) fun b23 => purK (bif b23 then some x0 else some (.tup [])) fun x55_1 =>
  boolK (wantV x53_1 false) fun b24 => purK (bif b24 then some x5 else some (.tup [])) fun x56_1 =>
  boolK (wantV x53_1 false) fun b25 => purK (bif b25 then ixS 8 x55_1 x56_1 else some (.tup [])) fun x57_1 =>
  boolK (wantV x53_1 false) fun b26 => purK (bif b26 then addA 3 x57_1 else some (.tup [])) fun x58_1 =>
  boolK (wantV x53_1 false) fun b27 => purK (bif b27 then ldN ρ H 4 x58_1 else some (.tup [])) fun x59_1 =>
  boolK (wantV x53_1 false) fun b28 => purK (bif b28 then some x1 else some (.tup [])) fun x60_1 =>
  boolK (wantV x53_1 false) fun b29 => purK (bif b29 then some x5 else some (.tup [])) fun x61_1 =>
  boolK (wantV x53_1 false) fun b30 => purK (bif b30 then ixS 8 x60_1 x61_1 else some (.tup [])) fun x62_1 =>
  boolK (wantV x53_1 false) fun b31 => purK (bif b31 then addA 3 x62_1 else some (.tup [])) fun x63_1 =>
  boolK (wantV x53_1 false) fun b32 => purK (bif b32 then ldN ρ H 4 x63_1 else some (.tup [])) fun x64_1 =>
  boolK (wantV x53_1 false) fun b33 => purK (bif b33 then binA Tryd.prog H .neq 40 x59_1 x64_1 else some (.tup [])) fun x65_1 =>
  purK (pickA x53_1 (.bool true) x65_1) fun x66_1 =>
  boolK (wantV x66_1 false) fun b34 => purK (bif b34 then some x0 else some (.tup [])) fun x68_1 =>
  boolK (wantV x66_1 false) fun b35 => purK (bif b35 then some x5 else some (.tup [])) fun x69_1 =>
  boolK (wantV x66_1 false) fun b36 => purK (bif b36 then ixS 8 x68_1 x69_1 else some (.tup [])) fun x70_1 =>
  boolK (wantV x66_1 false) fun b37 => purK (bif b37 then addA 7 x70_1 else some (.tup [])) fun x71_1 =>
  boolK (wantV x66_1 false) fun b38 => purK (bif b38 then ld1 ρ H x71_1 else some (.tup [])) fun x72_1 =>
  boolK (wantV x66_1 false) fun b39 => purK (bif b39 then some x1 else some (.tup [])) fun x73_1 =>
  boolK (wantV x66_1 false) fun b40 => purK (bif b40 then some x5 else some (.tup [])) fun x74_1 =>
  boolK (wantV x66_1 false) fun b41 => purK (bif b41 then ixS 8 x73_1 x74_1 else some (.tup [])) fun x75_1 =>
  boolK (wantV x66_1 false) fun b42 => purK (bif b42 then addA 7 x75_1 else some (.tup [])) fun x76_1 =>
  boolK (wantV x66_1 false) fun b43 => purK (bif b43 then ld1 ρ H x76_1 else some (.tup [])) fun x77_1 =>
  boolK (wantV x66_1 false) fun b44 => resK (gRes (some b44) H (call lim 21 [x72_1, x77_1] H)) fun x78_1 H => bif !b44 || ((!b43 || true) && ((!b38 || true) && ((!b33 || true) && ((!b32 || true) && ((!b27 || true) && ((!b22 || true) && ((!b21 || true) && ((!b16 || true) && ((!b11 || true) && ((!b10 || true) && ((!b5 || true) && true))))))))))) then
  purK (gPur (wantV x66_1 false) (unA .not x78_1)) fun x79_1 =>
  purK (pickA x66_1 (.bool true) x79_1) fun x80_1 =>
  N9_5 ρ call yc lim k x0 x1 x5 x80_1 H (fun x5_1 H =>
  N9_4 ρ call yc lim k x0 x1 x5_1 H kn) R
  else none)
  (
  k0 H)
theorem N9_3b_x (ρ : RO) (call : CallF) (yc : YieldF) (lim k : Nat) (J : CodeF) (x0 x1 x5 : AV) (H : Heap) (kn : KS) (k0 : KS) (R : KR) :
  evX (cx ρ) call yc false 9 lim k J (Code.at [1, 1, 0, 1, 0, 0] c9) (sp 81 [(0, x0), (1, x1), (5, x5)]) H (kk (some [0, 1, 5]) kn [(0, (some []), k0)] R [4]) =
  purK (lenS x0) fun x13_1 =>
  purK (binA Tryd.prog H .lss 3 x5 x13_1) fun x14_1 =>
  condK x14_1
  (
  purK (ixS 8 x0 x5) fun x19_1 =>
  purK (addA 0 x19_1) fun x20_1 =>
  purK (ld1 ρ H x20_1) fun x21_1 =>
  purK (ixS 8 x1 x5) fun x24_1 =>
  purK (addA 0 x24_1) fun x25_1 =>
  purK (ld1 ρ H x25_1) fun x26_1 =>
  purK (binA Tryd.prog H .neq 3 x21_1 x26_1) fun x27_1 =>
  boolK (wantV x27_1 false) fun b1 => purK (bif b1 then some x0 else some (.tup [])) fun x29_1 =>
  boolK (wantV x27_1 false) fun b2 => purK (bif b2 then some x5 else some (.tup [])) fun x30_1 =>
  boolK (wantV x27_1 false) fun b3 => purK (bif b3 then ixS 8 x29_1 x30_1 else some (.tup [])) fun x31_1 =>
  boolK (wantV x27_1 false) fun b4 => purK (bif b4 then addA 1 x31_1 else some (.tup [])) fun x32_1 =>
  boolK (wantV x27_1 false) fun b5 => purK (bif b5 then ld1 ρ H x32_1 else some (.tup [])) fun x33_1 =>
  boolK (wantV x27_1 false) fun b6 => purK (bif b6 then some x1 else some (.tup [])) fun x34_1 =>
  boolK (wantV x27_1 false) fun b7 => purK (bif b7 then some x5 else some (.tup [])) fun x35_1 =>
  boolK (wantV x27_1 false) fun b8 => purK (bif b8 then ixS 8 x34_1 x35_1 else some (.tup [])) fun x36_1 =>
  boolK (wantV x27_1 false) fun b9 => purK (bif b9 then addA 1 x36_1 else some (.tup [])) fun x37_1 =>
  boolK (wantV x27_1 false) fun b10 => purK (bif b10 then ld1 ρ H x37_1 else some (.tup [])) fun x38_1 =>
  boolK (wantV x27_1 false) fun b11 => purK (bif b11 then binA Tryd.prog H .neq 3 x33_1 x38_1 else some (.tup [])) fun x39_1 =>
  purK (pickA x27_1 (.bool true) x39_1) fun x40_1 =>
  boolK (wantV x40_1 false) fun b12 => purK (bif b12 then some x0 else some (.tup [])) fun x42_1 =>
  boolK (wantV x40_1 false) fun b13 => purK (bif b13 then some x5 else some (.tup [])) fun x43_1 =>
  boolK (wantV x40_1 false) fun b14 => purK (bif b14 then ixS 8 x42_1 x43_1 else some (.tup [])) fun x44_1 =>
  boolK (wantV x40_1 false) fun b15 => purK (bif b15 then addA 2 x44_1 else some (.tup [])) fun x45_1 =>
  boolK (wantV x40_1 false) fun b16 => purK (bif b16 then ld1 ρ H x45_1 else some (.tup [])) fun x46_1 =>
  boolK (wantV x40_1 false) fun b17 => purK (bif b17 then some x1 else some (.tup [])) fun x47_1 =>
  boolK (wantV x40_1 false) fun b18 => purK (bif b18 then some x5 else some (.tup [])) fun x48_1 =>
  boolK (wantV x40_1 false) fun b19 => purK (bif b19 then ixS 8 x47_1 x48_1 else some (.tup [])) fun x49_1 =>
  boolK (wantV x40_1 false) fun b20 => purK (bif b20 then addA 2 x49_1 else some (.tup [])) fun x50_1 =>
  boolK (wantV x40_1 false) fun b21 => purK (bif b21 then ld1 ρ H x50_1 else some (.tup [])) fun x51_1 =>
  boolK (wantV x40_1 false) fun b22 => purK (bif b22 then binA Tryd.prog H .neq 3 x46_1 x51_1 else some (.tup [])) fun x52_1 =>
  purK (pickA x40_1 (.bool true) x52_1) fun x53_1 =>
  boolK (wantV x53_1 false) fun b23 => purK (bif b23 then some x0 else some (.tup [])) fun x55_1 =>
  boolK (wantV x53_1 false) fun b24 => purK (bif b24 then some x5 else some (.tup [])) fun x56_1 =>
  boolK (wantV x53_1 false) fun b25 => purK (bif b25 then ixS 8 x55_1 x56_1 else some (.tup [])) fun x57_1 =>
  boolK (wantV x53_1 false) fun b26 => purK (bif b26 then addA 3 x57_1 else some (.tup [])) fun x58_1 =>
  boolK (wantV x53_1 false) fun b27 => purK (bif b27 then ldN ρ H 4 x58_1 else some (.tup [])) fun x59_1 =>
  boolK (wantV x53_1 false) fun b28 => purK (bif b28 then some x1 else some (.tup [])) fun x60_1 =>
  boolK (wantV x53_1 false) fun b29 => purK (bif b29 then some x5 else some (.tup [])) fun x61_1 =>
  boolK (wantV x53_1 false) fun b30 => purK (bif b30 then ixS 8 x60_1 x61_1 else some (.tup [])) fun x62_1 =>
  boolK (wantV x53_1 false) fun b31 => purK (bif b31 then addA 3 x62_1 else some (.tup [])) fun x63_1 =>
  boolK (wantV x53_1 false) fun b32 => purK (bif b32 then ldN ρ H 4 x63_1 else some (.tup [])) fun x64_1 =>
  boolK (wantV x53_1 false) fun b33 => purK (bif b33 then binA Tryd.prog H .neq 40 x59_1 x64_1 else some (.tup [])) fun x65_1 =>
  purK (pickA x53_1 (.bool true) x65_1) fun x66_1 =>
  boolK (wantV x66_1 false) fun b34 => purK (bif b34 then some x0 else some (.tup [])) fun x68_1 =>
  boolK (wantV x66_1 false) fun b35 => purK (bif b35 then some x5 else some (.tup [])) fun x69_1 =>
  boolK (wantV x66_1 false) fun b36 => purK (bif b36 then ixS 8 x68_1 x69_1 else some (.tup [])) fun x70_1 =>
  boolK (wantV x66_1 false) fun b37 => purK (bif b37 then addA 7 x70_1 else some (.tup [])) fun x71_1 =>
  boolK (wantV x66_1 false) fun b38 => purK (bif b38 then ld1 ρ H x71_1 else some (.tup [])) fun x72_1 =>
  boolK (wantV x66_1 false) fun b39 => purK (bif b39 then some x1 else some (.tup [])) fun x73_1 =>
  boolK (wantV x66_1 false) fun b40 => purK (bif b40 then some x5 else some (.tup [])) fun x74_1 =>
  boolK (wantV x66_1 false) fun b41 => purK (bif b41 then ixS 8 x73_1 x74_1 else some (.tup [])) fun x75_1 =>
  boolK (wantV x66_1 false) fun b42 => purK (bif b42 then addA 7 x75_1 else some (.tup [])) fun x76_1 =>
  boolK (wantV x66_1 false) fun b43 => purK (bif b43 then ld1 ρ H x76_1 else some (.tup [])) fun x77_1 =>
  boolK (wantV x66_1 false) fun b44 => resK (gRes (some b44) H (call lim 21 [x72_1, x77_1] H)) fun x78_1 H => bif !b44 || ((!b43 || true) && ((!b38 || true) && ((!b33 || true) && ((!b32 || true) && ((!b27 || true) && ((!b22 || true) && ((!b21 || true) && ((!b16 || true) && ((!b11 || true) && ((!b10 || true) && ((!b5 || true) && true))))))))))) then
  purK (gPur (wantV x66_1 false) (unA .not x78_1)) fun x79_1 =>
  purK (pickA x66_1 (.bool true) x79_1) fun x80_1 =>
  J (Code.at [1, 1, 0, 1, 0, 0, 1, 0, 0, 1] c9) (sp 81 [(0, x0), (1, x1), (5, x5), (80, x80_1)]) H (kk (some [0, 1, 5]) (fun s H => J (Code.at [1, 1, 0, 1, 0, 0, 1, 1] c9) s H (kk (some [0, 1, 5]) kn [(0, (some []), k0)] R [4])) [(1, (some [0, 1, 5]), (fun s H => J (Code.at [1, 1, 0, 1, 0, 0, 1, 1] c9) s H (kk (some [0, 1, 5]) kn [(0, (some []), k0)] R [4]))), (0, (some []), k0)] R [4])
  else none)
  (
  k0 (sp 81 []) H) := by
  kernel_rfl
theorem N9_3b_eq (ρ : RO) (call : CallF) (yc : YieldF) (lim k : Nat) (x0 x1 x5 : AV) (H : Heap) (kn : KS) (k0 : KS) (R : KR) :
  evL (cx ρ) call yc false 9 lim k (Code.at [1, 1, 0, 1, 0, 0] c9) (sp 81 [(0, x0), (1, x1), (5, x5)]) H (kk (some [0, 1, 5]) kn [(0, (some []), k0)] R [4]) = N9_3b ρ call yc lim k x0 x1 x5 H (fun x5 H => kn (sp 81 [(0, x0), (1, x1), (5, x5)]) H) (fun H => k0 (sp 81 []) H) R := by
  rw [evL_X, N9_3b_x]
  simp only [← evL_X, N9_3b, N9_4_eq, N9_5_eq]
noncomputable def N9_3 (ρ : RO) (call : CallF) (yc : YieldF) (lim k : Nat) (x0 x1 x5 : AV) (H : Heap) (k0 : Heap → Res) (R : KR) : Res :=
  loopL (fun (x : AV) H kn => N9_3b ρ call yc lim k x0 x1 x H (fun x5 H => kn x5 H) k0 R) k x5 H
theorem N9_3_eq (ρ : RO) (call : CallF) (yc : YieldF) (lim k : Nat) (x0 x1 x5 : AV) (H : Heap) (kn : KS) (k0 : KS) (R : KR) :
  evL (cx ρ) call yc false 9 lim k (Code.at [1, 1, 0, 1, 0] c9) (sp 81 [(0, x0), (1, x1), (5, x5)]) H (kk (some []) kn [(0, (some []), k0)] R [4]) = N9_3 ρ call yc lim k x0 x1 x5 H (fun H => k0 (sp 81 []) H) R := by
  have e : Code.at [1, 1, 0, 1, 0] c9 = .loop (Code.at [1, 1, 0, 1, 0, 0] c9) := by kernel_rfl
  rw [e]
  unfold N9_3
  exact loop_node [0, 1, 5] (fun x : AV => (sp 81 [(0, x0), (1, x1), (5, (x))])) (fun (x : AV) H kn => N9_3b ρ call yc lim k x0 x1 x H (fun x5 H => kn x5 H) (fun H => k0 (sp 81 []) H) R) (by kernel_rfl) (fun x => by kernel_rfl) (fun x H kn => N9_3b_eq ρ call yc lim k x0 x1 (x) H kn k0 R) x5 (sp 81 [(0, x0), (1, x1), (5, x5)]) H (by kernel_rfl)
noncomputable def N9_2 (ρ : RO) (call : CallF) (yc : YieldF) (lim k : Nat) (x0 x1 x5 : AV) (H : Heap) (kn : Heap → Res) (R : KR) : Res :=
  N9_3 ρ call yc lim k x0 x1 x5 H kn R
theorem N9_2_x (ρ : RO) (call : CallF) (yc : YieldF) (lim k : Nat) (J : CodeF) (x0 x1 x5 : AV) (H : Heap) (kn : KS) (R : KR) :
  evX (cx ρ) call yc false 9 lim k J (Code.at [1, 1, 0, 1] c9) (sp 81 [(0, x0), (1, x1), (5, x5)]) H (kk (some []) kn [] R [4]) =
  J (Code.at [1, 1, 0, 1, 0] c9) (sp 81 [(0, x0), (1, x1), (5, x5)]) H (kk (some []) kn [(0, (some []), kn)] R [4]) := by
  kernel_rfl
theorem N9_2_eq (ρ : RO) (call : CallF) (yc : YieldF) (lim k : Nat) (x0 x1 x5 : AV) (H : Heap) (kn : KS) (R : KR) :
  evL (cx ρ) call yc false 9 lim k (Code.at [1, 1, 0, 1] c9) (sp 81 [(0, x0), (1, x1), (5, x5)]) H (kk (some []) kn [] R [4]) = N9_2 ρ call yc lim k x0 x1 x5 H (fun H => kn (sp 81 []) H) R := by
  rw [evL_X, N9_2_x]
  simp only [← evL_X, N9_2, N9_3_eq]
noncomputable def L9 (ρ : RO) (call : CallF) (yc : YieldF) (lim k : Nat) (x0 x1 : AV) (H : Heap) : Res :=
  purK (lenS x0) fun x7 =>
  purK (lenS x1) fun x9 =>
  purK (binA Tryd.prog H .neq 3 x7 x9) fun x10 =>
  condK x10
  (
  retK [(.bool false)] H)
  (
  N9_2 ρ call yc lim k x0 x1 (.int .i64 0) H (fun H =>
  N9_1 ρ call yc lim k H retK) retK)
theorem L9_x (ρ : RO) (call : CallF) (yc : YieldF) (lim k : Nat) (J : CodeF) (x0 x1 : AV) (H : Heap) :
  evX (cx ρ) call yc false 9 lim k J c9 [x0, x1, (.tup []), (.tup []), (.tup []), (.tup []), (.tup []), (.tup []), (.tup []), (.tup []), (.tup []), (.tup []), (.tup []), (.tup []), (.tup []), (.tup []), (.tup []), (.tup []), (.tup []), (.tup []), (.tup []), (.tup []), (.tup []), (.tup []), (.tup []), (.tup []), (.tup []), (.tup []), (.tup []), (.tup []), (.tup []), (.tup []), (.tup []), (.tup []), (.tup []), (.tup []), (.tup []), (.tup []), (.tup []), (.tup []), (.tup []), (.tup []), (.tup []), (.tup []), (.tup []), (.tup []), (.tup []), (.tup []), (.tup []), (.tup []), (.tup []), (.tup []), (.tup []), (.tup []), (.tup []), (.tup []), (.tup []), (.tup []), (.tup []), (.tup []), (.tup []), (.tup []), (.tup []), (.tup []), (.tup []), (.tup []), (.tup []), (.tup []), (.tup []), (.tup []), (.tup []), (.tup []), (.tup []), (.tup []), (.tup []), (.tup []), (.tup []), (.tup []), (.tup []), (.tup []), (.tup [])] H (kk none (fun s H => retK (([4] : List Nat).map fun t => s.getD t (.tup [])) H) [] retK [4]) =
  purK (lenS x0) fun x7 =>
  purK (lenS x1) fun x9 =>
  purK (binA Tryd.prog H .neq 3 x7 x9) fun x10 =>
  condK x10
  (
  retK [(.bool false)] H)
  (
  J (Code.at [1, 1, 0, 1] c9) (sp 81 [(0, x0), (1, x1), (5, (.int .i64 0))]) H (kk (some []) (fun s H => J (Code.at [1, 1, 1] c9) s H (kk none (fun s H => retK (([4] : List Nat).map fun t => s.getD t (.tup [])) H) [] retK [4])) [] retK [4])) := by
  kernel_rfl
theorem G9 (ρ : RO) (call : CallF) (yc : YieldF) (lim k : Nat) (x0 x1 : AV) (H : Heap) :
  evL (cx ρ) call yc false 9 lim k c9 [x0, x1, (.tup []), (.tup []), (.tup []), (.tup []), (.tup []), (.tup []), (.tup []), (.tup []), (.tup []), (.tup []), (.tup []), (.tup []), (.tup []), (.tup []), (.tup []), (.tup []), (.tup []), (.tup []), (.tup []), (.tup []), (.tup []), (.tup []), (.tup []), (.tup []), (.tup []), (.tup []), (.tup []), (.tup []), (.tup []), (.tup []), (.tup []), (.tup []), (.tup []), (.tup []), (.tup []), (.tup []), (.tup []), (.tup []), (.tup []), (.tup []), (.tup []), (.tup []), (.tup []), (.tup []), (.tup []), (.tup []), (.tup []), (.tup []), (.tup []), (.tup []), (.tup []), (.tup []), (.tup []), (.tup []), (.tup []), (.tup []), (.tup []), (.tup []), (.tup []), (.tup []), (.tup []), (.tup []), (.tup []), (.tup []), (.tup []), (.tup []), (.tup []), (.tup []), (.tup []), (.tup []), (.tup []), (.tup []), (.tup []), (.tup []), (.tup []), (.tup []), (.tup []), (.tup []), (.tup [])] H (kk none (fun s H => retK (([4] : List Nat).map fun t => s.getD t (.tup [])) H) [] retK [4]) = L9 ρ call yc lim k x0 x1 H := by
  rw [evL_X, L9_x]
  simp only [← evL_X, L9, N9_1_eq, N9_2_eq]
theorem E9 (ρ : RO) (k lim : Nat) (x0 x1 : AV) (H : Heap) : evCall (cx ρ) (k + 1) lim 9 [x0, x1] H = L9 ρ (evCall (cx ρ) k) (evCY (cx ρ) k).2 lim k x0 x1 H := by
  rw [evCall_body (cx ρ) k lim 9 _ H Tryd.f9 c9 [4] (by kernel_rfl) (by kernel_rfl) (by kernel_rfl) (by kernel_rfl) (by kernel_rfl)]
  exact G9 ρ (evCall (cx ρ) k) (evCY (cx ρ) k).2 lim k x0 x1 H
-- haycroft/script.Quote
noncomputable def c10 : Code := Code.of Tryd.prog 10
noncomputable def N10_1 (ρ : RO) (call : CallF) (yc : YieldF) (lim k : Nat) (x3 : AV) (H : Heap) (R : KR) : Res :=
  resK (call lim 25 [x3] H) fun x35_1 H =>
  R [x35_1] H
theorem N10_1_eq (ρ : RO) (call : CallF) (yc : YieldF) (lim k : Nat) (x3 : AV) (H : Heap) (R : KR) :
  evL (cx ρ) call yc false 10 lim k (Code.at [1, 1, 1, 1] c10) (sp 36 [(3, x3)]) H (kk none (fun s H => R (([2] : List Nat).map fun t => s.getD t (.tup [])) H) [] R [2]) = N10_1 ρ call yc lim k x3 H R := by
  kernel_rfl
noncomputable def N10_4 (ρ : RO) (call : CallF) (yc : YieldF) (lim k : Nat) (x0 x3 x8 x9 : AV) (H : Heap) (kn : AV → Heap → Res) : Res :=
  purK (binA Tryd.prog H .add 3 x9 (.int .i64 1)) fun x34_1 =>
  kn x34_1 H
theorem N10_4_eq (ρ : RO) (call : CallF) (yc : YieldF) (lim k : Nat) (x0 x3 x8 x9 : AV) (H : Heap) (kn : KS) (k0 : KS) (R : KR) :
  evL (cx ρ) call yc false 10 lim k (Code.at [1, 1, 1, 0, 1, 0, 0, 1, 1, 1] c10) (sp 36 [(0, x0), (3, x3), (8, x8), (9, x9)]) H (kk (some [0, 3, 8, 9]) kn [(0, (some [3]), k0)] R [2]) = N10_4 ρ call yc lim k x0 x3 x8 x9 H (fun x9 H => kn (sp 36 [(0, x0), (3, x3), (8, x8), (9, x9)]) H) := by
  kernel_rfl
noncomputable def N10_3b (ρ : RO) (call : CallF) (yc : YieldF) (lim k : Nat) (x0 x3 x8 x9 : AV) (H : Heap) (kn : AV → Heap → Res) (k0 : AV → Heap → Res) : Res :=
  purK (binA Tryd.prog H .lss 3 x9 x8) fun x10_1 =>
  condK x10_1
  (
  purK (ixT x0 x9) fun x14_1 =>
  resK (call lim 23 [x14_1] H) fun x16_1 H =>
  condK x16_1
  (
  resK (call lim 22 [x3, x14_1] H) fun x18_1 H =>
  N10_4 ρ call yc lim k x0 x3 x8 x9 H kn)
  (
  purK (binA Tryd.prog H .shr 5 x14_1 (.int .u64 4)) fun x20_1 =>
  purK (binA Tryd.prog H .shr 5 x14_1 (.int .u64 4)) fun x22_1 =>
  purK (binA Tryd.prog H .add 5 x22_1 (.int .u8 1)) fun x23_1 =>
  purK (slT (.str (ByteArray.mk #[48, 49, 50, 51, 52, 53, 54, 55, 56, 57, 65, 66, 67, 68, 69, 70])) (some x20_1) (some x23_1)) fun x24_1 =>
  purK (binA Tryd.prog H .add 9 (.str (ByteArray.mk #[37])) x24_1) fun x25_1 =>
  purK (binA Tryd.prog H .and 5 x14_1 (.int .u8 15)) fun x27_1 =>
  purK (binA Tryd.prog H .and 5 x14_1 (.int .u8 15)) fun x29_1 =>
  purK (binA Tryd.prog H .add 5 x29_1 (.int .u8 1)) fun x30_1 =>
  purK (slT (.str (ByteArray.mk #[48, 49, 50, 51, 52, 53, 54, 55, 56, 57, 65, 66, 67, 68, 69, 70])) (some x27_1) (some x30_1)) fun x31_1 =>
  purK (binA Tryd.prog H .add 9 x25_1 x31_1) fun x32_1 =>
  resK (call lim 24 [x3, x32_1] H) fun x33_1 H =>
  N10_4 ρ call yc lim k x0 x3 x8 x9 H kn))
  (
  k0 x3 H)
theorem N10_3b_x (ρ : RO) (call : CallF) (yc : YieldF) (lim k : Nat) (J : CodeF) (x0 x3 x8 x9 : AV) (H : Heap) (kn : KS) (k0 : KS) (R : KR) :
  evX (cx ρ) call yc false 10 lim k J (Code.at [1, 1, 1, 0, 1, 0, 0] c10) (sp 36 [(0, x0), (3, x3), (8, x8), (9, x9)]) H (kk (some [0, 3, 8, 9]) kn [(0, (some [3]), k0)] R [2]) =
  purK (binA Tryd.prog H .lss 3 x9 x8) fun x10_1 =>
  condK x10_1
  (
  purK (ixT x0 x9) fun x14_1 =>
  resK (call lim 23 [x14_1] H) fun x16_1 H =>
  condK x16_1
  (
  resK (call lim 22 [x3, x14_1] H) fun x18_1 H =>
  J (Code.at [1, 1, 1, 0, 1, 0, 0, 1, 1, 1] c10) (sp 36 [(0, x0), (3, x3), (8, x8), (9, x9)]) H (kk (some [0, 3, 8, 9]) kn [(0, (some [3]), k0)] R [2]))
  (
  purK (binA Tryd.prog H .shr 5 x14_1 (.int .u64 4)) fun x20_1 =>
  purK (binA Tryd.prog H .shr 5 x14_1 (.int .u64 4)) fun x22_1 =>
  purK (binA Tryd.prog H .add 5 x22_1 (.int .u8 1)) fun x23_1 =>
  purK (slT (.str (ByteArray.mk #[48, 49, 50, 51, 52, 53, 54, 55, 56, 57, 65, 66, 67, 68, 69, 70])) (some x20_1) (some x23_1)) fun x24_1 =>
  purK (binA Tryd.prog H .add 9 (.str (ByteArray.mk #[37])) x24_1) fun x25_1 =>
  purK (binA Tryd.prog H .and 5 x14_1 (.int .u8 15)) fun x27_1 =>
  purK (binA Tryd.prog H .and 5 x14_1 (.int .u8 15)) fun x29_1 =>
  purK (binA Tryd.prog H .add 5 x29_1 (.int .u8 1)) fun x30_1 =>
  purK (slT (.str (ByteArray.mk #[48, 49, 50, 51, 52, 53, 54, 55, 56, 57, 65, 66, 67, 68, 69, 70])) (some x27_1) (some x30_1)) fun x31_1 =>
  purK (binA Tryd.prog H .add 9 x25_1 x31_1) fun x32_1 =>
  resK (call lim 24 [x3, x32_1] H) fun x33_1 H =>
  J (Code.at [1, 1, 1, 0, 1, 0, 0, 1, 1, 1] c10) (sp 36 [(0, x0), (3, x3), (8, x8), (9, x9)]) H (kk (some [0, 3, 8, 9]) kn [(0, (some [3]), k0)] R [2])))
  (
  k0 (sp 36 [(3, x3)]) H) := by
  kernel_rfl
theorem N10_3b_eq (ρ : RO) (call : CallF) (yc : YieldF) (lim k : Nat) (x0 x3 x8 x9 : AV) (H : Heap) (kn : KS) (k0 : KS) (R : KR) :
  evL (cx ρ) call yc false 10 lim k (Code.at [1, 1, 1, 0, 1, 0, 0] c10) (sp 36 [(0, x0), (3, x3), (8, x8), (9, x9)]) H (kk (some [0, 3, 8, 9]) kn [(0, (some [3]), k0)] R [2]) = N10_3b ρ call yc lim k x0 x3 x8 x9 H (fun x9 H => kn (sp 36 [(0, x0), (3, x3), (8, x8), (9, x9)]) H) (fun x3 H => k0 (sp 36 [(3, x3)]) H) := by
  rw [evL_X, N10_3b_x]
  simp only [← evL_X, N10_3b, N10_4_eq]
noncomputable def N10_3 (ρ : RO) (call : CallF) (yc : YieldF) (lim k : Nat) (x0 x3 x8 x9 : AV) (H : Heap) (k0 : AV → Heap → Res) : Res :=
  loopL (fun (x : AV) H kn => N10_3b ρ call yc lim k x0 x3 x8 x H (fun x9 H => kn x9 H) k0) k x9 H
theorem N10_3_eq (ρ : RO) (call : CallF) (yc : YieldF) (lim k : Nat) (x0 x3 x8 x9 : AV) (H : Heap) (kn : KS) (k0 : KS) (R : KR) :
  evL (cx ρ) call yc false 10 lim k (Code.at [1, 1, 1, 0, 1, 0] c10) (sp 36 [(0, x0), (3, x3), (8, x8), (9, x9)]) H (kk (some [3]) kn [(0, (some [3]), k0)] R [2]) = N10_3 ρ call yc lim k x0 x3 x8 x9 H (fun x3 H => k0 (sp 36 [(3, x3)]) H) := by
  have e : Code.at [1, 1, 1, 0, 1, 0] c10 = .loop (Code.at [1, 1, 1, 0, 1, 0, 0] c10) := by kernel_rfl
  rw [e]
  unfold N10_3
  exact loop_node [0, 3, 8, 9] (fun x : AV => (sp 36 [(0, x0), (3, x3), (8, x8), (9, (x))])) (fun (x : AV) H kn => N10_3b ρ call yc lim k x0 x3 x8 x H (fun x9 H => kn x9 H) (fun x3 H => k0 (sp 36 [(3, x3)]) H)) (by kernel_rfl) (fun x => by kernel_rfl) (fun x H kn => N10_3b_eq ρ call yc lim k x0 x3 x8 (x) H kn k0 R) x9 (sp 36 [(0, x0), (3, x3), (8, x8), (9, x9)]) H (by kernel_rfl)
noncomputable def N10_2 (ρ : RO) (call : CallF) (yc : YieldF) (lim k : Nat) (x0 x3 x8 x9 : AV) (H : Heap) (kn : AV → Heap → Res) : Res :=
  N10_3 ρ call yc lim k x0 x3 x8 x9 H kn
theorem N10_2_x (ρ : RO) (call : CallF) (yc : YieldF) (lim k : Nat) (J : CodeF) (x0 x3 x8 x9 : AV) (H : Heap) (kn : KS) (R : KR) :
  evX (cx ρ) call yc false 10 lim k J (Code.at [1, 1, 1, 0, 1] c10) (sp 36 [(0, x0), (3, x3), (8, x8), (9, x9)]) H (kk (some [3]) kn [] R [2]) =
  J (Code.at [1, 1, 1, 0, 1, 0] c10) (sp 36 [(0, x0), (3, x3), (8, x8), (9, x9)]) H (kk (some [3]) kn [(0, (some [3]), kn)] R [2]) := by
  kernel_rfl
theorem N10_2_eq (ρ : RO) (call : CallF) (yc : YieldF) (lim k : Nat) (x0 x3 x8 x9 : AV) (H : Heap) (kn : KS) (R : KR) :
  evL (cx ρ) call yc false 10 lim k (Code.at [1, 1, 1, 0, 1] c10) (sp 36 [(0, x0), (3, x3), (8, x8), (9, x9)]) H (kk (some [3]) kn [] R [2]) = N10_2 ρ call yc lim k x0 x3 x8 x9 H (fun x3 H => kn (sp 36 [(3, x3)]) H) := by
  rw [evL_X, N10_2_x]
  simp only [← evL_X, N10_2, N10_3_eq]
noncomputable def L10 (ρ : RO) (call : CallF) (yc : YieldF) (lim k : Nat) (x0 : AV) (H : Heap) : Res :=
  effK H (some (.ptr H.sz 0 0, .new (newCells 54 false [.nilp, .nils]))) fun x3 H =>
  resK (call lim 22 [x3, (.int .u8 61)] H) fun x6 H =>
  purK (lenT x0) fun x8 =>
  N10_2 ρ call yc lim k x0 x3 x8 (.int .i64 0) H (fun x3_1 H =>
  N10_1 ρ call yc lim k x3_1 H retK)
theorem L10_x (ρ : RO) (call : CallF) (yc : YieldF) (lim k : Nat) (J : CodeF) (x0 : AV) (H : Heap) :
  evX (cx ρ) call yc false 10 lim k J c10 [x0, (.tup []), (.tup []), (.tup []), (.tup []), (.tup []), (.tup []), (.tup []), (.tup []), (.tup []), (.tup []), (.tup []), (.tup []), (.tup []), (.tup []), (.tup []), (.tup []), (.tup []), (.tup []), (.tup []), (.tup []), (.tup []), (.tup []), (.tup []), (.tup []), (.tup []), (.tup []), (.tup []), (.tup []), (.tup []), (.tup []), (.tup []), (.tup []), (.tup []), (.tup []), (.tup [])] H (kk none (fun s H => retK (([2] : List Nat).map fun t => s.getD t (.tup [])) H) [] retK [2]) =
  effK H (some (.ptr H.sz 0 0, .new (newCells 54 false [.nilp, .nils]))) fun x3 H =>
  resK (call lim 22 [x3, (.int .u8 61)] H) fun x6 H =>
  purK (lenT x0) fun x8 =>
  J (Code.at [1, 1, 1, 0, 1] c10) (sp 36 [(0, x0), (3, x3), (8, x8), (9, (.int .i64 0))]) H (kk (some [3]) (fun s H => J (Code.at [1, 1, 1, 1] c10) s H (kk none (fun s H => retK (([2] : List Nat).map fun t => s.getD t (.tup [])) H) [] retK [2])) [] retK [2]) := by
  kernel_rfl
theorem G10 (ρ : RO) (call : CallF) (yc : YieldF) (lim k : Nat) (x0 : AV) (H : Heap) :
  evL (cx ρ) call yc false 10 lim k c10 [x0, (.tup []), (.tup []), (.tup []), (.tup []), (.tup []), (.tup []), (.tup []), (.tup []), (.tup []), (.tup []), (.tup []), (.tup []), (.tup []), (.tup []), (.tup []), (.tup []), (.tup []), (.tup []), (.tup []), (.tup []), (.tup []), (.tup []), (.tup []), (.tup []), (.tup []), (.tup []), (.tup []), (.tup []), (.tup []), (.tup []), (.tup []), (.tup []), (.tup []), (.tup []), (.tup [])] H (kk none (fun s H => retK (([2] : List Nat).map fun t => s.getD t (.tup [])) H) [] retK [2]) = L10 ρ call yc lim k x0 H := by
  rw [evL_X, L10_x]
  simp only [← evL_X, L10, N10_1_eq, N10_2_eq]
theorem E10 (ρ : RO) (k lim : Nat) (x0 : AV) (H : Heap) : evCall (cx ρ) (k + 1) lim 10 [x0] H = L10 ρ (evCall (cx ρ) k) (evCY (cx ρ) k).2 lim k x0 H := by
  rw [evCall_body (cx ρ) k lim 10 _ H Tryd.f10 c10 [2] (by kernel_rfl) (by kernel_rfl) (by kernel_rfl) (by kernel_rfl) (by kernel_rfl)]
  exact G10 ρ (evCall (cx ρ) k) (evCY (cx ρ) k).2 lim k x0 H
end Go.Proofs.YtnkeebchblfbgaaDoor

-- part Sc1
/- Functions, lifted. Printed by a program of this repo. -/
set_option linter.unusedVariables false
set_option linter.unusedSimpArgs false
set_option maxRecDepth 100000
set_option maxHeartbeats 4000000
namespace Go.Proofs.YtnkeebchblfbgaaDoor
open Go.Ev Go.RowKit
-- haycroft/script.Unquote
noncomputable def c11 : Code := Code.of Tryd.prog 11
noncomputable def N11_2 (ρ : RO) (call : CallF) (yc : YieldF) (lim k : Nat) (x6 : AV) (H : Heap) (R : KR) : Res :=
  resK (call lim 25 [x6] H) fun x56_1 H =>
  R [x56_1, (.int .i64 0)] H
theorem N11_2_eq (ρ : RO) (call : CallF) (yc : YieldF) (lim k : Nat) (x6 : AV) (H : Heap) (R : KR) :
  evL (cx ρ) call yc false 11 lim k (Code.at [1, 1, 1, 1, 1] c11) (sp 57 [(6, x6)]) H (kk none (fun s H => R (([2, 3] : List Nat).map fun t => s.getD t (.tup [])) H) [] R [2, 3]) = N11_2 ρ call yc lim k x6 H R := by
  kernel_rfl
noncomputable def N11_4 (ρ : RO) (call : CallF) (yc : YieldF) (lim k : Nat) (x4 x6 x7 : AV) (H : Heap) (kn : AV → Heap → Res) : Res :=
  resK (call lim 22 [x6, x7] H) fun x55_1 H =>
  kn x4 H
theorem N11_4_eq (ρ : RO) (call : CallF) (yc : YieldF) (lim k : Nat) (x4 x6 x7 : AV) (H : Heap) (kn : KS) (k1 : KS) (k0 : KS) (R : KR) :
  evL (cx ρ) call yc false 11 lim k (Code.at [1, 1, 1, 1, 0, 0, 0, 1, 0, 1, 1, 1] c11) (sp 57 [(4, x4), (6, x6), (7, x7)]) H (kk (some [4, 6]) kn [(1, (some [4, 6]), k1), (0, (some [6]), k0)] R [2, 3]) = N11_4 ρ call yc lim k x4 x6 x7 H (fun x4 H => kn (sp 57 [(4, x4), (6, x6)]) H) := by
  kernel_rfl
noncomputable def N11_5 (ρ : RO) (call : CallF) (yc : YieldF) (lim k : Nat) (x4 x6 x7 x8 x9 : AV) (H : Heap) (kn : AV → AV → Heap → Res) (R : KR) : Res :=
  purK (binA Tryd.prog H .lss 3 x8 (.int .i64 0)) fun x40_1 =>
  purK (gPur (wantV x40_1 false) (some x9)) fun x42_1 =>
  purK (gPur (wantV x40_1 false) (binA Tryd.prog H .lss 3 x42_1 (.int .i64 0))) fun x43_1 =>
  purK (pickA x40_1 (.bool true) x43_1) fun x44_1 =>
  purK (gPur (wantV x44_1 false) (some x7)) fun x46_1 =>
  resK (gRes (wantV x44_1 false) H (call lim 23 [x46_1] H)) fun x47_1 H =>
  purK (pickA x44_1 (.bool true) x47_1) fun x48_1 =>
  condK x48_1
  (
  R [(.str (ByteArray.mk #[])), (.int .i64 4)] H)
  (
  purK (slT x4 (some (.int .i64 2)) none) fun x50_1 =>
  kn x50_1 x7 H)
theorem N11_5_eq (ρ : RO) (call : CallF) (yc : YieldF) (lim k : Nat) (x4 x6 x7 x8 x9 : AV) (H : Heap) (kn : KS) (k1 : KS) (k0 : KS) (R : KR) :
  evL (cx ρ) call yc false 11 lim k (Code.at [1, 1, 1, 1, 0, 0, 0, 1, 0, 1, 1, 0, 1, 0, 1, 1, 1] c11) (sp 57 [(4, x4), (6, x6), (7, x7), (8, x8), (9, x9)]) H (kk (some [4, 6, 7]) kn [(1, (some [4, 6]), k1), (0, (some [6]), k0)] R [2, 3]) = N11_5 ρ call yc lim k x4 x6 x7 x8 x9 H (fun x4 x7 H => kn (sp 57 [(4, x4), (6, x6), (7, x7)]) H) R := by
  kernel_rfl
noncomputable def N11_3b (ρ : RO) (call : CallF) (yc : YieldF) (lim k : Nat) (x4 x6 : AV) (H : Heap) (kn : AV → Heap → Res) (k0 : AV → Heap → Res) (R : KR) : Res :=
  purK (binA Tryd.prog H .neq 9 x4 (.str (ByteArray.mk #[]))) fun x18_1 =>
  condK x18_1
  (
  purK (ixT x4 (.int .i64 0)) fun x20_1 =>
  purK (slT x4 (some (.int .i64 1)) none) fun x22_1 =>
  purK (binA Tryd.prog H .eql 5 x20_1 (.int .u8 37)) fun x24_1 =>
  condK x24_1
  (
  purK (lenT x22_1) fun x26_1 =>
  purK (binA Tryd.prog H .lss 3 x26_1 (.int .i64 2)) fun x27_1 =>
  condK x27_1
  (
  R [(.str (ByteArray.mk #[])), (.int .i64 4)] H)
  (
  purK (ixT x22_1 (.int .i64 0)) fun x29_1 =>
  purK (ixT x22_1 (.int .i64 1)) fun x32_1 =>
  resK (call lim 27 [(.str (ByteArray.mk #[48, 49, 50, 51, 52, 53, 54, 55, 56, 57, 65, 66, 67, 68, 69, 70])), x29_1] H) fun x30_1 H =>
  resK (call lim 27 [(.str (ByteArray.mk #[48, 49, 50, 51, 52, 53, 54, 55, 56, 57, 65, 66, 67, 68, 69, 70])), x32_1] H) fun x33_1 H =>
  purK (binA Tryd.prog H .shl 3 x30_1 (.int .u64 4)) fun x35_1 =>
  purK (binA Tryd.prog H .or 3 x35_1 x33_1) fun x37_1 =>
  purK (cvI .u8 x37_1) fun x38_1 =>
  N11_5 ρ call yc lim k x22_1 x6 x38_1 x30_1 x33_1 H (fun x4_1 x7_1 H =>
  N11_4 ρ call yc lim k x4_1 x6 x7_1 H kn) R))
  (
  resK (call lim 23 [x20_1] H) fun x52_1 H =>
  purK (unA .not x52_1) fun x53_1 =>
  condK x53_1
  (
  R [(.str (ByteArray.mk #[])), (.int .i64 4)] H)
  (
  N11_4 ρ call yc lim k x22_1 x6 x20_1 H kn)))
  (
  k0 x6 H)
theorem N11_3b_x (ρ : RO) (call : CallF) (yc : YieldF) (lim k : Nat) (J : CodeF) (x4 x6 : AV) (H : Heap) (kn : KS) (k0 : KS) (R : KR) :
  evX (cx ρ) call yc false 11 lim k J (Code.at [1, 1, 1, 1, 0, 0, 0] c11) (sp 57 [(4, x4), (6, x6)]) H (kk (some [4, 6]) kn [(0, (some [6]), k0)] R [2, 3]) =
  purK (binA Tryd.prog H .neq 9 x4 (.str (ByteArray.mk #[]))) fun x18_1 =>
  condK x18_1
  (
  purK (ixT x4 (.int .i64 0)) fun x20_1 =>
  purK (slT x4 (some (.int .i64 1)) none) fun x22_1 =>
  purK (binA Tryd.prog H .eql 5 x20_1 (.int .u8 37)) fun x24_1 =>
  condK x24_1
  (
  purK (lenT x22_1) fun x26_1 =>
  purK (binA Tryd.prog H .lss 3 x26_1 (.int .i64 2)) fun x27_1 =>
  condK x27_1
  (
  R [(.str (ByteArray.mk #[])), (.int .i64 4)] H)
  (
  purK (ixT x22_1 (.int .i64 0)) fun x29_1 =>
  purK (ixT x22_1 (.int .i64 1)) fun x32_1 =>
  resK (call lim 27 [(.str (ByteArray.mk #[48, 49, 50, 51, 52, 53, 54, 55, 56, 57, 65, 66, 67, 68, 69, 70])), x29_1] H) fun x30_1 H =>
  resK (call lim 27 [(.str (ByteArray.mk #[48, 49, 50, 51, 52, 53, 54, 55, 56, 57, 65, 66, 67, 68, 69, 70])), x32_1] H) fun x33_1 H =>
  purK (binA Tryd.prog H .shl 3 x30_1 (.int .u64 4)) fun x35_1 =>
  purK (binA Tryd.prog H .or 3 x35_1 x33_1) fun x37_1 =>
  purK (cvI .u8 x37_1) fun x38_1 =>
  J (Code.at [1, 1, 1, 1, 0, 0, 0, 1, 0, 1, 1, 0, 1, 0, 1, 1, 1] c11) (sp 57 [(4, x22_1), (6, x6), (7, x38_1), (8, x30_1), (9, x33_1)]) H (kk (some [4, 6, 7]) (fun s H => J (Code.at [1, 1, 1, 1, 0, 0, 0, 1, 0, 1, 1, 1] c11) s H (kk (some [4, 6]) kn [(1, (some [4, 6]), kn), (0, (some [6]), k0)] R [2, 3])) [(1, (some [4, 6]), kn), (0, (some [6]), k0)] R [2, 3])))
  (
  resK (call lim 23 [x20_1] H) fun x52_1 H =>
  purK (unA .not x52_1) fun x53_1 =>
  condK x53_1
  (
  R [(.str (ByteArray.mk #[])), (.int .i64 4)] H)
  (
  J (Code.at [1, 1, 1, 1, 0, 0, 0, 1, 0, 1, 1, 1] c11) (sp 57 [(4, x22_1), (6, x6), (7, x20_1)]) H (kk (some [4, 6]) kn [(1, (some [4, 6]), kn), (0, (some [6]), k0)] R [2, 3]))))
  (
  k0 (sp 57 [(6, x6)]) H) := by
  kernel_rfl
theorem N11_3b_eq (ρ : RO) (call : CallF) (yc : YieldF) (lim k : Nat) (x4 x6 : AV) (H : Heap) (kn : KS) (k0 : KS) (R : KR) :
  evL (cx ρ) call yc false 11 lim k (Code.at [1, 1, 1, 1, 0, 0, 0] c11) (sp 57 [(4, x4), (6, x6)]) H (kk (some [4, 6]) kn [(0, (some [6]), k0)] R [2, 3]) = N11_3b ρ call yc lim k x4 x6 H (fun x4 H => kn (sp 57 [(4, x4), (6, x6)]) H) (fun x6 H => k0 (sp 57 [(6, x6)]) H) R := by
  rw [evL_X, N11_3b_x]
  simp only [← evL_X, N11_3b, N11_4_eq, N11_5_eq]
noncomputable def N11_3 (ρ : RO) (call : CallF) (yc : YieldF) (lim k : Nat) (x4 x6 : AV) (H : Heap) (k0 : AV → Heap → Res) (R : KR) : Res :=
  loopL (fun (x : AV) H kn => N11_3b ρ call yc lim k x x6 H (fun x4 H => kn x4 H) k0 R) k x4 H
theorem N11_3_eq (ρ : RO) (call : CallF) (yc : YieldF) (lim k : Nat) (x4 x6 : AV) (H : Heap) (kn : KS) (k0 : KS) (R : KR) :
  evL (cx ρ) call yc false 11 lim k (Code.at [1, 1, 1, 1, 0, 0] c11) (sp 57 [(4, x4), (6, x6)]) H (kk (some [6]) kn [(0, (some [6]), k0)] R [2, 3]) = N11_3 ρ call yc lim k x4 x6 H (fun x6 H => k0 (sp 57 [(6, x6)]) H) R := by
  have e : Code.at [1, 1, 1, 1, 0, 0] c11 = .loop (Code.at [1, 1, 1, 1, 0, 0, 0] c11) := by kernel_rfl
  rw [e]
  unfold N11_3
  exact loop_node [4, 6] (fun x : AV => (sp 57 [(4, (x)), (6, x6)])) (fun (x : AV) H kn => N11_3b ρ call yc lim k x x6 H (fun x4 H => kn x4 H) (fun x6 H => k0 (sp 57 [(6, x6)]) H) R) (by kernel_rfl) (fun x => by kernel_rfl) (fun x H kn => N11_3b_eq ρ call yc lim k (x) x6 H kn k0 R) x4 (sp 57 [(4, x4), (6, x6)]) H (by kernel_rfl)
noncomputable def N11_1 (ρ : RO) (call : CallF) (yc : YieldF) (lim k : Nat) (x4 x6 : AV) (H : Heap) (R : KR) : Res :=
  N11_3 ρ call yc lim k x4 x6 H (fun x6_1 H =>
  N11_2 ρ call yc lim k x6_1 H R) R
theorem N11_1_x (ρ : RO) (call : CallF) (yc : YieldF) (lim k : Nat) (J : CodeF) (x4 x6 : AV) (H : Heap) (R : KR) :
  evX (cx ρ) call yc false 11 lim k J (Code.at [1, 1, 1, 1] c11) (sp 57 [(4, x4), (6, x6)]) H (kk none (fun s H => R (([2, 3] : List Nat).map fun t => s.getD t (.tup [])) H) [] R [2, 3]) =
  J (Code.at [1, 1, 1, 1, 0, 0] c11) (sp 57 [(4, x4), (6, x6)]) H (kk (some [6]) (fun s H => J (Code.at [1, 1, 1, 1, 1] c11) s H (kk none (fun s H => R (([2, 3] : List Nat).map fun t => s.getD t (.tup [])) H) [] R [2, 3])) [(0, (some [6]), (fun s H => J (Code.at [1, 1, 1, 1, 1] c11) s H (kk none (fun s H => R (([2, 3] : List Nat).map fun t => s.getD t (.tup [])) H) [] R [2, 3])))] R [2, 3]) := by
  kernel_rfl
theorem N11_1_eq (ρ : RO) (call : CallF) (yc : YieldF) (lim k : Nat) (x4 x6 : AV) (H : Heap) (R : KR) :
  evL (cx ρ) call yc false 11 lim k (Code.at [1, 1, 1, 1] c11) (sp 57 [(4, x4), (6, x6)]) H (kk none (fun s H => R (([2, 3] : List Nat).map fun t => s.getD t (.tup [])) H) [] R [2, 3]) = N11_1 ρ call yc lim k x4 x6 H R := by
  rw [evL_X, N11_1_x]
  simp only [← evL_X, N11_1, N11_2_eq, N11_3_eq]
noncomputable def L11 (ρ : RO) (call : CallF) (yc : YieldF) (lim k : Nat) (x0 : AV) (H : Heap) : Res :=
  resK (call lim 26 [x0, (.str (ByteArray.mk #[61]))] H) fun x12 H =>
  purK (extA 0 x12) fun x13 =>
  purK (extA 1 x12) fun x14 =>
  purK (unA .not x14) fun x16 =>
  condK x16
  (
  retK [(.str (ByteArray.mk #[])), (.int .i64 4)] H)
  (
  effK H (some (.ptr H.sz 0 0, .new (newCells 54 false [.nilp, .nils]))) fun x6 H =>
  N11_1 ρ call yc lim k x13 x6 H retK)
theorem L11_x (ρ : RO) (call : CallF) (yc : YieldF) (lim k : Nat) (J : CodeF) (x0 : AV) (H : Heap) :
  evX (cx ρ) call yc false 11 lim k J c11 [x0, (.tup []), (.tup []), (.tup []), (.tup []), (.tup []), (.tup []), (.tup []), (.tup []), (.tup []), (.tup []), (.tup []), (.tup []), (.tup []), (.tup []), (.tup []), (.tup []), (.tup []), (.tup []), (.tup []), (.tup []), (.tup []), (.tup []), (.tup []), (.tup []), (.tup []), (.tup []), (.tup []), (.tup []), (.tup []), (.tup []), (.tup []), (.tup []), (.tup []), (.tup []), (.tup []), (.tup []), (.tup []), (.tup []), (.tup []), (.tup []), (.tup []), (.tup []), (.tup []), (.tup []), (.tup []), (.tup []), (.tup []), (.tup []), (.tup []), (.tup []), (.tup []), (.tup []), (.tup []), (.tup []), (.tup []), (.tup [])] H (kk none (fun s H => retK (([2, 3] : List Nat).map fun t => s.getD t (.tup [])) H) [] retK [2, 3]) =
  resK (call lim 26 [x0, (.str (ByteArray.mk #[61]))] H) fun x12 H =>
  purK (extA 0 x12) fun x13 =>
  purK (extA 1 x12) fun x14 =>
  purK (unA .not x14) fun x16 =>
  condK x16
  (
  retK [(.str (ByteArray.mk #[])), (.int .i64 4)] H)
  (
  effK H (some (.ptr H.sz 0 0, .new (newCells 54 false [.nilp, .nils]))) fun x6 H =>
  J (Code.at [1, 1, 1, 1] c11) (sp 57 [(4, x13), (6, x6)]) H (kk none (fun s H => retK (([2, 3] : List Nat).map fun t => s.getD t (.tup [])) H) [] retK [2, 3])) := by
  kernel_rfl
theorem G11 (ρ : RO) (call : CallF) (yc : YieldF) (lim k : Nat) (x0 : AV) (H : Heap) :
  evL (cx ρ) call yc false 11 lim k c11 [x0, (.tup []), (.tup []), (.tup []), (.tup []), (.tup []), (.tup []), (.tup []), (.tup []), (.tup []), (.tup []), (.tup []), (.tup []), (.tup []), (.tup []), (.tup []), (.tup []), (.tup []), (.tup []), (.tup []), (.tup []), (.tup []), (.tup []), (.tup []), (.tup []), (.tup []), (.tup []), (.tup []), (.tup []), (.tup []), (.tup []), (.tup []), (.tup []), (.tup []), (.tup []), (.tup []), (.tup []), (.tup []), (.tup []), (.tup []), (.tup []), (.tup []), (.tup []), (.tup []), (.tup []), (.tup []), (.tup []), (.tup []), (.tup []), (.tup []), (.tup []), (.tup []), (.tup []), (.tup []), (.tup []), (.tup []), (.tup [])] H (kk none (fun s H => retK (([2, 3] : List Nat).map fun t => s.getD t (.tup [])) H) [] retK [2, 3]) = L11 ρ call yc lim k x0 H := by
  rw [evL_X, L11_x]
  simp only [← evL_X, L11, N11_1_eq]
theorem E11 (ρ : RO) (k lim : Nat) (x0 : AV) (H : Heap) : evCall (cx ρ) (k + 1) lim 11 [x0] H = L11 ρ (evCall (cx ρ) k) (evCY (cx ρ) k).2 lim k x0 H := by
  rw [evCall_body (cx ρ) k lim 11 _ H Tryd.f11 c11 [2, 3] (by kernel_rfl) (by kernel_rfl) (by kernel_rfl) (by kernel_rfl) (by kernel_rfl)]
  exact G11 ρ (evCall (cx ρ) k) (evCY (cx ρ) k).2 lim k x0 H
-- haycroft/haycroftref27.Quote
noncomputable def c13 : Code := Code.of Tryd.prog 13
noncomputable def N13_1 (ρ : RO) (call : CallF) (yc : YieldF) (lim k : Nat) (x3 : AV) (H : Heap) (R : KR) : Res :=
  purK (b2s ρ H x3) fun x36_1 =>
  R [x36_1] H
theorem N13_1_eq (ρ : RO) (call : CallF) (yc : YieldF) (lim k : Nat) (x3 : AV) (H : Heap) (R : KR) :
  evL (cx ρ) call yc false 13 lim k (Code.at [1, 1, 1] c13) (sp 37 [(3, x3)]) H (kk none (fun s H => R (([2] : List Nat).map fun t => s.getD t (.tup [])) H) [] R [2]) = N13_1 ρ call yc lim k x3 H R := by
  kernel_rfl
noncomputable def N13_4 (ρ : RO) (call : CallF) (yc : YieldF) (lim k : Nat) (x0 x3 x4 : AV) (H : Heap) (kn : AV → AV → Heap → Res) : Res :=
  purK (binA Tryd.prog H .add 3 x4 (.int .i64 1)) fun x11_1 =>
  kn x3 x11_1 H
theorem N13_4_eq (ρ : RO) (call : CallF) (yc : YieldF) (lim k : Nat) (x0 x3 x4 : AV) (H : Heap) (kn : KS) (k0 : KS) (R : KR) :
  evL (cx ρ) call yc false 13 lim k (Code.at [1, 1, 0, 1, 0, 0, 1, 1] c13) (sp 37 [(0, x0), (3, x3), (4, x4)]) H (kk (some [0, 3, 4]) kn [(0, (some [3]), k0)] R [2]) = N13_4 ρ call yc lim k x0 x3 x4 H (fun x3 x4 H => kn (sp 37 [(0, x0), (3, x3), (4, x4)]) H) := by
  kernel_rfl
noncomputable def N13_3b (ρ : RO) (call : CallF) (yc : YieldF) (lim k : Nat) (x0 x3 x4 : AV) (H : Heap) (kn : AV → AV → Heap → Res) (k0 : AV → Heap → Res) : Res :=
  purK (lenT x0) fun x8_1 =>
  purK (binA Tryd.prog H .lss 3 x4 x8_1) fun x9_1 =>
  condK x9_1
  (
  purK (ixT x0 x4) fun x14_1 =>
  resK (call lim 28 [x14_1] H) fun x15_1 H =>
  condK x15_1
  (
  purK (ixT x0 x4) fun x19_1 =>
  effK H (bldS H 5 1 [.int .u8 0] 1 [(0, 1, x19_1)]) fun x20_1 H =>
  effK H (apA ρ lim H 5 1 1 x3 x20_1) fun x21_1 H =>
  N13_4 ρ call yc lim k x0 x21_1 x4 H kn)
  (
  purK (ixT x0 x4) fun x25_1 =>
  purK (binA Tryd.prog H .quo 5 x25_1 (.int .u8 16)) fun x26_1 =>
  purK (ixT x0 x4) fun x30_1 =>
  purK (binA Tryd.prog H .rem 5 x30_1 (.int .u8 16)) fun x31_1 =>
  resK (call lim 30 [x26_1] H) fun x27_1 H => bif (agn (binA Tryd.prog H .rem 5 x30_1 (.int .u8 16)) x31_1 && true) then
  resK (call lim 30 [x31_1] H) fun x32_1 H =>
  mkK H (bldS H 5 1 [.int .u8 0] 3 [(0, 1, (.int .u8 37)), (1, 1, x27_1), (2, 1, x32_1)]) true fun x33_1 H => bif (agn (binA Tryd.prog H .rem 5 x30_1 (.int .u8 16)) x31_1 && (agn (binA Tryd.prog H .quo 5 x25_1 (.int .u8 16)) x26_1 && true)) then
  effK H (apA ρ lim H 5 1 1 x3 x33_1) fun x34_1 H =>
  N13_4 ρ call yc lim k x0 x34_1 x4 H kn
  else none
  else none))
  (
  k0 x3 H)
theorem N13_3b_x (ρ : RO) (call : CallF) (yc : YieldF) (lim k : Nat) (J : CodeF) (x0 x3 x4 : AV) (H : Heap) (kn : KS) (k0 : KS) (R : KR) :
  evX (cx ρ) call yc false 13 lim k J (Code.at [1, 1, 0, 1, 0, 0] c13) (sp 37 [(0, x0), (3, x3), (4, x4)]) H (kk (some [0, 3, 4]) kn [(0, (some [3]), k0)] R [2]) =
  purK (lenT x0) fun x8_1 =>
  purK (binA Tryd.prog H .lss 3 x4 x8_1) fun x9_1 =>
  condK x9_1
  (
  purK (ixT x0 x4) fun x14_1 =>
  resK (call lim 28 [x14_1] H) fun x15_1 H =>
  condK x15_1
  (
  purK (ixT x0 x4) fun x19_1 =>
  effK H (bldS H 5 1 [.int .u8 0] 1 [(0, 1, x19_1)]) fun x20_1 H =>
  effK H (apA ρ lim H 5 1 1 x3 x20_1) fun x21_1 H =>
  J (Code.at [1, 1, 0, 1, 0, 0, 1, 1] c13) (sp 37 [(0, x0), (3, x21_1), (4, x4)]) H (kk (some [0, 3, 4]) kn [(0, (some [3]), k0)] R [2]))
  (
  purK (ixT x0 x4) fun x25_1 =>
  purK (binA Tryd.prog H .quo 5 x25_1 (.int .u8 16)) fun x26_1 =>
  purK (ixT x0 x4) fun x30_1 =>
  purK (binA Tryd.prog H .rem 5 x30_1 (.int .u8 16)) fun x31_1 =>
  resK (call lim 30 [x26_1] H) fun x27_1 H => bif (agn (binA Tryd.prog H .rem 5 x30_1 (.int .u8 16)) x31_1 && true) then
  resK (call lim 30 [x31_1] H) fun x32_1 H =>
  mkK H (bldS H 5 1 [.int .u8 0] 3 [(0, 1, (.int .u8 37)), (1, 1, x27_1), (2, 1, x32_1)]) true fun x33_1 H => bif (agn (binA Tryd.prog H .rem 5 x30_1 (.int .u8 16)) x31_1 && (agn (binA Tryd.prog H .quo 5 x25_1 (.int .u8 16)) x26_1 && true)) then
  effK H (apA ρ lim H 5 1 1 x3 x33_1) fun x34_1 H =>
  J (Code.at [1, 1, 0, 1, 0, 0, 1, 1] c13) (sp 37 [(0, x0), (3, x34_1), (4, x4)]) H (kk (some [0, 3, 4]) kn [(0, (some [3]), k0)] R [2])
  else none
  else none))
  (
  k0 (sp 37 [(3, x3)]) H) := by
  kernel_rfl
theorem N13_3b_eq (ρ : RO) (call : CallF) (yc : YieldF) (lim k : Nat) (x0 x3 x4 : AV) (H : Heap) (kn : KS) (k0 : KS) (R : KR) :
  evL (cx ρ) call yc false 13 lim k (Code.at [1, 1, 0, 1, 0, 0] c13) (sp 37 [(0, x0), (3, x3), (4, x4)]) H (kk (some [0, 3, 4]) kn [(0, (some [3]), k0)] R [2]) = N13_3b ρ call yc lim k x0 x3 x4 H (fun x3 x4 H => kn (sp 37 [(0, x0), (3, x3), (4, x4)]) H) (fun x3 H => k0 (sp 37 [(3, x3)]) H) := by
  rw [evL_X, N13_3b_x]
  simp only [← evL_X, N13_3b, N13_4_eq]
noncomputable def N13_3 (ρ : RO) (call : CallF) (yc : YieldF) (lim k : Nat) (x0 x3 x4 : AV) (H : Heap) (k0 : AV → Heap → Res) : Res :=
  loopL (fun (x : AV × AV) H kn => N13_3b ρ call yc lim k x0 x.1 x.2 H (fun x3 x4 H => kn (x3, x4) H) k0) k (x3, x4) H
theorem N13_3_eq (ρ : RO) (call : CallF) (yc : YieldF) (lim k : Nat) (x0 x3 x4 : AV) (H : Heap) (kn : KS) (k0 : KS) (R : KR) :
  evL (cx ρ) call yc false 13 lim k (Code.at [1, 1, 0, 1, 0] c13) (sp 37 [(0, x0), (3, x3), (4, x4)]) H (kk (some [3]) kn [(0, (some [3]), k0)] R [2]) = N13_3 ρ call yc lim k x0 x3 x4 H (fun x3 H => k0 (sp 37 [(3, x3)]) H) := by
  have e : Code.at [1, 1, 0, 1, 0] c13 = .loop (Code.at [1, 1, 0, 1, 0, 0] c13) := by kernel_rfl
  rw [e]
  unfold N13_3
  exact loop_node [0, 3, 4] (fun x : AV × AV => (sp 37 [(0, x0), (3, (x.1)), (4, (x.2))])) (fun (x : AV × AV) H kn => N13_3b ρ call yc lim k x0 x.1 x.2 H (fun x3 x4 H => kn (x3, x4) H) (fun x3 H => k0 (sp 37 [(3, x3)]) H)) (by kernel_rfl) (fun x => by kernel_rfl) (fun x H kn => N13_3b_eq ρ call yc lim k x0 (x.1) (x.2) H kn k0 R) (x3, x4) (sp 37 [(0, x0), (3, x3), (4, x4)]) H (by kernel_rfl)
noncomputable def N13_2 (ρ : RO) (call : CallF) (yc : YieldF) (lim k : Nat) (x0 x3 x4 : AV) (H : Heap) (kn : AV → Heap → Res) : Res :=
  N13_3 ρ call yc lim k x0 x3 x4 H kn
theorem N13_2_x (ρ : RO) (call : CallF) (yc : YieldF) (lim k : Nat) (J : CodeF) (x0 x3 x4 : AV) (H : Heap) (kn : KS) (R : KR) :
  evX (cx ρ) call yc false 13 lim k J (Code.at [1, 1, 0, 1] c13) (sp 37 [(0, x0), (3, x3), (4, x4)]) H (kk (some [3]) kn [] R [2]) =
  J (Code.at [1, 1, 0, 1, 0] c13) (sp 37 [(0, x0), (3, x3), (4, x4)]) H (kk (some [3]) kn [(0, (some [3]), kn)] R [2]) := by
  kernel_rfl
theorem N13_2_eq (ρ : RO) (call : CallF) (yc : YieldF) (lim k : Nat) (x0 x3 x4 : AV) (H : Heap) (kn : KS) (R : KR) :
  evL (cx ρ) call yc false 13 lim k (Code.at [1, 1, 0, 1] c13) (sp 37 [(0, x0), (3, x3), (4, x4)]) H (kk (some [3]) kn [] R [2]) = N13_2 ρ call yc lim k x0 x3 x4 H (fun x3 H => kn (sp 37 [(3, x3)]) H) := by
  rw [evL_X, N13_2_x]
  simp only [← evL_X, N13_2, N13_3_eq]
noncomputable def L13 (ρ : RO) (call : CallF) (yc : YieldF) (lim k : Nat) (x0 : AV) (H : Heap) : Res :=
  effK H (bldS H 5 1 [.int .u8 0] 1 [(0, 1, (.int .u8 61))]) fun x5 H =>
  N13_2 ρ call yc lim k x0 x5 (.int .i64 0) H (fun x3 H =>
  N13_1 ρ call yc lim k x3 H retK)
theorem L13_x (ρ : RO) (call : CallF) (yc : YieldF) (lim k : Nat) (J : CodeF) (x0 : AV) (H : Heap) :
  evX (cx ρ) call yc false 13 lim k J c13 [x0, (.tup []), (.tup []), (.tup []), (.tup []), (.tup []), (.tup []), (.tup []), (.tup []), (.tup []), (.tup []), (.tup []), (.tup []), (.tup []), (.tup []), (.tup []), (.tup []), (.tup []), (.tup []), (.tup []), (.tup []), (.tup []), (.tup []), (.tup []), (.tup []), (.tup []), (.tup []), (.tup []), (.tup []), (.tup []), (.tup []), (.tup []), (.tup []), (.tup []), (.tup []), (.tup []), (.tup [])] H (kk none (fun s H => retK (([2] : List Nat).map fun t => s.getD t (.tup [])) H) [] retK [2]) =
  effK H (bldS H 5 1 [.int .u8 0] 1 [(0, 1, (.int .u8 61))]) fun x5 H =>
  J (Code.at [1, 1, 0, 1] c13) (sp 37 [(0, x0), (3, x5), (4, (.int .i64 0))]) H (kk (some [3]) (fun s H => J (Code.at [1, 1, 1] c13) s H (kk none (fun s H => retK (([2] : List Nat).map fun t => s.getD t (.tup [])) H) [] retK [2])) [] retK [2]) := by
  kernel_rfl
theorem G13 (ρ : RO) (call : CallF) (yc : YieldF) (lim k : Nat) (x0 : AV) (H : Heap) :
  evL (cx ρ) call yc false 13 lim k c13 [x0, (.tup []), (.tup []), (.tup []), (.tup []), (.tup []), (.tup []), (.tup []), (.tup []), (.tup []), (.tup []), (.tup []), (.tup []), (.tup []), (.tup []), (.tup []), (.tup []), (.tup []), (.tup []), (.tup []), (.tup []), (.tup []), (.tup []), (.tup []), (.tup []), (.tup []), (.tup []), (.tup []), (.tup []), (.tup []), (.tup []), (.tup []), (.tup []), (.tup []), (.tup []), (.tup []), (.tup [])] H (kk none (fun s H => retK (([2] : List Nat).map fun t => s.getD t (.tup [])) H) [] retK [2]) = L13 ρ call yc lim k x0 H := by
  rw [evL_X, L13_x]
  simp only [← evL_X, L13, N13_1_eq, N13_2_eq]
theorem E13 (ρ : RO) (k lim : Nat) (x0 : AV) (H : Heap) : evCall (cx ρ) (k + 1) lim 13 [x0] H = L13 ρ (evCall (cx ρ) k) (evCY (cx ρ) k).2 lim k x0 H := by
  rw [evCall_body (cx ρ) k lim 13 _ H Tryd.f13 c13 [2] (by kernel_rfl) (by kernel_rfl) (by kernel_rfl) (by kernel_rfl) (by kernel_rfl)]
  exact G13 ρ (evCall (cx ρ) k) (evCY (cx ρ) k).2 lim k x0 H
-- haycroft/haycroftlaw27.far
noncomputable def c14 : Code := Code.of Tryd.prog 14
noncomputable def N14_1 (ρ : RO) (call : CallF) (yc : YieldF) (lim k : Nat) (H : Heap) (R : KR) : Res :=
  R [(.bool false)] H
theorem N14_1_eq (ρ : RO) (call : CallF) (yc : YieldF) (lim k : Nat) (H : Heap) (R : KR) :
  evL (cx ρ) call yc false 14 lim k (Code.at [1, 1, 1] c14) (sp 40 []) H (kk none (fun s H => R (([2] : List Nat).map fun t => s.getD t (.tup [])) H) [] R [2]) = N14_1 ρ call yc lim k H R := by
  kernel_rfl
noncomputable def N14_4 (ρ : RO) (call : CallF) (yc : YieldF) (lim k : Nat) (x0 x3 : AV) (H : Heap) (kn : AV → Heap → Res) : Res :=
  purK (binA Tryd.prog H .add 3 x3 (.int .i64 1)) fun x12_1 =>
  kn x12_1 H
theorem N14_4_eq (ρ : RO) (call : CallF) (yc : YieldF) (lim k : Nat) (x0 x3 : AV) (H : Heap) (kn : KS) (k0 : KS) (R : KR) :
  evL (cx ρ) call yc false 14 lim k (Code.at [1, 1, 0, 1, 0, 0, 1, 1] c14) (sp 40 [(0, x0), (3, x3)]) H (kk (some [0, 3]) kn [(0, (some []), k0)] R [2]) = N14_4 ρ call yc lim k x0 x3 H (fun x3 H => kn (sp 40 [(0, x0), (3, x3)]) H) := by
  kernel_rfl
noncomputable def N14_5 (ρ : RO) (call : CallF) (yc : YieldF) (lim k : Nat) (x0 x3 x39 : AV) (H : Heap) (kn : AV → Heap → Res) (R : KR) : Res :=
  condK x39
  (
  R [(.bool true)] H)
  (
  kn x3 H)
theorem N14_5_eq (ρ : RO) (call : CallF) (yc : YieldF) (lim k : Nat) (x0 x3 x39 : AV) (H : Heap) (kn : KS) (k1 : KS) (k0 : KS) (R : KR) :
  evL (cx ρ) call yc false 14 lim k (Code.at [1, 1, 0, 1, 0, 0, 1, 0, 0, 1] c14) (sp 40 [(0, x0), (3, x3), (39, x39)]) H (kk (some [0, 3]) kn [(1, (some [0, 3]), k1), (0, (some []), k0)] R [2]) = N14_5 ρ call yc lim k x0 x3 x39 H (fun x3 H => kn (sp 40 [(0, x0), (3, x3)]) H) R := by
  kernel_rfl
noncomputable def N14_3b (ρ : RO) (call : CallF) (yc : YieldF) (lim k : Nat) (x0 x3 : AV) (H : Heap) (kn : AV → Heap → Res) (k0 : Heap → Res) (R : KR) : Res :=
  purK (lenS x0) fun x9_1 =>
  purK (binA Tryd.prog H .lss 3 x3 x9_1) fun x10_1 =>
  condK x10_1
  (
  purK (ixS 8 x0 x3) fun x15_1 =>
  purK (addA 3 x15_1) fun x16_1 =>
  purK (addA 1 x16_1) fun x17_1 =>
  purK (ld1 ρ H x17_1) fun x18_1 =>
  purK (lenT x18_1) fun x19_1 =>
  purK (binA Tryd.prog H .gtr 3 x19_1 (.int .i64 200)) fun x20_1 =>
  purK (gPur (wantV x20_1 false) (some x0)) fun x22_1 =>
  purK (gPur (wantV x20_1 false) (some x3)) fun x23_1 =>
  purK (gPur (wantV x20_1 false) (ixS 8 x22_1 x23_1)) fun x24_1 =>
  purK (gPur (wantV x20_1 false) (addA 3 x24_1)) fun x25_1 =>
  purK (gPur (wantV x20_1 false) (addA 2 x25_1)) fun x26_1 =>
  purK (gPur (wantV x20_1 false) (ld1 ρ H x26_1)) fun x27_1 =>
  purK (gPur (wantV x20_1 false) (lenT x27_1)) fun x28_1 =>
  purK (gPur (wantV x20_1 false) (binA Tryd.prog H .gtr 3 x28_1 (.int .i64 200))) fun x29_1 =>
  purK (pickA x20_1 (.bool true) x29_1) fun x30_1 =>
  purK (gPur (wantV x30_1 false) (some x0)) fun x32_1 =>
  purK (gPur (wantV x30_1 false) (some x3)) fun x33_1 =>
  purK (gPur (wantV x30_1 false) (ixS 8 x32_1 x33_1)) fun x34_1 =>
  purK (gPur (wantV x30_1 false) (addA 7 x34_1)) fun x35_1 =>
  purK (gPur (wantV x30_1 false) (ld1 ρ H x35_1)) fun x36_1 =>
  purK (gPur (wantV x30_1 false) (lenS x36_1)) fun x37_1 =>
  purK (gPur (wantV x30_1 false) (binA Tryd.prog H .gtr 3 x37_1 (.int .i64 50))) fun x38_1 =>
  purK (pickA x30_1 (.bool true) x38_1) fun x39_1 =>
  N14_5 ρ call yc lim k x0 x3 x39_1 H (fun x3_1 H =>
  N14_4 ρ call yc lim k x0 x3_1 H kn) R)
  (
  k0 H)
theorem N14_3b_x (ρ : RO) (call : CallF) (yc : YieldF) (lim k : Nat) (J : CodeF) (x0 x3 : AV) (H : Heap) (kn : KS) (k0 : KS) (R : KR) :
  evX (cx ρ) call yc false 14 lim k J (Code.at [1, 1, 0, 1, 0, 0] c14) (sp 40 [(0, x0), (3, x3)]) H (kk (some [0, 3]) kn [(0, (some []), k0)] R [2]) =
  purK (lenS x0) fun x9_1 =>
  purK (binA Tryd.prog H .lss 3 x3 x9_1) fun x10_1 =>
  condK x10_1
  (
  purK (ixS 8 x0 x3) fun x15_1 =>
  purK (addA 3 x15_1) fun x16_1 =>
  purK (addA 1 x16_1) fun x17_1 =>
  purK (ld1 ρ H x17_1) fun x18_1 =>
  purK (lenT x18_1) fun x19_1 =>
  purK (binA Tryd.prog H .gtr 3 x19_1 (.int .i64 200)) fun x20_1 =>
  purK (gPur (wantV x20_1 false) (some x0)) fun x22_1 =>
  purK (gPur (wantV x20_1 false) (some x3)) fun x23_1 =>
  purK (gPur (wantV x20_1 false) (ixS 8 x22_1 x23_1)) fun x24_1 =>
  purK (gPur (wantV x20_1 false) (addA 3 x24_1)) fun x25_1 =>
  purK (gPur (wantV x20_1 false) (addA 2 x25_1)) fun x26_1 =>
  purK (gPur (wantV x20_1 false) (ld1 ρ H x26_1)) fun x27_1 =>
  purK (gPur (wantV x20_1 false) (lenT x27_1)) fun x28_1 =>
  purK (gPur (wantV x20_1 false) (binA Tryd.prog H .gtr 3 x28_1 (.int .i64 200))) fun x29_1 =>
  purK (pickA x20_1 (.bool true) x29_1) fun x30_1 =>
  purK (gPur (wantV x30_1 false) (some x0)) fun x32_1 =>
  purK (gPur (wantV x30_1 false) (some x3)) fun x33_1 =>
  purK (gPur (wantV x30_1 false) (ixS 8 x32_1 x33_1)) fun x34_1 =>
  purK (gPur (wantV x30_1 false) (addA 7 x34_1)) fun x35_1 =>
  purK (gPur (wantV x30_1 false) (ld1 ρ H x35_1)) fun x36_1 =>
  purK (gPur (wantV x30_1 false) (lenS x36_1)) fun x37_1 =>
  purK (gPur (wantV x30_1 false) (binA Tryd.prog H .gtr 3 x37_1 (.int .i64 50))) fun x38_1 =>
  purK (pickA x30_1 (.bool true) x38_1) fun x39_1 =>
  J (Code.at [1, 1, 0, 1, 0, 0, 1, 0, 0, 1] c14) (sp 40 [(0, x0), (3, x3), (39, x39_1)]) H (kk (some [0, 3]) (fun s H => J (Code.at [1, 1, 0, 1, 0, 0, 1, 1] c14) s H (kk (some [0, 3]) kn [(0, (some []), k0)] R [2])) [(1, (some [0, 3]), (fun s H => J (Code.at [1, 1, 0, 1, 0, 0, 1, 1] c14) s H (kk (some [0, 3]) kn [(0, (some []), k0)] R [2]))), (0, (some []), k0)] R [2]))
  (
  k0 (sp 40 []) H) := by
  kernel_rfl
theorem N14_3b_eq (ρ : RO) (call : CallF) (yc : YieldF) (lim k : Nat) (x0 x3 : AV) (H : Heap) (kn : KS) (k0 : KS) (R : KR) :
  evL (cx ρ) call yc false 14 lim k (Code.at [1, 1, 0, 1, 0, 0] c14) (sp 40 [(0, x0), (3, x3)]) H (kk (some [0, 3]) kn [(0, (some []), k0)] R [2]) = N14_3b ρ call yc lim k x0 x3 H (fun x3 H => kn (sp 40 [(0, x0), (3, x3)]) H) (fun H => k0 (sp 40 []) H) R := by
  rw [evL_X, N14_3b_x]
  simp only [← evL_X, N14_3b, N14_4_eq, N14_5_eq]
noncomputable def N14_3 (ρ : RO) (call : CallF) (yc : YieldF) (lim k : Nat) (x0 x3 : AV) (H : Heap) (k0 : Heap → Res) (R : KR) : Res :=
  loopL (fun (x : AV) H kn => N14_3b ρ call yc lim k x0 x H (fun x3 H => kn x3 H) k0 R) k x3 H
theorem N14_3_eq (ρ : RO) (call : CallF) (yc : YieldF) (lim k : Nat) (x0 x3 : AV) (H : Heap) (kn : KS) (k0 : KS) (R : KR) :
  evL (cx ρ) call yc false 14 lim k (Code.at [1, 1, 0, 1, 0] c14) (sp 40 [(0, x0), (3, x3)]) H (kk (some []) kn [(0, (some []), k0)] R [2]) = N14_3 ρ call yc lim k x0 x3 H (fun H => k0 (sp 40 []) H) R := by
  have e : Code.at [1, 1, 0, 1, 0] c14 = .loop (Code.at [1, 1, 0, 1, 0, 0] c14) := by kernel_rfl
  rw [e]
  unfold N14_3
  exact loop_node [0, 3] (fun x : AV => (sp 40 [(0, x0), (3, (x))])) (fun (x : AV) H kn => N14_3b ρ call yc lim k x0 x H (fun x3 H => kn x3 H) (fun H => k0 (sp 40 []) H) R) (by kernel_rfl) (fun x => by kernel_rfl) (fun x H kn => N14_3b_eq ρ call yc lim k x0 (x) H kn k0 R) x3 (sp 40 [(0, x0), (3, x3)]) H (by kernel_rfl)
noncomputable def N14_2 (ρ : RO) (call : CallF) (yc : YieldF) (lim k : Nat) (x0 x3 : AV) (H : Heap) (kn : Heap → Res) (R : KR) : Res :=
  N14_3 ρ call yc lim k x0 x3 H kn R
theorem N14_2_x (ρ : RO) (call : CallF) (yc : YieldF) (lim k : Nat) (J : CodeF) (x0 x3 : AV) (H : Heap) (kn : KS) (R : KR) :
  evX (cx ρ) call yc false 14 lim k J (Code.at [1, 1, 0, 1] c14) (sp 40 [(0, x0), (3, x3)]) H (kk (some []) kn [] R [2]) =
  J (Code.at [1, 1, 0, 1, 0] c14) (sp 40 [(0, x0), (3, x3)]) H (kk (some []) kn [(0, (some []), kn)] R [2]) := by
  kernel_rfl
theorem N14_2_eq (ρ : RO) (call : CallF) (yc : YieldF) (lim k : Nat) (x0 x3 : AV) (H : Heap) (kn : KS) (R : KR) :
  evL (cx ρ) call yc false 14 lim k (Code.at [1, 1, 0, 1] c14) (sp 40 [(0, x0), (3, x3)]) H (kk (some []) kn [] R [2]) = N14_2 ρ call yc lim k x0 x3 H (fun H => kn (sp 40 []) H) R := by
  rw [evL_X, N14_2_x]
  simp only [← evL_X, N14_2, N14_3_eq]
noncomputable def L14 (ρ : RO) (call : CallF) (yc : YieldF) (lim k : Nat) (x0 : AV) (H : Heap) : Res :=
  purK (lenS x0) fun x5 =>
  purK (binA Tryd.prog H .gtr 3 x5 (.int .i64 60)) fun x6 =>
  condK x6
  (
  retK [(.bool true)] H)
  (
  N14_2 ρ call yc lim k x0 (.int .i64 0) H (fun H =>
  N14_1 ρ call yc lim k H retK) retK)
theorem L14_x (ρ : RO) (call : CallF) (yc : YieldF) (lim k : Nat) (J : CodeF) (x0 : AV) (H : Heap) :
  evX (cx ρ) call yc false 14 lim k J c14 [x0, (.tup []), (.tup []), (.tup []), (.tup []), (.tup []), (.tup []), (.tup []), (.tup []), (.tup []), (.tup []), (.tup []), (.tup []), (.tup []), (.tup []), (.tup []), (.tup []), (.tup []), (.tup []), (.tup []), (.tup []), (.tup []), (.tup []), (.tup []), (.tup []), (.tup []), (.tup []), (.tup []), (.tup []), (.tup []), (.tup []), (.tup []), (.tup []), (.tup []), (.tup []), (.tup []), (.tup []), (.tup []), (.tup []), (.tup [])] H (kk none (fun s H => retK (([2] : List Nat).map fun t => s.getD t (.tup [])) H) [] retK [2]) =
  purK (lenS x0) fun x5 =>
  purK (binA Tryd.prog H .gtr 3 x5 (.int .i64 60)) fun x6 =>
  condK x6
  (
  retK [(.bool true)] H)
  (
  J (Code.at [1, 1, 0, 1] c14) (sp 40 [(0, x0), (3, (.int .i64 0))]) H (kk (some []) (fun s H => J (Code.at [1, 1, 1] c14) s H (kk none (fun s H => retK (([2] : List Nat).map fun t => s.getD t (.tup [])) H) [] retK [2])) [] retK [2])) := by
  kernel_rfl
theorem G14 (ρ : RO) (call : CallF) (yc : YieldF) (lim k : Nat) (x0 : AV) (H : Heap) :
  evL (cx ρ) call yc false 14 lim k c14 [x0, (.tup []), (.tup []), (.tup []), (.tup []), (.tup []), (.tup []), (.tup []), (.tup []), (.tup []), (.tup []), (.tup []), (.tup []), (.tup []), (.tup []), (.tup []), (.tup []), (.tup []), (.tup []), (.tup []), (.tup []), (.tup []), (.tup []), (.tup []), (.tup []), (.tup []), (.tup []), (.tup []), (.tup []), (.tup []), (.tup []), (.tup []), (.tup []), (.tup []), (.tup []), (.tup []), (.tup []), (.tup []), (.tup []), (.tup [])] H (kk none (fun s H => retK (([2] : List Nat).map fun t => s.getD t (.tup [])) H) [] retK [2]) = L14 ρ call yc lim k x0 H := by
  rw [evL_X, L14_x]
  simp only [← evL_X, L14, N14_1_eq, N14_2_eq]
theorem E14 (ρ : RO) (k lim : Nat) (x0 : AV) (H : Heap) : evCall (cx ρ) (k + 1) lim 14 [x0] H = L14 ρ (evCall (cx ρ) k) (evCY (cx ρ) k).2 lim k x0 H := by
  rw [evCall_body (cx ρ) k lim 14 _ H Tryd.f14 c14 [2] (by kernel_rfl) (by kernel_rfl) (by kernel_rfl) (by kernel_rfl) (by kernel_rfl)]
  exact G14 ρ (evCall (cx ρ) k) (evCY (cx ρ) k).2 lim k x0 H
-- haycroft/script.Print
noncomputable def c15 : Code := Code.of Tryd.prog 15
noncomputable def N15_1 (ρ : RO) (call : CallF) (yc : YieldF) (lim k : Nat) (x4 : AV) (H : Heap) (R : KR) : Res :=
  resK (call lim 33 [x4] H) fun x35_1 H =>
  purK (binA Tryd.prog H .gtr 3 x35_1 (.int .i64 100000)) fun x36_1 =>
  condK x36_1
  (
  R [(.str (ByteArray.mk #[])), (.int .i64 5)] H)
  (
  resK (call lim 25 [x4] H) fun x37_1 H =>
  R [x37_1, (.int .i64 0)] H)
theorem N15_1_eq (ρ : RO) (call : CallF) (yc : YieldF) (lim k : Nat) (x4 : AV) (H : Heap) (R : KR) :
  evL (cx ρ) call yc false 15 lim k (Code.at [1, 1, 1] c15) (sp 38 [(4, x4)]) H (kk none (fun s H => R (([2, 3] : List Nat).map fun t => s.getD t (.tup [])) H) [] R [2, 3]) = N15_1 ρ call yc lim k x4 H R := by
  kernel_rfl
noncomputable def N15_4 (ρ : RO) (call : CallF) (yc : YieldF) (lim k : Nat) (x4 x10 x11 x12 : AV) (H : Heap) (kn : AV → Heap → Res) : Res :=
  purK (binA Tryd.prog H .add 3 x12 (.int .i64 1)) fun x34_1 =>
  kn x34_1 H
theorem N15_4_eq (ρ : RO) (call : CallF) (yc : YieldF) (lim k : Nat) (x4 x10 x11 x12 : AV) (H : Heap) (kn : KS) (k0 : KS) (R : KR) :
  evL (cx ρ) call yc false 15 lim k (Code.at [1, 1, 0, 1, 0, 0, 1, 1, 1] c15) (sp 38 [(4, x4), (10, x10), (11, x11), (12, x12)]) H (kk (some [4, 10, 11, 12]) kn [(0, (some [4]), k0)] R [2, 3]) = N15_4 ρ call yc lim k x4 x10 x11 x12 H (fun x12 H => kn (sp 38 [(4, x4), (10, x10), (11, x11), (12, x12)]) H) := by
  kernel_rfl
noncomputable def N15_5 (ρ : RO) (call : CallF) (yc : YieldF) (lim k : Nat) (x4 x7 x10 x11 x12 : AV) (H : Heap) (kn : AV → Heap → Res) : Res :=
  purK (binA Tryd.prog H .add 9 x7 (.str (ByteArray.mk #[10]))) fun x32_1 =>
  resK (call lim 24 [x4, x32_1] H) fun x33_1 H =>
  kn x12 H
theorem N15_5_eq (ρ : RO) (call : CallF) (yc : YieldF) (lim k : Nat) (x4 x7 x10 x11 x12 : AV) (H : Heap) (kn : KS) (k1 : KS) (k0 : KS) (R : KR) :
  evL (cx ρ) call yc false 15 lim k (Code.at [1, 1, 0, 1, 0, 0, 1, 1, 0, 0, 1, 1, 1] c15) (sp 38 [(4, x4), (7, x7), (10, x10), (11, x11), (12, x12)]) H (kk (some [4, 10, 11, 12]) kn [(1, (some [4, 10, 11, 12]), k1), (0, (some [4]), k0)] R [2, 3]) = N15_5 ρ call yc lim k x4 x7 x10 x11 x12 H (fun x12 H => kn (sp 38 [(4, x4), (10, x10), (11, x11), (12, x12)]) H) := by
  kernel_rfl
noncomputable def N15_3b (ρ : RO) (call : CallF) (yc : YieldF) (lim k : Nat) (x4 x10 x11 x12 : AV) (H : Heap) (kn : AV → Heap → Res) (k0 : AV → Heap → Res) (R : KR) : Res :=
  purK (binA Tryd.prog H .lss 3 x12 x11) fun x13_1 =>
  condK x13_1
  (
  purK (ixS 8 x10 x12) fun x14_1 =>
  purK (ldN ρ H 8 x14_1) fun x15_1 =>
  effK H (some (.ptr H.sz 0 0, .new (newCells 43 false [.int .i64 0, .int .i64 0, .int .i64 0, .int .i64 0, .str ByteArray.empty, .str ByteArray.empty, .int .u64 0, .nils]))) fun x6_1 H =>
  effK H (stA lim H 8 x6_1 x15_1) fun _ H =>
  purK (ldN ρ H 8 x6_1) fun x16_1 =>
  resK (call lim 31 [x16_1] H) fun x17_1 H =>
  resK (call lim 18 [x17_1] H) fun x20_1 H =>
  purK (extA 0 x20_1) fun x21_1 =>
  purK (extA 1 x20_1) fun x22_1 =>
  effK H (some (.ptr H.sz 0 0, .new (newCells 43 false [.int .i64 0, .int .i64 0, .int .i64 0, .int .i64 0, .str ByteArray.empty, .str ByteArray.empty, .int .u64 0, .nils]))) fun x8_1 H =>
  effK H (stA lim H 8 x8_1 x21_1) fun _ H =>
  purK (unA .not x22_1) fun x24_1 =>
  purK (gPur (wantV x24_1 false) (ldN ρ H 8 x6_1)) fun x26_1 =>
  purK (gPur (wantV x24_1 false) (ldN ρ H 8 x8_1)) fun x27_1 =>
  resK (gRes (wantV x24_1 false) H (call lim 32 [x26_1, x27_1] H)) fun x28_1 H =>
  purK (gPur (wantV x24_1 false) (unA .not x28_1)) fun x29_1 =>
  purK (pickA x24_1 (.bool true) x29_1) fun x30_1 =>
  condK x30_1
  (
  R [(.str (ByteArray.mk #[])), (.int .i64 1)] H)
  (
  N15_5 ρ call yc lim k x4 x17_1 x10 x11 x12 H (fun x12_1 H =>
  N15_4 ρ call yc lim k x4 x10 x11 x12_1 H kn)))
  (
  k0 x4 H)
theorem N15_3b_x (ρ : RO) (call : CallF) (yc : YieldF) (lim k : Nat) (J : CodeF) (x4 x10 x11 x12 : AV) (H : Heap) (kn : KS) (k0 : KS) (R : KR) :
  evX (cx ρ) call yc false 15 lim k J (Code.at [1, 1, 0, 1, 0, 0] c15) (sp 38 [(4, x4), (10, x10), (11, x11), (12, x12)]) H (kk (some [4, 10, 11, 12]) kn [(0, (some [4]), k0)] R [2, 3]) =
  purK (binA Tryd.prog H .lss 3 x12 x11) fun x13_1 =>
  condK x13_1
  (
  purK (ixS 8 x10 x12) fun x14_1 =>
  purK (ldN ρ H 8 x14_1) fun x15_1 =>
  effK H (some (.ptr H.sz 0 0, .new (newCells 43 false [.int .i64 0, .int .i64 0, .int .i64 0, .int .i64 0, .str ByteArray.empty, .str ByteArray.empty, .int .u64 0, .nils]))) fun x6_1 H =>
  effK H (stA lim H 8 x6_1 x15_1) fun _ H =>
  purK (ldN ρ H 8 x6_1) fun x16_1 =>
  resK (call lim 31 [x16_1] H) fun x17_1 H =>
  resK (call lim 18 [x17_1] H) fun x20_1 H =>
  purK (extA 0 x20_1) fun x21_1 =>
  purK (extA 1 x20_1) fun x22_1 =>
  effK H (some (.ptr H.sz 0 0, .new (newCells 43 false [.int .i64 0, .int .i64 0, .int .i64 0, .int .i64 0, .str ByteArray.empty, .str ByteArray.empty, .int .u64 0, .nils]))) fun x8_1 H =>
  effK H (stA lim H 8 x8_1 x21_1) fun _ H =>
  purK (unA .not x22_1) fun x24_1 =>
  purK (gPur (wantV x24_1 false) (ldN ρ H 8 x6_1)) fun x26_1 =>
  purK (gPur (wantV x24_1 false) (ldN ρ H 8 x8_1)) fun x27_1 =>
  resK (gRes (wantV x24_1 false) H (call lim 32 [x26_1, x27_1] H)) fun x28_1 H =>
  purK (gPur (wantV x24_1 false) (unA .not x28_1)) fun x29_1 =>
  purK (pickA x24_1 (.bool true) x29_1) fun x30_1 =>
  condK x30_1
  (
  R [(.str (ByteArray.mk #[])), (.int .i64 1)] H)
  (
  J (Code.at [1, 1, 0, 1, 0, 0, 1, 1, 0, 0, 1, 1, 1] c15) (sp 38 [(4, x4), (7, x17_1), (10, x10), (11, x11), (12, x12)]) H (kk (some [4, 10, 11, 12]) (fun s H => J (Code.at [1, 1, 0, 1, 0, 0, 1, 1, 1] c15) s H (kk (some [4, 10, 11, 12]) kn [(0, (some [4]), k0)] R [2, 3])) [(1, (some [4, 10, 11, 12]), (fun s H => J (Code.at [1, 1, 0, 1, 0, 0, 1, 1, 1] c15) s H (kk (some [4, 10, 11, 12]) kn [(0, (some [4]), k0)] R [2, 3]))), (0, (some [4]), k0)] R [2, 3])))
  (
  k0 (sp 38 [(4, x4)]) H) := by
  kernel_rfl
theorem N15_3b_eq (ρ : RO) (call : CallF) (yc : YieldF) (lim k : Nat) (x4 x10 x11 x12 : AV) (H : Heap) (kn : KS) (k0 : KS) (R : KR) :
  evL (cx ρ) call yc false 15 lim k (Code.at [1, 1, 0, 1, 0, 0] c15) (sp 38 [(4, x4), (10, x10), (11, x11), (12, x12)]) H (kk (some [4, 10, 11, 12]) kn [(0, (some [4]), k0)] R [2, 3]) = N15_3b ρ call yc lim k x4 x10 x11 x12 H (fun x12 H => kn (sp 38 [(4, x4), (10, x10), (11, x11), (12, x12)]) H) (fun x4 H => k0 (sp 38 [(4, x4)]) H) R := by
  rw [evL_X, N15_3b_x]
  simp only [← evL_X, N15_3b, N15_4_eq, N15_5_eq]
noncomputable def N15_3 (ρ : RO) (call : CallF) (yc : YieldF) (lim k : Nat) (x4 x10 x11 x12 : AV) (H : Heap) (k0 : AV → Heap → Res) (R : KR) : Res :=
  loopL (fun (x : AV) H kn => N15_3b ρ call yc lim k x4 x10 x11 x H (fun x12 H => kn x12 H) k0 R) k x12 H
theorem N15_3_eq (ρ : RO) (call : CallF) (yc : YieldF) (lim k : Nat) (x4 x10 x11 x12 : AV) (H : Heap) (kn : KS) (k0 : KS) (R : KR) :
  evL (cx ρ) call yc false 15 lim k (Code.at [1, 1, 0, 1, 0] c15) (sp 38 [(4, x4), (10, x10), (11, x11), (12, x12)]) H (kk (some [4]) kn [(0, (some [4]), k0)] R [2, 3]) = N15_3 ρ call yc lim k x4 x10 x11 x12 H (fun x4 H => k0 (sp 38 [(4, x4)]) H) R := by
  have e : Code.at [1, 1, 0, 1, 0] c15 = .loop (Code.at [1, 1, 0, 1, 0, 0] c15) := by kernel_rfl
  rw [e]
  unfold N15_3
  exact loop_node [4, 10, 11, 12] (fun x : AV => (sp 38 [(4, x4), (10, x10), (11, x11), (12, (x))])) (fun (x : AV) H kn => N15_3b ρ call yc lim k x4 x10 x11 x H (fun x12 H => kn x12 H) (fun x4 H => k0 (sp 38 [(4, x4)]) H) R) (by kernel_rfl) (fun x => by kernel_rfl) (fun x H kn => N15_3b_eq ρ call yc lim k x4 x10 x11 (x) H kn k0 R) x12 (sp 38 [(4, x4), (10, x10), (11, x11), (12, x12)]) H (by kernel_rfl)
noncomputable def N15_2 (ρ : RO) (call : CallF) (yc : YieldF) (lim k : Nat) (x4 x10 x11 x12 : AV) (H : Heap) (kn : AV → Heap → Res) (R : KR) : Res :=
  N15_3 ρ call yc lim k x4 x10 x11 x12 H kn R
theorem N15_2_x (ρ : RO) (call : CallF) (yc : YieldF) (lim k : Nat) (J : CodeF) (x4 x10 x11 x12 : AV) (H : Heap) (kn : KS) (R : KR) :
  evX (cx ρ) call yc false 15 lim k J (Code.at [1, 1, 0, 1] c15) (sp 38 [(4, x4), (10, x10), (11, x11), (12, x12)]) H (kk (some [4]) kn [] R [2, 3]) =
  J (Code.at [1, 1, 0, 1, 0] c15) (sp 38 [(4, x4), (10, x10), (11, x11), (12, x12)]) H (kk (some [4]) kn [(0, (some [4]), kn)] R [2, 3]) := by
  kernel_rfl
theorem N15_2_eq (ρ : RO) (call : CallF) (yc : YieldF) (lim k : Nat) (x4 x10 x11 x12 : AV) (H : Heap) (kn : KS) (R : KR) :
  evL (cx ρ) call yc false 15 lim k (Code.at [1, 1, 0, 1] c15) (sp 38 [(4, x4), (10, x10), (11, x11), (12, x12)]) H (kk (some [4]) kn [] R [2, 3]) = N15_2 ρ call yc lim k x4 x10 x11 x12 H (fun x4 H => kn (sp 38 [(4, x4)]) H) R := by
  rw [evL_X, N15_2_x]
  simp only [← evL_X, N15_2, N15_3_eq]
noncomputable def L15 (ρ : RO) (call : CallF) (yc : YieldF) (lim k : Nat) (x0 : AV) (H : Heap) : Res :=
  effK H (some (.ptr H.sz 0 0, .new (newCells 54 false [.nilp, .nils]))) fun x4 H =>
  purK (lenS x0) fun x11 =>
  N15_2 ρ call yc lim k x4 x0 x11 (.int .i64 0) H (fun x4_1 H =>
  N15_1 ρ call yc lim k x4_1 H retK) retK
theorem L15_x (ρ : RO) (call : CallF) (yc : YieldF) (lim k : Nat) (J : CodeF) (x0 : AV) (H : Heap) :
  evX (cx ρ) call yc false 15 lim k J c15 [x0, (.tup []), (.tup []), (.tup []), (.tup []), (.tup []), (.tup []), (.tup []), (.tup []), (.tup []), (.tup []), (.tup []), (.tup []), (.tup []), (.tup []), (.tup []), (.tup []), (.tup []), (.tup []), (.tup []), (.tup []), (.tup []), (.tup []), (.tup []), (.tup []), (.tup []), (.tup []), (.tup []), (.tup []), (.tup []), (.tup []), (.tup []), (.tup []), (.tup []), (.tup []), (.tup []), (.tup []), (.tup [])] H (kk none (fun s H => retK (([2, 3] : List Nat).map fun t => s.getD t (.tup [])) H) [] retK [2, 3]) =
  effK H (some (.ptr H.sz 0 0, .new (newCells 54 false [.nilp, .nils]))) fun x4 H =>
  purK (lenS x0) fun x11 =>
  J (Code.at [1, 1, 0, 1] c15) (sp 38 [(4, x4), (10, x0), (11, x11), (12, (.int .i64 0))]) H (kk (some [4]) (fun s H => J (Code.at [1, 1, 1] c15) s H (kk none (fun s H => retK (([2, 3] : List Nat).map fun t => s.getD t (.tup [])) H) [] retK [2, 3])) [] retK [2, 3]) := by
  kernel_rfl
theorem G15 (ρ : RO) (call : CallF) (yc : YieldF) (lim k : Nat) (x0 : AV) (H : Heap) :
  evL (cx ρ) call yc false 15 lim k c15 [x0, (.tup []), (.tup []), (.tup []), (.tup []), (.tup []), (.tup []), (.tup []), (.tup []), (.tup []), (.tup []), (.tup []), (.tup []), (.tup []), (.tup []), (.tup []), (.tup []), (.tup []), (.tup []), (.tup []), (.tup []), (.tup []), (.tup []), (.tup []), (.tup []), (.tup []), (.tup []), (.tup []), (.tup []), (.tup []), (.tup []), (.tup []), (.tup []), (.tup []), (.tup []), (.tup []), (.tup []), (.tup [])] H (kk none (fun s H => retK (([2, 3] : List Nat).map fun t => s.getD t (.tup [])) H) [] retK [2, 3]) = L15 ρ call yc lim k x0 H := by
  rw [evL_X, L15_x]
  simp only [← evL_X, L15, N15_1_eq, N15_2_eq]
theorem E15 (ρ : RO) (k lim : Nat) (x0 : AV) (H : Heap) : evCall (cx ρ) (k + 1) lim 15 [x0] H = L15 ρ (evCall (cx ρ) k) (evCY (cx ρ) k).2 lim k x0 H := by
  rw [evCall_body (cx ρ) k lim 15 _ H Tryd.f15 c15 [2, 3] (by kernel_rfl) (by kernel_rfl) (by kernel_rfl) (by kernel_rfl) (by kernel_rfl)]
  exact G15 ρ (evCall (cx ρ) k) (evCY (cx ρ) k).2 lim k x0 H
end Go.Proofs.YtnkeebchblfbgaaDoor

-- part Sc2
/- Functions, lifted. Printed by a program of this repo. -/
set_option linter.unusedVariables false
set_option linter.unusedSimpArgs false
set_option maxRecDepth 100000
set_option maxHeartbeats 4000000
namespace Go.Proofs.YtnkeebchblfbgaaDoor
open Go.Ev Go.RowKit
-- haycroft/haycroftref27.Line
noncomputable def c16 : Code := Code.of Tryd.prog 16
noncomputable def N16_7 (ρ : RO) (call : CallF) (yc : YieldF) (lim k : Nat) (x5 : AV) (H : Heap) (R : KR) : Res :=
  R [x5, (.bool true)] H
theorem N16_7_eq (ρ : RO) (call : CallF) (yc : YieldF) (lim k : Nat) (x5 : AV) (H : Heap) (R : KR) :
  evL (cx ρ) call yc false 16 lim k (Code.at [1, 1, 1, 1, 1, 1, 1, 1, 1, 1, 1, 1, 1, 1, 1] c16) (sp 204 [(5, x5)]) H (kk none (fun s H => R (([2, 3] : List Nat).map fun t => s.getD t (.tup [])) H) [] R [2, 3]) = N16_7 ρ call yc lim k x5 H R := by
  kernel_rfl
noncomputable def N16_6 (ρ : RO) (call : CallF) (yc : YieldF) (lim k : Nat) (x5 x7 : AV) (H : Heap) (R : KR) : Res :=
  purK (addA 0 x7) fun x194_1 =>
  purK (ld1 ρ H x194_1) fun x195_1 =>
  purK (binA Tryd.prog H .eql 3 x195_1 (.int .i64 3)) fun x196_1 =>
  condK x196_1
  (
  purK (binA Tryd.prog H .add 9 x5 (.str (ByteArray.mk #[32]))) fun x198_1 =>
  purK (addA 3 x7) fun x199_1 =>
  purK (ld1 ρ H x199_1) fun x200_1 =>
  resK (call lim 35 [x200_1] H) fun x201_1 H =>
  purK (binA Tryd.prog H .add 9 x198_1 x201_1) fun x202_1 =>
  N16_7 ρ call yc lim k x202_1 H R)
  (
  N16_7 ρ call yc lim k x5 H R)
theorem N16_6_x (ρ : RO) (call : CallF) (yc : YieldF) (lim k : Nat) (J : CodeF) (x5 x7 : AV) (H : Heap) (R : KR) :
  evX (cx ρ) call yc false 16 lim k J (Code.at [1, 1, 1, 1, 1, 1, 1, 1, 1, 1, 1, 1, 1, 1] c16) (sp 204 [(5, x5), (7, x7)]) H (kk none (fun s H => R (([2, 3] : List Nat).map fun t => s.getD t (.tup [])) H) [] R [2, 3]) =
  purK (addA 0 x7) fun x194_1 =>
  purK (ld1 ρ H x194_1) fun x195_1 =>
  purK (binA Tryd.prog H .eql 3 x195_1 (.int .i64 3)) fun x196_1 =>
  condK x196_1
  (
  purK (binA Tryd.prog H .add 9 x5 (.str (ByteArray.mk #[32]))) fun x198_1 =>
  purK (addA 3 x7) fun x199_1 =>
  purK (ld1 ρ H x199_1) fun x200_1 =>
  resK (call lim 35 [x200_1] H) fun x201_1 H =>
  purK (binA Tryd.prog H .add 9 x198_1 x201_1) fun x202_1 =>
  J (Code.at [1, 1, 1, 1, 1, 1, 1, 1, 1, 1, 1, 1, 1, 1, 1] c16) (sp 204 [(5, x202_1)]) H (kk none (fun s H => R (([2, 3] : List Nat).map fun t => s.getD t (.tup [])) H) [] R [2, 3]))
  (
  J (Code.at [1, 1, 1, 1, 1, 1, 1, 1, 1, 1, 1, 1, 1, 1, 1] c16) (sp 204 [(5, x5)]) H (kk none (fun s H => R (([2, 3] : List Nat).map fun t => s.getD t (.tup [])) H) [] R [2, 3])) := by
  kernel_rfl
theorem N16_6_eq (ρ : RO) (call : CallF) (yc : YieldF) (lim k : Nat) (x5 x7 : AV) (H : Heap) (R : KR) :
  evL (cx ρ) call yc false 16 lim k (Code.at [1, 1, 1, 1, 1, 1, 1, 1, 1, 1, 1, 1, 1, 1] c16) (sp 204 [(5, x5), (7, x7)]) H (kk none (fun s H => R (([2, 3] : List Nat).map fun t => s.getD t (.tup [])) H) [] R [2, 3]) = N16_6 ρ call yc lim k x5 x7 H R := by
  rw [evL_X, N16_6_x]
  simp only [← evL_X, N16_6, N16_7_eq]
noncomputable def N16_5 (ρ : RO) (call : CallF) (yc : YieldF) (lim k : Nat) (x5 x7 : AV) (H : Heap) (R : KR) : Res :=
  effK H (bldS H 9 1 [.str ByteArray.empty] 4 [(0, 1, (.str (ByteArray.mk #[114, 101, 97, 100]))), (1, 1, (.str (ByteArray.mk #[112, 117, 116]))), (2, 1, (.str (ByteArray.mk #[97, 100, 100]))), (3, 1, (.str (ByteArray.mk #[100, 101, 108])))]) fun x170_1 H =>
  purK (binA Tryd.prog H .add 9 x5 (.str (ByteArray.mk #[32]))) fun x172_1 =>
  purK (addA 0 x7) fun x174_1 =>
  purK (ld1 ρ H x174_1) fun x175_1 =>
  purK (binA Tryd.prog H .sub 3 x175_1 (.int .i64 1)) fun x176_1 =>
  purK (ixS 1 x170_1 x176_1) fun x177_1 =>
  purK (ld1 ρ H x177_1) fun x178_1 =>
  purK (binA Tryd.prog H .add 9 x172_1 x178_1) fun x179_1 =>
  purK (binA Tryd.prog H .add 9 x179_1 (.str (ByteArray.mk #[32]))) fun x180_1 =>
  purK (addA 1 x7) fun x181_1 =>
  purK (ld1 ρ H x181_1) fun x182_1 =>
  resK (call lim 13 [x182_1] H) fun x183_1 H => bif (agn (binA Tryd.prog H .add 9 x179_1 (.str (ByteArray.mk #[32]))) x180_1 && (agn (binA Tryd.prog H .add 9 x172_1 x178_1) x179_1 && (agn (ld1 ρ H x177_1) x178_1 && (agn (binA Tryd.prog H .sub 3 x175_1 (.int .i64 1)) x176_1 && (agn (ld1 ρ H x174_1) x175_1 && (agn (binA Tryd.prog H .add 9 x5 (.str (ByteArray.mk #[32]))) x172_1 && true)))))) then
  purK (binA Tryd.prog H .add 9 x180_1 x183_1) fun x184_1 =>
  purK (addA 0 x7) fun x185_1 =>
  purK (ld1 ρ H x185_1) fun x186_1 =>
  purK (binA Tryd.prog H .eql 3 x186_1 (.int .i64 2)) fun x187_1 =>
  condK x187_1
  (
  purK (binA Tryd.prog H .add 9 x184_1 (.str (ByteArray.mk #[32]))) fun x189_1 =>
  purK (addA 2 x7) fun x190_1 =>
  purK (ld1 ρ H x190_1) fun x191_1 =>
  resK (call lim 13 [x191_1] H) fun x192_1 H =>
  purK (binA Tryd.prog H .add 9 x189_1 x192_1) fun x193_1 =>
  N16_6 ρ call yc lim k x193_1 x7 H R)
  (
  N16_6 ρ call yc lim k x184_1 x7 H R)
  else none
theorem N16_5_x (ρ : RO) (call : CallF) (yc : YieldF) (lim k : Nat) (J : CodeF) (x5 x7 : AV) (H : Heap) (R : KR) :
  evX (cx ρ) call yc false 16 lim k J (Code.at [1, 1, 1, 1, 1, 1, 1, 1, 1, 1, 1] c16) (sp 204 [(5, x5), (7, x7)]) H (kk none (fun s H => R (([2, 3] : List Nat).map fun t => s.getD t (.tup [])) H) [] R [2, 3]) =
  effK H (bldS H 9 1 [.str ByteArray.empty] 4 [(0, 1, (.str (ByteArray.mk #[114, 101, 97, 100]))), (1, 1, (.str (ByteArray.mk #[112, 117, 116]))), (2, 1, (.str (ByteArray.mk #[97, 100, 100]))), (3, 1, (.str (ByteArray.mk #[100, 101, 108])))]) fun x170_1 H =>
  purK (binA Tryd.prog H .add 9 x5 (.str (ByteArray.mk #[32]))) fun x172_1 =>
  purK (addA 0 x7) fun x174_1 =>
  purK (ld1 ρ H x174_1) fun x175_1 =>
  purK (binA Tryd.prog H .sub 3 x175_1 (.int .i64 1)) fun x176_1 =>
  purK (ixS 1 x170_1 x176_1) fun x177_1 =>
  purK (ld1 ρ H x177_1) fun x178_1 =>
  purK (binA Tryd.prog H .add 9 x172_1 x178_1) fun x179_1 =>
  purK (binA Tryd.prog H .add 9 x179_1 (.str (ByteArray.mk #[32]))) fun x180_1 =>
  purK (addA 1 x7) fun x181_1 =>
  purK (ld1 ρ H x181_1) fun x182_1 =>
  resK (call lim 13 [x182_1] H) fun x183_1 H => bif (agn (binA Tryd.prog H .add 9 x179_1 (.str (ByteArray.mk #[32]))) x180_1 && (agn (binA Tryd.prog H .add 9 x172_1 x178_1) x179_1 && (agn (ld1 ρ H x177_1) x178_1 && (agn (binA Tryd.prog H .sub 3 x175_1 (.int .i64 1)) x176_1 && (agn (ld1 ρ H x174_1) x175_1 && (agn (binA Tryd.prog H .add 9 x5 (.str (ByteArray.mk #[32]))) x172_1 && true)))))) then
  purK (binA Tryd.prog H .add 9 x180_1 x183_1) fun x184_1 =>
  purK (addA 0 x7) fun x185_1 =>
  purK (ld1 ρ H x185_1) fun x186_1 =>
  purK (binA Tryd.prog H .eql 3 x186_1 (.int .i64 2)) fun x187_1 =>
  condK x187_1
  (
  purK (binA Tryd.prog H .add 9 x184_1 (.str (ByteArray.mk #[32]))) fun x189_1 =>
  purK (addA 2 x7) fun x190_1 =>
  purK (ld1 ρ H x190_1) fun x191_1 =>
  resK (call lim 13 [x191_1] H) fun x192_1 H =>
  purK (binA Tryd.prog H .add 9 x189_1 x192_1) fun x193_1 =>
  J (Code.at [1, 1, 1, 1, 1, 1, 1, 1, 1, 1, 1, 1, 1, 1] c16) (sp 204 [(5, x193_1), (7, x7)]) H (kk none (fun s H => R (([2, 3] : List Nat).map fun t => s.getD t (.tup [])) H) [] R [2, 3]))
  (
  J (Code.at [1, 1, 1, 1, 1, 1, 1, 1, 1, 1, 1, 1, 1, 1] c16) (sp 204 [(5, x184_1), (7, x7)]) H (kk none (fun s H => R (([2, 3] : List Nat).map fun t => s.getD t (.tup [])) H) [] R [2, 3]))
  else none := by
  kernel_rfl
theorem N16_5_eq (ρ : RO) (call : CallF) (yc : YieldF) (lim k : Nat) (x5 x7 : AV) (H : Heap) (R : KR) :
  evL (cx ρ) call yc false 16 lim k (Code.at [1, 1, 1, 1, 1, 1, 1, 1, 1, 1, 1] c16) (sp 204 [(5, x5), (7, x7)]) H (kk none (fun s H => R (([2, 3] : List Nat).map fun t => s.getD t (.tup [])) H) [] R [2, 3]) = N16_5 ρ call yc lim k x5 x7 H R := by
  rw [evL_X, N16_5_x]
  simp only [← evL_X, N16_5, N16_6_eq]
noncomputable def N16_8 (ρ : RO) (call : CallF) (yc : YieldF) (lim k : Nat) (x5 x7 x169 : AV) (H : Heap) (kn : AV → AV → Heap → Res) (R : KR) : Res :=
  condK x169
  (
  R [(.str (ByteArray.mk #[])), (.bool false)] H)
  (
  kn x5 x7 H)
theorem N16_8_eq (ρ : RO) (call : CallF) (yc : YieldF) (lim k : Nat) (x5 x7 x169 : AV) (H : Heap) (kn : KS) (R : KR) :
  evL (cx ρ) call yc false 16 lim k (Code.at [1, 1, 1, 1, 1, 1, 1, 1, 1, 1, 0, 1] c16) (sp 204 [(5, x5), (7, x7), (169, x169)]) H (kk (some [5, 7]) kn [] R [2, 3]) = N16_8 ρ call yc lim k x5 x7 x169 H (fun x5 x7 H => kn (sp 204 [(5, x5), (7, x7)]) H) R := by
  kernel_rfl
noncomputable def N16_4 (ρ : RO) (call : CallF) (yc : YieldF) (lim k : Nat) (x1 x5 : AV) (H : Heap) (R : KR) : Res :=
  purK (addA 0 x1) fun x136_1 =>
  purK (ld1 ρ H x136_1) fun x137_1 =>
  purK (binA Tryd.prog H .gtr 3 x137_1 (.int .i64 1)) fun x138_1 =>
  condK x138_1
  (
  R [x5, (.bool true)] H)
  (
  purK (addA 3 x1) fun x140_1 =>
  purK (ldN ρ H 4 x140_1) fun x141_1 =>
  effK H (some (.ptr H.sz 0 0, .new (newCells 40 false [.int .i64 0, .str ByteArray.empty, .str ByteArray.empty, .int .u64 0]))) fun x7_1 H =>
  effK H (stA lim H 4 x7_1 x141_1) fun _ H =>
  purK (addA 0 x7_1) fun x142_1 =>
  purK (ld1 ρ H x142_1) fun x143_1 =>
  purK (binA Tryd.prog H .lss 3 x143_1 (.int .i64 1)) fun x144_1 =>
  purK (gPur (wantV x144_1 false) (addA 0 x7_1)) fun x146_1 =>
  purK (gPur (wantV x144_1 false) (ld1 ρ H x146_1)) fun x147_1 =>
  purK (gPur (wantV x144_1 false) (binA Tryd.prog H .gtr 3 x147_1 (.int .i64 4))) fun x148_1 =>
  purK (pickA x144_1 (.bool true) x148_1) fun x149_1 =>
  purK (gPur (wantV x149_1 false) (addA 0 x7_1)) fun x151_1 =>
  purK (gPur (wantV x149_1 false) (ld1 ρ H x151_1)) fun x152_1 =>
  purK (gPur (wantV x149_1 false) (binA Tryd.prog H .neq 3 x152_1 (.int .i64 2))) fun x153_1 =>
  purK (gPur (wantV x149_1 false) (some x153_1)) fun x154_1 =>
  purK (gPur (wantV x154_1 true) (addA 2 x7_1)) fun x155_1 =>
  purK (gPur (wantV x154_1 true) (ld1 ρ H x155_1)) fun x156_1 =>
  purK (gPur (wantV x154_1 true) (binA Tryd.prog H .neq 9 x156_1 (.str (ByteArray.mk #[])))) fun x157_1 =>
  purK (gPur (wantV x149_1 false) (pickA x154_1 x157_1 (.bool false))) fun x158_1 =>
  purK (pickA x149_1 (.bool true) x158_1) fun x159_1 =>
  purK (gPur (wantV x159_1 false) (addA 0 x7_1)) fun x161_1 =>
  purK (gPur (wantV x159_1 false) (ld1 ρ H x161_1)) fun x162_1 =>
  purK (gPur (wantV x159_1 false) (binA Tryd.prog H .neq 3 x162_1 (.int .i64 3))) fun x163_1 =>
  purK (gPur (wantV x159_1 false) (some x163_1)) fun x164_1 =>
  purK (gPur (wantV x164_1 true) (addA 3 x7_1)) fun x165_1 =>
  purK (gPur (wantV x164_1 true) (ld1 ρ H x165_1)) fun x166_1 =>
  purK (gPur (wantV x164_1 true) (binA Tryd.prog H .neq 38 x166_1 (.int .u64 0))) fun x167_1 =>
  purK (gPur (wantV x159_1 false) (pickA x164_1 x167_1 (.bool false))) fun x168_1 =>
  purK (pickA x159_1 (.bool true) x168_1) fun x169_1 =>
  N16_8 ρ call yc lim k x5 x7_1 x169_1 H (fun x5_1 x7_2 H =>
  N16_5 ρ call yc lim k x5_1 x7_2 H R) R)
theorem N16_4_x (ρ : RO) (call : CallF) (yc : YieldF) (lim k : Nat) (J : CodeF) (x1 x5 : AV) (H : Heap) (R : KR) :
  evX (cx ρ) call yc false 16 lim k J (Code.at [1, 1, 1, 1, 1, 1, 1, 1] c16) (sp 204 [(1, x1), (5, x5)]) H (kk none (fun s H => R (([2, 3] : List Nat).map fun t => s.getD t (.tup [])) H) [] R [2, 3]) =
  purK (addA 0 x1) fun x136_1 =>
  purK (ld1 ρ H x136_1) fun x137_1 =>
  purK (binA Tryd.prog H .gtr 3 x137_1 (.int .i64 1)) fun x138_1 =>
  condK x138_1
  (
  R [x5, (.bool true)] H)
  (
  purK (addA 3 x1) fun x140_1 =>
  purK (ldN ρ H 4 x140_1) fun x141_1 =>
  effK H (some (.ptr H.sz 0 0, .new (newCells 40 false [.int .i64 0, .str ByteArray.empty, .str ByteArray.empty, .int .u64 0]))) fun x7_1 H =>
  effK H (stA lim H 4 x7_1 x141_1) fun _ H =>
  purK (addA 0 x7_1) fun x142_1 =>
  purK (ld1 ρ H x142_1) fun x143_1 =>
  purK (binA Tryd.prog H .lss 3 x143_1 (.int .i64 1)) fun x144_1 =>
  purK (gPur (wantV x144_1 false) (addA 0 x7_1)) fun x146_1 =>
  purK (gPur (wantV x144_1 false) (ld1 ρ H x146_1)) fun x147_1 =>
  purK (gPur (wantV x144_1 false) (binA Tryd.prog H .gtr 3 x147_1 (.int .i64 4))) fun x148_1 =>
  purK (pickA x144_1 (.bool true) x148_1) fun x149_1 =>
  purK (gPur (wantV x149_1 false) (addA 0 x7_1)) fun x151_1 =>
  purK (gPur (wantV x149_1 false) (ld1 ρ H x151_1)) fun x152_1 =>
  purK (gPur (wantV x149_1 false) (binA Tryd.prog H .neq 3 x152_1 (.int .i64 2))) fun x153_1 =>
  purK (gPur (wantV x149_1 false) (some x153_1)) fun x154_1 =>
  purK (gPur (wantV x154_1 true) (addA 2 x7_1)) fun x155_1 =>
  purK (gPur (wantV x154_1 true) (ld1 ρ H x155_1)) fun x156_1 =>
  purK (gPur (wantV x154_1 true) (binA Tryd.prog H .neq 9 x156_1 (.str (ByteArray.mk #[])))) fun x157_1 =>
  purK (gPur (wantV x149_1 false) (pickA x154_1 x157_1 (.bool false))) fun x158_1 =>
  purK (pickA x149_1 (.bool true) x158_1) fun x159_1 =>
  purK (gPur (wantV x159_1 false) (addA 0 x7_1)) fun x161_1 =>
  purK (gPur (wantV x159_1 false) (ld1 ρ H x161_1)) fun x162_1 =>
  purK (gPur (wantV x159_1 false) (binA Tryd.prog H .neq 3 x162_1 (.int .i64 3))) fun x163_1 =>
  purK (gPur (wantV x159_1 false) (some x163_1)) fun x164_1 =>
  purK (gPur (wantV x164_1 true) (addA 3 x7_1)) fun x165_1 =>
  purK (gPur (wantV x164_1 true) (ld1 ρ H x165_1)) fun x166_1 =>
  purK (gPur (wantV x164_1 true) (binA Tryd.prog H .neq 38 x166_1 (.int .u64 0))) fun x167_1 =>
  purK (gPur (wantV x159_1 false) (pickA x164_1 x167_1 (.bool false))) fun x168_1 =>
  purK (pickA x159_1 (.bool true) x168_1) fun x169_1 =>
  J (Code.at [1, 1, 1, 1, 1, 1, 1, 1, 1, 1, 0, 1] c16) (sp 204 [(5, x5), (7, x7_1), (169, x169_1)]) H (kk (some [5, 7]) (fun s H => J (Code.at [1, 1, 1, 1, 1, 1, 1, 1, 1, 1, 1] c16) s H (kk none (fun s H => R (([2, 3] : List Nat).map fun t => s.getD t (.tup [])) H) [] R [2, 3])) [] R [2, 3])) := by
  kernel_rfl
theorem N16_4_eq (ρ : RO) (call : CallF) (yc : YieldF) (lim k : Nat) (x1 x5 : AV) (H : Heap) (R : KR) :
  evL (cx ρ) call yc false 16 lim k (Code.at [1, 1, 1, 1, 1, 1, 1, 1] c16) (sp 204 [(1, x1), (5, x5)]) H (kk none (fun s H => R (([2, 3] : List Nat).map fun t => s.getD t (.tup [])) H) [] R [2, 3]) = N16_4 ρ call yc lim k x1 x5 H R := by
  rw [evL_X, N16_4_x]
  simp only [← evL_X, N16_4, N16_5_eq, N16_8_eq]
noncomputable def N16_11 (ρ : RO) (call : CallF) (yc : YieldF) (lim k : Nat) (x1 x5 x6 : AV) (H : Heap) (kn : AV → AV → Heap → Res) : Res :=
  purK (binA Tryd.prog H .add 3 x6 (.int .i64 1)) fun x118_1 =>
  kn x5 x118_1 H
theorem N16_11_eq (ρ : RO) (call : CallF) (yc : YieldF) (lim k : Nat) (x1 x5 x6 : AV) (H : Heap) (kn : KS) (k0 : KS) (R : KR) :
  evL (cx ρ) call yc false 16 lim k (Code.at [1, 1, 1, 1, 1, 1, 1, 0, 1, 0, 0, 1, 1] c16) (sp 204 [(1, x1), (5, x5), (6, x6)]) H (kk (some [1, 5, 6]) kn [(0, (some [1, 5]), k0)] R [2, 3]) = N16_11 ρ call yc lim k x1 x5 x6 H (fun x5 x6 H => kn (sp 204 [(1, x1), (5, x5), (6, x6)]) H) := by
  kernel_rfl
noncomputable def N16_10b (ρ : RO) (call : CallF) (yc : YieldF) (lim k : Nat) (x1 x5 x6 : AV) (H : Heap) (kn : AV → AV → Heap → Res) (k0 : AV → AV → Heap → Res) (R : KR) : Res :=
  purK (addA 7 x1) fun x113_1 =>
  purK (ld1 ρ H x113_1) fun x114_1 =>
  purK (lenS x114_1) fun x115_1 =>
  purK (binA Tryd.prog H .lss 3 x6 x115_1) fun x116_1 =>
  condK x116_1
  (
  purK (addA 7 x1) fun x119_1 =>
  purK (ld1 ρ H x119_1) fun x120_1 =>
  purK (ixS 1 x120_1 x6) fun x122_1 =>
  purK (ld1 ρ H x122_1) fun x123_1 =>
  resK (call lim 34 [x123_1] H) fun x124_1 H =>
  purK (unA .not x124_1) fun x125_1 =>
  condK x125_1
  (
  R [(.str (ByteArray.mk #[])), (.bool false)] H)
  (
  purK (binA Tryd.prog H .add 9 x5 (.str (ByteArray.mk #[32]))) fun x127_1 =>
  purK (addA 7 x1) fun x128_1 =>
  purK (ld1 ρ H x128_1) fun x129_1 =>
  purK (ixS 1 x129_1 x6) fun x131_1 =>
  purK (ld1 ρ H x131_1) fun x132_1 =>
  purK (cvI .u64 x132_1) fun x133_1 =>
  resK (call lim 35 [x133_1] H) fun x134_1 H =>
  purK (binA Tryd.prog H .add 9 x127_1 x134_1) fun x135_1 =>
  N16_11 ρ call yc lim k x1 x135_1 x6 H kn))
  (
  k0 x1 x5 H)
theorem N16_10b_x (ρ : RO) (call : CallF) (yc : YieldF) (lim k : Nat) (J : CodeF) (x1 x5 x6 : AV) (H : Heap) (kn : KS) (k0 : KS) (R : KR) :
  evX (cx ρ) call yc false 16 lim k J (Code.at [1, 1, 1, 1, 1, 1, 1, 0, 1, 0, 0] c16) (sp 204 [(1, x1), (5, x5), (6, x6)]) H (kk (some [1, 5, 6]) kn [(0, (some [1, 5]), k0)] R [2, 3]) =
  purK (addA 7 x1) fun x113_1 =>
  purK (ld1 ρ H x113_1) fun x114_1 =>
  purK (lenS x114_1) fun x115_1 =>
  purK (binA Tryd.prog H .lss 3 x6 x115_1) fun x116_1 =>
  condK x116_1
  (
  purK (addA 7 x1) fun x119_1 =>
  purK (ld1 ρ H x119_1) fun x120_1 =>
  purK (ixS 1 x120_1 x6) fun x122_1 =>
  purK (ld1 ρ H x122_1) fun x123_1 =>
  resK (call lim 34 [x123_1] H) fun x124_1 H =>
  purK (unA .not x124_1) fun x125_1 =>
  condK x125_1
  (
  R [(.str (ByteArray.mk #[])), (.bool false)] H)
  (
  purK (binA Tryd.prog H .add 9 x5 (.str (ByteArray.mk #[32]))) fun x127_1 =>
  purK (addA 7 x1) fun x128_1 =>
  purK (ld1 ρ H x128_1) fun x129_1 =>
  purK (ixS 1 x129_1 x6) fun x131_1 =>
  purK (ld1 ρ H x131_1) fun x132_1 =>
  purK (cvI .u64 x132_1) fun x133_1 =>
  resK (call lim 35 [x133_1] H) fun x134_1 H =>
  purK (binA Tryd.prog H .add 9 x127_1 x134_1) fun x135_1 =>
  J (Code.at [1, 1, 1, 1, 1, 1, 1, 0, 1, 0, 0, 1, 1] c16) (sp 204 [(1, x1), (5, x135_1), (6, x6)]) H (kk (some [1, 5, 6]) kn [(0, (some [1, 5]), k0)] R [2, 3])))
  (
  k0 (sp 204 [(1, x1), (5, x5)]) H) := by
  kernel_rfl
theorem N16_10b_eq (ρ : RO) (call : CallF) (yc : YieldF) (lim k : Nat) (x1 x5 x6 : AV) (H : Heap) (kn : KS) (k0 : KS) (R : KR) :
  evL (cx ρ) call yc false 16 lim k (Code.at [1, 1, 1, 1, 1, 1, 1, 0, 1, 0, 0] c16) (sp 204 [(1, x1), (5, x5), (6, x6)]) H (kk (some [1, 5, 6]) kn [(0, (some [1, 5]), k0)] R [2, 3]) = N16_10b ρ call yc lim k x1 x5 x6 H (fun x5 x6 H => kn (sp 204 [(1, x1), (5, x5), (6, x6)]) H) (fun x1 x5 H => k0 (sp 204 [(1, x1), (5, x5)]) H) R := by
  rw [evL_X, N16_10b_x]
  simp only [← evL_X, N16_10b, N16_11_eq]
noncomputable def N16_10 (ρ : RO) (call : CallF) (yc : YieldF) (lim k : Nat) (x1 x5 x6 : AV) (H : Heap) (k0 : AV → AV → Heap → Res) (R : KR) : Res :=
  loopL (fun (x : AV × AV) H kn => N16_10b ρ call yc lim k x1 x.1 x.2 H (fun x5 x6 H => kn (x5, x6) H) k0 R) k (x5, x6) H
theorem N16_10_eq (ρ : RO) (call : CallF) (yc : YieldF) (lim k : Nat) (x1 x5 x6 : AV) (H : Heap) (kn : KS) (k0 : KS) (R : KR) :
  evL (cx ρ) call yc false 16 lim k (Code.at [1, 1, 1, 1, 1, 1, 1, 0, 1, 0] c16) (sp 204 [(1, x1), (5, x5), (6, x6)]) H (kk (some [1, 5]) kn [(0, (some [1, 5]), k0)] R [2, 3]) = N16_10 ρ call yc lim k x1 x5 x6 H (fun x1 x5 H => k0 (sp 204 [(1, x1), (5, x5)]) H) R := by
  have e : Code.at [1, 1, 1, 1, 1, 1, 1, 0, 1, 0] c16 = .loop (Code.at [1, 1, 1, 1, 1, 1, 1, 0, 1, 0, 0] c16) := by kernel_rfl
  rw [e]
  unfold N16_10
  exact loop_node [1, 5, 6] (fun x : AV × AV => (sp 204 [(1, x1), (5, (x.1)), (6, (x.2))])) (fun (x : AV × AV) H kn => N16_10b ρ call yc lim k x1 x.1 x.2 H (fun x5 x6 H => kn (x5, x6) H) (fun x1 x5 H => k0 (sp 204 [(1, x1), (5, x5)]) H) R) (by kernel_rfl) (fun x => by kernel_rfl) (fun x H kn => N16_10b_eq ρ call yc lim k x1 (x.1) (x.2) H kn k0 R) (x5, x6) (sp 204 [(1, x1), (5, x5), (6, x6)]) H (by kernel_rfl)
noncomputable def N16_9 (ρ : RO) (call : CallF) (yc : YieldF) (lim k : Nat) (x1 x5 x6 : AV) (H : Heap) (kn : AV → AV → Heap → Res) (R : KR) : Res :=
  N16_10 ρ call yc lim k x1 x5 x6 H kn R
theorem N16_9_x (ρ : RO) (call : CallF) (yc : YieldF) (lim k : Nat) (J : CodeF) (x1 x5 x6 : AV) (H : Heap) (kn : KS) (R : KR) :
  evX (cx ρ) call yc false 16 lim k J (Code.at [1, 1, 1, 1, 1, 1, 1, 0, 1] c16) (sp 204 [(1, x1), (5, x5), (6, x6)]) H (kk (some [1, 5]) kn [] R [2, 3]) =
  J (Code.at [1, 1, 1, 1, 1, 1, 1, 0, 1, 0] c16) (sp 204 [(1, x1), (5, x5), (6, x6)]) H (kk (some [1, 5]) kn [(0, (some [1, 5]), kn)] R [2, 3]) := by
  kernel_rfl
theorem N16_9_eq (ρ : RO) (call : CallF) (yc : YieldF) (lim k : Nat) (x1 x5 x6 : AV) (H : Heap) (kn : KS) (R : KR) :
  evL (cx ρ) call yc false 16 lim k (Code.at [1, 1, 1, 1, 1, 1, 1, 0, 1] c16) (sp 204 [(1, x1), (5, x5), (6, x6)]) H (kk (some [1, 5]) kn [] R [2, 3]) = N16_9 ρ call yc lim k x1 x5 x6 H (fun x1 x5 H => kn (sp 204 [(1, x1), (5, x5)]) H) R := by
  rw [evL_X, N16_9_x]
  simp only [← evL_X, N16_9, N16_10_eq]
noncomputable def N16_3 (ρ : RO) (call : CallF) (yc : YieldF) (lim k : Nat) (x1 x5 : AV) (H : Heap) (R : KR) : Res :=
  purK (addA 7 x1) fun x108_1 =>
  purK (ld1 ρ H x108_1) fun x109_1 =>
  purK (lenS x109_1) fun x110_1 =>
  purK (binA Tryd.prog H .gtr 3 x110_1 (.int .i64 32)) fun x111_1 =>
  condK x111_1
  (
  R [(.str (ByteArray.mk #[])), (.bool false)] H)
  (
  N16_9 ρ call yc lim k x1 x5 (.int .i64 0) H (fun x1_1 x5_1 H =>
  N16_4 ρ call yc lim k x1_1 x5_1 H R) R)
theorem N16_3_x (ρ : RO) (call : CallF) (yc : YieldF) (lim k : Nat) (J : CodeF) (x1 x5 : AV) (H : Heap) (R : KR) :
  evX (cx ρ) call yc false 16 lim k J (Code.at [1, 1, 1, 1, 1, 1] c16) (sp 204 [(1, x1), (5, x5)]) H (kk none (fun s H => R (([2, 3] : List Nat).map fun t => s.getD t (.tup [])) H) [] R [2, 3]) =
  purK (addA 7 x1) fun x108_1 =>
  purK (ld1 ρ H x108_1) fun x109_1 =>
  purK (lenS x109_1) fun x110_1 =>
  purK (binA Tryd.prog H .gtr 3 x110_1 (.int .i64 32)) fun x111_1 =>
  condK x111_1
  (
  R [(.str (ByteArray.mk #[])), (.bool false)] H)
  (
  J (Code.at [1, 1, 1, 1, 1, 1, 1, 0, 1] c16) (sp 204 [(1, x1), (5, x5), (6, (.int .i64 0))]) H (kk (some [1, 5]) (fun s H => J (Code.at [1, 1, 1, 1, 1, 1, 1, 1] c16) s H (kk none (fun s H => R (([2, 3] : List Nat).map fun t => s.getD t (.tup [])) H) [] R [2, 3])) [] R [2, 3])) := by
  kernel_rfl
theorem N16_3_eq (ρ : RO) (call : CallF) (yc : YieldF) (lim k : Nat) (x1 x5 : AV) (H : Heap) (R : KR) :
  evL (cx ρ) call yc false 16 lim k (Code.at [1, 1, 1, 1, 1, 1] c16) (sp 204 [(1, x1), (5, x5)]) H (kk none (fun s H => R (([2, 3] : List Nat).map fun t => s.getD t (.tup [])) H) [] R [2, 3]) = N16_3 ρ call yc lim k x1 x5 H R := by
  rw [evL_X, N16_3_x]
  simp only [← evL_X, N16_3, N16_4_eq, N16_9_eq]
noncomputable def N16_12 (ρ : RO) (call : CallF) (yc : YieldF) (lim k : Nat) (x1 x5 x100 : AV) (H : Heap) (kn : AV → AV → Heap → Res) : Res :=
  condK x100
  (
  purK (binA Tryd.prog H .add 9 x5 (.str (ByteArray.mk #[32]))) fun x102_1 =>
  purK (addA 2 x1) fun x103_1 =>
  purK (ld1 ρ H x103_1) fun x104_1 =>
  purK (cvI .u64 x104_1) fun x105_1 =>
  resK (call lim 35 [x105_1] H) fun x106_1 H =>
  purK (binA Tryd.prog H .add 9 x102_1 x106_1) fun x107_1 =>
  kn x1 x107_1 H)
  (
  kn x1 x5 H)
theorem N16_12_eq (ρ : RO) (call : CallF) (yc : YieldF) (lim k : Nat) (x1 x5 x100 : AV) (H : Heap) (kn : KS) (R : KR) :
  evL (cx ρ) call yc false 16 lim k (Code.at [1, 1, 1, 1, 1, 0, 1] c16) (sp 204 [(1, x1), (5, x5), (100, x100)]) H (kk (some [1, 5]) kn [] R [2, 3]) = N16_12 ρ call yc lim k x1 x5 x100 H (fun x1 x5 H => kn (sp 204 [(1, x1), (5, x5)]) H) := by
  kernel_rfl
noncomputable def N16_2 (ρ : RO) (call : CallF) (yc : YieldF) (lim k : Nat) (x1 x5 : AV) (H : Heap) (R : KR) : Res :=
  purK (addA 0 x1) fun x93_1 =>
  purK (ld1 ρ H x93_1) fun x94_1 =>
  purK (binA Tryd.prog H .geq 3 x94_1 (.int .i64 4)) fun x95_1 =>
  purK (gPur (wantV x95_1 true) (addA 0 x1)) fun x97_1 =>
  purK (gPur (wantV x95_1 true) (ld1 ρ H x97_1)) fun x98_1 =>
  purK (gPur (wantV x95_1 true) (binA Tryd.prog H .leq 3 x98_1 (.int .i64 7))) fun x99_1 =>
  purK (pickA x95_1 x99_1 (.bool false)) fun x100_1 =>
  N16_12 ρ call yc lim k x1 x5 x100_1 H (fun x1_1 x5_1 H =>
  N16_3 ρ call yc lim k x1_1 x5_1 H R)
theorem N16_2_x (ρ : RO) (call : CallF) (yc : YieldF) (lim k : Nat) (J : CodeF) (x1 x5 : AV) (H : Heap) (R : KR) :
  evX (cx ρ) call yc false 16 lim k J (Code.at [1, 1, 1, 1, 1] c16) (sp 204 [(1, x1), (5, x5)]) H (kk none (fun s H => R (([2, 3] : List Nat).map fun t => s.getD t (.tup [])) H) [] R [2, 3]) =
  purK (addA 0 x1) fun x93_1 =>
  purK (ld1 ρ H x93_1) fun x94_1 =>
  purK (binA Tryd.prog H .geq 3 x94_1 (.int .i64 4)) fun x95_1 =>
  purK (gPur (wantV x95_1 true) (addA 0 x1)) fun x97_1 =>
  purK (gPur (wantV x95_1 true) (ld1 ρ H x97_1)) fun x98_1 =>
  purK (gPur (wantV x95_1 true) (binA Tryd.prog H .leq 3 x98_1 (.int .i64 7))) fun x99_1 =>
  purK (pickA x95_1 x99_1 (.bool false)) fun x100_1 =>
  J (Code.at [1, 1, 1, 1, 1, 0, 1] c16) (sp 204 [(1, x1), (5, x5), (100, x100_1)]) H (kk (some [1, 5]) (fun s H => J (Code.at [1, 1, 1, 1, 1, 1] c16) s H (kk none (fun s H => R (([2, 3] : List Nat).map fun t => s.getD t (.tup [])) H) [] R [2, 3])) [] R [2, 3]) := by
  kernel_rfl
theorem N16_2_eq (ρ : RO) (call : CallF) (yc : YieldF) (lim k : Nat) (x1 x5 : AV) (H : Heap) (R : KR) :
  evL (cx ρ) call yc false 16 lim k (Code.at [1, 1, 1, 1, 1] c16) (sp 204 [(1, x1), (5, x5)]) H (kk none (fun s H => R (([2, 3] : List Nat).map fun t => s.getD t (.tup [])) H) [] R [2, 3]) = N16_2 ρ call yc lim k x1 x5 H R := by
  rw [evL_X, N16_2_x]
  simp only [← evL_X, N16_2, N16_12_eq, N16_3_eq]
noncomputable def N16_1 (ρ : RO) (call : CallF) (yc : YieldF) (lim k : Nat) (x1 x4 : AV) (H : Heap) (R : KR) : Res :=
  purK (addA 0 x1) fun x78_1 =>
  purK (ld1 ρ H x78_1) fun x79_1 =>
  purK (binA Tryd.prog H .sub 3 x79_1 (.int .i64 1)) fun x80_1 =>
  purK (ixS 1 x4 x80_1) fun x81_1 =>
  purK (ld1 ρ H x81_1) fun x82_1 =>
  purK (addA 0 x1) fun x83_1 =>
  purK (ld1 ρ H x83_1) fun x84_1 =>
  purK (binA Tryd.prog H .leq 3 x84_1 (.int .i64 3)) fun x85_1 =>
  condK x85_1
  (
  purK (binA Tryd.prog H .add 9 x82_1 (.str (ByteArray.mk #[32]))) fun x87_1 =>
  purK (addA 1 x1) fun x88_1 =>
  purK (ld1 ρ H x88_1) fun x89_1 =>
  purK (cvI .u64 x89_1) fun x90_1 =>
  resK (call lim 35 [x90_1] H) fun x91_1 H =>
  purK (binA Tryd.prog H .add 9 x87_1 x91_1) fun x92_1 =>
  N16_2 ρ call yc lim k x1 x92_1 H R)
  (
  N16_2 ρ call yc lim k x1 x82_1 H R)
theorem N16_1_x (ρ : RO) (call : CallF) (yc : YieldF) (lim k : Nat) (J : CodeF) (x1 x4 : AV) (H : Heap) (R : KR) :
  evX (cx ρ) call yc false 16 lim k J (Code.at [1, 1, 1] c16) (sp 204 [(1, x1), (4, x4)]) H (kk none (fun s H => R (([2, 3] : List Nat).map fun t => s.getD t (.tup [])) H) [] R [2, 3]) =
  purK (addA 0 x1) fun x78_1 =>
  purK (ld1 ρ H x78_1) fun x79_1 =>
  purK (binA Tryd.prog H .sub 3 x79_1 (.int .i64 1)) fun x80_1 =>
  purK (ixS 1 x4 x80_1) fun x81_1 =>
  purK (ld1 ρ H x81_1) fun x82_1 =>
  purK (addA 0 x1) fun x83_1 =>
  purK (ld1 ρ H x83_1) fun x84_1 =>
  purK (binA Tryd.prog H .leq 3 x84_1 (.int .i64 3)) fun x85_1 =>
  condK x85_1
  (
  purK (binA Tryd.prog H .add 9 x82_1 (.str (ByteArray.mk #[32]))) fun x87_1 =>
  purK (addA 1 x1) fun x88_1 =>
  purK (ld1 ρ H x88_1) fun x89_1 =>
  purK (cvI .u64 x89_1) fun x90_1 =>
  resK (call lim 35 [x90_1] H) fun x91_1 H =>
  purK (binA Tryd.prog H .add 9 x87_1 x91_1) fun x92_1 =>
  J (Code.at [1, 1, 1, 1, 1] c16) (sp 204 [(1, x1), (5, x92_1)]) H (kk none (fun s H => R (([2, 3] : List Nat).map fun t => s.getD t (.tup [])) H) [] R [2, 3]))
  (
  J (Code.at [1, 1, 1, 1, 1] c16) (sp 204 [(1, x1), (5, x82_1)]) H (kk none (fun s H => R (([2, 3] : List Nat).map fun t => s.getD t (.tup [])) H) [] R [2, 3])) := by
  kernel_rfl
theorem N16_1_eq (ρ : RO) (call : CallF) (yc : YieldF) (lim k : Nat) (x1 x4 : AV) (H : Heap) (R : KR) :
  evL (cx ρ) call yc false 16 lim k (Code.at [1, 1, 1] c16) (sp 204 [(1, x1), (4, x4)]) H (kk none (fun s H => R (([2, 3] : List Nat).map fun t => s.getD t (.tup [])) H) [] R [2, 3]) = N16_1 ρ call yc lim k x1 x4 H R := by
  rw [evL_X, N16_1_x]
  simp only [← evL_X, N16_1, N16_2_eq]
noncomputable def N16_13 (ρ : RO) (call : CallF) (yc : YieldF) (lim k : Nat) (x1 x4 x76 : AV) (H : Heap) (kn : AV → AV → Heap → Res) (R : KR) : Res :=
  condK x76
  (
  R [(.str (ByteArray.mk #[])), (.bool false)] H)
  (
  kn x1 x4 H)
theorem N16_13_eq (ρ : RO) (call : CallF) (yc : YieldF) (lim k : Nat) (x1 x4 x76 : AV) (H : Heap) (kn : KS) (R : KR) :
  evL (cx ρ) call yc false 16 lim k (Code.at [1, 1, 0, 1] c16) (sp 204 [(1, x1), (4, x4), (76, x76)]) H (kk (some [1, 4]) kn [] R [2, 3]) = N16_13 ρ call yc lim k x1 x4 x76 H (fun x1 x4 H => kn (sp 204 [(1, x1), (4, x4)]) H) R := by
  kernel_rfl
noncomputable def L16 (ρ : RO) (call : CallF) (yc : YieldF) (lim k : Nat) (x0 : AV) (H : Heap) : Res :=
  effK H (boxA H 43 x0) fun x1 H =>
  effK H (bldS H 9 1 [.str ByteArray.empty] 10 [(0, 1, (.str (ByteArray.mk #[97, 115, 107]))), (1, 1, (.str (ByteArray.mk #[109, 111, 118, 101]))), (2, 1, (.str (ByteArray.mk #[114, 101, 115, 117, 109, 101]))), (3, 1, (.str (ByteArray.mk #[100, 111]))), (4, 1, (.str (ByteArray.mk #[114, 101, 97, 100, 111, 110, 108, 121]))), (5, 1, (.str (ByteArray.mk #[104, 101, 97, 100]))), (6, 1, (.str (ByteArray.mk #[102, 108, 117, 115, 104]))), (7, 1, (.str (ByteArray.mk #[115, 97, 118, 101]))), (8, 1, (.str (ByteArray.mk #[99, 114, 97, 115, 104]))), (9, 1, (.str (ByteArray.mk #[115, 116, 97, 114, 116])))]) fun x9 H =>
  purK (addA 0 x1) fun x10 =>
  purK (ld1 ρ H x10) fun x11 =>
  purK (binA Tryd.prog H .lss 3 x11 (.int .i64 1)) fun x12 =>
  purK (gPur (wantV x12 false) (addA 0 x1)) fun x14 =>
  purK (gPur (wantV x12 false) (ld1 ρ H x14)) fun x15 =>
  purK (gPur (wantV x12 false) (binA Tryd.prog H .gtr 3 x15 (.int .i64 10))) fun x16 =>
  purK (pickA x12 (.bool true) x16) fun x17 =>
  purK (gPur (wantV x17 false) (addA 0 x1)) fun x19 =>
  purK (gPur (wantV x17 false) (ld1 ρ H x19)) fun x20 =>
  purK (gPur (wantV x17 false) (binA Tryd.prog H .neq 3 x20 (.int .i64 9))) fun x21 =>
  purK (gPur (wantV x17 false) (some x21)) fun x22 =>
  purK (gPur (wantV x22 true) (addA 7 x1)) fun x23 =>
  purK (gPur (wantV x22 true) (ld1 ρ H x23)) fun x24 =>
  purK (gPur (wantV x22 true) (lenS x24)) fun x25 =>
  purK (gPur (wantV x22 true) (binA Tryd.prog H .gtr 3 x25 (.int .i64 0))) fun x26 =>
  purK (gPur (wantV x17 false) (pickA x22 x26 (.bool false))) fun x27 =>
  purK (pickA x17 (.bool true) x27) fun x28 =>
  purK (gPur (wantV x28 false) (addA 0 x1)) fun x30 =>
  purK (gPur (wantV x28 false) (ld1 ρ H x30)) fun x31 =>
  purK (gPur (wantV x28 false) (binA Tryd.prog H .gtr 3 x31 (.int .i64 3))) fun x32 =>
  purK (gPur (wantV x28 false) (some x32)) fun x33 =>
  purK (gPur (wantV x33 true) (addA 1 x1)) fun x34 =>
  purK (gPur (wantV x33 true) (ld1 ρ H x34)) fun x35 =>
  purK (gPur (wantV x33 true) (binA Tryd.prog H .neq 3 x35 (.int .i64 0))) fun x36 =>
  purK (gPur (wantV x28 false) (pickA x33 x36 (.bool false))) fun x37 =>
  purK (pickA x28 (.bool true) x37) fun x38 =>
  purK (gPur (wantV x38 false) (addA 0 x1)) fun x40 =>
  purK (gPur (wantV x38 false) (ld1 ρ H x40)) fun x41 =>
  purK (gPur (wantV x38 false) (binA Tryd.prog H .lss 3 x41 (.int .i64 4))) fun x42 =>
  purK (gPur (wantV x38 false) (some x42)) fun x43 =>
  purK (gPur (wantV x43 false) (addA 0 x1)) fun x44 =>
  purK (gPur (wantV x43 false) (ld1 ρ H x44)) fun x45 =>
  purK (gPur (wantV x43 false) (binA Tryd.prog H .gtr 3 x45 (.int .i64 7))) fun x46 =>
  purK (gPur (wantV x38 false) (pickA x43 (.bool true) x46)) fun x47 =>
  purK (gPur (wantV x38 false) (some x47)) fun x48 =>
  purK (gPur (wantV x48 true) (addA 2 x1)) fun x49 =>
  purK (gPur (wantV x48 true) (ld1 ρ H x49)) fun x50 =>
  purK (gPur (wantV x48 true) (binA Tryd.prog H .neq 3 x50 (.int .i64 0))) fun x51 =>
  purK (gPur (wantV x38 false) (pickA x48 x51 (.bool false))) fun x52 =>
  purK (pickA x38 (.bool true) x52) fun x53 =>
  purK (gPur (wantV x53 false) (addA 0 x1)) fun x55 =>
  purK (gPur (wantV x53 false) (ld1 ρ H x55)) fun x56 =>
  purK (gPur (wantV x53 false) (binA Tryd.prog H .neq 3 x56 (.int .i64 1))) fun x57 =>
  purK (gPur (wantV x53 false) (some x57)) fun x58 =>
  purK (gPur (wantV x58 true) (addA 3 x1)) fun x59 =>
  purK (gPur (wantV x58 true) (ldN ρ H 4 x59)) fun x60 =>
  purK (gPur (wantV x58 true) (bldA [.int .i64 0, .str ByteArray.empty, .str ByteArray.empty, .int .u64 0] [])) fun x61 =>
  purK (gPur (wantV x58 true) (binA Tryd.prog H .neq 40 x60 x61)) fun x62 =>
  purK (gPur (wantV x53 false) (pickA x58 x62 (.bool false))) fun x63 =>
  purK (pickA x53 (.bool true) x63) fun x64 =>
  purK (gPur (wantV x64 false) (addA 1 x1)) fun x66 =>
  purK (gPur (wantV x64 false) (ld1 ρ H x66)) fun x67 =>
  resK (gRes (wantV x64 false) H (call lim 34 [x67] H)) fun x68 H =>
  purK (gPur (wantV x64 false) (unA .not x68)) fun x69 =>
  purK (pickA x64 (.bool true) x69) fun x70 =>
  purK (gPur (wantV x70 false) (addA 2 x1)) fun x72 =>
  purK (gPur (wantV x70 false) (ld1 ρ H x72)) fun x73 =>
  resK (gRes (wantV x70 false) H (call lim 34 [x73] H)) fun x74 H =>
  purK (gPur (wantV x70 false) (unA .not x74)) fun x75 =>
  purK (pickA x70 (.bool true) x75) fun x76 =>
  N16_13 ρ call yc lim k x1 x9 x76 H (fun x1_1 x4 H =>
  N16_1 ρ call yc lim k x1_1 x4 H retK) retK
theorem L16_x (ρ : RO) (call : CallF) (yc : YieldF) (lim k : Nat) (J : CodeF) (x0 : AV) (H : Heap) :
  evX (cx ρ) call yc false 16 lim k J c16 [x0, (.tup []), (.tup []), (.tup []), (.tup []), (.tup []), (.tup []), (.tup []), (.tup []), (.tup []), (.tup []), (.tup []), (.tup []), (.tup []), (.tup []), (.tup []), (.tup []), (.tup []), (.tup []), (.tup []), (.tup []), (.tup []), (.tup []), (.tup []), (.tup []), (.tup []), (.tup []), (.tup []), (.tup []), (.tup []), (.tup []), (.tup []), (.tup []), (.tup []), (.tup []), (.tup []), (.tup []), (.tup []), (.tup []), (.tup []), (.tup []), (.tup []), (.tup []), (.tup []), (.tup []), (.tup []), (.tup []), (.tup []), (.tup []), (.tup []), (.tup []), (.tup []), (.tup []), (.tup []), (.tup []), (.tup []), (.tup []), (.tup []), (.tup []), (.tup []), (.tup []), (.tup []), (.tup []), (.tup []), (.tup []), (.tup []), (.tup []), (.tup []), (.tup []), (.tup []), (.tup []), (.tup []), (.tup []), (.tup []), (.tup []), (.tup []), (.tup []), (.tup []), (.tup []), (.tup []), (.tup []), (.tup []), (.tup []), (.tup []), (.tup []), (.tup []), (.tup []), (.tup []), (.tup []), (.tup []), (.tup []), (.tup []), (.tup []), (.tup []), (.tup []), (.tup []), (.tup []), (.tup []), (.tup []), (.tup []), (.tup []), (.tup []), (.tup []), (.tup []), (.tup []), (.tup []), (.tup []), (.tup []), (.tup []), (.tup []), (.tup []), (.tup []), (.tup []), (.tup []), (.tup []), (.tup []), (.tup []), (.tup []), (.tup []), (.tup []), (.tup []), (.tup []), (.tup []), (.tup []), (.tup []), (.tup []), (.tup []), (.tup []), (.tup []), (.tup []), (.tup []), (.tup []), (.tup []), (.tup []), (.tup []), (.tup []), (.tup []), (.tup []), (.tup []), (.tup []), (.tup []), (.tup []), (.tup []), (.tup []), (.tup []), (.tup []), (.tup []), (.tup []), (.tup []), (.tup []), (.tup []), (.tup []), (.tup []), (.tup []), (.tup []), (.tup []), (.tup []), (.tup []), (.tup []), (.tup []), (.tup []), (.tup []), (.tup []), (.tup []), (.tup []), (.tup []), (.tup []), (.tup []), (.tup []), (.tup []), (.tup []), (.tup []), (.tup []), (.tup []), (.tup []), (.tup []), (.tup []), (.tup []), (.tup []), (.tup []), (.tup []), (.tup []), (.tup []), (.tup []), (.tup []), (.tup []), (.tup []), (.tup []), (.tup []), (.tup []), (.tup []), (.tup []), (.tup []), (.tup []), (.tup []), (.tup []), (.tup []), (.tup []), (.tup []), (.tup []), (.tup []), (.tup []), (.tup []), (.tup [])] H (kk none (fun s H => retK (([2, 3] : List Nat).map fun t => s.getD t (.tup [])) H) [] retK [2, 3]) =
  effK H (boxA H 43 x0) fun x1 H =>
  effK H (bldS H 9 1 [.str ByteArray.empty] 10 [(0, 1, (.str (ByteArray.mk #[97, 115, 107]))), (1, 1, (.str (ByteArray.mk #[109, 111, 118, 101]))), (2, 1, (.str (ByteArray.mk #[114, 101, 115, 117, 109, 101]))), (3, 1, (.str (ByteArray.mk #[100, 111]))), (4, 1, (.str (ByteArray.mk #[114, 101, 97, 100, 111, 110, 108, 121]))), (5, 1, (.str (ByteArray.mk #[104, 101, 97, 100]))), (6, 1, (.str (ByteArray.mk #[102, 108, 117, 115, 104]))), (7, 1, (.str (ByteArray.mk #[115, 97, 118, 101]))), (8, 1, (.str (ByteArray.mk #[99, 114, 97, 115, 104]))), (9, 1, (.str (ByteArray.mk #[115, 116, 97, 114, 116])))]) fun x9 H =>
  purK (addA 0 x1) fun x10 =>
  purK (ld1 ρ H x10) fun x11 =>
  purK (binA Tryd.prog H .lss 3 x11 (.int .i64 1)) fun x12 =>
  purK (gPur (wantV x12 false) (addA 0 x1)) fun x14 =>
  purK (gPur (wantV x12 false) (ld1 ρ H x14)) fun x15 =>
  purK (gPur (wantV x12 false) (binA Tryd.prog H .gtr 3 x15 (.int .i64 10))) fun x16 =>
  purK (pickA x12 (.bool true) x16) fun x17 =>
  purK (gPur (wantV x17 false) (addA 0 x1)) fun x19 =>
  purK (gPur (wantV x17 false) (ld1 ρ H x19)) fun x20 =>
  purK (gPur (wantV x17 false) (binA Tryd.prog H .neq 3 x20 (.int .i64 9))) fun x21 =>
  purK (gPur (wantV x17 false) (some x21)) fun x22 =>
  purK (gPur (wantV x22 true) (addA 7 x1)) fun x23 =>
  purK (gPur (wantV x22 true) (ld1 ρ H x23)) fun x24 =>
  purK (gPur (wantV x22 true) (lenS x24)) fun x25 =>
  purK (gPur (wantV x22 true) (binA Tryd.prog H .gtr 3 x25 (.int .i64 0))) fun x26 =>
  purK (gPur (wantV x17 false) (pickA x22 x26 (.bool false))) fun x27 =>
  purK (pickA x17 (.bool true) x27) fun x28 =>
  purK (gPur (wantV x28 false) (addA 0 x1)) fun x30 =>
  purK (gPur (wantV x28 false) (ld1 ρ H x30)) fun x31 =>
  purK (gPur (wantV x28 false) (binA Tryd.prog H .gtr 3 x31 (.int .i64 3))) fun x32 =>
  purK (gPur (wantV x28 false) (some x32)) fun x33 =>
  purK (gPur (wantV x33 true) (addA 1 x1)) fun x34 =>
  purK (gPur (wantV x33 true) (ld1 ρ H x34)) fun x35 =>
  purK (gPur (wantV x33 true) (binA Tryd.prog H .neq 3 x35 (.int .i64 0))) fun x36 =>
  purK (gPur (wantV x28 false) (pickA x33 x36 (.bool false))) fun x37 =>
  purK (pickA x28 (.bool true) x37) fun x38 =>
  purK (gPur (wantV x38 false) (addA 0 x1)) fun x40 =>
  purK (gPur (wantV x38 false) (ld1 ρ H x40)) fun x41 =>
  purK (gPur (wantV x38 false) (binA Tryd.prog H .lss 3 x41 (.int .i64 4))) fun x42 =>
  purK (gPur (wantV x38 false) (some x42)) fun x43 =>
  purK (gPur (wantV x43 false) (addA 0 x1)) fun x44 =>
  purK (gPur (wantV x43 false) (ld1 ρ H x44)) fun x45 =>
  purK (gPur (wantV x43 false) (binA Tryd.prog H .gtr 3 x45 (.int .i64 7))) fun x46 =>
  purK (gPur (wantV x38 false) (pickA x43 (.bool true) x46)) fun x47 =>
  purK (gPur (wantV x38 false) (some x47)) fun x48 =>
  purK (gPur (wantV x48 true) (addA 2 x1)) fun x49 =>
  purK (gPur (wantV x48 true) (ld1 ρ H x49)) fun x50 =>
  purK (gPur (wantV x48 true) (binA Tryd.prog H .neq 3 x50 (.int .i64 0))) fun x51 =>
  purK (gPur (wantV x38 false) (pickA x48 x51 (.bool false))) fun x52 =>
  purK (pickA x38 (.bool true) x52) fun x53 =>
  purK (gPur (wantV x53 false) (addA 0 x1)) fun x55 =>
  purK (gPur (wantV x53 false) (ld1 ρ H x55)) fun x56 =>
  purK (gPur (wantV x53 false) (binA Tryd.prog H .neq 3 x56 (.int .i64 1))) fun x57 =>
  purK (gPur (wantV x53 false) (some x57)) fun x58 =>
  purK (gPur (wantV x58 true) (addA 3 x1)) fun x59 =>
  purK (gPur (wantV x58 true) (ldN ρ H 4 x59)) fun x60 =>
  purK (gPur (wantV x58 true) (bldA [.int .i64 0, .str ByteArray.empty, .str ByteArray.empty, .int .u64 0] [])) fun x61 =>
  purK (gPur (wantV x58 true) (binA Tryd.prog H .neq 40 x60 x61)) fun x62 =>
  purK (gPur (wantV x53 false) (pickA x58 x62 (.bool false))) fun x63 =>
  purK (pickA x53 (.bool true) x63) fun x64 =>
  purK (gPur (wantV x64 false) (addA 1 x1)) fun x66 =>
  purK (gPur (wantV x64 false) (ld1 ρ H x66)) fun x67 =>
  resK (gRes (wantV x64 false) H (call lim 34 [x67] H)) fun x68 H =>
  purK (gPur (wantV x64 false) (unA .not x68)) fun x69 =>
  purK (pickA x64 (.bool true) x69) fun x70 =>
  purK (gPur (wantV x70 false) (addA 2 x1)) fun x72 =>
  purK (gPur (wantV x70 false) (ld1 ρ H x72)) fun x73 =>
  resK (gRes (wantV x70 false) H (call lim 34 [x73] H)) fun x74 H =>
  purK (gPur (wantV x70 false) (unA .not x74)) fun x75 =>
  purK (pickA x70 (.bool true) x75) fun x76 =>
  J (Code.at [1, 1, 0, 1] c16) (sp 204 [(1, x1), (4, x9), (76, x76)]) H (kk (some [1, 4]) (fun s H => J (Code.at [1, 1, 1] c16) s H (kk none (fun s H => retK (([2, 3] : List Nat).map fun t => s.getD t (.tup [])) H) [] retK [2, 3])) [] retK [2, 3]) := by
  kernel_rfl
theorem G16 (ρ : RO) (call : CallF) (yc : YieldF) (lim k : Nat) (x0 : AV) (H : Heap) :
  evL (cx ρ) call yc false 16 lim k c16 [x0, (.tup []), (.tup []), (.tup []), (.tup []), (.tup []), (.tup []), (.tup []), (.tup []), (.tup []), (.tup []), (.tup []), (.tup []), (.tup []), (.tup []), (.tup []), (.tup []), (.tup []), (.tup []), (.tup []), (.tup []), (.tup []), (.tup []), (.tup []), (.tup []), (.tup []), (.tup []), (.tup []), (.tup []), (.tup []), (.tup []), (.tup []), (.tup []), (.tup []), (.tup []), (.tup []), (.tup []), (.tup []), (.tup []), (.tup []), (.tup []), (.tup []), (.tup []), (.tup []), (.tup []), (.tup []), (.tup []), (.tup []), (.tup []), (.tup []), (.tup []), (.tup []), (.tup []), (.tup []), (.tup []), (.tup []), (.tup []), (.tup []), (.tup []), (.tup []), (.tup []), (.tup []), (.tup []), (.tup []), (.tup []), (.tup []), (.tup []), (.tup []), (.tup []), (.tup []), (.tup []), (.tup []), (.tup []), (.tup []), (.tup []), (.tup []), (.tup []), (.tup []), (.tup []), (.tup []), (.tup []), (.tup []), (.tup []), (.tup []), (.tup []), (.tup []), (.tup []), (.tup []), (.tup []), (.tup []), (.tup []), (.tup []), (.tup []), (.tup []), (.tup []), (.tup []), (.tup []), (.tup []), (.tup []), (.tup []), (.tup []), (.tup []), (.tup []), (.tup []), (.tup []), (.tup []), (.tup []), (.tup []), (.tup []), (.tup []), (.tup []), (.tup []), (.tup []), (.tup []), (.tup []), (.tup []), (.tup []), (.tup []), (.tup []), (.tup []), (.tup []), (.tup []), (.tup []), (.tup []), (.tup []), (.tup []), (.tup []), (.tup []), (.tup []), (.tup []), (.tup []), (.tup []), (.tup []), (.tup []), (.tup []), (.tup []), (.tup []), (.tup []), (.tup []), (.tup []), (.tup []), (.tup []), (.tup []), (.tup []), (.tup []), (.tup []), (.tup []), (.tup []), (.tup []), (.tup []), (.tup []), (.tup []), (.tup []), (.tup []), (.tup []), (.tup []), (.tup []), (.tup []), (.tup []), (.tup []), (.tup []), (.tup []), (.tup []), (.tup []), (.tup []), (.tup []), (.tup []), (.tup []), (.tup []), (.tup []), (.tup []), (.tup []), (.tup []), (.tup []), (.tup []), (.tup []), (.tup []), (.tup []), (.tup []), (.tup []), (.tup []), (.tup []), (.tup []), (.tup []), (.tup []), (.tup []), (.tup []), (.tup []), (.tup []), (.tup []), (.tup []), (.tup []), (.tup []), (.tup []), (.tup []), (.tup []), (.tup []), (.tup []), (.tup []), (.tup []), (.tup []), (.tup []), (.tup []), (.tup [])] H (kk none (fun s H => retK (([2, 3] : List Nat).map fun t => s.getD t (.tup [])) H) [] retK [2, 3]) = L16 ρ call yc lim k x0 H := by
  rw [evL_X, L16_x]
  simp only [← evL_X, L16, N16_13_eq, N16_1_eq]
theorem E16 (ρ : RO) (k lim : Nat) (x0 : AV) (H : Heap) : evCall (cx ρ) (k + 1) lim 16 [x0] H = L16 ρ (evCall (cx ρ) k) (evCY (cx ρ) k).2 lim k x0 H := by
  rw [evCall_body (cx ρ) k lim 16 _ H Tryd.f16 c16 [2, 3] (by kernel_rfl) (by kernel_rfl) (by kernel_rfl) (by kernel_rfl) (by kernel_rfl)]
  exact G16 ρ (evCall (cx ρ) k) (evCY (cx ρ) k).2 lim k x0 H
-- strings.Cut
noncomputable def c17 : Code := Code.of Tryd.prog 17
noncomputable def L17 (ρ : RO) (call : CallF) (yc : YieldF) (lim k : Nat) (x0 x1 : AV) (H : Heap) : Res :=
  resK (call lim 36 [x0, x1] H) fun x9 H =>
  purK (extA 0 x9) fun x10 =>
  purK (extA 1 x9) fun x11 =>
  purK (extA 2 x9) fun x12 =>
  retK [x10, x11, x12] H
theorem G17 (ρ : RO) (call : CallF) (yc : YieldF) (lim k : Nat) (x0 x1 : AV) (H : Heap) :
  evL (cx ρ) call yc false 17 lim k c17 [x0, x1, (.tup []), (.tup []), (.tup []), (.tup []), (.tup []), (.tup []), (.tup []), (.tup []), (.tup []), (.tup []), (.tup [])] H (kk none (fun s H => retK (([4, 5, 6] : List Nat).map fun t => s.getD t (.tup [])) H) [] retK [4, 5, 6]) = L17 ρ call yc lim k x0 x1 H := by
  kernel_rfl
theorem E17 (ρ : RO) (k lim : Nat) (x0 x1 : AV) (H : Heap) : evCall (cx ρ) (k + 1) lim 17 [x0, x1] H = L17 ρ (evCall (cx ρ) k) (evCY (cx ρ) k).2 lim k x0 x1 H := by
  rw [evCall_body (cx ρ) k lim 17 _ H Tryd.f17 c17 [4, 5, 6] (by kernel_rfl) (by kernel_rfl) (by kernel_rfl) (by kernel_rfl) (by kernel_rfl)]
  exact G17 ρ (evCall (cx ρ) k) (evCY (cx ρ) k).2 lim k x0 x1 H
end Go.Proofs.YtnkeebchblfbgaaDoor

-- part Sc3
/- Functions, lifted. Printed by a program of this repo. -/
set_option linter.unusedVariables false
set_option linter.unusedSimpArgs false
set_option maxRecDepth 100000
set_option maxHeartbeats 4000000
namespace Go.Proofs.YtnkeebchblfbgaaDoor
open Go.Ev Go.RowKit
-- haycroft/script.step
noncomputable def c18 : Code := Code.of Tryd.prog 18
noncomputable def N18_1 (ρ : RO) (call : CallF) (yc : YieldF) (lim k : Nat) (x2 x4 x5 : AV) (H : Heap) (R : KR) : Res :=
  purK (ldN ρ H 8 x5) fun x67_1 =>
  purK (nilChkA x4) fun x69_1 =>
  purK (addA 1 x69_1) fun x70_1 =>
  purK (ld1 ρ H x70_1) fun x71_1 =>
  purK (unA .not x71_1) fun x72_1 =>
  boolK (wantV x72_1 true) fun b1 => purK (bif b1 then some x4 else some (.tup [])) fun x74_1 =>
  boolK (wantV x72_1 true) fun b2 => purK (bif b2 then nilChkA x74_1 else some (.tup [])) fun x75_1 =>
  boolK (wantV x72_1 true) fun b3 => purK (bif b3 then addA 0 x75_1 else some (.tup [])) fun x76_1 =>
  boolK (wantV x72_1 true) fun b4 => purK (bif b4 then ld1 ρ H x76_1 else some (.tup [])) fun x77_1 =>
  boolK (wantV x72_1 true) fun b5 => purK (bif b5 then lenS x77_1 else some (.tup [])) fun x78_1 =>
  boolK (wantV x72_1 true) fun b6 => purK (bif b6 then binA Tryd.prog H .eql 3 x78_1 (.int .i64 0) else some (.tup [])) fun x79_1 =>
  purK (pickA x72_1 x79_1 (.bool false)) fun x80_1 =>
  boolK (wantV x80_1 true) fun b7 => purK (bif b7 then addA 7 x5 else some (.tup [])) fun x82_1 =>
  boolK (wantV x80_1 true) fun b8 => purK (bif b8 then ld1 ρ H x82_1 else some (.tup [])) fun x83_1 =>
  boolK (wantV x80_1 true) fun b9 => purK (bif b9 then lenS x83_1 else some (.tup [])) fun x84_1 =>
  boolK (wantV x80_1 true) fun b10 => purK (bif b10 then binA Tryd.prog H .leq 3 x84_1 (.int .i64 32) else some (.tup [])) fun x85_1 =>
  purK (pickA x80_1 x85_1 (.bool false)) fun x86_1 =>
  effK H (stA lim H 8 x2 x67_1) fun _ H => bif ((!b10 || agn (binA Tryd.prog H .leq 3 x84_1 (.int .i64 32)) x85_1) && ((!b9 || agn (lenS x83_1) x84_1) && ((!b8 || agn (ld1 ρ H x82_1) x83_1) && ((!b6 || true) && ((!b5 || true) && ((!b4 || true) && true)))))) then
  R [x2, x86_1] H
  else none
theorem N18_1_eq (ρ : RO) (call : CallF) (yc : YieldF) (lim k : Nat) (x2 x4 x5 : AV) (H : Heap) (R : KR) :
  evL (cx ρ) call yc false 18 lim k (Code.at [1, 1, 1, 1] c18) (sp 87 [(2, x2), (4, x4), (5, x5)]) H (kk none (fun s H => R (([2, 3] : List Nat).map fun t => s.getD t (.tup [])) H) [] R [2, 3]) = N18_1 ρ call yc lim k x2 x4 x5 H R := by
  kernel_rfl
noncomputable def N18_5b (ρ : RO) (call : CallF) (yc : YieldF) (lim k : Nat) (x2 x4 x5 : AV) (H : Heap) (kn : Heap → Res) (k1 : AV → AV → AV → Heap → Res) : Res :=
  purK (nilChkA x4) fun x45_1 =>
  purK (addA 0 x45_1) fun x46_1 =>
  purK (ld1 ρ H x46_1) fun x47_1 =>
  purK (lenS x47_1) fun x48_1 =>
  purK (binA Tryd.prog H .gtr 3 x48_1 (.int .i64 0)) fun x49_1 =>
  purK (gPur (wantV x49_1 true) (some x4)) fun x51_1 =>
  purK (gPur (wantV x49_1 true) (nilChkA x51_1)) fun x52_1 =>
  purK (gPur (wantV x49_1 true) (addA 1 x52_1)) fun x53_1 =>
  purK (gPur (wantV x49_1 true) (ld1 ρ H x53_1)) fun x54_1 =>
  purK (gPur (wantV x49_1 true) (unA .not x54_1)) fun x55_1 =>
  purK (pickA x49_1 x55_1 (.bool false)) fun x56_1 =>
  condK x56_1
  (
  purK (addA 7 x5) fun x57_1 =>
  purK (ld1 ρ H x57_1) fun x58_1 =>
  resK (call lim 40 [x4] H) fun x60_1 H => bif (agn (ld1 ρ H x57_1) x58_1 && true) then
  mkK H (bldS H 3 1 [.int .i64 0] 1 [(0, 1, x60_1)]) true fun x61_1 H => bif (agn (ld1 ρ H x57_1) x58_1 && true) then
  effK H (apA ρ lim H 3 1 8 x58_1 x61_1) fun x62_1 H =>
  purK (addA 7 x5) fun x63_1 =>
  effK H (stA lim H 1 x63_1 x62_1) fun _ H =>
  kn H
  else none
  else none)
  (
  k1 x2 x4 x5 H)
theorem N18_5b_eq (ρ : RO) (call : CallF) (yc : YieldF) (lim k : Nat) (x2 x4 x5 : AV) (H : Heap) (kn : KS) (k1 : KS) (k0 : KS) (R : KR) :
  evL (cx ρ) call yc false 18 lim k (Code.at [1, 1, 1, 0, 1, 0, 1, 1, 1, 1, 1, 1, 1, 0, 0, 0] c18) (sp 87 [(2, x2), (4, x4), (5, x5)]) H (kk (some [2, 4, 5]) kn [(1, (some [2, 4, 5]), k1), (0, (some [2, 4, 5]), k0)] R [2, 3]) = N18_5b ρ call yc lim k x2 x4 x5 H (fun H => kn (sp 87 [(2, x2), (4, x4), (5, x5)]) H) (fun x2 x4 x5 H => k1 (sp 87 [(2, x2), (4, x4), (5, x5)]) H) := by
  kernel_rfl
noncomputable def N18_5 (ρ : RO) (call : CallF) (yc : YieldF) (lim k : Nat) (x2 x4 x5 : AV) (H : Heap) (k1 : AV → AV → AV → Heap → Res) : Res :=
  loopL (fun (x : Unit) H kn => N18_5b ρ call yc lim k x2 x4 x5 H (fun H => kn () H) k1) k () H
theorem N18_5_eq (ρ : RO) (call : CallF) (yc : YieldF) (lim k : Nat) (x0 x1 x2 x3 x4 x5 x6 x7 x8 x9 x10 x11 x12 x13 x14 x15 x16 x17 x18 x19 x20 x21 x22 x23 x24 x25 x26 x27 x28 x29 x30 x31 x32 x33 x34 x35 x36 x37 x38 x39 x40 x41 x42 x43 x44 x45 x46 x47 x48 x49 x50 x51 x52 x53 x54 x55 x56 x57 x58 x59 x60 x61 x62 x63 x64 x65 x66 x67 x68 x69 x70 x71 x72 x73 x74 x75 x76 x77 x78 x79 x80 x81 x82 x83 x84 x85 x86 : AV) (H : Heap) (kn : KS) (k1 : KS) (k0 : KS) (R : KR) :
  evL (cx ρ) call yc false 18 lim k (Code.at [1, 1, 1, 0, 1, 0, 1, 1, 1, 1, 1, 1, 1, 0, 0] c18) [x0, x1, x2, x3, x4, x5, x6, x7, x8, x9, x10, x11, x12, x13, x14, x15, x16, x17, x18, x19, x20, x21, x22, x23, x24, x25, x26, x27, x28, x29, x30, x31, x32, x33, x34, x35, x36, x37, x38, x39, x40, x41, x42, x43, x44, x45, x46, x47, x48, x49, x50, x51, x52, x53, x54, x55, x56, x57, x58, x59, x60, x61, x62, x63, x64, x65, x66, x67, x68, x69, x70, x71, x72, x73, x74, x75, x76, x77, x78, x79, x80, x81, x82, x83, x84, x85, x86] H (kk (some [2, 4, 5]) kn [(1, (some [2, 4, 5]), k1), (0, (some [2, 4, 5]), k0)] R [2, 3]) = N18_5 ρ call yc lim k x2 x4 x5 H (fun x2 x4 x5 H => k1 (sp 87 [(2, x2), (4, x4), (5, x5)]) H) := by
  have e : Code.at [1, 1, 1, 0, 1, 0, 1, 1, 1, 1, 1, 1, 1, 0, 0] c18 = .loop (Code.at [1, 1, 1, 0, 1, 0, 1, 1, 1, 1, 1, 1, 1, 0, 0, 0] c18) := by kernel_rfl
  rw [e]
  unfold N18_5
  exact loop_node [2, 4, 5] (fun x : Unit => (sp 87 [(2, x2), (4, x4), (5, x5)])) (fun (x : Unit) H kn => N18_5b ρ call yc lim k x2 x4 x5 H (fun H => kn () H) (fun x2 x4 x5 H => k1 (sp 87 [(2, x2), (4, x4), (5, x5)]) H)) (by kernel_rfl) (fun x => by kernel_rfl) (fun x H kn => N18_5b_eq ρ call yc lim k x2 x4 x5 H kn k1 k0 R) () [x0, x1, x2, x3, x4, x5, x6, x7, x8, x9, x10, x11, x12, x13, x14, x15, x16, x17, x18, x19, x20, x21, x22, x23, x24, x25, x26, x27, x28, x29, x30, x31, x32, x33, x34, x35, x36, x37, x38, x39, x40, x41, x42, x43, x44, x45, x46, x47, x48, x49, x50, x51, x52, x53, x54, x55, x56, x57, x58, x59, x60, x61, x62, x63, x64, x65, x66, x67, x68, x69, x70, x71, x72, x73, x74, x75, x76, x77, x78, x79, x80, x81, x82, x83, x84, x85, x86] H (by kernel_rfl)
noncomputable def N18_6 (ρ : RO) (call : CallF) (yc : YieldF) (lim k : Nat) (x2 x4 x5 x64 : AV) (H : Heap) (kn : AV → AV → AV → Heap → Res) : Res :=
  condK x64
  (
  kn x2 x4 x5 H)
  (
  purK (nilChkA x4) fun x18_1 =>
  purK (addA 1 x18_1) fun x19_1 =>
  effK H (stA lim H 1 x19_1 (.bool true)) fun _ H =>
  kn x2 x4 x5 H)
theorem N18_6_eq (ρ : RO) (call : CallF) (yc : YieldF) (lim k : Nat) (x2 x4 x5 x64 : AV) (H : Heap) (kn : KS) (k0 : KS) (R : KR) :
  evL (cx ρ) call yc false 18 lim k (Code.at [1, 1, 1, 0, 1, 0, 1, 1, 1, 1, 1, 1, 1, 1, 1] c18) (sp 87 [(2, x2), (4, x4), (5, x5), (64, x64)]) H (kk (some [2, 4, 5]) kn [(0, (some [2, 4, 5]), k0)] R [2, 3]) = N18_6 ρ call yc lim k x2 x4 x5 x64 H (fun x2 x4 x5 H => kn (sp 87 [(2, x2), (4, x4), (5, x5)]) H) := by
  kernel_rfl
noncomputable def N18_4 (ρ : RO) (call : CallF) (yc : YieldF) (lim k : Nat) (x2 x4 x5 x16 x42 : AV) (H : Heap) (kn : AV → AV → AV → Heap → Res) : Res :=
  condK x42
  (
  N18_5 ρ call yc lim k x2 x4 x5 H kn)
  (
  purK (binA Tryd.prog H .eql 3 x16 (.int .i64 8)) fun x65_1 =>
  condK x65_1
  (
  N18_6 ρ call yc lim k x2 x4 x5 x65_1 H kn)
  (
  purK (binA Tryd.prog H .eql 3 x16 (.int .i64 10)) fun x66_1 =>
  N18_6 ρ call yc lim k x2 x4 x5 x66_1 H kn))
theorem N18_4_x (ρ : RO) (call : CallF) (yc : YieldF) (lim k : Nat) (J : CodeF) (x2 x4 x5 x16 x42 : AV) (H : Heap) (kn : KS) (k0 : KS) (R : KR) :
  evX (cx ρ) call yc false 18 lim k J (Code.at [1, 1, 1, 0, 1, 0, 1, 1, 1, 1, 1, 1, 1] c18) (sp 87 [(2, x2), (4, x4), (5, x5), (16, x16), (42, x42)]) H (kk (some [2, 4, 5]) kn [(0, (some [2, 4, 5]), k0)] R [2, 3]) =
  condK x42
  (
  J (Code.at [1, 1, 1, 0, 1, 0, 1, 1, 1, 1, 1, 1, 1, 0, 0] c18) [.any, .any, x2, .any, x4, x5, .any, .any, .any, .any, .any, .any, .any, .any, .any, .any, x16, .any, .any, .any, .any, .any, .any, .any, .any, .any, .any, .any, .any, .any, .any, .any, .any, .any, .any, .any, .any, .any, .any, .any, .any, .any, x42, .any, .any, .any, .any, .any, .any, .any, .any, .any, .any, .any, .any, .any, .any, .any, .any, .any, .any, .any, .any, .any, .any, .any, .any, .any, .any, .any, .any, .any, .any, .any, .any, .any, .any, .any, .any, .any, .any, .any, .any, .any, .any, .any, .any] H (kk (some [2, 4, 5]) kn [(1, (some [2, 4, 5]), kn), (0, (some [2, 4, 5]), k0)] R [2, 3]))
  (
  purK (binA Tryd.prog H .eql 3 x16 (.int .i64 8)) fun x65_1 =>
  condK x65_1
  (
  J (Code.at [1, 1, 1, 0, 1, 0, 1, 1, 1, 1, 1, 1, 1, 1, 1] c18) (sp 87 [(2, x2), (4, x4), (5, x5), (64, x65_1)]) H (kk (some [2, 4, 5]) kn [(0, (some [2, 4, 5]), k0)] R [2, 3]))
  (
  purK (binA Tryd.prog H .eql 3 x16 (.int .i64 10)) fun x66_1 =>
  J (Code.at [1, 1, 1, 0, 1, 0, 1, 1, 1, 1, 1, 1, 1, 1, 1] c18) (sp 87 [(2, x2), (4, x4), (5, x5), (64, x66_1)]) H (kk (some [2, 4, 5]) kn [(0, (some [2, 4, 5]), k0)] R [2, 3]))) := by
  kernel_rfl
theorem N18_4_eq (ρ : RO) (call : CallF) (yc : YieldF) (lim k : Nat) (x2 x4 x5 x16 x42 : AV) (H : Heap) (kn : KS) (k0 : KS) (R : KR) :
  evL (cx ρ) call yc false 18 lim k (Code.at [1, 1, 1, 0, 1, 0, 1, 1, 1, 1, 1, 1, 1] c18) (sp 87 [(2, x2), (4, x4), (5, x5), (16, x16), (42, x42)]) H (kk (some [2, 4, 5]) kn [(0, (some [2, 4, 5]), k0)] R [2, 3]) = N18_4 ρ call yc lim k x2 x4 x5 x16 x42 H (fun x2 x4 x5 H => kn (sp 87 [(2, x2), (4, x4), (5, x5)]) H) := by
  rw [evL_X, N18_4_x]
  simp only [← evL_X, N18_4, N18_5_eq, N18_6_eq]
noncomputable def N18_3 (ρ : RO) (call : CallF) (yc : YieldF) (lim k : Nat) (x2 x4 x5 x16 x34 : AV) (H : Heap) (kn : AV → AV → AV → Heap → Res) : Res :=
  condK x34
  (
  resK (call lim 40 [x4] H) fun x40_1 H =>
  purK (addA 2 x5) fun x41_1 =>
  effK H (stA lim H 1 x41_1 x40_1) fun _ H =>
  kn x2 x4 x5 H)
  (
  purK (binA Tryd.prog H .eql 3 x16 (.int .i64 9)) fun x43_1 =>
  N18_4 ρ call yc lim k x2 x4 x5 x16 x43_1 H kn)
theorem N18_3_x (ρ : RO) (call : CallF) (yc : YieldF) (lim k : Nat) (J : CodeF) (x2 x4 x5 x16 x34 : AV) (H : Heap) (kn : KS) (k0 : KS) (R : KR) :
  evX (cx ρ) call yc false 18 lim k J (Code.at [1, 1, 1, 0, 1, 0, 1, 1, 1, 1, 1] c18) (sp 87 [(2, x2), (4, x4), (5, x5), (16, x16), (34, x34)]) H (kk (some [2, 4, 5]) kn [(0, (some [2, 4, 5]), k0)] R [2, 3]) =
  condK x34
  (
  resK (call lim 40 [x4] H) fun x40_1 H =>
  purK (addA 2 x5) fun x41_1 =>
  effK H (stA lim H 1 x41_1 x40_1) fun _ H =>
  kn (sp 87 [(2, x2), (4, x4), (5, x5)]) H)
  (
  purK (binA Tryd.prog H .eql 3 x16 (.int .i64 9)) fun x43_1 =>
  J (Code.at [1, 1, 1, 0, 1, 0, 1, 1, 1, 1, 1, 1, 1] c18) (sp 87 [(2, x2), (4, x4), (5, x5), (16, x16), (42, x43_1)]) H (kk (some [2, 4, 5]) kn [(0, (some [2, 4, 5]), k0)] R [2, 3])) := by
  kernel_rfl
theorem N18_3_eq (ρ : RO) (call : CallF) (yc : YieldF) (lim k : Nat) (x2 x4 x5 x16 x34 : AV) (H : Heap) (kn : KS) (k0 : KS) (R : KR) :
  evL (cx ρ) call yc false 18 lim k (Code.at [1, 1, 1, 0, 1, 0, 1, 1, 1, 1, 1] c18) (sp 87 [(2, x2), (4, x4), (5, x5), (16, x16), (34, x34)]) H (kk (some [2, 4, 5]) kn [(0, (some [2, 4, 5]), k0)] R [2, 3]) = N18_3 ρ call yc lim k x2 x4 x5 x16 x34 H (fun x2 x4 x5 H => kn (sp 87 [(2, x2), (4, x4), (5, x5)]) H) := by
  rw [evL_X, N18_3_x]
  simp only [← evL_X, N18_3, N18_4_eq]
noncomputable def N18_7 (ρ : RO) (call : CallF) (yc : YieldF) (lim k : Nat) (x2 x4 x5 x16 x34 : AV) (H : Heap) (kn : AV → AV → AV → AV → AV → Heap → Res) : Res :=
  condK x34
  (
  kn x2 x4 x5 x16 x34 H)
  (
  purK (binA Tryd.prog H .eql 3 x16 (.int .i64 6)) fun x37_1 =>
  condK x37_1
  (
  kn x2 x4 x5 x16 x37_1 H)
  (
  purK (binA Tryd.prog H .eql 3 x16 (.int .i64 7)) fun x38_1 =>
  kn x2 x4 x5 x16 x38_1 H))
theorem N18_7_eq (ρ : RO) (call : CallF) (yc : YieldF) (lim k : Nat) (x2 x4 x5 x16 x34 : AV) (H : Heap) (kn : KS) (k0 : KS) (R : KR) :
  evL (cx ρ) call yc false 18 lim k (Code.at [1, 1, 1, 0, 1, 0, 1, 1, 1, 1, 0, 1, 1, 1] c18) (sp 87 [(2, x2), (4, x4), (5, x5), (16, x16), (34, x34)]) H (kk (some [2, 4, 5, 16, 34]) kn [(0, (some [2, 4, 5]), k0)] R [2, 3]) = N18_7 ρ call yc lim k x2 x4 x5 x16 x34 H (fun x2 x4 x5 x16 x34 H => kn (sp 87 [(2, x2), (4, x4), (5, x5), (16, x16), (34, x34)]) H) := by
  kernel_rfl
noncomputable def N18_2 (ρ : RO) (call : CallF) (yc : YieldF) (lim k : Nat) (x2 x4 x5 x16 x28 : AV) (H : Heap) (kn : AV → AV → AV → Heap → Res) : Res :=
  condK x28
  (
  resK (call lim 40 [x4] H) fun x32_1 H =>
  purK (addA 1 x5) fun x33_1 =>
  effK H (stA lim H 1 x33_1 x32_1) fun _ H =>
  kn x2 x4 x5 H)
  (
  purK (binA Tryd.prog H .eql 3 x16 (.int .i64 4)) fun x35_1 =>
  condK x35_1
  (
  N18_3 ρ call yc lim k x2 x4 x5 x16 x35_1 H kn)
  (
  purK (binA Tryd.prog H .eql 3 x16 (.int .i64 5)) fun x36_1 =>
  N18_7 ρ call yc lim k x2 x4 x5 x16 x36_1 H (fun x2_1 x4_1 x5_1 x16_1 x34_1 H =>
  N18_3 ρ call yc lim k x2_1 x4_1 x5_1 x16_1 x34_1 H kn)))
theorem N18_2_x (ρ : RO) (call : CallF) (yc : YieldF) (lim k : Nat) (J : CodeF) (x2 x4 x5 x16 x28 : AV) (H : Heap) (kn : KS) (k0 : KS) (R : KR) :
  evX (cx ρ) call yc false 18 lim k J (Code.at [1, 1, 1, 0, 1, 0, 1, 1, 1] c18) (sp 87 [(2, x2), (4, x4), (5, x5), (16, x16), (28, x28)]) H (kk (some [2, 4, 5]) kn [(0, (some [2, 4, 5]), k0)] R [2, 3]) =
  condK x28
  (
  resK (call lim 40 [x4] H) fun x32_1 H =>
  purK (addA 1 x5) fun x33_1 =>
  effK H (stA lim H 1 x33_1 x32_1) fun _ H =>
  kn (sp 87 [(2, x2), (4, x4), (5, x5)]) H)
  (
  purK (binA Tryd.prog H .eql 3 x16 (.int .i64 4)) fun x35_1 =>
  condK x35_1
  (
  J (Code.at [1, 1, 1, 0, 1, 0, 1, 1, 1, 1, 1] c18) (sp 87 [(2, x2), (4, x4), (5, x5), (16, x16), (34, x35_1)]) H (kk (some [2, 4, 5]) kn [(0, (some [2, 4, 5]), k0)] R [2, 3]))
  (
  purK (binA Tryd.prog H .eql 3 x16 (.int .i64 5)) fun x36_1 =>
  J (Code.at [1, 1, 1, 0, 1, 0, 1, 1, 1, 1, 0, 1, 1, 1] c18) (sp 87 [(2, x2), (4, x4), (5, x5), (16, x16), (34, x36_1)]) H (kk (some [2, 4, 5, 16, 34]) (fun s H => J (Code.at [1, 1, 1, 0, 1, 0, 1, 1, 1, 1, 1] c18) s H (kk (some [2, 4, 5]) kn [(0, (some [2, 4, 5]), k0)] R [2, 3])) [(0, (some [2, 4, 5]), k0)] R [2, 3]))) := by
  kernel_rfl
theorem N18_2_eq (ρ : RO) (call : CallF) (yc : YieldF) (lim k : Nat) (x2 x4 x5 x16 x28 : AV) (H : Heap) (kn : KS) (k0 : KS) (R : KR) :
  evL (cx ρ) call yc false 18 lim k (Code.at [1, 1, 1, 0, 1, 0, 1, 1, 1] c18) (sp 87 [(2, x2), (4, x4), (5, x5), (16, x16), (28, x28)]) H (kk (some [2, 4, 5]) kn [(0, (some [2, 4, 5]), k0)] R [2, 3]) = N18_2 ρ call yc lim k x2 x4 x5 x16 x28 H (fun x2 x4 x5 H => kn (sp 87 [(2, x2), (4, x4), (5, x5)]) H) := by
  rw [evL_X, N18_2_x]
  simp only [← evL_X, N18_2, N18_3_eq, N18_7_eq]
noncomputable def L18 (ρ : RO) (call : CallF) (yc : YieldF) (lim k : Nat) (x0 : AV) (H : Heap) : Res :=
  effK H (some (.ptr H.sz 0 0, .new (newCells 43 false [.int .i64 0, .int .i64 0, .int .i64 0, .int .i64 0, .str ByteArray.empty, .str ByteArray.empty, .int .u64 0, .nils]))) fun x2 H =>
  resK (call lim 37 [x0, (.str (ByteArray.mk #[32]))] H) fun x7 H =>
  purK (bldA [.nils, .bool false] [(0, 1, x7)]) fun x8 =>
  effK H (boxA H 75 x8) fun x9 H =>
  mkK H (some (.ptr H.sz 0 0, .new (newCells 43 false [.int .i64 0, .int .i64 0, .int .i64 0, .int .i64 0, .str ByteArray.empty, .str ByteArray.empty, .int .u64 0, .nils]))) true fun x5 H =>
  purK (slR 1 11 (.xp ⟨0, 0, none⟩) none none none) fun x10 =>
  resK (call lim 39 [x9] H) fun x12 H =>
  resK (call lim 38 [x10, x12] H) fun x13 H =>
  purK (bldA [.int .i64 0, .int .i64 0, .int .i64 0, .int .i64 0, .str ByteArray.empty, .str ByteArray.empty, .int .u64 0, .nils] [(0, 1, x13)]) fun x14 =>
  effK H (stA lim H 8 x5 x14) fun _ H =>
  purK (addA 0 x5) fun x15 =>
  purK (ld1 ρ H x15) fun x16 =>
  purK (binA Tryd.prog H .eql 3 x16 (.int .i64 1)) fun x21 =>
  condK x21
  (
  resK (call lim 40 [x9] H) fun x23 H =>
  purK (addA 1 x5) fun x24 =>
  effK H (stA lim H 1 x24 x23) fun _ H =>
  resK (call lim 41 [x9] H) fun x26 H =>
  purK (addA 3 x5) fun x27 =>
  effK H (stA lim H 4 x27 x26) fun _ H =>
  N18_1 ρ call yc lim k x2 x9 x5 H (retC (cx ρ) [some 43, none]))
  (
  purK (binA Tryd.prog H .eql 3 x16 (.int .i64 2)) fun x29 =>
  condK x29
  (
  N18_2 ρ call yc lim k x2 x9 x5 x16 x29 H (fun x2_1 x4 x5_1 H =>
  N18_1 ρ call yc lim k x2_1 x4 x5_1 H (retC (cx ρ) [some 43, none])))
  (
  purK (binA Tryd.prog H .eql 3 x16 (.int .i64 3)) fun x30 =>
  N18_2 ρ call yc lim k x2 x9 x5 x16 x30 H (fun x2_2 x4_1 x5_2 H =>
  N18_1 ρ call yc lim k x2_2 x4_1 x5_2 H (retC (cx ρ) [some 43, none]))))
theorem L18_x (ρ : RO) (call : CallF) (yc : YieldF) (lim k : Nat) (J : CodeF) (x0 : AV) (H : Heap) :
  evX (cx ρ) call yc false 18 lim k J c18 [x0, (.tup []), (.tup []), (.tup []), (.tup []), (.tup []), (.tup []), (.tup []), (.tup []), (.tup []), (.tup []), (.tup []), (.tup []), (.tup []), (.tup []), (.tup []), (.tup []), (.tup []), (.tup []), (.tup []), (.tup []), (.tup []), (.tup []), (.tup []), (.tup []), (.tup []), (.tup []), (.tup []), (.tup []), (.tup []), (.tup []), (.tup []), (.tup []), (.tup []), (.tup []), (.tup []), (.tup []), (.tup []), (.tup []), (.tup []), (.tup []), (.tup []), (.tup []), (.tup []), (.tup []), (.tup []), (.tup []), (.tup []), (.tup []), (.tup []), (.tup []), (.tup []), (.tup []), (.tup []), (.tup []), (.tup []), (.tup []), (.tup []), (.tup []), (.tup []), (.tup []), (.tup []), (.tup []), (.tup []), (.tup []), (.tup []), (.tup []), (.tup []), (.tup []), (.tup []), (.tup []), (.tup []), (.tup []), (.tup []), (.tup []), (.tup []), (.tup []), (.tup []), (.tup []), (.tup []), (.tup []), (.tup []), (.tup []), (.tup []), (.tup []), (.tup []), (.tup [])] H (kk none (fun s H => (retC (cx ρ) [some 43, none]) (([2, 3] : List Nat).map fun t => s.getD t (.tup [])) H) [] (retC (cx ρ) [some 43, none]) [2, 3]) =
  effK H (some (.ptr H.sz 0 0, .new (newCells 43 false [.int .i64 0, .int .i64 0, .int .i64 0, .int .i64 0, .str ByteArray.empty, .str ByteArray.empty, .int .u64 0, .nils]))) fun x2 H =>
  resK (call lim 37 [x0, (.str (ByteArray.mk #[32]))] H) fun x7 H =>
  purK (bldA [.nils, .bool false] [(0, 1, x7)]) fun x8 =>
  effK H (boxA H 75 x8) fun x9 H =>
  mkK H (some (.ptr H.sz 0 0, .new (newCells 43 false [.int .i64 0, .int .i64 0, .int .i64 0, .int .i64 0, .str ByteArray.empty, .str ByteArray.empty, .int .u64 0, .nils]))) true fun x5 H =>
  purK (slR 1 11 (.xp ⟨0, 0, none⟩) none none none) fun x10 =>
  resK (call lim 39 [x9] H) fun x12 H =>
  resK (call lim 38 [x10, x12] H) fun x13 H =>
  purK (bldA [.int .i64 0, .int .i64 0, .int .i64 0, .int .i64 0, .str ByteArray.empty, .str ByteArray.empty, .int .u64 0, .nils] [(0, 1, x13)]) fun x14 =>
  effK H (stA lim H 8 x5 x14) fun _ H =>
  purK (addA 0 x5) fun x15 =>
  purK (ld1 ρ H x15) fun x16 =>
  purK (binA Tryd.prog H .eql 3 x16 (.int .i64 1)) fun x21 =>
  condK x21
  (
  resK (call lim 40 [x9] H) fun x23 H =>
  purK (addA 1 x5) fun x24 =>
  effK H (stA lim H 1 x24 x23) fun _ H =>
  resK (call lim 41 [x9] H) fun x26 H =>
  purK (addA 3 x5) fun x27 =>
  effK H (stA lim H 4 x27 x26) fun _ H =>
  J (Code.at [1, 1, 1, 1] c18) (sp 87 [(2, x2), (4, x9), (5, x5)]) H (kk none (fun s H => (retC (cx ρ) [some 43, none]) (([2, 3] : List Nat).map fun t => s.getD t (.tup [])) H) [] (retC (cx ρ) [some 43, none]) [2, 3]))
  (
  purK (binA Tryd.prog H .eql 3 x16 (.int .i64 2)) fun x29 =>
  condK x29
  (
  J (Code.at [1, 1, 1, 0, 1, 0, 1, 1, 1] c18) (sp 87 [(2, x2), (4, x9), (5, x5), (16, x16), (28, x29)]) H (kk (some [2, 4, 5]) (fun s H => J (Code.at [1, 1, 1, 1] c18) s H (kk none (fun s H => (retC (cx ρ) [some 43, none]) (([2, 3] : List Nat).map fun t => s.getD t (.tup [])) H) [] (retC (cx ρ) [some 43, none]) [2, 3])) [(0, (some [2, 4, 5]), (fun s H => J (Code.at [1, 1, 1, 1] c18) s H (kk none (fun s H => (retC (cx ρ) [some 43, none]) (([2, 3] : List Nat).map fun t => s.getD t (.tup [])) H) [] (retC (cx ρ) [some 43, none]) [2, 3])))] (retC (cx ρ) [some 43, none]) [2, 3]))
  (
  purK (binA Tryd.prog H .eql 3 x16 (.int .i64 3)) fun x30 =>
  J (Code.at [1, 1, 1, 0, 1, 0, 1, 1, 1] c18) (sp 87 [(2, x2), (4, x9), (5, x5), (16, x16), (28, x30)]) H (kk (some [2, 4, 5]) (fun s H => J (Code.at [1, 1, 1, 1] c18) s H (kk none (fun s H => (retC (cx ρ) [some 43, none]) (([2, 3] : List Nat).map fun t => s.getD t (.tup [])) H) [] (retC (cx ρ) [some 43, none]) [2, 3])) [(0, (some [2, 4, 5]), (fun s H => J (Code.at [1, 1, 1, 1] c18) s H (kk none (fun s H => (retC (cx ρ) [some 43, none]) (([2, 3] : List Nat).map fun t => s.getD t (.tup [])) H) [] (retC (cx ρ) [some 43, none]) [2, 3])))] (retC (cx ρ) [some 43, none]) [2, 3]))) := by
  kernel_rfl
theorem G18 (ρ : RO) (call : CallF) (yc : YieldF) (lim k : Nat) (x0 : AV) (H : Heap) :
  evL (cx ρ) call yc false 18 lim k c18 [x0, (.tup []), (.tup []), (.tup []), (.tup []), (.tup []), (.tup []), (.tup []), (.tup []), (.tup []), (.tup []), (.tup []), (.tup []), (.tup []), (.tup []), (.tup []), (.tup []), (.tup []), (.tup []), (.tup []), (.tup []), (.tup []), (.tup []), (.tup []), (.tup []), (.tup []), (.tup []), (.tup []), (.tup []), (.tup []), (.tup []), (.tup []), (.tup []), (.tup []), (.tup []), (.tup []), (.tup []), (.tup []), (.tup []), (.tup []), (.tup []), (.tup []), (.tup []), (.tup []), (.tup []), (.tup []), (.tup []), (.tup []), (.tup []), (.tup []), (.tup []), (.tup []), (.tup []), (.tup []), (.tup []), (.tup []), (.tup []), (.tup []), (.tup []), (.tup []), (.tup []), (.tup []), (.tup []), (.tup []), (.tup []), (.tup []), (.tup []), (.tup []), (.tup []), (.tup []), (.tup []), (.tup []), (.tup []), (.tup []), (.tup []), (.tup []), (.tup []), (.tup []), (.tup []), (.tup []), (.tup []), (.tup []), (.tup []), (.tup []), (.tup []), (.tup []), (.tup [])] H (kk none (fun s H => (retC (cx ρ) [some 43, none]) (([2, 3] : List Nat).map fun t => s.getD t (.tup [])) H) [] (retC (cx ρ) [some 43, none]) [2, 3]) = L18 ρ call yc lim k x0 H := by
  rw [evL_X, L18_x]
  simp only [← evL_X, L18, N18_1_eq, N18_2_eq]
theorem E18 (ρ : RO) (k lim : Nat) (x0 : AV) (H : Heap) : evCall (cx ρ) (k + 1) lim 18 [x0] H = L18 ρ (evCall (cx ρ) k) (evCY (cx ρ) k).2 lim k x0 H := by
  rw [evCall_cells (cx ρ) k lim 18 _ H Tryd.f18 c18 [2, 3] [some 43, none] (by kernel_rfl) (by kernel_rfl) (by kernel_rfl) (by kernel_rfl) (by kernel_rfl) (by kernel_rfl)]
  exact G18 ρ (evCall (cx ρ) k) (evCY (cx ρ) k).2 lim k x0 H
-- haycroft/haycroftref11.Ints
noncomputable def c21 : Code := Code.of Tryd.prog 21
noncomputable def N21_1 (ρ : RO) (call : CallF) (yc : YieldF) (lim k : Nat) (H : Heap) (R : KR) : Res :=
  R [(.bool true)] H
theorem N21_1_eq (ρ : RO) (call : CallF) (yc : YieldF) (lim k : Nat) (H : Heap) (R : KR) :
  evL (cx ρ) call yc false 21 lim k (Code.at [1, 1, 1] c21) (sp 26 []) H (kk none (fun s H => R (([4] : List Nat).map fun t => s.getD t (.tup [])) H) [] R [4]) = N21_1 ρ call yc lim k H R := by
  kernel_rfl
noncomputable def N21_3b (ρ : RO) (call : CallF) (yc : YieldF) (lim k : Nat) (x0 x1 x5 : AV) (H : Heap) (kn : AV → Heap → Res) (k0 : Heap → Res) (R : KR) : Res :=
  purK (lenS x0) fun x13_1 =>
  purK (binA Tryd.prog H .lss 3 x5 x13_1) fun x14_1 =>
  condK x14_1
  (
  purK (ixS 1 x0 x5) fun x19_1 =>
  purK (ld1 ρ H x19_1) fun x20_1 =>
  purK (ixS 1 x1 x5) fun x23_1 =>
  purK (ld1 ρ H x23_1) fun x24_1 =>
  purK (binA Tryd.prog H .neq 3 x20_1 x24_1) fun x25_1 =>
  condK x25_1
  (
  R [(.bool false)] H)
  (
  purK (binA Tryd.prog H .add 3 x5 (.int .i64 1)) fun x16_1 =>
  kn x16_1 H))
  (
  k0 H)
theorem N21_3b_eq (ρ : RO) (call : CallF) (yc : YieldF) (lim k : Nat) (x0 x1 x5 : AV) (H : Heap) (kn : KS) (k0 : KS) (R : KR) :
  evL (cx ρ) call yc false 21 lim k (Code.at [1, 1, 0, 1, 0, 0] c21) (sp 26 [(0, x0), (1, x1), (5, x5)]) H (kk (some [0, 1, 5]) kn [(0, (some []), k0)] R [4]) = N21_3b ρ call yc lim k x0 x1 x5 H (fun x5 H => kn (sp 26 [(0, x0), (1, x1), (5, x5)]) H) (fun H => k0 (sp 26 []) H) R := by
  kernel_rfl
noncomputable def N21_3 (ρ : RO) (call : CallF) (yc : YieldF) (lim k : Nat) (x0 x1 x5 : AV) (H : Heap) (k0 : Heap → Res) (R : KR) : Res :=
  loopL (fun (x : AV) H kn => N21_3b ρ call yc lim k x0 x1 x H (fun x5 H => kn x5 H) k0 R) k x5 H
theorem N21_3_eq (ρ : RO) (call : CallF) (yc : YieldF) (lim k : Nat) (x0 x1 x5 : AV) (H : Heap) (kn : KS) (k0 : KS) (R : KR) :
  evL (cx ρ) call yc false 21 lim k (Code.at [1, 1, 0, 1, 0] c21) (sp 26 [(0, x0), (1, x1), (5, x5)]) H (kk (some []) kn [(0, (some []), k0)] R [4]) = N21_3 ρ call yc lim k x0 x1 x5 H (fun H => k0 (sp 26 []) H) R := by
  have e : Code.at [1, 1, 0, 1, 0] c21 = .loop (Code.at [1, 1, 0, 1, 0, 0] c21) := by kernel_rfl
  rw [e]
  unfold N21_3
  exact loop_node [0, 1, 5] (fun x : AV => (sp 26 [(0, x0), (1, x1), (5, (x))])) (fun (x : AV) H kn => N21_3b ρ call yc lim k x0 x1 x H (fun x5 H => kn x5 H) (fun H => k0 (sp 26 []) H) R) (by kernel_rfl) (fun x => by kernel_rfl) (fun x H kn => N21_3b_eq ρ call yc lim k x0 x1 (x) H kn k0 R) x5 (sp 26 [(0, x0), (1, x1), (5, x5)]) H (by kernel_rfl)
noncomputable def N21_2 (ρ : RO) (call : CallF) (yc : YieldF) (lim k : Nat) (x0 x1 x5 : AV) (H : Heap) (kn : Heap → Res) (R : KR) : Res :=
  N21_3 ρ call yc lim k x0 x1 x5 H kn R
theorem N21_2_x (ρ : RO) (call : CallF) (yc : YieldF) (lim k : Nat) (J : CodeF) (x0 x1 x5 : AV) (H : Heap) (kn : KS) (R : KR) :
  evX (cx ρ) call yc false 21 lim k J (Code.at [1, 1, 0, 1] c21) (sp 26 [(0, x0), (1, x1), (5, x5)]) H (kk (some []) kn [] R [4]) =
  J (Code.at [1, 1, 0, 1, 0] c21) (sp 26 [(0, x0), (1, x1), (5, x5)]) H (kk (some []) kn [(0, (some []), kn)] R [4]) := by
  kernel_rfl
theorem N21_2_eq (ρ : RO) (call : CallF) (yc : YieldF) (lim k : Nat) (x0 x1 x5 : AV) (H : Heap) (kn : KS) (R : KR) :
  evL (cx ρ) call yc false 21 lim k (Code.at [1, 1, 0, 1] c21) (sp 26 [(0, x0), (1, x1), (5, x5)]) H (kk (some []) kn [] R [4]) = N21_2 ρ call yc lim k x0 x1 x5 H (fun H => kn (sp 26 []) H) R := by
  rw [evL_X, N21_2_x]
  simp only [← evL_X, N21_2, N21_3_eq]
noncomputable def L21 (ρ : RO) (call : CallF) (yc : YieldF) (lim k : Nat) (x0 x1 : AV) (H : Heap) : Res :=
  purK (lenS x0) fun x7 =>
  purK (lenS x1) fun x9 =>
  purK (binA Tryd.prog H .neq 3 x7 x9) fun x10 =>
  condK x10
  (
  retK [(.bool false)] H)
  (
  N21_2 ρ call yc lim k x0 x1 (.int .i64 0) H (fun H =>
  N21_1 ρ call yc lim k H retK) retK)
theorem L21_x (ρ : RO) (call : CallF) (yc : YieldF) (lim k : Nat) (J : CodeF) (x0 x1 : AV) (H : Heap) :
  evX (cx ρ) call yc false 21 lim k J c21 [x0, x1, (.tup []), (.tup []), (.tup []), (.tup []), (.tup []), (.tup []), (.tup []), (.tup []), (.tup []), (.tup []), (.tup []), (.tup []), (.tup []), (.tup []), (.tup []), (.tup []), (.tup []), (.tup []), (.tup []), (.tup []), (.tup []), (.tup []), (.tup []), (.tup [])] H (kk none (fun s H => retK (([4] : List Nat).map fun t => s.getD t (.tup [])) H) [] retK [4]) =
  purK (lenS x0) fun x7 =>
  purK (lenS x1) fun x9 =>
  purK (binA Tryd.prog H .neq 3 x7 x9) fun x10 =>
  condK x10
  (
  retK [(.bool false)] H)
  (
  J (Code.at [1, 1, 0, 1] c21) (sp 26 [(0, x0), (1, x1), (5, (.int .i64 0))]) H (kk (some []) (fun s H => J (Code.at [1, 1, 1] c21) s H (kk none (fun s H => retK (([4] : List Nat).map fun t => s.getD t (.tup [])) H) [] retK [4])) [] retK [4])) := by
  kernel_rfl
theorem G21 (ρ : RO) (call : CallF) (yc : YieldF) (lim k : Nat) (x0 x1 : AV) (H : Heap) :
  evL (cx ρ) call yc false 21 lim k c21 [x0, x1, (.tup []), (.tup []), (.tup []), (.tup []), (.tup []), (.tup []), (.tup []), (.tup []), (.tup []), (.tup []), (.tup []), (.tup []), (.tup []), (.tup []), (.tup []), (.tup []), (.tup []), (.tup []), (.tup []), (.tup []), (.tup []), (.tup []), (.tup []), (.tup [])] H (kk none (fun s H => retK (([4] : List Nat).map fun t => s.getD t (.tup [])) H) [] retK [4]) = L21 ρ call yc lim k x0 x1 H := by
  rw [evL_X, L21_x]
  simp only [← evL_X, L21, N21_1_eq, N21_2_eq]
theorem E21 (ρ : RO) (k lim : Nat) (x0 x1 : AV) (H : Heap) : evCall (cx ρ) (k + 1) lim 21 [x0, x1] H = L21 ρ (evCall (cx ρ) k) (evCY (cx ρ) k).2 lim k x0 x1 H := by
  rw [evCall_body (cx ρ) k lim 21 _ H Tryd.f21 c21 [4] (by kernel_rfl) (by kernel_rfl) (by kernel_rfl) (by kernel_rfl) (by kernel_rfl)]
  exact G21 ρ (evCall (cx ρ) k) (evCY (cx ρ) k).2 lim k x0 x1 H
-- (*strings.Builder).WriteByte
noncomputable def c22 : Code := Code.of Tryd.prog 22
noncomputable def L22 (ρ : RO) (call : CallF) (yc : YieldF) (lim k : Nat) (x0 x1 : AV) (H : Heap) : Res :=
  resK (call lim 45 [x0] H) fun x6 H =>
  purK (nilChkA x0) fun x9 =>
  purK (addA 1 x9) fun x10 =>
  purK (ld1 ρ H x10) fun x11 =>
  effK H (bldS H 5 1 [.int .u8 0] 1 [(0, 1, x1)]) fun x13 H =>
  effK H (apA ρ lim H 5 1 1 x11 x13) fun x14 H =>
  purK (nilChkA x0) fun x15 =>
  purK (addA 1 x15) fun x16 =>
  effK H (stA lim H 1 x16 x14) fun _ H =>
  retK [.nili] H
theorem G22 (ρ : RO) (call : CallF) (yc : YieldF) (lim k : Nat) (x0 x1 : AV) (H : Heap) :
  evL (cx ρ) call yc false 22 lim k c22 [x0, x1, (.tup []), (.tup []), (.tup []), (.tup []), (.tup []), (.tup []), (.tup []), (.tup []), (.tup []), (.tup []), (.tup []), (.tup []), (.tup []), (.tup []), (.tup [])] H (kk none (fun s H => retK (([4] : List Nat).map fun t => s.getD t (.tup [])) H) [] retK [4]) = L22 ρ call yc lim k x0 x1 H := by
  kernel_rfl
theorem E22 (ρ : RO) (k lim : Nat) (x0 x1 : AV) (H : Heap) : evCall (cx ρ) (k + 1) lim 22 [x0, x1] H = L22 ρ (evCall (cx ρ) k) (evCY (cx ρ) k).2 lim k x0 x1 H := by
  rw [evCall_body (cx ρ) k lim 22 _ H Tryd.f22 c22 [4] (by kernel_rfl) (by kernel_rfl) (by kernel_rfl) (by kernel_rfl) (by kernel_rfl)]
  exact G22 ρ (evCall (cx ρ) k) (evCY (cx ρ) k).2 lim k x0 x1 H
-- haycroft/script.plain
noncomputable def c23 : Code := Code.of Tryd.prog 23
noncomputable def L23 (ρ : RO) (call : CallF) (yc : YieldF) (lim k : Nat) (x0 : AV) (H : Heap) : Res :=
  purK (binA Tryd.prog H .geq 5 x0 (.int .u8 33)) fun x4 =>
  purK (gPur (wantV x4 true) (some x0)) fun x6 =>
  purK (gPur (wantV x4 true) (binA Tryd.prog H .leq 5 x6 (.int .u8 126))) fun x7 =>
  purK (pickA x4 x7 (.bool false)) fun x8 =>
  purK (gPur (wantV x8 true) (some x0)) fun x10 =>
  purK (gPur (wantV x8 true) (binA Tryd.prog H .neq 5 x10 (.int .u8 37))) fun x11 =>
  purK (pickA x8 x11 (.bool false)) fun x12 =>
  retK [x12] H
theorem G23 (ρ : RO) (call : CallF) (yc : YieldF) (lim k : Nat) (x0 : AV) (H : Heap) :
  evL (cx ρ) call yc false 23 lim k c23 [x0, (.tup []), (.tup []), (.tup []), (.tup []), (.tup []), (.tup []), (.tup []), (.tup []), (.tup []), (.tup []), (.tup []), (.tup [])] H (kk none (fun s H => retK (([2] : List Nat).map fun t => s.getD t (.tup [])) H) [] retK [2]) = L23 ρ call yc lim k x0 H := by
  kernel_rfl
theorem E23 (ρ : RO) (k lim : Nat) (x0 : AV) (H : Heap) : evCall (cx ρ) (k + 1) lim 23 [x0] H = L23 ρ (evCall (cx ρ) k) (evCY (cx ρ) k).2 lim k x0 H := by
  rw [evCall_body (cx ρ) k lim 23 _ H Tryd.f23 c23 [2] (by kernel_rfl) (by kernel_rfl) (by kernel_rfl) (by kernel_rfl) (by kernel_rfl)]
  exact G23 ρ (evCall (cx ρ) k) (evCY (cx ρ) k).2 lim k x0 H
-- (*strings.Builder).WriteString
noncomputable def c24 : Code := Code.of Tryd.prog 24
noncomputable def L24 (ρ : RO) (call : CallF) (yc : YieldF) (lim k : Nat) (x0 x1 : AV) (H : Heap) : Res :=
  resK (call lim 45 [x0] H) fun x7 H =>
  purK (nilChkA x0) fun x10 =>
  purK (addA 1 x10) fun x11 =>
  purK (ld1 ρ H x11) fun x12 =>
  effK H (apA ρ lim H 5 1 1 x12 x1) fun x14 H =>
  purK (nilChkA x0) fun x15 =>
  purK (addA 1 x15) fun x16 =>
  effK H (stA lim H 1 x16 x14) fun _ H =>
  purK (lenT x1) fun x18 =>
  retK [x18, .nili] H
theorem G24 (ρ : RO) (call : CallF) (yc : YieldF) (lim k : Nat) (x0 x1 : AV) (H : Heap) :
  evL (cx ρ) call yc false 24 lim k c24 [x0, x1, (.tup []), (.tup []), (.tup []), (.tup []), (.tup []), (.tup []), (.tup []), (.tup []), (.tup []), (.tup []), (.tup []), (.tup []), (.tup []), (.tup []), (.tup []), (.tup []), (.tup [])] H (kk none (fun s H => retK (([4, 5] : List Nat).map fun t => s.getD t (.tup [])) H) [] retK [4, 5]) = L24 ρ call yc lim k x0 x1 H := by
  kernel_rfl
theorem E24 (ρ : RO) (k lim : Nat) (x0 x1 : AV) (H : Heap) : evCall (cx ρ) (k + 1) lim 24 [x0, x1] H = L24 ρ (evCall (cx ρ) k) (evCY (cx ρ) k).2 lim k x0 x1 H := by
  rw [evCall_body (cx ρ) k lim 24 _ H Tryd.f24 c24 [4, 5] (by kernel_rfl) (by kernel_rfl) (by kernel_rfl) (by kernel_rfl) (by kernel_rfl)]
  exact G24 ρ (evCall (cx ρ) k) (evCY (cx ρ) k).2 lim k x0 x1 H
-- (*strings.Builder).String
noncomputable def c25 : Code := Code.of Tryd.prog 25
noncomputable def L25 (ρ : RO) (call : CallF) (yc : YieldF) (lim k : Nat) (x0 : AV) (H : Heap) : Res :=
  purK (nilChkA x0) fun x4 =>
  purK (addA 1 x4) fun x5 =>
  purK (ld1 ρ H x5) fun x6 =>
  purK (nilChkA x0) fun x9 =>
  purK (addA 1 x9) fun x10 =>
  purK (ld1 ρ H x10) fun x11 =>
  purK (lenS x11) fun x12 =>
  effK H (builtinA (cx ρ) lim H .unsafeSliceData #[52] [x6]) fun x7 H => bif (agn (lenS x11) x12 && (agn (ld1 ρ H x10) x11 && true)) then
  effK H (builtinA (cx ρ) lim H .unsafeString #[84, 3] [x7, x12]) fun x13 H =>
  retK [x13] H
  else none
theorem G25 (ρ : RO) (call : CallF) (yc : YieldF) (lim k : Nat) (x0 : AV) (H : Heap) :
  evL (cx ρ) call yc false 25 lim k c25 [x0, (.tup []), (.tup []), (.tup []), (.tup []), (.tup []), (.tup []), (.tup []), (.tup []), (.tup []), (.tup []), (.tup []), (.tup []), (.tup [])] H (kk none (fun s H => retK (([2] : List Nat).map fun t => s.getD t (.tup [])) H) [] retK [2]) = L25 ρ call yc lim k x0 H := by
  kernel_rfl
theorem E25 (ρ : RO) (k lim : Nat) (x0 : AV) (H : Heap) : evCall (cx ρ) (k + 1) lim 25 [x0] H = L25 ρ (evCall (cx ρ) k) (evCY (cx ρ) k).2 lim k x0 H := by
  rw [evCall_body (cx ρ) k lim 25 _ H Tryd.f25 c25 [2] (by kernel_rfl) (by kernel_rfl) (by kernel_rfl) (by kernel_rfl) (by kernel_rfl)]
  exact G25 ρ (evCall (cx ρ) k) (evCY (cx ρ) k).2 lim k x0 H
-- strings.CutPrefix
noncomputable def c26 : Code := Code.of Tryd.prog 26
noncomputable def L26 (ρ : RO) (call : CallF) (yc : YieldF) (lim k : Nat) (x0 x1 : AV) (H : Heap) : Res :=
  resK (call lim 46 [x0, x1] H) fun x8 H =>
  purK (extA 0 x8) fun x9 =>
  purK (extA 1 x8) fun x10 =>
  retK [x9, x10] H
theorem G26 (ρ : RO) (call : CallF) (yc : YieldF) (lim k : Nat) (x0 x1 : AV) (H : Heap) :
  evL (cx ρ) call yc false 26 lim k c26 [x0, x1, (.tup []), (.tup []), (.tup []), (.tup []), (.tup []), (.tup []), (.tup []), (.tup []), (.tup [])] H (kk none (fun s H => retK (([4, 5] : List Nat).map fun t => s.getD t (.tup [])) H) [] retK [4, 5]) = L26 ρ call yc lim k x0 x1 H := by
  kernel_rfl
theorem E26 (ρ : RO) (k lim : Nat) (x0 x1 : AV) (H : Heap) : evCall (cx ρ) (k + 1) lim 26 [x0, x1] H = L26 ρ (evCall (cx ρ) k) (evCY (cx ρ) k).2 lim k x0 x1 H := by
  rw [evCall_body (cx ρ) k lim 26 _ H Tryd.f26 c26 [4, 5] (by kernel_rfl) (by kernel_rfl) (by kernel_rfl) (by kernel_rfl) (by kernel_rfl)]
  exact G26 ρ (evCall (cx ρ) k) (evCY (cx ρ) k).2 lim k x0 x1 H
-- strings.IndexByte
noncomputable def c27 : Code := Code.of Tryd.prog 27
noncomputable def L27 (ρ : RO) (call : CallF) (yc : YieldF) (lim k : Nat) (x0 x1 : AV) (H : Heap) : Res :=
  resK (call lim 47 [x0, x1] H) fun x7 H =>
  retK [x7] H
theorem G27 (ρ : RO) (call : CallF) (yc : YieldF) (lim k : Nat) (x0 x1 : AV) (H : Heap) :
  evL (cx ρ) call yc false 27 lim k c27 [x0, x1, (.tup []), (.tup []), (.tup []), (.tup []), (.tup []), (.tup [])] H (kk none (fun s H => retK (([4] : List Nat).map fun t => s.getD t (.tup [])) H) [] retK [4]) = L27 ρ call yc lim k x0 x1 H := by
  kernel_rfl
theorem E27 (ρ : RO) (k lim : Nat) (x0 x1 : AV) (H : Heap) : evCall (cx ρ) (k + 1) lim 27 [x0, x1] H = L27 ρ (evCall (cx ρ) k) (evCY (cx ρ) k).2 lim k x0 x1 H := by
  rw [evCall_body (cx ρ) k lim 27 _ H Tryd.f27 c27 [4] (by kernel_rfl) (by kernel_rfl) (by kernel_rfl) (by kernel_rfl) (by kernel_rfl)]
  exact G27 ρ (evCall (cx ρ) k) (evCY (cx ρ) k).2 lim k x0 x1 H
-- haycroft/haycroftref27.plain
noncomputable def c28 : Code := Code.of Tryd.prog 28
noncomputable def L28 (ρ : RO) (call : CallF) (yc : YieldF) (lim k : Nat) (x0 : AV) (H : Heap) : Res :=
  purK (binA Tryd.prog H .gtr 5 x0 (.int .u8 32)) fun x4 =>
  purK (gPur (wantV x4 true) (some x0)) fun x6 =>
  purK (gPur (wantV x4 true) (binA Tryd.prog H .lss 5 x6 (.int .u8 127))) fun x7 =>
  purK (pickA x4 x7 (.bool false)) fun x8 =>
  purK (gPur (wantV x8 true) (some x0)) fun x10 =>
  purK (gPur (wantV x8 true) (binA Tryd.prog H .neq 5 x10 (.int .u8 37))) fun x11 =>
  purK (pickA x8 x11 (.bool false)) fun x12 =>
  retK [x12] H
theorem G28 (ρ : RO) (call : CallF) (yc : YieldF) (lim k : Nat) (x0 : AV) (H : Heap) :
  evL (cx ρ) call yc false 28 lim k c28 [x0, (.tup []), (.tup []), (.tup []), (.tup []), (.tup []), (.tup []), (.tup []), (.tup []), (.tup []), (.tup []), (.tup []), (.tup [])] H (kk none (fun s H => retK (([2] : List Nat).map fun t => s.getD t (.tup [])) H) [] retK [2]) = L28 ρ call yc lim k x0 H := by
  kernel_rfl
theorem E28 (ρ : RO) (k lim : Nat) (x0 : AV) (H : Heap) : evCall (cx ρ) (k + 1) lim 28 [x0] H = L28 ρ (evCall (cx ρ) k) (evCY (cx ρ) k).2 lim k x0 H := by
  rw [evCall_body (cx ρ) k lim 28 _ H Tryd.f28 c28 [2] (by kernel_rfl) (by kernel_rfl) (by kernel_rfl) (by kernel_rfl) (by kernel_rfl)]
  exact G28 ρ (evCall (cx ρ) k) (evCY (cx ρ) k).2 lim k x0 H
-- haycroft/haycroftref27.digit
noncomputable def c30 : Code := Code.of Tryd.prog 30
noncomputable def L30 (ρ : RO) (call : CallF) (yc : YieldF) (lim k : Nat) (x0 : AV) (H : Heap) : Res :=
  purK (binA Tryd.prog H .lss 5 x0 (.int .u8 10)) fun x4 =>
  condK x4
  (
  purK (binA Tryd.prog H .add 5 (.int .u8 48) x0) fun x6 =>
  retK [x6] H)
  (
  purK (binA Tryd.prog H .add 5 (.int .u8 55) x0) fun x8 =>
  retK [x8] H)
theorem G30 (ρ : RO) (call : CallF) (yc : YieldF) (lim k : Nat) (x0 : AV) (H : Heap) :
  evL (cx ρ) call yc false 30 lim k c30 [x0, (.tup []), (.tup []), (.tup []), (.tup []), (.tup []), (.tup []), (.tup []), (.tup [])] H (kk none (fun s H => retK (([2] : List Nat).map fun t => s.getD t (.tup [])) H) [] retK [2]) = L30 ρ call yc lim k x0 H := by
  kernel_rfl
theorem E30 (ρ : RO) (k lim : Nat) (x0 : AV) (H : Heap) : evCall (cx ρ) (k + 1) lim 30 [x0] H = L30 ρ (evCall (cx ρ) k) (evCY (cx ρ) k).2 lim k x0 H := by
  rw [evCall_body (cx ρ) k lim 30 _ H Tryd.f30 c30 [2] (by kernel_rfl) (by kernel_rfl) (by kernel_rfl) (by kernel_rfl) (by kernel_rfl)]
  exact G30 ρ (evCall (cx ρ) k) (evCY (cx ρ) k).2 lim k x0 H
end Go.Proofs.YtnkeebchblfbgaaDoor

-- part Sc4
/- Functions, lifted. Printed by a program of this repo. -/
set_option linter.unusedVariables false
set_option linter.unusedSimpArgs false
set_option maxRecDepth 100000
set_option maxHeartbeats 4000000
namespace Go.Proofs.YtnkeebchblfbgaaDoor
open Go.Ev Go.RowKit
-- haycroft/script.line
noncomputable def c31 : Code := Code.of Tryd.prog 31
noncomputable def N31_2 (ρ : RO) (call : CallF) (yc : YieldF) (lim k : Nat) (x3 : AV) (H : Heap) (R : KR) : Res :=
  resK (call lim 50 [x3, (.str (ByteArray.mk #[32]))] H) fun x100_1 H =>
  R [x100_1] H
theorem N31_2_eq (ρ : RO) (call : CallF) (yc : YieldF) (lim k : Nat) (x3 : AV) (H : Heap) (R : KR) :
  evL (cx ρ) call yc false 31 lim k (Code.at [1, 1, 1, 1] c31) (sp 101 [(3, x3)]) H (kk none (fun s H => R (([2] : List Nat).map fun t => s.getD t (.tup [])) H) [] R [2]) = N31_2 ρ call yc lim k x3 H R := by
  kernel_rfl
noncomputable def N31_3 (ρ : RO) (call : CallF) (yc : YieldF) (lim k : Nat) (x1 x3 : AV) (H : Heap) (kn : AV → Heap → Res) : Res :=
  purK (addA 3 x1) fun x43_1 =>
  purK (addA 0 x43_1) fun x44_1 =>
  purK (ld1 ρ H x44_1) fun x45_1 =>
  purK (binA Tryd.prog H .eql 3 x45_1 (.int .i64 2)) fun x47_1 =>
  condK x47_1
  (
  purK (addA 3 x1) fun x49_1 =>
  purK (addA 2 x49_1) fun x50_1 =>
  purK (ld1 ρ H x50_1) fun x51_1 =>
  resK (call lim 10 [x51_1] H) fun x52_1 H =>
  effK H (bldS H 9 1 [.str ByteArray.empty] 1 [(0, 1, x52_1)]) fun x53_1 H =>
  effK H (apA ρ lim H 9 1 16 x3 x53_1) fun x54_1 H =>
  kn x54_1 H)
  (
  purK (binA Tryd.prog H .eql 3 x45_1 (.int .i64 3)) fun x56_1 =>
  condK x56_1
  (
  purK (addA 3 x1) fun x58_1 =>
  purK (addA 3 x58_1) fun x59_1 =>
  purK (ld1 ρ H x59_1) fun x60_1 =>
  resK (call lim 49 [x60_1, (.int .i64 10)] H) fun x61_1 H =>
  effK H (bldS H 9 1 [.str ByteArray.empty] 1 [(0, 1, x61_1)]) fun x62_1 H =>
  effK H (apA ρ lim H 9 1 16 x3 x62_1) fun x63_1 H =>
  kn x63_1 H)
  (
  kn x3 H))
theorem N31_3_eq (ρ : RO) (call : CallF) (yc : YieldF) (lim k : Nat) (x1 x3 : AV) (H : Heap) (kn : KS) (k0 : KS) (R : KR) :
  evL (cx ρ) call yc false 31 lim k (Code.at [1, 1, 1, 0, 1, 0, 1, 0, 1] c31) (sp 101 [(1, x1), (3, x3)]) H (kk (some [3]) kn [(0, (some [3]), k0)] R [2]) = N31_3 ρ call yc lim k x1 x3 H (fun x3 H => kn (sp 101 [(3, x3)]) H) := by
  kernel_rfl
noncomputable def N31_7b (ρ : RO) (call : CallF) (yc : YieldF) (lim k : Nat) (x3 x87 x88 x89 : AV) (H : Heap) (kn : AV → AV → Heap → Res) (k2 : AV → Heap → Res) : Res :=
  purK (binA Tryd.prog H .lss 3 x89 x88) fun x90_1 =>
  condK x90_1
  (
  purK (ixS 1 x87 x89) fun x91_1 =>
  purK (ld1 ρ H x91_1) fun x92_1 =>
  resK (call lim 48 [x92_1] H) fun x95_1 H =>
  effK H (bldS H 9 1 [.str ByteArray.empty] 1 [(0, 1, x95_1)]) fun x96_1 H =>
  effK H (apA ρ lim H 9 1 16 x3 x96_1) fun x97_1 H =>
  purK (binA Tryd.prog H .add 3 x89 (.int .i64 1)) fun x98_1 =>
  kn x97_1 x98_1 H)
  (
  k2 x3 H)
theorem N31_7b_eq (ρ : RO) (call : CallF) (yc : YieldF) (lim k : Nat) (x3 x87 x88 x89 : AV) (H : Heap) (kn : KS) (k2 : KS) (k0 : KS) (R : KR) :
  evL (cx ρ) call yc false 31 lim k (Code.at [1, 1, 1, 0, 1, 0, 1, 1, 1, 1, 1, 1, 1, 0, 1, 0, 0] c31) (sp 101 [(3, x3), (87, x87), (88, x88), (89, x89)]) H (kk (some [3, 87, 88, 89]) kn [(2, (some [3]), k2), (0, (some [3]), k0)] R [2]) = N31_7b ρ call yc lim k x3 x87 x88 x89 H (fun x3 x89 H => kn (sp 101 [(3, x3), (87, x87), (88, x88), (89, x89)]) H) (fun x3 H => k2 (sp 101 [(3, x3)]) H) := by
  kernel_rfl
noncomputable def N31_7 (ρ : RO) (call : CallF) (yc : YieldF) (lim k : Nat) (x3 x87 x88 x89 : AV) (H : Heap) (k2 : AV → Heap → Res) : Res :=
  loopL (fun (x : AV × AV) H kn => N31_7b ρ call yc lim k x.1 x87 x88 x.2 H (fun x3 x89 H => kn (x3, x89) H) k2) k (x3, x89) H
theorem N31_7_eq (ρ : RO) (call : CallF) (yc : YieldF) (lim k : Nat) (x3 x87 x88 x89 : AV) (H : Heap) (kn : KS) (k2 : KS) (k0 : KS) (R : KR) :
  evL (cx ρ) call yc false 31 lim k (Code.at [1, 1, 1, 0, 1, 0, 1, 1, 1, 1, 1, 1, 1, 0, 1, 0] c31) (sp 101 [(3, x3), (87, x87), (88, x88), (89, x89)]) H (kk (some [3]) kn [(2, (some [3]), k2), (0, (some [3]), k0)] R [2]) = N31_7 ρ call yc lim k x3 x87 x88 x89 H (fun x3 H => k2 (sp 101 [(3, x3)]) H) := by
  have e : Code.at [1, 1, 1, 0, 1, 0, 1, 1, 1, 1, 1, 1, 1, 0, 1, 0] c31 = .loop (Code.at [1, 1, 1, 0, 1, 0, 1, 1, 1, 1, 1, 1, 1, 0, 1, 0, 0] c31) := by kernel_rfl
  rw [e]
  unfold N31_7
  exact loop_node [3, 87, 88, 89] (fun x : AV × AV => (sp 101 [(3, (x.1)), (87, x87), (88, x88), (89, (x.2))])) (fun (x : AV × AV) H kn => N31_7b ρ call yc lim k x.1 x87 x88 x.2 H (fun x3 x89 H => kn (x3, x89) H) (fun x3 H => k2 (sp 101 [(3, x3)]) H)) (by kernel_rfl) (fun x => by kernel_rfl) (fun x H kn => N31_7b_eq ρ call yc lim k (x.1) x87 x88 (x.2) H kn k2 k0 R) (x3, x89) (sp 101 [(3, x3), (87, x87), (88, x88), (89, x89)]) H (by kernel_rfl)
noncomputable def N31_6 (ρ : RO) (call : CallF) (yc : YieldF) (lim k : Nat) (x3 x87 x88 x89 : AV) (H : Heap) (kn : AV → Heap → Res) : Res :=
  N31_7 ρ call yc lim k x3 x87 x88 x89 H kn
theorem N31_6_x (ρ : RO) (call : CallF) (yc : YieldF) (lim k : Nat) (J : CodeF) (x3 x87 x88 x89 : AV) (H : Heap) (kn : KS) (k0 : KS) (R : KR) :
  evX (cx ρ) call yc false 31 lim k J (Code.at [1, 1, 1, 0, 1, 0, 1, 1, 1, 1, 1, 1, 1, 0, 1] c31) (sp 101 [(3, x3), (87, x87), (88, x88), (89, x89)]) H (kk (some [3]) kn [(0, (some [3]), k0)] R [2]) =
  J (Code.at [1, 1, 1, 0, 1, 0, 1, 1, 1, 1, 1, 1, 1, 0, 1, 0] c31) (sp 101 [(3, x3), (87, x87), (88, x88), (89, x89)]) H (kk (some [3]) kn [(2, (some [3]), kn), (0, (some [3]), k0)] R [2]) := by
  kernel_rfl
theorem N31_6_eq (ρ : RO) (call : CallF) (yc : YieldF) (lim k : Nat) (x3 x87 x88 x89 : AV) (H : Heap) (kn : KS) (k0 : KS) (R : KR) :
  evL (cx ρ) call yc false 31 lim k (Code.at [1, 1, 1, 0, 1, 0, 1, 1, 1, 1, 1, 1, 1, 0, 1] c31) (sp 101 [(3, x3), (87, x87), (88, x88), (89, x89)]) H (kk (some [3]) kn [(0, (some [3]), k0)] R [2]) = N31_6 ρ call yc lim k x3 x87 x88 x89 H (fun x3 H => kn (sp 101 [(3, x3)]) H) := by
  rw [evL_X, N31_6_x]
  simp only [← evL_X, N31_6, N31_7_eq]
noncomputable def N31_5 (ρ : RO) (call : CallF) (yc : YieldF) (lim k : Nat) (x1 x3 x23 x73 : AV) (H : Heap) (kn : AV → Heap → Res) : Res :=
  condK x73
  (
  purK (addA 2 x1) fun x79_1 =>
  purK (ld1 ρ H x79_1) fun x80_1 =>
  resK (call lim 48 [x80_1] H) fun x81_1 H =>
  effK H (bldS H 9 1 [.str ByteArray.empty] 1 [(0, 1, x81_1)]) fun x82_1 H =>
  effK H (apA ρ lim H 9 1 16 x3 x82_1) fun x83_1 H =>
  kn x83_1 H)
  (
  purK (binA Tryd.prog H .eql 3 x23 (.int .i64 9)) fun x85_1 =>
  condK x85_1
  (
  purK (addA 7 x1) fun x86_1 =>
  purK (ld1 ρ H x86_1) fun x87_1 =>
  purK (lenS x87_1) fun x88_1 =>
  N31_6 ρ call yc lim k x3 x87_1 x88_1 (.int .i64 0) H kn)
  (
  kn x3 H))
theorem N31_5_x (ρ : RO) (call : CallF) (yc : YieldF) (lim k : Nat) (J : CodeF) (x1 x3 x23 x73 : AV) (H : Heap) (kn : KS) (k0 : KS) (R : KR) :
  evX (cx ρ) call yc false 31 lim k J (Code.at [1, 1, 1, 0, 1, 0, 1, 1, 1, 1, 1] c31) (sp 101 [(1, x1), (3, x3), (23, x23), (73, x73)]) H (kk (some [3]) kn [(0, (some [3]), k0)] R [2]) =
  condK x73
  (
  purK (addA 2 x1) fun x79_1 =>
  purK (ld1 ρ H x79_1) fun x80_1 =>
  resK (call lim 48 [x80_1] H) fun x81_1 H =>
  effK H (bldS H 9 1 [.str ByteArray.empty] 1 [(0, 1, x81_1)]) fun x82_1 H =>
  effK H (apA ρ lim H 9 1 16 x3 x82_1) fun x83_1 H =>
  kn (sp 101 [(3, x83_1)]) H)
  (
  purK (binA Tryd.prog H .eql 3 x23 (.int .i64 9)) fun x85_1 =>
  condK x85_1
  (
  purK (addA 7 x1) fun x86_1 =>
  purK (ld1 ρ H x86_1) fun x87_1 =>
  purK (lenS x87_1) fun x88_1 =>
  J (Code.at [1, 1, 1, 0, 1, 0, 1, 1, 1, 1, 1, 1, 1, 0, 1] c31) (sp 101 [(3, x3), (87, x87_1), (88, x88_1), (89, (.int .i64 0))]) H (kk (some [3]) kn [(0, (some [3]), k0)] R [2]))
  (
  kn (sp 101 [(3, x3)]) H)) := by
  kernel_rfl
theorem N31_5_eq (ρ : RO) (call : CallF) (yc : YieldF) (lim k : Nat) (x1 x3 x23 x73 : AV) (H : Heap) (kn : KS) (k0 : KS) (R : KR) :
  evL (cx ρ) call yc false 31 lim k (Code.at [1, 1, 1, 0, 1, 0, 1, 1, 1, 1, 1] c31) (sp 101 [(1, x1), (3, x3), (23, x23), (73, x73)]) H (kk (some [3]) kn [(0, (some [3]), k0)] R [2]) = N31_5 ρ call yc lim k x1 x3 x23 x73 H (fun x3 H => kn (sp 101 [(3, x3)]) H) := by
  rw [evL_X, N31_5_x]
  simp only [← evL_X, N31_5, N31_6_eq]
noncomputable def N31_4 (ρ : RO) (call : CallF) (yc : YieldF) (lim k : Nat) (x1 x3 x23 x64 : AV) (H : Heap) (kn : AV → Heap → Res) : Res :=
  condK x64
  (
  purK (addA 1 x1) fun x68_1 =>
  purK (ld1 ρ H x68_1) fun x69_1 =>
  resK (call lim 48 [x69_1] H) fun x70_1 H =>
  effK H (bldS H 9 1 [.str ByteArray.empty] 1 [(0, 1, x70_1)]) fun x71_1 H =>
  effK H (apA ρ lim H 9 1 16 x3 x71_1) fun x72_1 H =>
  kn x72_1 H)
  (
  purK (binA Tryd.prog H .eql 3 x23 (.int .i64 4)) fun x74_1 =>
  condK x74_1
  (
  N31_5 ρ call yc lim k x1 x3 x23 x74_1 H kn)
  (
  purK (binA Tryd.prog H .eql 3 x23 (.int .i64 5)) fun x75_1 =>
  condK x75_1
  (
  N31_5 ρ call yc lim k x1 x3 x23 x75_1 H kn)
  (
  purK (binA Tryd.prog H .eql 3 x23 (.int .i64 6)) fun x76_1 =>
  condK x76_1
  (
  N31_5 ρ call yc lim k x1 x3 x23 x76_1 H kn)
  (
  purK (binA Tryd.prog H .eql 3 x23 (.int .i64 7)) fun x77_1 =>
  N31_5 ρ call yc lim k x1 x3 x23 x77_1 H kn))))
theorem N31_4_x (ρ : RO) (call : CallF) (yc : YieldF) (lim k : Nat) (J : CodeF) (x1 x3 x23 x64 : AV) (H : Heap) (kn : KS) (k0 : KS) (R : KR) :
  evX (cx ρ) call yc false 31 lim k J (Code.at [1, 1, 1, 0, 1, 0, 1, 1, 1] c31) (sp 101 [(1, x1), (3, x3), (23, x23), (64, x64)]) H (kk (some [3]) kn [(0, (some [3]), k0)] R [2]) =
  condK x64
  (
  purK (addA 1 x1) fun x68_1 =>
  purK (ld1 ρ H x68_1) fun x69_1 =>
  resK (call lim 48 [x69_1] H) fun x70_1 H =>
  effK H (bldS H 9 1 [.str ByteArray.empty] 1 [(0, 1, x70_1)]) fun x71_1 H =>
  effK H (apA ρ lim H 9 1 16 x3 x71_1) fun x72_1 H =>
  kn (sp 101 [(3, x72_1)]) H)
  (
  purK (binA Tryd.prog H .eql 3 x23 (.int .i64 4)) fun x74_1 =>
  condK x74_1
  (
  J (Code.at [1, 1, 1, 0, 1, 0, 1, 1, 1, 1, 1] c31) (sp 101 [(1, x1), (3, x3), (23, x23), (73, x74_1)]) H (kk (some [3]) kn [(0, (some [3]), k0)] R [2]))
  (
  purK (binA Tryd.prog H .eql 3 x23 (.int .i64 5)) fun x75_1 =>
  condK x75_1
  (
  J (Code.at [1, 1, 1, 0, 1, 0, 1, 1, 1, 1, 1] c31) (sp 101 [(1, x1), (3, x3), (23, x23), (73, x75_1)]) H (kk (some [3]) kn [(0, (some [3]), k0)] R [2]))
  (
  purK (binA Tryd.prog H .eql 3 x23 (.int .i64 6)) fun x76_1 =>
  condK x76_1
  (
  J (Code.at [1, 1, 1, 0, 1, 0, 1, 1, 1, 1, 1] c31) (sp 101 [(1, x1), (3, x3), (23, x23), (73, x76_1)]) H (kk (some [3]) kn [(0, (some [3]), k0)] R [2]))
  (
  purK (binA Tryd.prog H .eql 3 x23 (.int .i64 7)) fun x77_1 =>
  J (Code.at [1, 1, 1, 0, 1, 0, 1, 1, 1, 1, 1] c31) (sp 101 [(1, x1), (3, x3), (23, x23), (73, x77_1)]) H (kk (some [3]) kn [(0, (some [3]), k0)] R [2]))))) := by
  kernel_rfl
theorem N31_4_eq (ρ : RO) (call : CallF) (yc : YieldF) (lim k : Nat) (x1 x3 x23 x64 : AV) (H : Heap) (kn : KS) (k0 : KS) (R : KR) :
  evL (cx ρ) call yc false 31 lim k (Code.at [1, 1, 1, 0, 1, 0, 1, 1, 1] c31) (sp 101 [(1, x1), (3, x3), (23, x23), (64, x64)]) H (kk (some [3]) kn [(0, (some [3]), k0)] R [2]) = N31_4 ρ call yc lim k x1 x3 x23 x64 H (fun x3 H => kn (sp 101 [(3, x3)]) H) := by
  rw [evL_X, N31_4_x]
  simp only [← evL_X, N31_4, N31_5_eq]
noncomputable def N31_8 (ρ : RO) (call : CallF) (yc : YieldF) (lim k : Nat) (x1 x3 x23 x64 : AV) (H : Heap) (kn : AV → AV → AV → AV → Heap → Res) : Res :=
  condK x64
  (
  kn x1 x3 x23 x64 H)
  (
  purK (binA Tryd.prog H .eql 3 x23 (.int .i64 3)) fun x66_1 =>
  kn x1 x3 x23 x66_1 H)
theorem N31_8_eq (ρ : RO) (call : CallF) (yc : YieldF) (lim k : Nat) (x1 x3 x23 x64 : AV) (H : Heap) (kn : KS) (k0 : KS) (R : KR) :
  evL (cx ρ) call yc false 31 lim k (Code.at [1, 1, 1, 0, 1, 0, 1, 1, 0, 1] c31) (sp 101 [(1, x1), (3, x3), (23, x23), (64, x64)]) H (kk (some [1, 3, 23, 64]) kn [(0, (some [3]), k0)] R [2]) = N31_8 ρ call yc lim k x1 x3 x23 x64 H (fun x1 x3 x23 x64 H => kn (sp 101 [(1, x1), (3, x3), (23, x23), (64, x64)]) H) := by
  kernel_rfl
noncomputable def N31_1 (ρ : RO) (call : CallF) (yc : YieldF) (lim k : Nat) (x1 x3 : AV) (H : Heap) (R : KR) : Res :=
  purK (addA 0 x1) fun x22_1 =>
  purK (ld1 ρ H x22_1) fun x23_1 =>
  purK (binA Tryd.prog H .eql 3 x23_1 (.int .i64 1)) fun x25_1 =>
  condK x25_1
  (
  purK (addA 1 x1) fun x27_1 =>
  purK (ld1 ρ H x27_1) fun x28_1 =>
  purK (addA 3 x1) fun x30_1 =>
  purK (addA 0 x30_1) fun x31_1 =>
  purK (ld1 ρ H x31_1) fun x32_1 =>
  purK (foldsA maxA [x32_1, (.int .i64 0)]) fun x33_1 =>
  purK (foldsA minA [x33_1, (.int .i64 4)]) fun x34_1 =>
  purK (ixR 1 5 (.xp ⟨1, 0, none⟩) x34_1) fun x35_1 =>
  purK (ld1 ρ H x35_1) fun x36_1 =>
  purK (addA 3 x1) fun x37_1 =>
  purK (addA 1 x37_1) fun x38_1 =>
  purK (ld1 ρ H x38_1) fun x39_1 =>
  resK (call lim 48 [x28_1] H) fun x29_1 H => bif (agn (ld1 ρ H x38_1) x39_1 && (agn (ld1 ρ H x35_1) x36_1 && (agn (foldsA minA [x33_1, (.int .i64 4)]) x34_1 && (agn (foldsA maxA [x32_1, (.int .i64 0)]) x33_1 && (agn (ld1 ρ H x31_1) x32_1 && true))))) then
  resK (call lim 10 [x39_1] H) fun x40_1 H => bif (agn (ld1 ρ H x35_1) x36_1 && (agn (foldsA minA [x33_1, (.int .i64 4)]) x34_1 && (agn (foldsA maxA [x32_1, (.int .i64 0)]) x33_1 && (agn (ld1 ρ H x31_1) x32_1 && true)))) then
  mkK H (bldS H 9 1 [.str ByteArray.empty] 3 [(0, 1, x29_1), (1, 1, x36_1), (2, 1, x40_1)]) true fun x41_1 H => bif (agn (ld1 ρ H x38_1) x39_1 && (agn (ld1 ρ H x35_1) x36_1 && (agn (foldsA minA [x33_1, (.int .i64 4)]) x34_1 && (agn (foldsA maxA [x32_1, (.int .i64 0)]) x33_1 && (agn (ld1 ρ H x31_1) x32_1 && (agn (ld1 ρ H x27_1) x28_1 && true)))))) then
  effK H (apA ρ lim H 9 1 16 x3 x41_1) fun x42_1 H =>
  N31_3 ρ call yc lim k x1 x42_1 H (fun x3_2 H =>
  N31_2 ρ call yc lim k x3_2 H R)
  else none
  else none
  else none)
  (
  purK (binA Tryd.prog H .eql 3 x23_1 (.int .i64 2)) fun x65_1 =>
  N31_8 ρ call yc lim k x1 x3 x23_1 x65_1 H (fun x1_1 x3_3 x23_2 x64_1 H =>
  N31_4 ρ call yc lim k x1_1 x3_3 x23_2 x64_1 H (fun x3_4 H =>
  N31_2 ρ call yc lim k x3_4 H R)))
theorem N31_1_x (ρ : RO) (call : CallF) (yc : YieldF) (lim k : Nat) (J : CodeF) (x1 x3 : AV) (H : Heap) (R : KR) :
  evX (cx ρ) call yc false 31 lim k J (Code.at [1, 1, 1] c31) (sp 101 [(1, x1), (3, x3)]) H (kk none (fun s H => R (([2] : List Nat).map fun t => s.getD t (.tup [])) H) [] R [2]) =
  purK (addA 0 x1) fun x22_1 =>
  purK (ld1 ρ H x22_1) fun x23_1 =>
  purK (binA Tryd.prog H .eql 3 x23_1 (.int .i64 1)) fun x25_1 =>
  condK x25_1
  (
  purK (addA 1 x1) fun x27_1 =>
  purK (ld1 ρ H x27_1) fun x28_1 =>
  purK (addA 3 x1) fun x30_1 =>
  purK (addA 0 x30_1) fun x31_1 =>
  purK (ld1 ρ H x31_1) fun x32_1 =>
  purK (foldsA maxA [x32_1, (.int .i64 0)]) fun x33_1 =>
  purK (foldsA minA [x33_1, (.int .i64 4)]) fun x34_1 =>
  purK (ixR 1 5 (.xp ⟨1, 0, none⟩) x34_1) fun x35_1 =>
  purK (ld1 ρ H x35_1) fun x36_1 =>
  purK (addA 3 x1) fun x37_1 =>
  purK (addA 1 x37_1) fun x38_1 =>
  purK (ld1 ρ H x38_1) fun x39_1 =>
  resK (call lim 48 [x28_1] H) fun x29_1 H => bif (agn (ld1 ρ H x38_1) x39_1 && (agn (ld1 ρ H x35_1) x36_1 && (agn (foldsA minA [x33_1, (.int .i64 4)]) x34_1 && (agn (foldsA maxA [x32_1, (.int .i64 0)]) x33_1 && (agn (ld1 ρ H x31_1) x32_1 && true))))) then
  resK (call lim 10 [x39_1] H) fun x40_1 H => bif (agn (ld1 ρ H x35_1) x36_1 && (agn (foldsA minA [x33_1, (.int .i64 4)]) x34_1 && (agn (foldsA maxA [x32_1, (.int .i64 0)]) x33_1 && (agn (ld1 ρ H x31_1) x32_1 && true)))) then
  mkK H (bldS H 9 1 [.str ByteArray.empty] 3 [(0, 1, x29_1), (1, 1, x36_1), (2, 1, x40_1)]) true fun x41_1 H => bif (agn (ld1 ρ H x38_1) x39_1 && (agn (ld1 ρ H x35_1) x36_1 && (agn (foldsA minA [x33_1, (.int .i64 4)]) x34_1 && (agn (foldsA maxA [x32_1, (.int .i64 0)]) x33_1 && (agn (ld1 ρ H x31_1) x32_1 && (agn (ld1 ρ H x27_1) x28_1 && true)))))) then
  effK H (apA ρ lim H 9 1 16 x3 x41_1) fun x42_1 H =>
  J (Code.at [1, 1, 1, 0, 1, 0, 1, 0, 1] c31) (sp 101 [(1, x1), (3, x42_1)]) H (kk (some [3]) (fun s H => J (Code.at [1, 1, 1, 1] c31) s H (kk none (fun s H => R (([2] : List Nat).map fun t => s.getD t (.tup [])) H) [] R [2])) [(0, (some [3]), (fun s H => J (Code.at [1, 1, 1, 1] c31) s H (kk none (fun s H => R (([2] : List Nat).map fun t => s.getD t (.tup [])) H) [] R [2])))] R [2])
  else none
  else none
  else none)
  (
  purK (binA Tryd.prog H .eql 3 x23_1 (.int .i64 2)) fun x65_1 =>
  J (Code.at [1, 1, 1, 0, 1, 0, 1, 1, 0, 1] c31) (sp 101 [(1, x1), (3, x3), (23, x23_1), (64, x65_1)]) H (kk (some [1, 3, 23, 64]) (fun s H => J (Code.at [1, 1, 1, 0, 1, 0, 1, 1, 1] c31) s H (kk (some [3]) (fun s H => J (Code.at [1, 1, 1, 1] c31) s H (kk none (fun s H => R (([2] : List Nat).map fun t => s.getD t (.tup [])) H) [] R [2])) [(0, (some [3]), (fun s H => J (Code.at [1, 1, 1, 1] c31) s H (kk none (fun s H => R (([2] : List Nat).map fun t => s.getD t (.tup [])) H) [] R [2])))] R [2])) [(0, (some [3]), (fun s H => J (Code.at [1, 1, 1, 1] c31) s H (kk none (fun s H => R (([2] : List Nat).map fun t => s.getD t (.tup [])) H) [] R [2])))] R [2])) := by
  kernel_rfl
theorem N31_1_eq (ρ : RO) (call : CallF) (yc : YieldF) (lim k : Nat) (x1 x3 : AV) (H : Heap) (R : KR) :
  evL (cx ρ) call yc false 31 lim k (Code.at [1, 1, 1] c31) (sp 101 [(1, x1), (3, x3)]) H (kk none (fun s H => R (([2] : List Nat).map fun t => s.getD t (.tup [])) H) [] R [2]) = N31_1 ρ call yc lim k x1 x3 H R := by
  rw [evL_X, N31_1_x]
  simp only [← evL_X, N31_1, N31_2_eq, N31_3_eq, N31_4_eq, N31_8_eq]
noncomputable def L31 (ρ : RO) (call : CallF) (yc : YieldF) (lim k : Nat) (x0 : AV) (H : Heap) : Res :=
  effK H (boxA H 43 x0) fun x1 H =>
  effK H (bldS H 9 1 [.str ByteArray.empty] 0 []) fun x6 H =>
  purK (addA 0 x1) fun x7 =>
  purK (ld1 ρ H x7) fun x8 =>
  purK (binA Tryd.prog H .geq 3 x8 (.int .i64 0)) fun x9 =>
  purK (gPur (wantV x9 true) (addA 0 x1)) fun x11 =>
  purK (gPur (wantV x9 true) (ld1 ρ H x11)) fun x12 =>
  purK (gPur (wantV x9 true) (binA Tryd.prog H .lss 3 x12 (.int .i64 11))) fun x13 =>
  purK (pickA x9 x13 (.bool false)) fun x14 =>
  condK x14
  (
  purK (addA 0 x1) fun x16 =>
  purK (ld1 ρ H x16) fun x17 =>
  purK (ixR 1 11 (.xp ⟨0, 0, none⟩) x17) fun x18 =>
  purK (ld1 ρ H x18) fun x19 =>
  effK H (bldS H 9 1 [.str ByteArray.empty] 1 [(0, 1, x19)]) fun x20 H =>
  effK H (apA ρ lim H 9 1 16 x6 x20) fun x21 H =>
  N31_1 ρ call yc lim k x1 x21 H retK)
  (
  N31_1 ρ call yc lim k x1 x6 H retK)
theorem L31_x (ρ : RO) (call : CallF) (yc : YieldF) (lim k : Nat) (J : CodeF) (x0 : AV) (H : Heap) :
  evX (cx ρ) call yc false 31 lim k J c31 [x0, (.tup []), (.tup []), (.tup []), (.tup []), (.tup []), (.tup []), (.tup []), (.tup []), (.tup []), (.tup []), (.tup []), (.tup []), (.tup []), (.tup []), (.tup []), (.tup []), (.tup []), (.tup []), (.tup []), (.tup []), (.tup []), (.tup []), (.tup []), (.tup []), (.tup []), (.tup []), (.tup []), (.tup []), (.tup []), (.tup []), (.tup []), (.tup []), (.tup []), (.tup []), (.tup []), (.tup []), (.tup []), (.tup []), (.tup []), (.tup []), (.tup []), (.tup []), (.tup []), (.tup []), (.tup []), (.tup []), (.tup []), (.tup []), (.tup []), (.tup []), (.tup []), (.tup []), (.tup []), (.tup []), (.tup []), (.tup []), (.tup []), (.tup []), (.tup []), (.tup []), (.tup []), (.tup []), (.tup []), (.tup []), (.tup []), (.tup []), (.tup []), (.tup []), (.tup []), (.tup []), (.tup []), (.tup []), (.tup []), (.tup []), (.tup []), (.tup []), (.tup []), (.tup []), (.tup []), (.tup []), (.tup []), (.tup []), (.tup []), (.tup []), (.tup []), (.tup []), (.tup []), (.tup []), (.tup []), (.tup []), (.tup []), (.tup []), (.tup []), (.tup []), (.tup []), (.tup []), (.tup []), (.tup []), (.tup []), (.tup [])] H (kk none (fun s H => retK (([2] : List Nat).map fun t => s.getD t (.tup [])) H) [] retK [2]) =
  effK H (boxA H 43 x0) fun x1 H =>
  effK H (bldS H 9 1 [.str ByteArray.empty] 0 []) fun x6 H =>
  purK (addA 0 x1) fun x7 =>
  purK (ld1 ρ H x7) fun x8 =>
  purK (binA Tryd.prog H .geq 3 x8 (.int .i64 0)) fun x9 =>
  purK (gPur (wantV x9 true) (addA 0 x1)) fun x11 =>
  purK (gPur (wantV x9 true) (ld1 ρ H x11)) fun x12 =>
  purK (gPur (wantV x9 true) (binA Tryd.prog H .lss 3 x12 (.int .i64 11))) fun x13 =>
  purK (pickA x9 x13 (.bool false)) fun x14 =>
  condK x14
  (
  purK (addA 0 x1) fun x16 =>
  purK (ld1 ρ H x16) fun x17 =>
  purK (ixR 1 11 (.xp ⟨0, 0, none⟩) x17) fun x18 =>
  purK (ld1 ρ H x18) fun x19 =>
  effK H (bldS H 9 1 [.str ByteArray.empty] 1 [(0, 1, x19)]) fun x20 H =>
  effK H (apA ρ lim H 9 1 16 x6 x20) fun x21 H =>
  J (Code.at [1, 1, 1] c31) (sp 101 [(1, x1), (3, x21)]) H (kk none (fun s H => retK (([2] : List Nat).map fun t => s.getD t (.tup [])) H) [] retK [2]))
  (
  J (Code.at [1, 1, 1] c31) (sp 101 [(1, x1), (3, x6)]) H (kk none (fun s H => retK (([2] : List Nat).map fun t => s.getD t (.tup [])) H) [] retK [2])) := by
  kernel_rfl
theorem G31 (ρ : RO) (call : CallF) (yc : YieldF) (lim k : Nat) (x0 : AV) (H : Heap) :
  evL (cx ρ) call yc false 31 lim k c31 [x0, (.tup []), (.tup []), (.tup []), (.tup []), (.tup []), (.tup []), (.tup []), (.tup []), (.tup []), (.tup []), (.tup []), (.tup []), (.tup []), (.tup []), (.tup []), (.tup []), (.tup []), (.tup []), (.tup []), (.tup []), (.tup []), (.tup []), (.tup []), (.tup []), (.tup []), (.tup []), (.tup []), (.tup []), (.tup []), (.tup []), (.tup []), (.tup []), (.tup []), (.tup []), (.tup []), (.tup []), (.tup []), (.tup []), (.tup []), (.tup []), (.tup []), (.tup []), (.tup []), (.tup []), (.tup []), (.tup []), (.tup []), (.tup []), (.tup []), (.tup []), (.tup []), (.tup []), (.tup []), (.tup []), (.tup []), (.tup []), (.tup []), (.tup []), (.tup []), (.tup []), (.tup []), (.tup []), (.tup []), (.tup []), (.tup []), (.tup []), (.tup []), (.tup []), (.tup []), (.tup []), (.tup []), (.tup []), (.tup []), (.tup []), (.tup []), (.tup []), (.tup []), (.tup []), (.tup []), (.tup []), (.tup []), (.tup []), (.tup []), (.tup []), (.tup []), (.tup []), (.tup []), (.tup []), (.tup []), (.tup []), (.tup []), (.tup []), (.tup []), (.tup []), (.tup []), (.tup []), (.tup []), (.tup []), (.tup []), (.tup [])] H (kk none (fun s H => retK (([2] : List Nat).map fun t => s.getD t (.tup [])) H) [] retK [2]) = L31 ρ call yc lim k x0 H := by
  rw [evL_X, L31_x]
  simp only [← evL_X, L31, N31_1_eq]
theorem E31 (ρ : RO) (k lim : Nat) (x0 : AV) (H : Heap) : evCall (cx ρ) (k + 1) lim 31 [x0] H = L31 ρ (evCall (cx ρ) k) (evCY (cx ρ) k).2 lim k x0 H := by
  rw [evCall_body (cx ρ) k lim 31 _ H Tryd.f31 c31 [2] (by kernel_rfl) (by kernel_rfl) (by kernel_rfl) (by kernel_rfl) (by kernel_rfl)]
  exact G31 ρ (evCall (cx ρ) k) (evCY (cx ρ) k).2 lim k x0 H
-- haycroft/script.same
noncomputable def c32 : Code := Code.of Tryd.prog 32
noncomputable def L32 (ρ : RO) (call : CallF) (yc : YieldF) (lim k : Nat) (x0 x1 : AV) (H : Heap) : Res :=
  effK H (boxA H 43 x0) fun x2 H =>
  effK H (boxA H 43 x1) fun x3 H =>
  purK (addA 0 x2) fun x5 =>
  purK (ld1 ρ H x5) fun x6 =>
  purK (addA 0 x3) fun x7 =>
  purK (ld1 ρ H x7) fun x8 =>
  purK (binA Tryd.prog H .eql 3 x6 x8) fun x9 =>
  purK (gPur (wantV x9 true) (addA 1 x2)) fun x11 =>
  purK (gPur (wantV x9 true) (ld1 ρ H x11)) fun x12 =>
  purK (gPur (wantV x9 true) (addA 1 x3)) fun x13 =>
  purK (gPur (wantV x9 true) (ld1 ρ H x13)) fun x14 =>
  purK (gPur (wantV x9 true) (binA Tryd.prog H .eql 3 x12 x14)) fun x15 =>
  purK (pickA x9 x15 (.bool false)) fun x16 =>
  purK (gPur (wantV x16 true) (addA 2 x2)) fun x18 =>
  purK (gPur (wantV x16 true) (ld1 ρ H x18)) fun x19 =>
  purK (gPur (wantV x16 true) (addA 2 x3)) fun x20 =>
  purK (gPur (wantV x16 true) (ld1 ρ H x20)) fun x21 =>
  purK (gPur (wantV x16 true) (binA Tryd.prog H .eql 3 x19 x21)) fun x22 =>
  purK (pickA x16 x22 (.bool false)) fun x23 =>
  purK (gPur (wantV x23 true) (addA 3 x2)) fun x25 =>
  purK (gPur (wantV x23 true) (ldN ρ H 4 x25)) fun x26 =>
  purK (gPur (wantV x23 true) (addA 3 x3)) fun x27 =>
  purK (gPur (wantV x23 true) (ldN ρ H 4 x27)) fun x28 =>
  purK (gPur (wantV x23 true) (binA Tryd.prog H .eql 40 x26 x28)) fun x29 =>
  purK (pickA x23 x29 (.bool false)) fun x30 =>
  purK (gPur (wantV x30 true) (addA 7 x2)) fun x32 =>
  purK (gPur (wantV x30 true) (ld1 ρ H x32)) fun x33 =>
  purK (gPur (wantV x30 true) (addA 7 x3)) fun x34 =>
  purK (gPur (wantV x30 true) (ld1 ρ H x34)) fun x35 =>
  resK (gRes (wantV x30 true) H (call lim 51 [x33, x35] H)) fun x36 H =>
  purK (pickA x30 x36 (.bool false)) fun x37 =>
  retK [x37] H
theorem G32 (ρ : RO) (call : CallF) (yc : YieldF) (lim k : Nat) (x0 x1 : AV) (H : Heap) :
  evL (cx ρ) call yc false 32 lim k c32 [x0, x1, (.tup []), (.tup []), (.tup []), (.tup []), (.tup []), (.tup []), (.tup []), (.tup []), (.tup []), (.tup []), (.tup []), (.tup []), (.tup []), (.tup []), (.tup []), (.tup []), (.tup []), (.tup []), (.tup []), (.tup []), (.tup []), (.tup []), (.tup []), (.tup []), (.tup []), (.tup []), (.tup []), (.tup []), (.tup []), (.tup []), (.tup []), (.tup []), (.tup []), (.tup []), (.tup []), (.tup [])] H (kk none (fun s H => retK (([4] : List Nat).map fun t => s.getD t (.tup [])) H) [] retK [4]) = L32 ρ call yc lim k x0 x1 H := by
  kernel_rfl
theorem E32 (ρ : RO) (k lim : Nat) (x0 x1 : AV) (H : Heap) : evCall (cx ρ) (k + 1) lim 32 [x0, x1] H = L32 ρ (evCall (cx ρ) k) (evCY (cx ρ) k).2 lim k x0 x1 H := by
  rw [evCall_body (cx ρ) k lim 32 _ H Tryd.f32 c32 [4] (by kernel_rfl) (by kernel_rfl) (by kernel_rfl) (by kernel_rfl) (by kernel_rfl)]
  exact G32 ρ (evCall (cx ρ) k) (evCY (cx ρ) k).2 lim k x0 x1 H
-- (*strings.Builder).Len
noncomputable def c33 : Code := Code.of Tryd.prog 33
noncomputable def L33 (ρ : RO) (call : CallF) (yc : YieldF) (lim k : Nat) (x0 : AV) (H : Heap) : Res :=
  purK (nilChkA x0) fun x4 =>
  purK (addA 1 x4) fun x5 =>
  purK (ld1 ρ H x5) fun x6 =>
  purK (lenS x6) fun x7 =>
  retK [x7] H
theorem G33 (ρ : RO) (call : CallF) (yc : YieldF) (lim k : Nat) (x0 : AV) (H : Heap) :
  evL (cx ρ) call yc false 33 lim k c33 [x0, (.tup []), (.tup []), (.tup []), (.tup []), (.tup []), (.tup []), (.tup [])] H (kk none (fun s H => retK (([2] : List Nat).map fun t => s.getD t (.tup [])) H) [] retK [2]) = L33 ρ call yc lim k x0 H := by
  kernel_rfl
theorem E33 (ρ : RO) (k lim : Nat) (x0 : AV) (H : Heap) : evCall (cx ρ) (k + 1) lim 33 [x0] H = L33 ρ (evCall (cx ρ) k) (evCY (cx ρ) k).2 lim k x0 H := by
  rw [evCall_body (cx ρ) k lim 33 _ H Tryd.f33 c33 [2] (by kernel_rfl) (by kernel_rfl) (by kernel_rfl) (by kernel_rfl) (by kernel_rfl)]
  exact G33 ρ (evCall (cx ρ) k) (evCY (cx ρ) k).2 lim k x0 H
-- haycroft/haycroftref27.Small
noncomputable def c34 : Code := Code.of Tryd.prog 34
noncomputable def L34 (ρ : RO) (call : CallF) (yc : YieldF) (lim k : Nat) (x0 : AV) (H : Heap) : Res :=
  purK (binA Tryd.prog H .geq 3 x0 (.int .i64 0)) fun x4 =>
  purK (gPur (wantV x4 true) (some x0)) fun x6 =>
  purK (gPur (wantV x4 true) (binA Tryd.prog H .leq 3 x6 (.int .i64 999999999))) fun x7 =>
  purK (pickA x4 x7 (.bool false)) fun x8 =>
  retK [x8] H
theorem G34 (ρ : RO) (call : CallF) (yc : YieldF) (lim k : Nat) (x0 : AV) (H : Heap) :
  evL (cx ρ) call yc false 34 lim k c34 [x0, (.tup []), (.tup []), (.tup []), (.tup []), (.tup []), (.tup []), (.tup []), (.tup [])] H (kk none (fun s H => retK (([2] : List Nat).map fun t => s.getD t (.tup [])) H) [] retK [2]) = L34 ρ call yc lim k x0 H := by
  kernel_rfl
theorem E34 (ρ : RO) (k lim : Nat) (x0 : AV) (H : Heap) : evCall (cx ρ) (k + 1) lim 34 [x0] H = L34 ρ (evCall (cx ρ) k) (evCY (cx ρ) k).2 lim k x0 H := by
  rw [evCall_body (cx ρ) k lim 34 _ H Tryd.f34 c34 [2] (by kernel_rfl) (by kernel_rfl) (by kernel_rfl) (by kernel_rfl) (by kernel_rfl)]
  exact G34 ρ (evCall (cx ρ) k) (evCY (cx ρ) k).2 lim k x0 H
-- haycroft/haycroftref27.Digits
noncomputable def c35 : Code := Code.of Tryd.prog 35
noncomputable def N35_2b (ρ : RO) (call : CallF) (yc : YieldF) (lim k : Nat) (x0 x3 : AV) (H : Heap) (kn : AV → AV → Heap → Res) (R : KR) : Res :=
  purK (binA Tryd.prog H .rem 38 x0 (.int .u64 10)) fun x5_1 =>
  purK (cvI .u8 x5_1) fun x6_1 =>
  purK (binA Tryd.prog H .add 5 (.int .u8 48) x6_1) fun x7_1 =>
  effK H (bldS H 5 1 [.int .u8 0] 1 [(0, 1, x7_1)]) fun x8_1 H =>
  purK (b2s ρ H x8_1) fun x9_1 =>
  purK (binA Tryd.prog H .add 9 x9_1 x3) fun x11_1 =>
  purK (binA Tryd.prog H .quo 38 x0 (.int .u64 10)) fun x13_1 =>
  purK (binA Tryd.prog H .eql 38 x13_1 (.int .u64 0)) fun x15_1 =>
  condK x15_1
  (
  R [x11_1] H)
  (
  kn x13_1 x11_1 H)
theorem N35_2b_eq (ρ : RO) (call : CallF) (yc : YieldF) (lim k : Nat) (x0 x3 : AV) (H : Heap) (kn : KS) (R : KR) :
  evL (cx ρ) call yc false 35 lim k (Code.at [1, 1, 0, 0] c35) (sp 17 [(0, x0), (3, x3)]) H (kk (some [0, 3]) kn [(0, none, (fun s H => R (([2] : List Nat).map fun t => s.getD t (.tup [])) H))] R [2]) = N35_2b ρ call yc lim k x0 x3 H (fun x0 x3 H => kn (sp 17 [(0, x0), (3, x3)]) H) R := by
  kernel_rfl
noncomputable def N35_2 (ρ : RO) (call : CallF) (yc : YieldF) (lim k : Nat) (x0 x3 : AV) (H : Heap) (R : KR) : Res :=
  loopL (fun (x : AV × AV) H kn => N35_2b ρ call yc lim k x.1 x.2 H (fun x0 x3 H => kn (x0, x3) H) R) k (x0, x3) H
theorem N35_2_eq (ρ : RO) (call : CallF) (yc : YieldF) (lim k : Nat) (x0 x3 : AV) (H : Heap) (R : KR) :
  evL (cx ρ) call yc false 35 lim k (Code.at [1, 1, 0] c35) (sp 17 [(0, x0), (3, x3)]) H (kk none (fun s H => R (([2] : List Nat).map fun t => s.getD t (.tup [])) H) [(0, none, (fun s H => R (([2] : List Nat).map fun t => s.getD t (.tup [])) H))] R [2]) = N35_2 ρ call yc lim k x0 x3 H R := by
  have e : Code.at [1, 1, 0] c35 = .loop (Code.at [1, 1, 0, 0] c35) := by kernel_rfl
  rw [e]
  unfold N35_2
  exact loop_node [0, 3] (fun x : AV × AV => (sp 17 [(0, (x.1)), (3, (x.2))])) (fun (x : AV × AV) H kn => N35_2b ρ call yc lim k x.1 x.2 H (fun x0 x3 H => kn (x0, x3) H) R) (by kernel_rfl) (fun x => by kernel_rfl) (fun x H kn => N35_2b_eq ρ call yc lim k (x.1) (x.2) H kn R) (x0, x3) (sp 17 [(0, x0), (3, x3)]) H (by kernel_rfl)
noncomputable def N35_1 (ρ : RO) (call : CallF) (yc : YieldF) (lim k : Nat) (x0 x3 : AV) (H : Heap) (R : KR) : Res :=
  N35_2 ρ call yc lim k x0 x3 H R
theorem N35_1_x (ρ : RO) (call : CallF) (yc : YieldF) (lim k : Nat) (J : CodeF) (x0 x3 : AV) (H : Heap) (R : KR) :
  evX (cx ρ) call yc false 35 lim k J (Code.at [1, 1] c35) (sp 17 [(0, x0), (3, x3)]) H (kk none (fun s H => R (([2] : List Nat).map fun t => s.getD t (.tup [])) H) [] R [2]) =
  J (Code.at [1, 1, 0] c35) (sp 17 [(0, x0), (3, x3)]) H (kk none (fun s H => R (([2] : List Nat).map fun t => s.getD t (.tup [])) H) [(0, none, (fun s H => R (([2] : List Nat).map fun t => s.getD t (.tup [])) H))] R [2]) := by
  kernel_rfl
theorem N35_1_eq (ρ : RO) (call : CallF) (yc : YieldF) (lim k : Nat) (x0 x3 : AV) (H : Heap) (R : KR) :
  evL (cx ρ) call yc false 35 lim k (Code.at [1, 1] c35) (sp 17 [(0, x0), (3, x3)]) H (kk none (fun s H => R (([2] : List Nat).map fun t => s.getD t (.tup [])) H) [] R [2]) = N35_1 ρ call yc lim k x0 x3 H R := by
  rw [evL_X, N35_1_x]
  simp only [← evL_X, N35_1, N35_2_eq]
noncomputable def L35 (ρ : RO) (call : CallF) (yc : YieldF) (lim k : Nat) (x0 : AV) (H : Heap) : Res :=
  N35_1 ρ call yc lim k x0 (.str (ByteArray.mk #[])) H retK
theorem L35_x (ρ : RO) (call : CallF) (yc : YieldF) (lim k : Nat) (J : CodeF) (x0 : AV) (H : Heap) :
  evX (cx ρ) call yc false 35 lim k J c35 [x0, (.tup []), (.tup []), (.tup []), (.tup []), (.tup []), (.tup []), (.tup []), (.tup []), (.tup []), (.tup []), (.tup []), (.tup []), (.tup []), (.tup []), (.tup []), (.tup [])] H (kk none (fun s H => retK (([2] : List Nat).map fun t => s.getD t (.tup [])) H) [] retK [2]) =
  J (Code.at [1, 1] c35) (sp 17 [(0, x0), (3, (.str (ByteArray.mk #[])))]) H (kk none (fun s H => retK (([2] : List Nat).map fun t => s.getD t (.tup [])) H) [] retK [2]) := by
  kernel_rfl
theorem G35 (ρ : RO) (call : CallF) (yc : YieldF) (lim k : Nat) (x0 : AV) (H : Heap) :
  evL (cx ρ) call yc false 35 lim k c35 [x0, (.tup []), (.tup []), (.tup []), (.tup []), (.tup []), (.tup []), (.tup []), (.tup []), (.tup []), (.tup []), (.tup []), (.tup []), (.tup []), (.tup []), (.tup []), (.tup [])] H (kk none (fun s H => retK (([2] : List Nat).map fun t => s.getD t (.tup [])) H) [] retK [2]) = L35 ρ call yc lim k x0 H := by
  rw [evL_X, L35_x]
  simp only [← evL_X, L35, N35_1_eq]
theorem E35 (ρ : RO) (k lim : Nat) (x0 : AV) (H : Heap) : evCall (cx ρ) (k + 1) lim 35 [x0] H = L35 ρ (evCall (cx ρ) k) (evCY (cx ρ) k).2 lim k x0 H := by
  rw [evCall_body (cx ρ) k lim 35 _ H Tryd.f35 c35 [2] (by kernel_rfl) (by kernel_rfl) (by kernel_rfl) (by kernel_rfl) (by kernel_rfl)]
  exact G35 ρ (evCall (cx ρ) k) (evCY (cx ρ) k).2 lim k x0 H
-- internal/stringslite.Cut
noncomputable def c36 : Code := Code.of Tryd.prog 36
noncomputable def L36 (ρ : RO) (call : CallF) (yc : YieldF) (lim k : Nat) (x0 x1 : AV) (H : Heap) : Res :=
  resK (call lim 52 [x0, x1] H) fun x10 H =>
  purK (binA Tryd.prog H .geq 3 x10 (.int .i64 0)) fun x12 =>
  condK x12
  (
  purK (slT x0 none (some x10)) fun x15 =>
  purK (lenT x1) fun x19 =>
  purK (binA Tryd.prog H .add 3 x10 x19) fun x20 =>
  purK (slT x0 (some x20) none) fun x21 =>
  retK [x15, x21, (.bool true)] H)
  (
  retK [x0, (.str (ByteArray.mk #[])), (.bool false)] H)
theorem G36 (ρ : RO) (call : CallF) (yc : YieldF) (lim k : Nat) (x0 x1 : AV) (H : Heap) :
  evL (cx ρ) call yc false 36 lim k c36 [x0, x1, (.tup []), (.tup []), (.tup []), (.tup []), (.tup []), (.tup []), (.tup []), (.tup []), (.tup []), (.tup []), (.tup []), (.tup []), (.tup []), (.tup []), (.tup []), (.tup []), (.tup []), (.tup []), (.tup []), (.tup []), (.tup [])] H (kk none (fun s H => retK (([4, 5, 6] : List Nat).map fun t => s.getD t (.tup [])) H) [] retK [4, 5, 6]) = L36 ρ call yc lim k x0 x1 H := by
  kernel_rfl
theorem E36 (ρ : RO) (k lim : Nat) (x0 x1 : AV) (H : Heap) : evCall (cx ρ) (k + 1) lim 36 [x0, x1] H = L36 ρ (evCall (cx ρ) k) (evCY (cx ρ) k).2 lim k x0 x1 H := by
  rw [evCall_body (cx ρ) k lim 36 _ H Tryd.f36 c36 [4, 5, 6] (by kernel_rfl) (by kernel_rfl) (by kernel_rfl) (by kernel_rfl) (by kernel_rfl)]
  exact G36 ρ (evCall (cx ρ) k) (evCY (cx ρ) k).2 lim k x0 x1 H
-- strings.Split
noncomputable def c37 : Code := Code.of Tryd.prog 37
noncomputable def L37 (ρ : RO) (call : CallF) (yc : YieldF) (lim k : Nat) (x0 x1 : AV) (H : Heap) : Res :=
  resK (call lim 53 [x0, x1, (.int .i64 0), (.int .i64 (-1))] H) fun x7 H =>
  retK [x7] H
theorem G37 (ρ : RO) (call : CallF) (yc : YieldF) (lim k : Nat) (x0 x1 : AV) (H : Heap) :
  evL (cx ρ) call yc false 37 lim k c37 [x0, x1, (.tup []), (.tup []), (.tup []), (.tup []), (.tup []), (.tup [])] H (kk none (fun s H => retK (([4] : List Nat).map fun t => s.getD t (.tup [])) H) [] retK [4]) = L37 ρ call yc lim k x0 x1 H := by
  kernel_rfl
theorem E37 (ρ : RO) (k lim : Nat) (x0 x1 : AV) (H : Heap) : evCall (cx ρ) (k + 1) lim 37 [x0, x1] H = L37 ρ (evCall (cx ρ) k) (evCY (cx ρ) k).2 lim k x0 x1 H := by
  rw [evCall_body (cx ρ) k lim 37 _ H Tryd.f37 c37 [4] (by kernel_rfl) (by kernel_rfl) (by kernel_rfl) (by kernel_rfl) (by kernel_rfl)]
  exact G37 ρ (evCall (cx ρ) k) (evCY (cx ρ) k).2 lim k x0 x1 H
-- slices.Index[[]string,string]
noncomputable def c38 : Code := Code.of Tryd.prog 38
noncomputable def N38_1 (ρ : RO) (call : CallF) (yc : YieldF) (lim k : Nat) (H : Heap) (R : KR) : Res :=
  R [(.int .i64 (-1))] H
theorem N38_1_eq (ρ : RO) (call : CallF) (yc : YieldF) (lim k : Nat) (H : Heap) (R : KR) :
  evL (cx ρ) call yc false 38 lim k (Code.at [1, 1] c38) (sp 19 []) H (kk none (fun s H => R (([4] : List Nat).map fun t => s.getD t (.tup [])) H) [] R [4]) = N38_1 ρ call yc lim k H R := by
  kernel_rfl
noncomputable def N38_3b (ρ : RO) (call : CallF) (yc : YieldF) (lim k : Nat) (x0 x1 x7 x8 : AV) (H : Heap) (kn : AV → Heap → Res) (k0 : Heap → Res) (R : KR) : Res :=
  purK (binA Tryd.prog H .lss 3 x8 x7) fun x9_1 =>
  condK x9_1
  (
  purK (ixS 1 x0 x8) fun x14_1 =>
  purK (ld1 ρ H x14_1) fun x15_1 =>
  purK (binA Tryd.prog H .eql 9 x1 x15_1) fun x16_1 =>
  condK x16_1
  (
  R [x8] H)
  (
  purK (binA Tryd.prog H .add 3 x8 (.int .i64 1)) fun x18_1 =>
  kn x18_1 H))
  (
  k0 H)
theorem N38_3b_eq (ρ : RO) (call : CallF) (yc : YieldF) (lim k : Nat) (x0 x1 x7 x8 : AV) (H : Heap) (kn : KS) (k0 : KS) (R : KR) :
  evL (cx ρ) call yc false 38 lim k (Code.at [1, 0, 1, 0, 0] c38) (sp 19 [(0, x0), (1, x1), (7, x7), (8, x8)]) H (kk (some [0, 1, 7, 8]) kn [(0, (some []), k0)] R [4]) = N38_3b ρ call yc lim k x0 x1 x7 x8 H (fun x8 H => kn (sp 19 [(0, x0), (1, x1), (7, x7), (8, x8)]) H) (fun H => k0 (sp 19 []) H) R := by
  kernel_rfl
noncomputable def N38_3 (ρ : RO) (call : CallF) (yc : YieldF) (lim k : Nat) (x0 x1 x7 x8 : AV) (H : Heap) (k0 : Heap → Res) (R : KR) : Res :=
  loopL (fun (x : AV) H kn => N38_3b ρ call yc lim k x0 x1 x7 x H (fun x8 H => kn x8 H) k0 R) k x8 H
theorem N38_3_eq (ρ : RO) (call : CallF) (yc : YieldF) (lim k : Nat) (x0 x1 x7 x8 : AV) (H : Heap) (kn : KS) (k0 : KS) (R : KR) :
  evL (cx ρ) call yc false 38 lim k (Code.at [1, 0, 1, 0] c38) (sp 19 [(0, x0), (1, x1), (7, x7), (8, x8)]) H (kk (some []) kn [(0, (some []), k0)] R [4]) = N38_3 ρ call yc lim k x0 x1 x7 x8 H (fun H => k0 (sp 19 []) H) R := by
  have e : Code.at [1, 0, 1, 0] c38 = .loop (Code.at [1, 0, 1, 0, 0] c38) := by kernel_rfl
  rw [e]
  unfold N38_3
  exact loop_node [0, 1, 7, 8] (fun x : AV => (sp 19 [(0, x0), (1, x1), (7, x7), (8, (x))])) (fun (x : AV) H kn => N38_3b ρ call yc lim k x0 x1 x7 x H (fun x8 H => kn x8 H) (fun H => k0 (sp 19 []) H) R) (by kernel_rfl) (fun x => by kernel_rfl) (fun x H kn => N38_3b_eq ρ call yc lim k x0 x1 x7 (x) H kn k0 R) x8 (sp 19 [(0, x0), (1, x1), (7, x7), (8, x8)]) H (by kernel_rfl)
noncomputable def N38_2 (ρ : RO) (call : CallF) (yc : YieldF) (lim k : Nat) (x0 x1 x7 x8 : AV) (H : Heap) (kn : Heap → Res) (R : KR) : Res :=
  N38_3 ρ call yc lim k x0 x1 x7 x8 H kn R
theorem N38_2_x (ρ : RO) (call : CallF) (yc : YieldF) (lim k : Nat) (J : CodeF) (x0 x1 x7 x8 : AV) (H : Heap) (kn : KS) (R : KR) :
  evX (cx ρ) call yc false 38 lim k J (Code.at [1, 0, 1] c38) (sp 19 [(0, x0), (1, x1), (7, x7), (8, x8)]) H (kk (some []) kn [] R [4]) =
  J (Code.at [1, 0, 1, 0] c38) (sp 19 [(0, x0), (1, x1), (7, x7), (8, x8)]) H (kk (some []) kn [(0, (some []), kn)] R [4]) := by
  kernel_rfl
theorem N38_2_eq (ρ : RO) (call : CallF) (yc : YieldF) (lim k : Nat) (x0 x1 x7 x8 : AV) (H : Heap) (kn : KS) (R : KR) :
  evL (cx ρ) call yc false 38 lim k (Code.at [1, 0, 1] c38) (sp 19 [(0, x0), (1, x1), (7, x7), (8, x8)]) H (kk (some []) kn [] R [4]) = N38_2 ρ call yc lim k x0 x1 x7 x8 H (fun H => kn (sp 19 []) H) R := by
  rw [evL_X, N38_2_x]
  simp only [← evL_X, N38_2, N38_3_eq]
noncomputable def L38 (ρ : RO) (call : CallF) (yc : YieldF) (lim k : Nat) (x0 x1 : AV) (H : Heap) : Res :=
  purK (lenS x0) fun x7 =>
  N38_2 ρ call yc lim k x0 x1 x7 (.int .i64 0) H (fun H =>
  N38_1 ρ call yc lim k H retK) retK
theorem L38_x (ρ : RO) (call : CallF) (yc : YieldF) (lim k : Nat) (J : CodeF) (x0 x1 : AV) (H : Heap) :
  evX (cx ρ) call yc false 38 lim k J c38 [x0, x1, (.tup []), (.tup []), (.tup []), (.tup []), (.tup []), (.tup []), (.tup []), (.tup []), (.tup []), (.tup []), (.tup []), (.tup []), (.tup []), (.tup []), (.tup []), (.tup []), (.tup [])] H (kk none (fun s H => retK (([4] : List Nat).map fun t => s.getD t (.tup [])) H) [] retK [4]) =
  purK (lenS x0) fun x7 =>
  J (Code.at [1, 0, 1] c38) (sp 19 [(0, x0), (1, x1), (7, x7), (8, (.int .i64 0))]) H (kk (some []) (fun s H => J (Code.at [1, 1] c38) s H (kk none (fun s H => retK (([4] : List Nat).map fun t => s.getD t (.tup [])) H) [] retK [4])) [] retK [4]) := by
  kernel_rfl
theorem G38 (ρ : RO) (call : CallF) (yc : YieldF) (lim k : Nat) (x0 x1 : AV) (H : Heap) :
  evL (cx ρ) call yc false 38 lim k c38 [x0, x1, (.tup []), (.tup []), (.tup []), (.tup []), (.tup []), (.tup []), (.tup []), (.tup []), (.tup []), (.tup []), (.tup []), (.tup []), (.tup []), (.tup []), (.tup []), (.tup []), (.tup [])] H (kk none (fun s H => retK (([4] : List Nat).map fun t => s.getD t (.tup [])) H) [] retK [4]) = L38 ρ call yc lim k x0 x1 H := by
  rw [evL_X, L38_x]
  simp only [← evL_X, L38, N38_1_eq, N38_2_eq]
theorem E38 (ρ : RO) (k lim : Nat) (x0 x1 : AV) (H : Heap) : evCall (cx ρ) (k + 1) lim 38 [x0, x1] H = L38 ρ (evCall (cx ρ) k) (evCY (cx ρ) k).2 lim k x0 x1 H := by
  rw [evCall_body (cx ρ) k lim 38 _ H Tryd.f38 c38 [4] (by kernel_rfl) (by kernel_rfl) (by kernel_rfl) (by kernel_rfl) (by kernel_rfl)]
  exact G38 ρ (evCall (cx ρ) k) (evCY (cx ρ) k).2 lim k x0 x1 H
-- (*haycroft/script.reader).word
noncomputable def c39 : Code := Code.of Tryd.prog 39
noncomputable def N39_1 (ρ : RO) (call : CallF) (yc : YieldF) (lim k : Nat) (x3 : AV) (H : Heap) (R : KR) : Res :=
  R [x3] H
theorem N39_1_eq (ρ : RO) (call : CallF) (yc : YieldF) (lim k : Nat) (x3 : AV) (H : Heap) (R : KR) :
  evL (cx ρ) call yc false 39 lim k (Code.at [1, 1, 1, 1] c39) (sp 28 [(3, x3)]) H (kk none (fun s H => R (([2] : List Nat).map fun t => s.getD t (.tup [])) H) [] R [2]) = N39_1 ρ call yc lim k x3 H R := by
  kernel_rfl
noncomputable def L39 (ρ : RO) (call : CallF) (yc : YieldF) (lim k : Nat) (x0 : AV) (H : Heap) : Res :=
  purK (nilChkA x0) fun x5 =>
  purK (addA 0 x5) fun x6 =>
  purK (ld1 ρ H x6) fun x7 =>
  purK (lenS x7) fun x8 =>
  purK (binA Tryd.prog H .eql 3 x8 (.int .i64 0)) fun x9 =>
  condK x9
  (
  purK (nilChkA x0) fun x11 =>
  purK (addA 1 x11) fun x12 =>
  effK H (stA lim H 1 x12 (.bool true)) fun _ H =>
  retK [(.str (ByteArray.mk #[]))] H)
  (
  purK (nilChkA x0) fun x14 =>
  purK (addA 0 x14) fun x15 =>
  purK (ld1 ρ H x15) fun x16 =>
  purK (ixS 1 x16 (.int .i64 0)) fun x17 =>
  purK (ld1 ρ H x17) fun x18 =>
  purK (nilChkA x0) fun x21 =>
  purK (addA 0 x21) fun x22 =>
  purK (ld1 ρ H x22) fun x23 =>
  purK (slS 1 x23 (some (.int .i64 1)) none none) fun x24 =>
  purK (nilChkA x0) fun x25 =>
  purK (addA 0 x25) fun x26 =>
  effK H (stA lim H 1 x26 x24) fun _ H =>
  N39_1 ρ call yc lim k x18 H retK)
theorem L39_x (ρ : RO) (call : CallF) (yc : YieldF) (lim k : Nat) (J : CodeF) (x0 : AV) (H : Heap) :
  evX (cx ρ) call yc false 39 lim k J c39 [x0, (.tup []), (.tup []), (.tup []), (.tup []), (.tup []), (.tup []), (.tup []), (.tup []), (.tup []), (.tup []), (.tup []), (.tup []), (.tup []), (.tup []), (.tup []), (.tup []), (.tup []), (.tup []), (.tup []), (.tup []), (.tup []), (.tup []), (.tup []), (.tup []), (.tup []), (.tup []), (.tup [])] H (kk none (fun s H => retK (([2] : List Nat).map fun t => s.getD t (.tup [])) H) [] retK [2]) =
  purK (nilChkA x0) fun x5 =>
  purK (addA 0 x5) fun x6 =>
  purK (ld1 ρ H x6) fun x7 =>
  purK (lenS x7) fun x8 =>
  purK (binA Tryd.prog H .eql 3 x8 (.int .i64 0)) fun x9 =>
  condK x9
  (
  purK (nilChkA x0) fun x11 =>
  purK (addA 1 x11) fun x12 =>
  effK H (stA lim H 1 x12 (.bool true)) fun _ H =>
  retK [(.str (ByteArray.mk #[]))] H)
  (
  purK (nilChkA x0) fun x14 =>
  purK (addA 0 x14) fun x15 =>
  purK (ld1 ρ H x15) fun x16 =>
  purK (ixS 1 x16 (.int .i64 0)) fun x17 =>
  purK (ld1 ρ H x17) fun x18 =>
  purK (nilChkA x0) fun x21 =>
  purK (addA 0 x21) fun x22 =>
  purK (ld1 ρ H x22) fun x23 =>
  purK (slS 1 x23 (some (.int .i64 1)) none none) fun x24 =>
  purK (nilChkA x0) fun x25 =>
  purK (addA 0 x25) fun x26 =>
  effK H (stA lim H 1 x26 x24) fun _ H =>
  J (Code.at [1, 1, 1, 1] c39) (sp 28 [(3, x18)]) H (kk none (fun s H => retK (([2] : List Nat).map fun t => s.getD t (.tup [])) H) [] retK [2])) := by
  kernel_rfl
theorem G39 (ρ : RO) (call : CallF) (yc : YieldF) (lim k : Nat) (x0 : AV) (H : Heap) :
  evL (cx ρ) call yc false 39 lim k c39 [x0, (.tup []), (.tup []), (.tup []), (.tup []), (.tup []), (.tup []), (.tup []), (.tup []), (.tup []), (.tup []), (.tup []), (.tup []), (.tup []), (.tup []), (.tup []), (.tup []), (.tup []), (.tup []), (.tup []), (.tup []), (.tup []), (.tup []), (.tup []), (.tup []), (.tup []), (.tup []), (.tup [])] H (kk none (fun s H => retK (([2] : List Nat).map fun t => s.getD t (.tup [])) H) [] retK [2]) = L39 ρ call yc lim k x0 H := by
  rw [evL_X, L39_x]
  simp only [← evL_X, L39, N39_1_eq]
theorem E39 (ρ : RO) (k lim : Nat) (x0 : AV) (H : Heap) : evCall (cx ρ) (k + 1) lim 39 [x0] H = L39 ρ (evCall (cx ρ) k) (evCY (cx ρ) k).2 lim k x0 H := by
  rw [evCall_body (cx ρ) k lim 39 _ H Tryd.f39 c39 [2] (by kernel_rfl) (by kernel_rfl) (by kernel_rfl) (by kernel_rfl) (by kernel_rfl)]
  exact G39 ρ (evCall (cx ρ) k) (evCY (cx ρ) k).2 lim k x0 H
-- (*haycroft/script.reader).number
noncomputable def c40 : Code := Code.of Tryd.prog 40
noncomputable def L40 (ρ : RO) (call : CallF) (yc : YieldF) (lim k : Nat) (x0 : AV) (H : Heap) : Res :=
  resK (call lim 39 [x0] H) fun x7 H =>
  resK (call lim 54 [x7, (.int .u64 999999999)] H) fun x8 H =>
  purK (extA 0 x8) fun x9 =>
  purK (extA 1 x8) fun x10 =>
  purK (nilChkA x0) fun x13 =>
  purK (addA 1 x13) fun x14 =>
  purK (ld1 ρ H x14) fun x15 =>
  purK (gPur (wantV x15 false) (some x10)) fun x17 =>
  purK (gPur (wantV x15 false) (unA .not x17)) fun x18 =>
  purK (pickA x15 (.bool true) x18) fun x19 =>
  purK (nilChkA x0) fun x20 =>
  purK (addA 1 x20) fun x21 =>
  effK H (stA lim H 1 x21 x19) fun _ H =>
  purK (cvI .i64 x9) fun x23 =>
  retK [x23] H
theorem G40 (ρ : RO) (call : CallF) (yc : YieldF) (lim k : Nat) (x0 : AV) (H : Heap) :
  evL (cx ρ) call yc false 40 lim k c40 [x0, (.tup []), (.tup []), (.tup []), (.tup []), (.tup []), (.tup []), (.tup []), (.tup []), (.tup []), (.tup []), (.tup []), (.tup []), (.tup []), (.tup []), (.tup []), (.tup []), (.tup []), (.tup []), (.tup []), (.tup []), (.tup []), (.tup []), (.tup [])] H (kk none (fun s H => retK (([2] : List Nat).map fun t => s.getD t (.tup [])) H) [] retK [2]) = L40 ρ call yc lim k x0 H := by
  kernel_rfl
theorem E40 (ρ : RO) (k lim : Nat) (x0 : AV) (H : Heap) : evCall (cx ρ) (k + 1) lim 40 [x0] H = L40 ρ (evCall (cx ρ) k) (evCY (cx ρ) k).2 lim k x0 H := by
  rw [evCall_body (cx ρ) k lim 40 _ H Tryd.f40 c40 [2] (by kernel_rfl) (by kernel_rfl) (by kernel_rfl) (by kernel_rfl) (by kernel_rfl)]
  exact G40 ρ (evCall (cx ρ) k) (evCY (cx ρ) k).2 lim k x0 H
-- (*haycroft/script.reader).op
noncomputable def c41 : Code := Code.of Tryd.prog 41
noncomputable def N41_1 (ρ : RO) (call : CallF) (yc : YieldF) (lim k : Nat) (x2 x4 : AV) (H : Heap) (R : KR) : Res :=
  purK (ldN ρ H 4 x4) fun x49_1 =>
  effK H (stA lim H 4 x2 x49_1) fun _ H =>
  R [x2] H
theorem N41_1_eq (ρ : RO) (call : CallF) (yc : YieldF) (lim k : Nat) (x2 x4 : AV) (H : Heap) (R : KR) :
  evL (cx ρ) call yc false 41 lim k (Code.at [1, 1, 1, 1] c41) (sp 50 [(2, x2), (4, x4)]) H (kk none (fun s H => R (([2] : List Nat).map fun t => s.getD t (.tup [])) H) [] R [2]) = N41_1 ρ call yc lim k x2 x4 H R := by
  kernel_rfl
noncomputable def N41_2 (ρ : RO) (call : CallF) (yc : YieldF) (lim k : Nat) (x0 x2 x4 x5 x6 : AV) (H : Heap) (kn : AV → AV → Heap → Res) : Res :=
  purK (addA 3 x4) fun x37_1 =>
  effK H (stA lim H 1 x37_1 x5) fun _ H =>
  purK (nilChkA x0) fun x40_1 =>
  purK (addA 1 x40_1) fun x41_1 =>
  purK (ld1 ρ H x41_1) fun x42_1 =>
  purK (gPur (wantV x42_1 false) (some x6)) fun x44_1 =>
  purK (gPur (wantV x42_1 false) (unA .not x44_1)) fun x45_1 =>
  purK (pickA x42_1 (.bool true) x45_1) fun x46_1 =>
  purK (nilChkA x0) fun x47_1 =>
  purK (addA 1 x47_1) fun x48_1 =>
  effK H (stA lim H 1 x48_1 x46_1) fun _ H =>
  kn x2 x4 H
theorem N41_2_eq (ρ : RO) (call : CallF) (yc : YieldF) (lim k : Nat) (x0 x2 x4 x5 x6 : AV) (H : Heap) (kn : KS) (k0 : KS) (R : KR) :
  evL (cx ρ) call yc false 41 lim k (Code.at [1, 1, 1, 0, 1, 0, 1, 1, 1, 1, 1, 0, 1] c41) (sp 50 [(0, x0), (2, x2), (4, x4), (5, x5), (6, x6)]) H (kk (some [2, 4]) kn [(0, (some [2, 4]), k0)] R [2]) = N41_2 ρ call yc lim k x0 x2 x4 x5 x6 H (fun x2 x4 H => kn (sp 50 [(2, x2), (4, x4)]) H) := by
  kernel_rfl
noncomputable def L41 (ρ : RO) (call : CallF) (yc : YieldF) (lim k : Nat) (x0 : AV) (H : Heap) : Res :=
  effK H (some (.ptr H.sz 0 0, .new (newCells 40 false [.int .i64 0, .str ByteArray.empty, .str ByteArray.empty, .int .u64 0]))) fun x2 H =>
  resK (call lim 39 [x0] H) fun x8 H =>
  purK (slR 1 5 (.xp ⟨1, 0, none⟩) none none none) fun x9 =>
  resK (call lim 38 [x9, x8] H) fun x11 H =>
  purK (foldsA maxA [x11, (.int .i64 0)]) fun x12 =>
  resK (call lim 55 [x0] H) fun x14 H =>
  purK (bldA [.int .i64 0, .str ByteArray.empty, .str ByteArray.empty, .int .u64 0] [(0, 1, x12), (1, 1, x14)]) fun x15 =>
  effK H (some (.ptr H.sz 0 0, .new (newCells 40 false [.int .i64 0, .str ByteArray.empty, .str ByteArray.empty, .int .u64 0]))) fun x4 H =>
  effK H (stA lim H 4 x4 x15) fun _ H =>
  purK (addA 0 x4) fun x16 =>
  purK (ld1 ρ H x16) fun x17 =>
  purK (binA Tryd.prog H .eql 3 x17 (.int .i64 0)) fun x19 =>
  condK x19
  (
  purK (nilChkA x0) fun x21 =>
  purK (addA 1 x21) fun x22 =>
  effK H (stA lim H 1 x22 (.bool true)) fun _ H =>
  N41_1 ρ call yc lim k x2 x4 H (retC (cx ρ) [some 40]))
  (
  purK (binA Tryd.prog H .eql 3 x17 (.int .i64 2)) fun x24 =>
  condK x24
  (
  resK (call lim 55 [x0] H) fun x26 H =>
  purK (addA 2 x4) fun x27 =>
  effK H (stA lim H 1 x27 x26) fun _ H =>
  N41_1 ρ call yc lim k x2 x4 H (retC (cx ρ) [some 40]))
  (
  purK (binA Tryd.prog H .eql 3 x17 (.int .i64 3)) fun x29 =>
  condK x29
  (
  resK (call lim 39 [x0] H) fun x32 H =>
  resK (call lim 54 [x32, (.int .u64 18446744073709551615)] H) fun x33 H =>
  purK (extA 0 x33) fun x34 =>
  purK (extA 1 x33) fun x35 =>
  N41_2 ρ call yc lim k x0 x2 x4 x34 x35 H (fun x2_1 x4_1 H =>
  N41_1 ρ call yc lim k x2_1 x4_1 H (retC (cx ρ) [some 40])))
  (
  N41_1 ρ call yc lim k x2 x4 H (retC (cx ρ) [some 40]))))
theorem L41_x (ρ : RO) (call : CallF) (yc : YieldF) (lim k : Nat) (J : CodeF) (x0 : AV) (H : Heap) :
  evX (cx ρ) call yc false 41 lim k J c41 [x0, (.tup []), (.tup []), (.tup []), (.tup []), (.tup []), (.tup []), (.tup []), (.tup []), (.tup []), (.tup []), (.tup []), (.tup []), (.tup []), (.tup []), (.tup []), (.tup []), (.tup []), (.tup []), (.tup []), (.tup []), (.tup []), (.tup []), (.tup []), (.tup []), (.tup []), (.tup []), (.tup []), (.tup []), (.tup []), (.tup []), (.tup []), (.tup []), (.tup []), (.tup []), (.tup []), (.tup []), (.tup []), (.tup []), (.tup []), (.tup []), (.tup []), (.tup []), (.tup []), (.tup []), (.tup []), (.tup []), (.tup []), (.tup []), (.tup [])] H (kk none (fun s H => (retC (cx ρ) [some 40]) (([2] : List Nat).map fun t => s.getD t (.tup [])) H) [] (retC (cx ρ) [some 40]) [2]) =
  effK H (some (.ptr H.sz 0 0, .new (newCells 40 false [.int .i64 0, .str ByteArray.empty, .str ByteArray.empty, .int .u64 0]))) fun x2 H =>
  resK (call lim 39 [x0] H) fun x8 H =>
  purK (slR 1 5 (.xp ⟨1, 0, none⟩) none none none) fun x9 =>
  resK (call lim 38 [x9, x8] H) fun x11 H =>
  purK (foldsA maxA [x11, (.int .i64 0)]) fun x12 =>
  resK (call lim 55 [x0] H) fun x14 H =>
  purK (bldA [.int .i64 0, .str ByteArray.empty, .str ByteArray.empty, .int .u64 0] [(0, 1, x12), (1, 1, x14)]) fun x15 =>
  effK H (some (.ptr H.sz 0 0, .new (newCells 40 false [.int .i64 0, .str ByteArray.empty, .str ByteArray.empty, .int .u64 0]))) fun x4 H =>
  effK H (stA lim H 4 x4 x15) fun _ H =>
  purK (addA 0 x4) fun x16 =>
  purK (ld1 ρ H x16) fun x17 =>
  purK (binA Tryd.prog H .eql 3 x17 (.int .i64 0)) fun x19 =>
  condK x19
  (
  purK (nilChkA x0) fun x21 =>
  purK (addA 1 x21) fun x22 =>
  effK H (stA lim H 1 x22 (.bool true)) fun _ H =>
  J (Code.at [1, 1, 1, 1] c41) (sp 50 [(2, x2), (4, x4)]) H (kk none (fun s H => (retC (cx ρ) [some 40]) (([2] : List Nat).map fun t => s.getD t (.tup [])) H) [] (retC (cx ρ) [some 40]) [2]))
  (
  purK (binA Tryd.prog H .eql 3 x17 (.int .i64 2)) fun x24 =>
  condK x24
  (
  resK (call lim 55 [x0] H) fun x26 H =>
  purK (addA 2 x4) fun x27 =>
  effK H (stA lim H 1 x27 x26) fun _ H =>
  J (Code.at [1, 1, 1, 1] c41) (sp 50 [(2, x2), (4, x4)]) H (kk none (fun s H => (retC (cx ρ) [some 40]) (([2] : List Nat).map fun t => s.getD t (.tup [])) H) [] (retC (cx ρ) [some 40]) [2]))
  (
  purK (binA Tryd.prog H .eql 3 x17 (.int .i64 3)) fun x29 =>
  condK x29
  (
  resK (call lim 39 [x0] H) fun x32 H =>
  resK (call lim 54 [x32, (.int .u64 18446744073709551615)] H) fun x33 H =>
  purK (extA 0 x33) fun x34 =>
  purK (extA 1 x33) fun x35 =>
  J (Code.at [1, 1, 1, 0, 1, 0, 1, 1, 1, 1, 1, 0, 1] c41) (sp 50 [(0, x0), (2, x2), (4, x4), (5, x34), (6, x35)]) H (kk (some [2, 4]) (fun s H => J (Code.at [1, 1, 1, 1] c41) s H (kk none (fun s H => (retC (cx ρ) [some 40]) (([2] : List Nat).map fun t => s.getD t (.tup [])) H) [] (retC (cx ρ) [some 40]) [2])) [(0, (some [2, 4]), (fun s H => J (Code.at [1, 1, 1, 1] c41) s H (kk none (fun s H => (retC (cx ρ) [some 40]) (([2] : List Nat).map fun t => s.getD t (.tup [])) H) [] (retC (cx ρ) [some 40]) [2])))] (retC (cx ρ) [some 40]) [2]))
  (
  J (Code.at [1, 1, 1, 1] c41) (sp 50 [(2, x2), (4, x4)]) H (kk none (fun s H => (retC (cx ρ) [some 40]) (([2] : List Nat).map fun t => s.getD t (.tup [])) H) [] (retC (cx ρ) [some 40]) [2])))) := by
  kernel_rfl
theorem G41 (ρ : RO) (call : CallF) (yc : YieldF) (lim k : Nat) (x0 : AV) (H : Heap) :
  evL (cx ρ) call yc false 41 lim k c41 [x0, (.tup []), (.tup []), (.tup []), (.tup []), (.tup []), (.tup []), (.tup []), (.tup []), (.tup []), (.tup []), (.tup []), (.tup []), (.tup []), (.tup []), (.tup []), (.tup []), (.tup []), (.tup []), (.tup []), (.tup []), (.tup []), (.tup []), (.tup []), (.tup []), (.tup []), (.tup []), (.tup []), (.tup []), (.tup []), (.tup []), (.tup []), (.tup []), (.tup []), (.tup []), (.tup []), (.tup []), (.tup []), (.tup []), (.tup []), (.tup []), (.tup []), (.tup []), (.tup []), (.tup []), (.tup []), (.tup []), (.tup []), (.tup []), (.tup [])] H (kk none (fun s H => (retC (cx ρ) [some 40]) (([2] : List Nat).map fun t => s.getD t (.tup [])) H) [] (retC (cx ρ) [some 40]) [2]) = L41 ρ call yc lim k x0 H := by
  rw [evL_X, L41_x]
  simp only [← evL_X, L41, N41_1_eq, N41_2_eq]
theorem E41 (ρ : RO) (k lim : Nat) (x0 : AV) (H : Heap) : evCall (cx ρ) (k + 1) lim 41 [x0] H = L41 ρ (evCall (cx ρ) k) (evCY (cx ρ) k).2 lim k x0 H := by
  rw [evCall_cells (cx ρ) k lim 41 _ H Tryd.f41 c41 [2] [some 40] (by kernel_rfl) (by kernel_rfl) (by kernel_rfl) (by kernel_rfl) (by kernel_rfl) (by kernel_rfl)]
  exact G41 ρ (evCall (cx ρ) k) (evCY (cx ρ) k).2 lim k x0 H
-- (*strings.Builder).copyCheck
noncomputable def c45 : Code := Code.of Tryd.prog 45
noncomputable def L45 (ρ : RO) (call : CallF) (yc : YieldF) (lim k : Nat) (x0 : AV) (H : Heap) : Res :=
  purK (nilChkA x0) fun x3 =>
  purK (addA 0 x3) fun x4 =>
  purK (ld1 ρ H x4) fun x5 =>
  purK (binA Tryd.prog H .eql 51 x5 .nilp) fun x6 =>
  condK x6
  (
  purK (convXA (cx ρ) H 51 91 x0) fun x9 =>
  resK (call lim 56 [x9] H) fun x10 H =>
  purK (convXA (cx ρ) H 91 51 x10) fun x11 =>
  purK (nilChkA x0) fun x12 =>
  purK (addA 0 x12) fun x13 =>
  effK H (stA lim H 1 x13 x11) fun _ H =>
  retK [] H)
  (
  purK (nilChkA x0) fun x15 =>
  purK (addA 0 x15) fun x16 =>
  purK (ld1 ρ H x16) fun x17 =>
  purK (binA Tryd.prog H .neq 51 x17 x0) fun x19 =>
  condK x19
  (
  none)
  (
  retK [] H))
theorem G45 (ρ : RO) (call : CallF) (yc : YieldF) (lim k : Nat) (x0 : AV) (H : Heap) :
  evL (cx ρ) call yc false 45 lim k c45 [x0, (.tup []), (.tup []), (.tup []), (.tup []), (.tup []), (.tup []), (.tup []), (.tup []), (.tup []), (.tup []), (.tup []), (.tup []), (.tup []), (.tup []), (.tup []), (.tup []), (.tup []), (.tup []), (.tup [])] H (kk none (fun s H => retK (([] : List Nat).map fun t => s.getD t (.tup [])) H) [] retK []) = L45 ρ call yc lim k x0 H := by
  kernel_rfl
theorem E45 (ρ : RO) (k lim : Nat) (x0 : AV) (H : Heap) : evCall (cx ρ) (k + 1) lim 45 [x0] H = L45 ρ (evCall (cx ρ) k) (evCY (cx ρ) k).2 lim k x0 H := by
  rw [evCall_body (cx ρ) k lim 45 _ H Tryd.f45 c45 [] (by kernel_rfl) (by kernel_rfl) (by kernel_rfl) (by kernel_rfl) (by kernel_rfl)]
  exact G45 ρ (evCall (cx ρ) k) (evCY (cx ρ) k).2 lim k x0 H
end Go.Proofs.YtnkeebchblfbgaaDoor
