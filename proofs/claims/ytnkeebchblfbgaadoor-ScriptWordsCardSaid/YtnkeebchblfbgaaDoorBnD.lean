/- Part 4: SwTab Sw0 Sw1 Sw2 Sw3 Sw4. -/
import Derived.Test.YtnkeebchblfbgaaDoorBnB
import Derived.Test.YtnkeebchblfbgaaDoorProg
import Derived.KernelRfl
-- part SwTab
/- The tables of the program: what is live, how draws go. Printed by a program of this repo. -/
set_option linter.unusedVariables false
namespace Go.Proofs.YtnkeebchblfbgaaDoor
open Go.Ev Go.RowKit
def dr : FuncId → Nat → Option (List (Nat × Bool))
  | 11, 11 => some [(0, true), (1, true), (3, true), (4, true), (2, false), (5, false), (6, true), (7, true)]
  | 12, 12 => some [(0, true), (1, true), (2, true), (3, true), (6, true), (7, true), (8, true), (9, true), (4, false), (5, true), (10, false), (11, true), (12, true), (13, true)]
  | 13, 7 => some [(0, true), (1, true), (2, true), (3, true), (4, true), (6, true), (7, true), (8, true), (9, true), (5, false), (10, false), (11, true), (12, false), (13, false)]
  | 16, 23 => some [(0, true), (1, true), (2, true), (3, true), (4, true), (5, true), (6, true), (7, true), (8, true), (9, true), (10, true), (11, true), (12, false), (13, true), (14, false)]
  | 18, 2 => some [(5, true), (0, true), (1, true), (2, false), (3, false), (4, true), (6, false)]
  | 25, 1 => some [(0, true), (1, true), (2, true), (3, true), (5, true), (6, true), (7, true), (8, true), (9, true), (4, false), (10, false), (11, true)]
  | 31, 6 => some [(0, true), (1, true), (2, true), (4, true), (5, true), (6, true), (7, true), (8, true), (9, true), (10, true), (11, true), (12, true), (13, true), (3, false), (14, false), (15, true), (16, false), (17, false)]
  | 74, 0 => some [(0, true), (1, true), (2, true), (3, true), (4, true), (5, true), (6, true), (7, true), (9, true), (10, true), (11, true), (12, true), (13, true), (8, false), (14, true), (15, true)]
  | 90, 1 => some [(0, true), (1, true), (3, true), (2, false), (4, true), (5, false), (6, true)]
  | 91, 1 => some [(0, true), (1, true), (3, true), (2, false), (4, true), (5, false), (6, true)]
  | _, _ => none
def xk : FuncId → Option XK
  | 56 => some (.same)
  | 58 => some (.idxB)
  | 78 => some (.cntB)
  | 86 => some (.nozero #[3] 52)
  | _ => none
def lv4 : Nat → Option (List Nat)
  | 8 => some [0, 1, 5, 6, 7, 8, 9]
  | 11 => some [1, 8, 9]
  | 1000010 => some [1, 8, 9, 62]
  | _ => none
def lv7 : Nat → Option (List Nat)
  | 5 => some [0, 5, 6]
  | 6 => some [0, 5, 6]
  | 11 => some [0, 5, 6, 9, 10, 11]
  | 14 => some [5]
  | _ => none
def lv10 : Nat → Option (List Nat)
  | 4 => some [0, 3, 8, 9]
  | 10 => some [0, 3, 8, 9]
  | 11 => some [3]
  | _ => none
def lv11 : Nat → Option (List Nat)
  | 5 => some [4, 6]
  | 13 => some [4, 6, 7, 8, 9]
  | 18 => some [4, 6, 7]
  | 19 => some [6]
  | _ => none
def lv12 : Nat → Option (List Nat)
  | 5 => some [0, 4, 5]
  | 6 => some [0, 4, 5]
  | 12 => some [0, 4, 5]
  | 16 => some [0, 4, 5]
  | 17 => some [4]
  | 1000011 => some [0, 4, 5, 55]
  | _ => none
def lv13 : Nat → Option (List Nat)
  | 3 => some [0, 3, 4]
  | 4 => some [0, 3, 4]
  | 8 => some [3]
  | _ => none
def lv18 : Nat → Option (List Nat)
  | 17 => some [2, 4, 5]
  | 21 => some [2, 4, 5]
  | 1000004 => some [2, 4, 5, 64]
  | 1000010 => some [2, 4, 5, 16, 28]
  | 1000013 => some [2, 4, 5, 16, 34]
  | 1000015 => some [2, 4, 5, 16, 34]
  | 1000017 => some [2, 4, 5, 16, 42]
  | _ => none
def lv38 : Nat → Option (List Nat)
  | 2 => some [0, 1, 7, 8]
  | 7 => some []
  | _ => none
def lv39 : Nat → Option (List Nat)
  | 6 => some [3]
  | _ => none
def lv41 : Nat → Option (List Nat)
  | 10 => some [0, 2, 4, 5, 6]
  | 12 => some [2, 4]
  | _ => none
def lv52 : Nat → Option (List Nat)
  | 10 => some [0, 1, 5]
  | 12 => some [0, 1, 5, 6, 7]
  | 15 => some [0, 1, 5, 6, 7, 8, 9, 10]
  | 21 => some [0, 1, 5, 6, 7, 8, 9, 10]
  | 23 => some [0, 1, 5, 6, 7, 8, 9, 10]
  | 29 => some []
  | 35 => some []
  | 1000009 => some [0, 1, 5, 36]
  | 1000022 => some [0, 1, 5, 6, 7, 8, 9, 10, 93]
  | 1000028 => some [8, 12, 114]
  | 1000031 => some [0, 1, 5, 6, 7, 8, 9, 10, 132]
  | _ => none
def lv53 : Nat → Option (List Nat)
  | 7 => some [0, 1, 2, 3]
  | 9 => some [0, 1, 2, 3, 9]
  | 11 => some [0, 1, 2, 3, 9, 10]
  | 16 => some [0, 1, 2, 3, 9, 10]
  | 17 => some [0, 9, 10]
  | _ => none
def lv60 : Nat → Option (List Nat)
  | 9 => some [8]
  | _ => none
def lv64 : Nat → Option (List Nat)
  | 5 => some [0, 1, 5, 6, 7, 8, 9]
  | 8 => some [0, 1, 5, 6, 7, 8]
  | 11 => some [0, 1, 5, 6, 7, 8, 10]
  | 15 => some [0, 1, 5, 6, 7, 8, 10]
  | 18 => some []
  | _ => none
def lv65 : Nat → Option (List Nat)
  | 4 => some [0, 1]
  | 6 => some [0, 1, 6, 7]
  | 11 => some [0, 1, 6]
  | 13 => some [6]
  | _ => none
def lv66 : Nat → Option (List Nat)
  | 6 => some [0, 1, 5]
  | _ => none
def lv69 : Nat → Option (List Nat)
  | 8 => some [0, 5, 6]
  | 10 => some [0, 5, 7]
  | 14 => some [0, 1]
  | 15 => some [9]
  | _ => none
def lv72 : Nat → Option (List Nat)
  | 1 => some [0, 1, 4]
  | 7 => some [0, 1, 4, 8, 9, 10, 11]
  | 9 => some [0, 1, 4, 10, 11]
  | 11 => some [0, 1, 4]
  | 12 => some [0, 1, 4]
  | 18 => some [0, 4, 12, 14]
  | 20 => some [0, 4, 12]
  | 23 => some [0, 4, 12, 16]
  | 25 => some [0, 4, 12]
  | _ => none
def lv73 : Nat → Option (List Nat)
  | 3 => some [0, 1, 2, 3, 4, 10, 11]
  | 7 => some [0, 1, 2, 3, 4, 10, 11, 12, 13]
  | 9 => some [0, 1, 2, 3, 4, 10, 11, 12, 13, 14]
  | 11 => some [0, 1, 3, 4, 10, 11, 12, 13, 14, 15, 16]
  | 15 => some [0, 1, 3, 4, 10, 11, 12, 13]
  | 18 => some [0, 1, 3, 4, 10, 11, 12, 13, 17]
  | 23 => some [0, 1, 3, 4, 10, 11, 12, 13]
  | 25 => some [0, 3, 4, 10, 11, 12, 13]
  | 28 => some [0, 4, 10, 11, 12, 13]
  | _ => none
def lv75 : Nat → Option (List Nat)
  | 3 => some [0, 4, 5]
  | 6 => some [0, 4]
  | 8 => some [4, 6, 7, 8]
  | 9 => some [4, 6, 7, 8]
  | 12 => some [4, 6, 7, 8]
  | 13 => some [4, 6]
  | _ => none
def lv76 : Nat → Option (List Nat)
  | 2 => some [2, 4]
  | 4 => some [2]
  | _ => none
def lv79 : Nat → Option (List Nat)
  | 21 => some [0, 1, 2, 8, 9]
  | 25 => some [0, 1, 2, 8, 9]
  | 32 => some [0, 1, 2, 8, 9, 10]
  | 33 => some [0, 1, 8, 9, 10, 11]
  | 36 => some [1, 8, 9, 10, 11, 12, 13, 99, 100, 101]
  | 46 => some [1, 8, 9, 10, 11, 12, 13, 16, 99, 100, 101]
  | 48 => some [1, 8, 9, 10, 11, 12, 13, 16, 99, 100, 101]
  | 54 => some [1, 8, 9, 10, 11, 12, 17, 99, 100, 101]
  | 55 => some [1, 8, 9, 10, 11, 12, 13, 99, 100, 101]
  | 56 => some [9, 12, 13]
  | 1000012 => some [0, 1, 2, 8, 9, 37]
  | 1000019 => some [0, 2, 8, 9, 64]
  | 1000045 => some [1, 8, 9, 10, 11, 12, 13, 15, 99, 100, 101, 121]
  | 1000047 => some [1, 8, 9, 10, 11, 12, 13, 16, 99, 100, 101, 137]
  | 1000053 => some [1, 8, 9, 10, 11, 12, 17, 99, 100, 101, 159]
  | _ => none
def lv82 : Nat → Option (List Nat)
  | 4 => some [0, 2]
  | 7 => some [0, 2]
  | 10 => some [0, 2]
  | _ => none
def lv87 : Nat → Option (List Nat)
  | 9 => some [0, 4, 5, 6]
  | 16 => some [0, 5, 8, 10]
  | 21 => some [0, 5, 8, 10, 11]
  | 26 => some [5, 10, 11, 12]
  | 1000015 => some [0, 5, 8, 10, 57]
  | 1000025 => some [5, 10, 11, 12, 98]
  | _ => none
def lv89 : Nat → Option (List Nat)
  | 5 => some [0, 3, 4]
  | 10 => some [0, 3, 4, 5]
  | 11 => some [0, 3, 4, 5]
  | 14 => some [0, 3, 4, 5]
  | 21 => some [3]
  | 1000007 => some [0, 3, 4, 5, 46]
  | 1000013 => some [0, 3, 4, 5, 83]
  | _ => none
def lv : FuncId → Nat → Option (List Nat)
  | 4 => lv4
  | 7 => lv7
  | 10 => lv10
  | 11 => lv11
  | 12 => lv12
  | 13 => lv13
  | 18 => lv18
  | 38 => lv38
  | 39 => lv39
  | 41 => lv41
  | 52 => lv52
  | 53 => lv53
  | 60 => lv60
  | 64 => lv64
  | 65 => lv65
  | 66 => lv66
  | 69 => lv69
  | 72 => lv72
  | 73 => lv73
  | 75 => lv75
  | 76 => lv76
  | 79 => lv79
  | 82 => lv82
  | 87 => lv87
  | 89 => lv89
  | _ => fun _ => none
noncomputable def cx (ρ : Addr → Option Value) : Ctx := { P := Tryd.prog, ext := xk, ρ := ρ, live := lv, draw := dr, pur := fun _ => false, strict := false }
end Go.Proofs.YtnkeebchblfbgaaDoor

-- part Sw0
/- Functions, lifted. Printed by a program of this repo. -/
set_option linter.unusedVariables false
set_option linter.unusedSimpArgs false
set_option maxRecDepth 100000
set_option maxHeartbeats 4000000
namespace Go.Proofs.YtnkeebchblfbgaaDoor
open Go.Ev Go.RowKit
-- haycroft/haycroftlaw27.ScriptWords
noncomputable def c4 : Code := Code.of Tryd.prog 4
noncomputable def N4_2 (ρ : Addr → Option Value) (call : CallF) (yc : YieldF) (lim k : Nat) (x1 x8 x9 : AV) (H : Heap) (R : List AV → Heap → Res) : Res :=
  purK (binA Tryd.prog H .neq 24 x9 (.int .i64 0)) fun x64_1 =>
  condK x64_1
  (
    purK (binA Tryd.prog H .eql 24 x9 (.int .i64 4)) fun x66_1 =>
    R [x66_1] H)
  (
    resK (call lim 10 [x8] H) fun x68_1 H =>
    purK (binA Tryd.prog H .eql 9 x68_1 x1) fun x70_1 =>
    R [x70_1] H)
theorem N4_2_eq (ρ : Addr → Option Value) (call : CallF) (yc : YieldF) (lim k : Nat) (x1 x8 x9 : AV) (H : Heap) (R : List AV → Heap → Res) :
    evL (cx ρ) call yc false 4 lim k (Code.at [1, 1, 1, 1, 1, 1, 1, 1] c4) (sp 71 [(1, x1), (8, x8), (9, x9)]) H (kk none (fun s H => R (([4] : List Nat).map fun t => s.getD t (.tup [])) H) [] R [4]) = N4_2 ρ call yc lim k x1 x8 x9 H R := by
  kernel_rfl
noncomputable def N4_3 (ρ : Addr → Option Value) (call : CallF) (yc : YieldF) (lim k : Nat) (x1 x8 x9 x62 : AV) (H : Heap) (kn : AV → AV → AV → Heap → Res) (R : List AV → Heap → Res) : Res :=
  condK x62
  (
    R [(.bool false)] H)
  (
    kn x1 x8 x9 H)
theorem N4_3_eq (ρ : Addr → Option Value) (call : CallF) (yc : YieldF) (lim k : Nat) (x1 x8 x9 x62 : AV) (H : Heap) (kn : KS) (R : List AV → Heap → Res) :
    evL (cx ρ) call yc false 4 lim k (Code.at [1, 1, 1, 1, 1, 1, 1, 0, 1] c4) (sp 71 [(1, x1), (8, x8), (9, x9), (62, x62)]) H (kk (some [1, 8, 9]) kn [] R [4]) = N4_3 ρ call yc lim k x1 x8 x9 x62 H (fun x1 x8 x9 H => kn (sp 71 [(1, x1), (8, x8), (9, x9)]) H) R := by
  kernel_rfl
noncomputable def N4_1 (ρ : Addr → Option Value) (call : CallF) (yc : YieldF) (lim k : Nat) (x0 x1 x5 x6 x7 x8 x9 : AV) (H : Heap) (R : List AV → Heap → Res) : Res :=
  resK (call lim 12 [x1] H) fun x36_1 H =>
  purK (extA 0 x36_1) fun x37_1 =>
  purK (extA 1 x36_1) fun x38_1 =>
  resK (call lim 13 [x0] H) fun x41_1 H =>
  purK (binA Tryd.prog H .neq 9 x5 x41_1) fun x42_1 =>
  purK (gPur (wantV x42_1 false) (some x6)) fun x44_1 =>
  purK (gPur (wantV x42_1 false) (some x0)) fun x45_1 =>
  purK (gPur (wantV x42_1 false) (binA Tryd.prog H .neq 9 x44_1 x45_1)) fun x46_1 =>
  purK (pickA x42_1 (.bool true) x46_1) fun x47_1 =>
  purK (gPur (wantV x47_1 false) (some x7)) fun x49_1 =>
  purK (gPur (wantV x47_1 false) (binA Tryd.prog H .neq 24 x49_1 (.int .i64 0))) fun x50_1 =>
  purK (pickA x47_1 (.bool true) x50_1) fun x51_1 =>
  purK (gPur (wantV x51_1 false) (some x8)) fun x53_1 =>
  purK (gPur (wantV x51_1 false) (some x37_1)) fun x54_1 =>
  purK (gPur (wantV x51_1 false) (binA Tryd.prog H .neq 9 x53_1 x54_1)) fun x55_1 =>
  purK (pickA x51_1 (.bool true) x55_1) fun x56_1 =>
  purK (gPur (wantV x56_1 false) (some x9)) fun x58_1 =>
  purK (gPur (wantV x56_1 false) (binA Tryd.prog H .eql 24 x58_1 (.int .i64 0))) fun x59_1 =>
  purK (gPur (wantV x56_1 false) (some x38_1)) fun x60_1 =>
  purK (gPur (wantV x56_1 false) (binA Tryd.prog H .neq 4 x59_1 x60_1)) fun x61_1 =>
  purK (pickA x56_1 (.bool true) x61_1) fun x62_1 =>
  N4_3 ρ call yc lim k x1 x8 x9 x62_1 H (fun x1_1 x8_1 x9_1 H =>
    N4_2 ρ call yc lim k x1_1 x8_1 x9_1 H R) R
theorem N4_1_x (ρ : Addr → Option Value) (call : CallF) (yc : YieldF) (lim k : Nat) (J : CodeF) (x0 x1 x5 x6 x7 x8 x9 : AV) (H : Heap) (R : List AV → Heap → Res) :
    evX (cx ρ) call yc false 4 lim k J (Code.at [1, 1, 1, 1, 1, 1] c4) (sp 71 [(0, x0), (1, x1), (5, x5), (6, x6), (7, x7), (8, x8), (9, x9)]) H (kk none (fun s H => R (([4] : List Nat).map fun t => s.getD t (.tup [])) H) [] R [4]) =
  resK (call lim 12 [x1] H) fun x36_1 H =>
  purK (extA 0 x36_1) fun x37_1 =>
  purK (extA 1 x36_1) fun x38_1 =>
  resK (call lim 13 [x0] H) fun x41_1 H =>
  purK (binA Tryd.prog H .neq 9 x5 x41_1) fun x42_1 =>
  purK (gPur (wantV x42_1 false) (some x6)) fun x44_1 =>
  purK (gPur (wantV x42_1 false) (some x0)) fun x45_1 =>
  purK (gPur (wantV x42_1 false) (binA Tryd.prog H .neq 9 x44_1 x45_1)) fun x46_1 =>
  purK (pickA x42_1 (.bool true) x46_1) fun x47_1 =>
  purK (gPur (wantV x47_1 false) (some x7)) fun x49_1 =>
  purK (gPur (wantV x47_1 false) (binA Tryd.prog H .neq 24 x49_1 (.int .i64 0))) fun x50_1 =>
  purK (pickA x47_1 (.bool true) x50_1) fun x51_1 =>
  purK (gPur (wantV x51_1 false) (some x8)) fun x53_1 =>
  purK (gPur (wantV x51_1 false) (some x37_1)) fun x54_1 =>
  purK (gPur (wantV x51_1 false) (binA Tryd.prog H .neq 9 x53_1 x54_1)) fun x55_1 =>
  purK (pickA x51_1 (.bool true) x55_1) fun x56_1 =>
  purK (gPur (wantV x56_1 false) (some x9)) fun x58_1 =>
  purK (gPur (wantV x56_1 false) (binA Tryd.prog H .eql 24 x58_1 (.int .i64 0))) fun x59_1 =>
  purK (gPur (wantV x56_1 false) (some x38_1)) fun x60_1 =>
  purK (gPur (wantV x56_1 false) (binA Tryd.prog H .neq 4 x59_1 x60_1)) fun x61_1 =>
  purK (pickA x56_1 (.bool true) x61_1) fun x62_1 =>
  J (Code.at [1, 1, 1, 1, 1, 1, 1, 0, 1] c4) (sp 71 [(1, x1), (8, x8), (9, x9), (62, x62_1)]) H (kk (some [1, 8, 9]) (fun s H => J (Code.at [1, 1, 1, 1, 1, 1, 1, 1] c4) s H (kk none (fun s H => R (([4] : List Nat).map fun t => s.getD t (.tup [])) H) [] R [4])) [] R [4]) := by
  kernel_rfl
theorem N4_1_eq (ρ : Addr → Option Value) (call : CallF) (yc : YieldF) (lim k : Nat) (x0 x1 x5 x6 x7 x8 x9 : AV) (H : Heap) (R : List AV → Heap → Res) :
    evL (cx ρ) call yc false 4 lim k (Code.at [1, 1, 1, 1, 1, 1] c4) (sp 71 [(0, x0), (1, x1), (5, x5), (6, x6), (7, x7), (8, x8), (9, x9)]) H (kk none (fun s H => R (([4] : List Nat).map fun t => s.getD t (.tup [])) H) [] R [4]) = N4_1 ρ call yc lim k x0 x1 x5 x6 x7 x8 x9 H R := by
  rw [evL_X, N4_1_x]
  simp only [← evL_X, N4_1, N4_2_eq, N4_3_eq]
noncomputable def L4 (ρ : Addr → Option Value) (call : CallF) (yc : YieldF) (lim k : Nat) (x0 x1 : AV) (H : Heap) : Res :=
  resK (call lim 6 [] H) fun x12 H =>
  purK (unA .not x12) fun x13 =>
  condK x13
  (
    retK [(.bool false)] H)
  (
    purK (lenT x0) fun x15 =>
    purK (binA Tryd.prog H .gtr 3 x15 (.int .i64 1000)) fun x16 =>
    purK (gPur (wantV x16 false) (some x1)) fun x18 =>
    purK (gPur (wantV x16 false) (lenT x18)) fun x19 =>
    purK (gPur (wantV x16 false) (binA Tryd.prog H .gtr 3 x19 (.int .i64 1000))) fun x20 =>
    purK (pickA x16 (.bool true) x20) fun x21 =>
    condK x21
    (
      retK [(.bool true)] H)
    (
      resK (call lim 10 [x0] H) fun x23 H =>
      resK (call lim 11 [x23] H) fun x26 H =>
      purK (extA 0 x26) fun x27 =>
      purK (extA 1 x26) fun x28 =>
      resK (call lim 11 [x1] H) fun x31 H =>
      purK (extA 0 x31) fun x32 =>
      purK (extA 1 x31) fun x33 =>
      N4_1 ρ call yc lim k x0 x1 x23 x27 x28 x32 x33 H retK))
theorem L4_x (ρ : Addr → Option Value) (call : CallF) (yc : YieldF) (lim k : Nat) (J : CodeF) (x0 x1 : AV) (H : Heap) :
    evX (cx ρ) call yc false 4 lim k J c4 [x0, x1, (.tup []), (.tup []), (.tup []), (.tup []), (.tup []), (.tup []), (.tup []), (.tup []), (.tup []), (.tup []), (.tup []), (.tup []), (.tup []), (.tup []), (.tup []), (.tup []), (.tup []), (.tup []), (.tup []), (.tup []), (.tup []), (.tup []), (.tup []), (.tup []), (.tup []), (.tup []), (.tup []), (.tup []), (.tup []), (.tup []), (.tup []), (.tup []), (.tup []), (.tup []), (.tup []), (.tup []), (.tup []), (.tup []), (.tup []), (.tup []), (.tup []), (.tup []), (.tup []), (.tup []), (.tup []), (.tup []), (.tup []), (.tup []), (.tup []), (.tup []), (.tup []), (.tup []), (.tup []), (.tup []), (.tup []), (.tup []), (.tup []), (.tup []), (.tup []), (.tup []), (.tup []), (.tup []), (.tup []), (.tup []), (.tup []), (.tup []), (.tup []), (.tup []), (.tup [])] H (kk none (fun s H => retK (([4] : List Nat).map fun t => s.getD t (.tup [])) H) [] retK [4]) =
  resK (call lim 6 [] H) fun x12 H =>
  purK (unA .not x12) fun x13 =>
  condK x13
  (
    retK [(.bool false)] H)
  (
    purK (lenT x0) fun x15 =>
    purK (binA Tryd.prog H .gtr 3 x15 (.int .i64 1000)) fun x16 =>
    purK (gPur (wantV x16 false) (some x1)) fun x18 =>
    purK (gPur (wantV x16 false) (lenT x18)) fun x19 =>
    purK (gPur (wantV x16 false) (binA Tryd.prog H .gtr 3 x19 (.int .i64 1000))) fun x20 =>
    purK (pickA x16 (.bool true) x20) fun x21 =>
    condK x21
    (
      retK [(.bool true)] H)
    (
      resK (call lim 10 [x0] H) fun x23 H =>
      resK (call lim 11 [x23] H) fun x26 H =>
      purK (extA 0 x26) fun x27 =>
      purK (extA 1 x26) fun x28 =>
      resK (call lim 11 [x1] H) fun x31 H =>
      purK (extA 0 x31) fun x32 =>
      purK (extA 1 x31) fun x33 =>
      J (Code.at [1, 1, 1, 1, 1, 1] c4) (sp 71 [(0, x0), (1, x1), (5, x23), (6, x27), (7, x28), (8, x32), (9, x33)]) H (kk none (fun s H => retK (([4] : List Nat).map fun t => s.getD t (.tup [])) H) [] retK [4]))) := by
  kernel_rfl
theorem G4 (ρ : Addr → Option Value) (call : CallF) (yc : YieldF) (lim k : Nat) (x0 x1 : AV) (H : Heap) :
    evL (cx ρ) call yc false 4 lim k c4 [x0, x1, (.tup []), (.tup []), (.tup []), (.tup []), (.tup []), (.tup []), (.tup []), (.tup []), (.tup []), (.tup []), (.tup []), (.tup []), (.tup []), (.tup []), (.tup []), (.tup []), (.tup []), (.tup []), (.tup []), (.tup []), (.tup []), (.tup []), (.tup []), (.tup []), (.tup []), (.tup []), (.tup []), (.tup []), (.tup []), (.tup []), (.tup []), (.tup []), (.tup []), (.tup []), (.tup []), (.tup []), (.tup []), (.tup []), (.tup []), (.tup []), (.tup []), (.tup []), (.tup []), (.tup []), (.tup []), (.tup []), (.tup []), (.tup []), (.tup []), (.tup []), (.tup []), (.tup []), (.tup []), (.tup []), (.tup []), (.tup []), (.tup []), (.tup []), (.tup []), (.tup []), (.tup []), (.tup []), (.tup []), (.tup []), (.tup []), (.tup []), (.tup []), (.tup []), (.tup [])] H (kk none (fun s H => retK (([4] : List Nat).map fun t => s.getD t (.tup [])) H) [] retK [4]) = L4 ρ call yc lim k x0 x1 H := by
  rw [evL_X, L4_x]
  simp only [← evL_X, L4, N4_1_eq]
theorem E4 (ρ : Addr → Option Value) (k lim : Nat) (x0 x1 : AV) (H : Heap) : evCall (cx ρ) (k + 1) lim 4 [x0, x1] H = L4 ρ (evCall (cx ρ) k) (evCY (cx ρ) k).2 lim k x0 x1 H := by
  rw [evCall_body (cx ρ) k lim 4 _ H Tryd.f4 c4 [4] (by kernel_rfl) (by kernel_rfl) (by kernel_rfl) (by kernel_rfl) (by kernel_rfl)]
  exact G4 ρ (evCall (cx ρ) k) (evCY (cx ρ) k).2 lim k x0 x1 H
-- haycroft/haycroftlaw27.awake
noncomputable def c6 : Code := Code.of Tryd.prog 6
noncomputable def L6 (ρ : Addr → Option Value) (call : CallF) (yc : YieldF) (lim k : Nat) (H : Heap) : Res :=
  resK (call lim 7 [(.str (ByteArray.mk #[97, 115, 107, 32, 48, 32, 97, 100, 100, 32, 61, 107, 32, 53, 10]))] H) fun x7 H =>
  purK (extA 0 x7) fun x8 =>
  purK (extA 1 x7) fun x9 =>
  purK (extA 2 x7) fun x10 =>
  resK (call lim 11 [(.str (ByteArray.mk #[61, 37, 52, 49]))] H) fun x12 H =>
  purK (extA 0 x12) fun x13 =>
  purK (extA 1 x12) fun x14 =>
  purK (lenS x8) fun x16 =>
  purK (binA Tryd.prog H .eql 3 x16 (.int .i64 1)) fun x17 =>
  purK (gPur (wantV x17 true) (some x9)) fun x19 =>
  purK (gPur (wantV x17 true) (binA Tryd.prog H .eql 3 x19 (.int .i64 0))) fun x20 =>
  purK (pickA x17 x20 (.bool false)) fun x21 =>
  purK (gPur (wantV x21 true) (some x10)) fun x23 =>
  purK (gPur (wantV x21 true) (binA Tryd.prog H .eql 24 x23 (.int .i64 0))) fun x24 =>
  purK (pickA x21 x24 (.bool false)) fun x25 =>
  purK (gPur (wantV x25 true) (some x8)) fun x27 =>
  purK (gPur (wantV x25 true) (ixS 8 x27 (.int .i64 0))) fun x28 =>
  purK (gPur (wantV x25 true) (addA 3 x28)) fun x29 =>
  purK (gPur (wantV x25 true) (addA 3 x29)) fun x30 =>
  purK (gPur (wantV x25 true) (ld1 ρ H x30)) fun x31 =>
  purK (gPur (wantV x25 true) (binA Tryd.prog H .eql 38 x31 (.int .u64 5))) fun x32 =>
  purK (pickA x25 x32 (.bool false)) fun x33 =>
  purK (gPur (wantV x33 true) (some x14)) fun x35 =>
  purK (gPur (wantV x33 true) (binA Tryd.prog H .eql 24 x35 (.int .i64 4))) fun x36 =>
  purK (pickA x33 x36 (.bool false)) fun x37 =>
  retK [x37] H
theorem G6 (ρ : Addr → Option Value) (call : CallF) (yc : YieldF) (lim k : Nat) (H : Heap) :
    evL (cx ρ) call yc false 6 lim k c6 [(.tup []), (.tup []), (.tup []), (.tup []), (.tup []), (.tup []), (.tup []), (.tup []), (.tup []), (.tup []), (.tup []), (.tup []), (.tup []), (.tup []), (.tup []), (.tup []), (.tup []), (.tup []), (.tup []), (.tup []), (.tup []), (.tup []), (.tup []), (.tup []), (.tup []), (.tup []), (.tup []), (.tup []), (.tup []), (.tup []), (.tup []), (.tup []), (.tup []), (.tup []), (.tup []), (.tup []), (.tup []), (.tup [])] H (kk none (fun s H => retK (([0] : List Nat).map fun t => s.getD t (.tup [])) H) [] retK [0]) = L6 ρ call yc lim k H := by
  kernel_rfl
theorem E6 (ρ : Addr → Option Value) (k lim : Nat) (H : Heap) : evCall (cx ρ) (k + 1) lim 6 [] H = L6 ρ (evCall (cx ρ) k) (evCY (cx ρ) k).2 lim k H := by
  rw [evCall_body (cx ρ) k lim 6 _ H Tryd.f6 c6 [0] (by kernel_rfl) (by kernel_rfl) (by kernel_rfl) (by kernel_rfl) (by kernel_rfl)]
  exact G6 ρ (evCall (cx ρ) k) (evCY (cx ρ) k).2 lim k H
-- haycroft/script.Parse
noncomputable def c7 : Code := Code.of Tryd.prog 7
noncomputable def N7_1 (ρ : Addr → Option Value) (call : CallF) (yc : YieldF) (lim k : Nat) (x5 : AV) (H : Heap) (R : List AV → Heap → Res) : Res :=
  R [x5, (.int .i64 0), (.int .i64 0)] H
theorem N7_1_eq (ρ : Addr → Option Value) (call : CallF) (yc : YieldF) (lim k : Nat) (x5 : AV) (H : Heap) (R : List AV → Heap → Res) :
    evL (cx ρ) call yc false 7 lim k (Code.at [1, 1, 1, 1] c7) (sp 53 [(5, x5)]) H (kk none (fun s H => R (([2, 3, 4] : List Nat).map fun t => s.getD t (.tup [])) H) [] R [2, 3, 4]) = N7_1 ρ call yc lim k x5 H R := by
  kernel_rfl
noncomputable def N7_4 (ρ : Addr → Option Value) (call : CallF) (yc : YieldF) (lim k : Nat) (x0 x5 x6 : AV) (H : Heap) (kn : AV → AV → AV → Heap → Res) : Res :=
  purK (binA Tryd.prog H .add 3 x6 (.int .i64 1)) fun x18_1 =>
  kn x0 x5 x18_1 H
theorem N7_4_eq (ρ : Addr → Option Value) (call : CallF) (yc : YieldF) (lim k : Nat) (x0 x5 x6 : AV) (H : Heap) (kn : KS) (k0 : KS) (R : List AV → Heap → Res) :
    evL (cx ρ) call yc false 7 lim k (Code.at [1, 1, 1, 0, 1, 0, 0, 1, 1] c7) (sp 53 [(0, x0), (5, x5), (6, x6)]) H (kk (some [0, 5, 6]) kn [(0, (some [5]), k0)] R [2, 3, 4]) = N7_4 ρ call yc lim k x0 x5 x6 H (fun x0 x5 x6 H => kn (sp 53 [(0, x0), (5, x5), (6, x6)]) H) := by
  kernel_rfl
noncomputable def N7_5 (ρ : Addr → Option Value) (call : CallF) (yc : YieldF) (lim k : Nat) (x0 x5 x6 x9 x10 x11 : AV) (H : Heap) (kn : AV → AV → AV → Heap → Res) (R : List AV → Heap → Res) : Res :=
  purK (unA .not x11) fun x42_1 =>
  purK (gPur (wantV x42_1 false) (some x9)) fun x44_1 =>
  purK (gPur (wantV x42_1 false) (unA .not x44_1)) fun x45_1 =>
  purK (pickA x42_1 (.bool true) x45_1) fun x46_1 =>
  condK x46_1
  (
    R [.nils, x6, (.int .i64 4)] H)
  (
    purK (ldN ρ H 8 x10) fun x49_1 =>
    effK H (bldS H 43 8 [.int .i64 0, .int .i64 0, .int .i64 0, .int .i64 0, .str ByteArray.empty, .str ByteArray.empty, .int .u64 0, .nils] 1 [(0, 8, x49_1)]) fun x50_1 H =>
    effK H (apA ρ lim H 43 8 96 x5 x50_1) fun x51_1 H =>
    kn x0 x51_1 x6 H)
theorem N7_5_eq (ρ : Addr → Option Value) (call : CallF) (yc : YieldF) (lim k : Nat) (x0 x5 x6 x9 x10 x11 : AV) (H : Heap) (kn : KS) (k1 : KS) (k0 : KS) (R : List AV → Heap → Res) :
    evL (cx ρ) call yc false 7 lim k (Code.at [1, 1, 1, 0, 1, 0, 0, 1, 0, 0, 1, 1, 1, 1] c7) (sp 53 [(0, x0), (5, x5), (6, x6), (9, x9), (10, x10), (11, x11)]) H (kk (some [0, 5, 6]) kn [(1, (some [0, 5, 6]), k1), (0, (some [5]), k0)] R [2, 3, 4]) = N7_5 ρ call yc lim k x0 x5 x6 x9 x10 x11 H (fun x0 x5 x6 H => kn (sp 53 [(0, x0), (5, x5), (6, x6)]) H) R := by
  kernel_rfl
noncomputable def N7_3b (ρ : Addr → Option Value) (call : CallF) (yc : YieldF) (lim k : Nat) (x0 x5 x6 : AV) (H : Heap) (kn : AV → AV → AV → Heap → Res) (k0 : AV → Heap → Res) (R : List AV → Heap → Res) : Res :=
  purK (binA Tryd.prog H .neq 9 x0 (.str (ByteArray.mk #[]))) fun x16_1 =>
  condK x16_1
  (
    resK (call lim 17 [x0, (.str (ByteArray.mk #[10]))] H) fun x21_1 H =>
    purK (extA 0 x21_1) fun x22_1 =>
    purK (extA 1 x21_1) fun x23_1 =>
    purK (extA 2 x21_1) fun x24_1 =>
    purK (gPur (wantV x24_1 true) (some x22_1)) fun x28_1 =>
    purK (gPur (wantV x24_1 true) (binA Tryd.prog H .eql 9 x28_1 (.str (ByteArray.mk #[])))) fun x29_1 =>
    purK (gPur (wantV x24_1 true) (some x29_1)) fun x30_1 =>
    purK (gPur (wantV x30_1 false) (some x22_1)) fun x31_1 =>
    purK (gPur (wantV x30_1 false) (ixT x31_1 (.int .i64 0))) fun x32_1 =>
    purK (gPur (wantV x30_1 false) (binA Tryd.prog H .eql 5 x32_1 (.int .u8 35))) fun x33_1 =>
    purK (gPur (wantV x24_1 true) (pickA x30_1 (.bool true) x33_1)) fun x34_1 =>
    purK (pickA x24_1 x34_1 (.bool false)) fun x35_1 =>
    condK x35_1
    (
      N7_4 ρ call yc lim k x23_1 x5 x6 H kn)
    (
      resK (call lim 18 [x22_1] H) fun x38_1 H =>
      purK (extA 0 x38_1) fun x39_1 =>
      purK (extA 1 x38_1) fun x40_1 =>
      effK H (some (.ptr H.sz 0 0, .new (newCells 43 false [.int .i64 0, .int .i64 0, .int .i64 0, .int .i64 0, .str ByteArray.empty, .str ByteArray.empty, .int .u64 0, .nils]))) fun x10_1 H =>
      effK H (stA lim H 8 x10_1 x39_1) fun _ H =>
      N7_5 ρ call yc lim k x23_1 x5 x6 x24_1 x10_1 x40_1 H (fun x0_1 x5_1 x6_1 H =>
        N7_4 ρ call yc lim k x0_1 x5_1 x6_1 H kn) R))
  (
    k0 x5 H)
theorem N7_3b_x (ρ : Addr → Option Value) (call : CallF) (yc : YieldF) (lim k : Nat) (J : CodeF) (x0 x5 x6 : AV) (H : Heap) (kn : KS) (k0 : KS) (R : List AV → Heap → Res) :
    evX (cx ρ) call yc false 7 lim k J (Code.at [1, 1, 1, 0, 1, 0, 0] c7) (sp 53 [(0, x0), (5, x5), (6, x6)]) H (kk (some [0, 5, 6]) kn [(0, (some [5]), k0)] R [2, 3, 4]) =
  purK (binA Tryd.prog H .neq 9 x0 (.str (ByteArray.mk #[]))) fun x16_1 =>
  condK x16_1
  (
    resK (call lim 17 [x0, (.str (ByteArray.mk #[10]))] H) fun x21_1 H =>
    purK (extA 0 x21_1) fun x22_1 =>
    purK (extA 1 x21_1) fun x23_1 =>
    purK (extA 2 x21_1) fun x24_1 =>
    purK (gPur (wantV x24_1 true) (some x22_1)) fun x28_1 =>
    purK (gPur (wantV x24_1 true) (binA Tryd.prog H .eql 9 x28_1 (.str (ByteArray.mk #[])))) fun x29_1 =>
    purK (gPur (wantV x24_1 true) (some x29_1)) fun x30_1 =>
    purK (gPur (wantV x30_1 false) (some x22_1)) fun x31_1 =>
    purK (gPur (wantV x30_1 false) (ixT x31_1 (.int .i64 0))) fun x32_1 =>
    purK (gPur (wantV x30_1 false) (binA Tryd.prog H .eql 5 x32_1 (.int .u8 35))) fun x33_1 =>
    purK (gPur (wantV x24_1 true) (pickA x30_1 (.bool true) x33_1)) fun x34_1 =>
    purK (pickA x24_1 x34_1 (.bool false)) fun x35_1 =>
    condK x35_1
    (
      J (Code.at [1, 1, 1, 0, 1, 0, 0, 1, 1] c7) (sp 53 [(0, x23_1), (5, x5), (6, x6)]) H (kk (some [0, 5, 6]) kn [(0, (some [5]), k0)] R [2, 3, 4]))
    (
      resK (call lim 18 [x22_1] H) fun x38_1 H =>
      purK (extA 0 x38_1) fun x39_1 =>
      purK (extA 1 x38_1) fun x40_1 =>
      effK H (some (.ptr H.sz 0 0, .new (newCells 43 false [.int .i64 0, .int .i64 0, .int .i64 0, .int .i64 0, .str ByteArray.empty, .str ByteArray.empty, .int .u64 0, .nils]))) fun x10_1 H =>
      effK H (stA lim H 8 x10_1 x39_1) fun _ H =>
      J (Code.at [1, 1, 1, 0, 1, 0, 0, 1, 0, 0, 1, 1, 1, 1] c7) (sp 53 [(0, x23_1), (5, x5), (6, x6), (9, x24_1), (10, x10_1), (11, x40_1)]) H (kk (some [0, 5, 6]) (fun s H => J (Code.at [1, 1, 1, 0, 1, 0, 0, 1, 1] c7) s H (kk (some [0, 5, 6]) kn [(0, (some [5]), k0)] R [2, 3, 4])) [(1, (some [0, 5, 6]), (fun s H => J (Code.at [1, 1, 1, 0, 1, 0, 0, 1, 1] c7) s H (kk (some [0, 5, 6]) kn [(0, (some [5]), k0)] R [2, 3, 4]))), (0, (some [5]), k0)] R [2, 3, 4])))
  (
    k0 (sp 53 [(5, x5)]) H) := by
  kernel_rfl
theorem N7_3b_eq (ρ : Addr → Option Value) (call : CallF) (yc : YieldF) (lim k : Nat) (x0 x5 x6 : AV) (H : Heap) (kn : KS) (k0 : KS) (R : List AV → Heap → Res) :
    evL (cx ρ) call yc false 7 lim k (Code.at [1, 1, 1, 0, 1, 0, 0] c7) (sp 53 [(0, x0), (5, x5), (6, x6)]) H (kk (some [0, 5, 6]) kn [(0, (some [5]), k0)] R [2, 3, 4]) = N7_3b ρ call yc lim k x0 x5 x6 H (fun x0 x5 x6 H => kn (sp 53 [(0, x0), (5, x5), (6, x6)]) H) (fun x5 H => k0 (sp 53 [(5, x5)]) H) R := by
  rw [evL_X, N7_3b_x]
  simp only [← evL_X, N7_3b, N7_4_eq, N7_5_eq]
noncomputable def N7_3 (ρ : Addr → Option Value) (call : CallF) (yc : YieldF) (lim k : Nat) (x0 x5 x6 : AV) (H : Heap) (k0 : AV → Heap → Res) (R : List AV → Heap → Res) : Res :=
  loopL (fun (x : AV × AV × AV) H kn => N7_3b ρ call yc lim k x.1 x.2.1 x.2.2 H (fun x0 x5 x6 H => kn (x0, x5, x6) H) k0 R) k (x0, x5, x6) H
theorem N7_3_eq (ρ : Addr → Option Value) (call : CallF) (yc : YieldF) (lim k : Nat) (x0 x5 x6 : AV) (H : Heap) (kn : KS) (k0 : KS) (R : List AV → Heap → Res) :
    evL (cx ρ) call yc false 7 lim k (Code.at [1, 1, 1, 0, 1, 0] c7) (sp 53 [(0, x0), (5, x5), (6, x6)]) H (kk (some [5]) kn [(0, (some [5]), k0)] R [2, 3, 4]) = N7_3 ρ call yc lim k x0 x5 x6 H (fun x5 H => k0 (sp 53 [(5, x5)]) H) R := by
  have e : Code.at [1, 1, 1, 0, 1, 0] c7 = .loop (Code.at [1, 1, 1, 0, 1, 0, 0] c7) := by kernel_rfl
  rw [e]
  unfold N7_3
  exact loop_node [0, 5, 6] (fun x : AV × AV × AV => (sp 53 [(0, (x.1)), (5, (x.2.1)), (6, (x.2.2))])) (fun (x : AV × AV × AV) H kn => N7_3b ρ call yc lim k x.1 x.2.1 x.2.2 H (fun x0 x5 x6 H => kn (x0, x5, x6) H) (fun x5 H => k0 (sp 53 [(5, x5)]) H) R) (by kernel_rfl) (fun x => by kernel_rfl) (fun x H kn => N7_3b_eq ρ call yc lim k (x.1) (x.2.1) (x.2.2) H kn k0 R) (x0, x5, x6) (sp 53 [(0, x0), (5, x5), (6, x6)]) H (by kernel_rfl)
noncomputable def N7_2 (ρ : Addr → Option Value) (call : CallF) (yc : YieldF) (lim k : Nat) (x0 x5 x6 : AV) (H : Heap) (kn : AV → Heap → Res) (R : List AV → Heap → Res) : Res :=
  N7_3 ρ call yc lim k x0 x5 x6 H kn R
theorem N7_2_x (ρ : Addr → Option Value) (call : CallF) (yc : YieldF) (lim k : Nat) (J : CodeF) (x0 x5 x6 : AV) (H : Heap) (kn : KS) (R : List AV → Heap → Res) :
    evX (cx ρ) call yc false 7 lim k J (Code.at [1, 1, 1, 0, 1] c7) (sp 53 [(0, x0), (5, x5), (6, x6)]) H (kk (some [5]) kn [] R [2, 3, 4]) =
  J (Code.at [1, 1, 1, 0, 1, 0] c7) (sp 53 [(0, x0), (5, x5), (6, x6)]) H (kk (some [5]) kn [(0, (some [5]), kn)] R [2, 3, 4]) := by
  kernel_rfl
theorem N7_2_eq (ρ : Addr → Option Value) (call : CallF) (yc : YieldF) (lim k : Nat) (x0 x5 x6 : AV) (H : Heap) (kn : KS) (R : List AV → Heap → Res) :
    evL (cx ρ) call yc false 7 lim k (Code.at [1, 1, 1, 0, 1] c7) (sp 53 [(0, x0), (5, x5), (6, x6)]) H (kk (some [5]) kn [] R [2, 3, 4]) = N7_2 ρ call yc lim k x0 x5 x6 H (fun x5 H => kn (sp 53 [(5, x5)]) H) R := by
  rw [evL_X, N7_2_x]
  simp only [← evL_X, N7_2, N7_3_eq]
noncomputable def L7 (ρ : Addr → Option Value) (call : CallF) (yc : YieldF) (lim k : Nat) (x0 : AV) (H : Heap) : Res :=
  purK (lenT x0) fun x13 =>
  purK (binA Tryd.prog H .gtr 3 x13 (.int .i64 100000)) fun x14 =>
  condK x14
  (
    retK [.nils, (.int .i64 0), (.int .i64 5)] H)
  (
    N7_2 ρ call yc lim k x0 .nils (.int .i64 1) H (fun x5 H =>
      N7_1 ρ call yc lim k x5 H retK) retK)
theorem L7_x (ρ : Addr → Option Value) (call : CallF) (yc : YieldF) (lim k : Nat) (J : CodeF) (x0 : AV) (H : Heap) :
    evX (cx ρ) call yc false 7 lim k J c7 [x0, (.tup []), (.tup []), (.tup []), (.tup []), (.tup []), (.tup []), (.tup []), (.tup []), (.tup []), (.tup []), (.tup []), (.tup []), (.tup []), (.tup []), (.tup []), (.tup []), (.tup []), (.tup []), (.tup []), (.tup []), (.tup []), (.tup []), (.tup []), (.tup []), (.tup []), (.tup []), (.tup []), (.tup []), (.tup []), (.tup []), (.tup []), (.tup []), (.tup []), (.tup []), (.tup []), (.tup []), (.tup []), (.tup []), (.tup []), (.tup []), (.tup []), (.tup []), (.tup []), (.tup []), (.tup []), (.tup []), (.tup []), (.tup []), (.tup []), (.tup []), (.tup []), (.tup [])] H (kk none (fun s H => retK (([2, 3, 4] : List Nat).map fun t => s.getD t (.tup [])) H) [] retK [2, 3, 4]) =
  purK (lenT x0) fun x13 =>
  purK (binA Tryd.prog H .gtr 3 x13 (.int .i64 100000)) fun x14 =>
  condK x14
  (
    retK [.nils, (.int .i64 0), (.int .i64 5)] H)
  (
    J (Code.at [1, 1, 1, 0, 1] c7) (sp 53 [(0, x0), (5, .nils), (6, (.int .i64 1))]) H (kk (some [5]) (fun s H => J (Code.at [1, 1, 1, 1] c7) s H (kk none (fun s H => retK (([2, 3, 4] : List Nat).map fun t => s.getD t (.tup [])) H) [] retK [2, 3, 4])) [] retK [2, 3, 4])) := by
  kernel_rfl
theorem G7 (ρ : Addr → Option Value) (call : CallF) (yc : YieldF) (lim k : Nat) (x0 : AV) (H : Heap) :
    evL (cx ρ) call yc false 7 lim k c7 [x0, (.tup []), (.tup []), (.tup []), (.tup []), (.tup []), (.tup []), (.tup []), (.tup []), (.tup []), (.tup []), (.tup []), (.tup []), (.tup []), (.tup []), (.tup []), (.tup []), (.tup []), (.tup []), (.tup []), (.tup []), (.tup []), (.tup []), (.tup []), (.tup []), (.tup []), (.tup []), (.tup []), (.tup []), (.tup []), (.tup []), (.tup []), (.tup []), (.tup []), (.tup []), (.tup []), (.tup []), (.tup []), (.tup []), (.tup []), (.tup []), (.tup []), (.tup []), (.tup []), (.tup []), (.tup []), (.tup []), (.tup []), (.tup []), (.tup []), (.tup []), (.tup []), (.tup [])] H (kk none (fun s H => retK (([2, 3, 4] : List Nat).map fun t => s.getD t (.tup [])) H) [] retK [2, 3, 4]) = L7 ρ call yc lim k x0 H := by
  rw [evL_X, L7_x]
  simp only [← evL_X, L7, N7_1_eq, N7_2_eq]
theorem E7 (ρ : Addr → Option Value) (k lim : Nat) (x0 : AV) (H : Heap) : evCall (cx ρ) (k + 1) lim 7 [x0] H = L7 ρ (evCall (cx ρ) k) (evCY (cx ρ) k).2 lim k x0 H := by
  rw [evCall_body (cx ρ) k lim 7 _ H Tryd.f7 c7 [2, 3, 4] (by kernel_rfl) (by kernel_rfl) (by kernel_rfl) (by kernel_rfl) (by kernel_rfl)]
  exact G7 ρ (evCall (cx ρ) k) (evCY (cx ρ) k).2 lim k x0 H
-- haycroft/script.Quote
noncomputable def c10 : Code := Code.of Tryd.prog 10
noncomputable def N10_1 (ρ : Addr → Option Value) (call : CallF) (yc : YieldF) (lim k : Nat) (x3 : AV) (H : Heap) (R : List AV → Heap → Res) : Res :=
  resK (call lim 25 [x3] H) fun x35_1 H =>
  R [x35_1] H
theorem N10_1_eq (ρ : Addr → Option Value) (call : CallF) (yc : YieldF) (lim k : Nat) (x3 : AV) (H : Heap) (R : List AV → Heap → Res) :
    evL (cx ρ) call yc false 10 lim k (Code.at [1, 1, 1, 1] c10) (sp 36 [(3, x3)]) H (kk none (fun s H => R (([2] : List Nat).map fun t => s.getD t (.tup [])) H) [] R [2]) = N10_1 ρ call yc lim k x3 H R := by
  kernel_rfl
noncomputable def N10_4 (ρ : Addr → Option Value) (call : CallF) (yc : YieldF) (lim k : Nat) (x0 x3 x8 x9 : AV) (H : Heap) (kn : AV → Heap → Res) : Res :=
  purK (binA Tryd.prog H .add 3 x9 (.int .i64 1)) fun x34_1 =>
  kn x34_1 H
theorem N10_4_eq (ρ : Addr → Option Value) (call : CallF) (yc : YieldF) (lim k : Nat) (x0 x3 x8 x9 : AV) (H : Heap) (kn : KS) (k0 : KS) (R : List AV → Heap → Res) :
    evL (cx ρ) call yc false 10 lim k (Code.at [1, 1, 1, 0, 1, 0, 0, 1, 1, 1] c10) (sp 36 [(0, x0), (3, x3), (8, x8), (9, x9)]) H (kk (some [0, 3, 8, 9]) kn [(0, (some [3]), k0)] R [2]) = N10_4 ρ call yc lim k x0 x3 x8 x9 H (fun x9 H => kn (sp 36 [(0, x0), (3, x3), (8, x8), (9, x9)]) H) := by
  kernel_rfl
noncomputable def N10_3b (ρ : Addr → Option Value) (call : CallF) (yc : YieldF) (lim k : Nat) (x0 x3 x8 x9 : AV) (H : Heap) (kn : AV → Heap → Res) (k0 : AV → Heap → Res) : Res :=
  purK (binA Tryd.prog H .lss 3 x9 x8) fun x10_1 =>
  condK x10_1
  (
    purK (ixT x0 x9) fun x14_1 =>
    resK (call lim 23 [x14_1] H) fun x16_1 H =>
    condK x16_1
    (
      resK (call lim 22 [x3, x14_1] H) fun x18_1 H =>
      N10_4 ρ call yc lim k x0 x3 x8 x9 H kn)
    (
      purK (binA Tryd.prog H .shr 5 x14_1 (.int .u64 4)) fun x20_1 =>
      purK (binA Tryd.prog H .shr 5 x14_1 (.int .u64 4)) fun x22_1 =>
      purK (binA Tryd.prog H .add 5 x22_1 (.int .u8 1)) fun x23_1 =>
      purK (slT (.str (ByteArray.mk #[48, 49, 50, 51, 52, 53, 54, 55, 56, 57, 65, 66, 67, 68, 69, 70])) (some x20_1) (some x23_1)) fun x24_1 =>
      purK (binA Tryd.prog H .add 9 (.str (ByteArray.mk #[37])) x24_1) fun x25_1 =>
      purK (binA Tryd.prog H .and 5 x14_1 (.int .u8 15)) fun x27_1 =>
      purK (binA Tryd.prog H .and 5 x14_1 (.int .u8 15)) fun x29_1 =>
      purK (binA Tryd.prog H .add 5 x29_1 (.int .u8 1)) fun x30_1 =>
      purK (slT (.str (ByteArray.mk #[48, 49, 50, 51, 52, 53, 54, 55, 56, 57, 65, 66, 67, 68, 69, 70])) (some x27_1) (some x30_1)) fun x31_1 =>
      purK (binA Tryd.prog H .add 9 x25_1 x31_1) fun x32_1 =>
      resK (call lim 24 [x3, x32_1] H) fun x33_1 H =>
      N10_4 ρ call yc lim k x0 x3 x8 x9 H kn))
  (
    k0 x3 H)
theorem N10_3b_x (ρ : Addr → Option Value) (call : CallF) (yc : YieldF) (lim k : Nat) (J : CodeF) (x0 x3 x8 x9 : AV) (H : Heap) (kn : KS) (k0 : KS) (R : List AV → Heap → Res) :
    evX (cx ρ) call yc false 10 lim k J (Code.at [1, 1, 1, 0, 1, 0, 0] c10) (sp 36 [(0, x0), (3, x3), (8, x8), (9, x9)]) H (kk (some [0, 3, 8, 9]) kn [(0, (some [3]), k0)] R [2]) =
  purK (binA Tryd.prog H .lss 3 x9 x8) fun x10_1 =>
  condK x10_1
  (
    purK (ixT x0 x9) fun x14_1 =>
    resK (call lim 23 [x14_1] H) fun x16_1 H =>
    condK x16_1
    (
      resK (call lim 22 [x3, x14_1] H) fun x18_1 H =>
      J (Code.at [1, 1, 1, 0, 1, 0, 0, 1, 1, 1] c10) (sp 36 [(0, x0), (3, x3), (8, x8), (9, x9)]) H (kk (some [0, 3, 8, 9]) kn [(0, (some [3]), k0)] R [2]))
    (
      purK (binA Tryd.prog H .shr 5 x14_1 (.int .u64 4)) fun x20_1 =>
      purK (binA Tryd.prog H .shr 5 x14_1 (.int .u64 4)) fun x22_1 =>
      purK (binA Tryd.prog H .add 5 x22_1 (.int .u8 1)) fun x23_1 =>
      purK (slT (.str (ByteArray.mk #[48, 49, 50, 51, 52, 53, 54, 55, 56, 57, 65, 66, 67, 68, 69, 70])) (some x20_1) (some x23_1)) fun x24_1 =>
      purK (binA Tryd.prog H .add 9 (.str (ByteArray.mk #[37])) x24_1) fun x25_1 =>
      purK (binA Tryd.prog H .and 5 x14_1 (.int .u8 15)) fun x27_1 =>
      purK (binA Tryd.prog H .and 5 x14_1 (.int .u8 15)) fun x29_1 =>
      purK (binA Tryd.prog H .add 5 x29_1 (.int .u8 1)) fun x30_1 =>
      purK (slT (.str (ByteArray.mk #[48, 49, 50, 51, 52, 53, 54, 55, 56, 57, 65, 66, 67, 68, 69, 70])) (some x27_1) (some x30_1)) fun x31_1 =>
      purK (binA Tryd.prog H .add 9 x25_1 x31_1) fun x32_1 =>
      resK (call lim 24 [x3, x32_1] H) fun x33_1 H =>
      J (Code.at [1, 1, 1, 0, 1, 0, 0, 1, 1, 1] c10) (sp 36 [(0, x0), (3, x3), (8, x8), (9, x9)]) H (kk (some [0, 3, 8, 9]) kn [(0, (some [3]), k0)] R [2])))
  (
    k0 (sp 36 [(3, x3)]) H) := by
  kernel_rfl
theorem N10_3b_eq (ρ : Addr → Option Value) (call : CallF) (yc : YieldF) (lim k : Nat) (x0 x3 x8 x9 : AV) (H : Heap) (kn : KS) (k0 : KS) (R : List AV → Heap → Res) :
    evL (cx ρ) call yc false 10 lim k (Code.at [1, 1, 1, 0, 1, 0, 0] c10) (sp 36 [(0, x0), (3, x3), (8, x8), (9, x9)]) H (kk (some [0, 3, 8, 9]) kn [(0, (some [3]), k0)] R [2]) = N10_3b ρ call yc lim k x0 x3 x8 x9 H (fun x9 H => kn (sp 36 [(0, x0), (3, x3), (8, x8), (9, x9)]) H) (fun x3 H => k0 (sp 36 [(3, x3)]) H) := by
  rw [evL_X, N10_3b_x]
  simp only [← evL_X, N10_3b, N10_4_eq]
noncomputable def N10_3 (ρ : Addr → Option Value) (call : CallF) (yc : YieldF) (lim k : Nat) (x0 x3 x8 x9 : AV) (H : Heap) (k0 : AV → Heap → Res) : Res :=
  loopL (fun (x : AV) H kn => N10_3b ρ call yc lim k x0 x3 x8 x H (fun x9 H => kn x9 H) k0) k x9 H
theorem N10_3_eq (ρ : Addr → Option Value) (call : CallF) (yc : YieldF) (lim k : Nat) (x0 x3 x8 x9 : AV) (H : Heap) (kn : KS) (k0 : KS) (R : List AV → Heap → Res) :
    evL (cx ρ) call yc false 10 lim k (Code.at [1, 1, 1, 0, 1, 0] c10) (sp 36 [(0, x0), (3, x3), (8, x8), (9, x9)]) H (kk (some [3]) kn [(0, (some [3]), k0)] R [2]) = N10_3 ρ call yc lim k x0 x3 x8 x9 H (fun x3 H => k0 (sp 36 [(3, x3)]) H) := by
  have e : Code.at [1, 1, 1, 0, 1, 0] c10 = .loop (Code.at [1, 1, 1, 0, 1, 0, 0] c10) := by kernel_rfl
  rw [e]
  unfold N10_3
  exact loop_node [0, 3, 8, 9] (fun x : AV => (sp 36 [(0, x0), (3, x3), (8, x8), (9, (x))])) (fun (x : AV) H kn => N10_3b ρ call yc lim k x0 x3 x8 x H (fun x9 H => kn x9 H) (fun x3 H => k0 (sp 36 [(3, x3)]) H)) (by kernel_rfl) (fun x => by kernel_rfl) (fun x H kn => N10_3b_eq ρ call yc lim k x0 x3 x8 (x) H kn k0 R) x9 (sp 36 [(0, x0), (3, x3), (8, x8), (9, x9)]) H (by kernel_rfl)
noncomputable def N10_2 (ρ : Addr → Option Value) (call : CallF) (yc : YieldF) (lim k : Nat) (x0 x3 x8 x9 : AV) (H : Heap) (kn : AV → Heap → Res) : Res :=
  N10_3 ρ call yc lim k x0 x3 x8 x9 H kn
theorem N10_2_x (ρ : Addr → Option Value) (call : CallF) (yc : YieldF) (lim k : Nat) (J : CodeF) (x0 x3 x8 x9 : AV) (H : Heap) (kn : KS) (R : List AV → Heap → Res) :
    evX (cx ρ) call yc false 10 lim k J (Code.at [1, 1, 1, 0, 1] c10) (sp 36 [(0, x0), (3, x3), (8, x8), (9, x9)]) H (kk (some [3]) kn [] R [2]) =
  J (Code.at [1, 1, 1, 0, 1, 0] c10) (sp 36 [(0, x0), (3, x3), (8, x8), (9, x9)]) H (kk (some [3]) kn [(0, (some [3]), kn)] R [2]) := by
  kernel_rfl
theorem N10_2_eq (ρ : Addr → Option Value) (call : CallF) (yc : YieldF) (lim k : Nat) (x0 x3 x8 x9 : AV) (H : Heap) (kn : KS) (R : List AV → Heap → Res) :
    evL (cx ρ) call yc false 10 lim k (Code.at [1, 1, 1, 0, 1] c10) (sp 36 [(0, x0), (3, x3), (8, x8), (9, x9)]) H (kk (some [3]) kn [] R [2]) = N10_2 ρ call yc lim k x0 x3 x8 x9 H (fun x3 H => kn (sp 36 [(3, x3)]) H) := by
  rw [evL_X, N10_2_x]
  simp only [← evL_X, N10_2, N10_3_eq]
noncomputable def L10 (ρ : Addr → Option Value) (call : CallF) (yc : YieldF) (lim k : Nat) (x0 : AV) (H : Heap) : Res :=
  effK H (some (.ptr H.sz 0 0, .new (newCells 54 false [.nilp, .nils]))) fun x3 H =>
  resK (call lim 22 [x3, (.int .u8 61)] H) fun x6 H =>
  purK (lenT x0) fun x8 =>
  N10_2 ρ call yc lim k x0 x3 x8 (.int .i64 0) H (fun x3_1 H =>
    N10_1 ρ call yc lim k x3_1 H retK)
theorem L10_x (ρ : Addr → Option Value) (call : CallF) (yc : YieldF) (lim k : Nat) (J : CodeF) (x0 : AV) (H : Heap) :
    evX (cx ρ) call yc false 10 lim k J c10 [x0, (.tup []), (.tup []), (.tup []), (.tup []), (.tup []), (.tup []), (.tup []), (.tup []), (.tup []), (.tup []), (.tup []), (.tup []), (.tup []), (.tup []), (.tup []), (.tup []), (.tup []), (.tup []), (.tup []), (.tup []), (.tup []), (.tup []), (.tup []), (.tup []), (.tup []), (.tup []), (.tup []), (.tup []), (.tup []), (.tup []), (.tup []), (.tup []), (.tup []), (.tup []), (.tup [])] H (kk none (fun s H => retK (([2] : List Nat).map fun t => s.getD t (.tup [])) H) [] retK [2]) =
  effK H (some (.ptr H.sz 0 0, .new (newCells 54 false [.nilp, .nils]))) fun x3 H =>
  resK (call lim 22 [x3, (.int .u8 61)] H) fun x6 H =>
  purK (lenT x0) fun x8 =>
  J (Code.at [1, 1, 1, 0, 1] c10) (sp 36 [(0, x0), (3, x3), (8, x8), (9, (.int .i64 0))]) H (kk (some [3]) (fun s H => J (Code.at [1, 1, 1, 1] c10) s H (kk none (fun s H => retK (([2] : List Nat).map fun t => s.getD t (.tup [])) H) [] retK [2])) [] retK [2]) := by
  kernel_rfl
theorem G10 (ρ : Addr → Option Value) (call : CallF) (yc : YieldF) (lim k : Nat) (x0 : AV) (H : Heap) :
    evL (cx ρ) call yc false 10 lim k c10 [x0, (.tup []), (.tup []), (.tup []), (.tup []), (.tup []), (.tup []), (.tup []), (.tup []), (.tup []), (.tup []), (.tup []), (.tup []), (.tup []), (.tup []), (.tup []), (.tup []), (.tup []), (.tup []), (.tup []), (.tup []), (.tup []), (.tup []), (.tup []), (.tup []), (.tup []), (.tup []), (.tup []), (.tup []), (.tup []), (.tup []), (.tup []), (.tup []), (.tup []), (.tup []), (.tup [])] H (kk none (fun s H => retK (([2] : List Nat).map fun t => s.getD t (.tup [])) H) [] retK [2]) = L10 ρ call yc lim k x0 H := by
  rw [evL_X, L10_x]
  simp only [← evL_X, L10, N10_1_eq, N10_2_eq]
theorem E10 (ρ : Addr → Option Value) (k lim : Nat) (x0 : AV) (H : Heap) : evCall (cx ρ) (k + 1) lim 10 [x0] H = L10 ρ (evCall (cx ρ) k) (evCY (cx ρ) k).2 lim k x0 H := by
  rw [evCall_body (cx ρ) k lim 10 _ H Tryd.f10 c10 [2] (by kernel_rfl) (by kernel_rfl) (by kernel_rfl) (by kernel_rfl) (by kernel_rfl)]
  exact G10 ρ (evCall (cx ρ) k) (evCY (cx ρ) k).2 lim k x0 H
-- haycroft/script.Unquote
noncomputable def c11 : Code := Code.of Tryd.prog 11
noncomputable def N11_2 (ρ : Addr → Option Value) (call : CallF) (yc : YieldF) (lim k : Nat) (x6 : AV) (H : Heap) (R : List AV → Heap → Res) : Res :=
  resK (call lim 25 [x6] H) fun x56_1 H =>
  R [x56_1, (.int .i64 0)] H
theorem N11_2_eq (ρ : Addr → Option Value) (call : CallF) (yc : YieldF) (lim k : Nat) (x6 : AV) (H : Heap) (R : List AV → Heap → Res) :
    evL (cx ρ) call yc false 11 lim k (Code.at [1, 1, 1, 1, 1] c11) (sp 57 [(6, x6)]) H (kk none (fun s H => R (([2, 3] : List Nat).map fun t => s.getD t (.tup [])) H) [] R [2, 3]) = N11_2 ρ call yc lim k x6 H R := by
  kernel_rfl
noncomputable def N11_4 (ρ : Addr → Option Value) (call : CallF) (yc : YieldF) (lim k : Nat) (x4 x6 x7 : AV) (H : Heap) (kn : AV → Heap → Res) : Res :=
  resK (call lim 22 [x6, x7] H) fun x55_1 H =>
  kn x4 H
theorem N11_4_eq (ρ : Addr → Option Value) (call : CallF) (yc : YieldF) (lim k : Nat) (x4 x6 x7 : AV) (H : Heap) (kn : KS) (k1 : KS) (k0 : KS) (R : List AV → Heap → Res) :
    evL (cx ρ) call yc false 11 lim k (Code.at [1, 1, 1, 1, 0, 0, 0, 1, 0, 1, 1, 1] c11) (sp 57 [(4, x4), (6, x6), (7, x7)]) H (kk (some [4, 6]) kn [(1, (some [4, 6]), k1), (0, (some [6]), k0)] R [2, 3]) = N11_4 ρ call yc lim k x4 x6 x7 H (fun x4 H => kn (sp 57 [(4, x4), (6, x6)]) H) := by
  kernel_rfl
noncomputable def N11_5 (ρ : Addr → Option Value) (call : CallF) (yc : YieldF) (lim k : Nat) (x4 x6 x7 x8 x9 : AV) (H : Heap) (kn : AV → AV → Heap → Res) (R : List AV → Heap → Res) : Res :=
  purK (binA Tryd.prog H .lss 3 x8 (.int .i64 0)) fun x40_1 =>
  purK (gPur (wantV x40_1 false) (some x9)) fun x42_1 =>
  purK (gPur (wantV x40_1 false) (binA Tryd.prog H .lss 3 x42_1 (.int .i64 0))) fun x43_1 =>
  purK (pickA x40_1 (.bool true) x43_1) fun x44_1 =>
  purK (gPur (wantV x44_1 false) (some x7)) fun x46_1 =>
  resK (gRes (wantV x44_1 false) H (call lim 23 [x46_1] H)) fun x47_1 H =>
  purK (pickA x44_1 (.bool true) x47_1) fun x48_1 =>
  condK x48_1
  (
    R [(.str (ByteArray.mk #[])), (.int .i64 4)] H)
  (
    purK (slT x4 (some (.int .i64 2)) none) fun x50_1 =>
    kn x50_1 x7 H)
theorem N11_5_eq (ρ : Addr → Option Value) (call : CallF) (yc : YieldF) (lim k : Nat) (x4 x6 x7 x8 x9 : AV) (H : Heap) (kn : KS) (k1 : KS) (k0 : KS) (R : List AV → Heap → Res) :
    evL (cx ρ) call yc false 11 lim k (Code.at [1, 1, 1, 1, 0, 0, 0, 1, 0, 1, 1, 0, 1, 0, 1, 1, 1] c11) (sp 57 [(4, x4), (6, x6), (7, x7), (8, x8), (9, x9)]) H (kk (some [4, 6, 7]) kn [(1, (some [4, 6]), k1), (0, (some [6]), k0)] R [2, 3]) = N11_5 ρ call yc lim k x4 x6 x7 x8 x9 H (fun x4 x7 H => kn (sp 57 [(4, x4), (6, x6), (7, x7)]) H) R := by
  kernel_rfl
noncomputable def N11_3b (ρ : Addr → Option Value) (call : CallF) (yc : YieldF) (lim k : Nat) (x4 x6 : AV) (H : Heap) (kn : AV → Heap → Res) (k0 : AV → Heap → Res) (R : List AV → Heap → Res) : Res :=
  purK (binA Tryd.prog H .neq 9 x4 (.str (ByteArray.mk #[]))) fun x18_1 =>
  condK x18_1
  (
    purK (ixT x4 (.int .i64 0)) fun x20_1 =>
    purK (slT x4 (some (.int .i64 1)) none) fun x22_1 =>
    purK (binA Tryd.prog H .eql 5 x20_1 (.int .u8 37)) fun x24_1 =>
    condK x24_1
    (
      purK (lenT x22_1) fun x26_1 =>
      purK (binA Tryd.prog H .lss 3 x26_1 (.int .i64 2)) fun x27_1 =>
      condK x27_1
      (
        R [(.str (ByteArray.mk #[])), (.int .i64 4)] H)
      (
        purK (ixT x22_1 (.int .i64 0)) fun x29_1 =>
        purK (ixT x22_1 (.int .i64 1)) fun x32_1 =>
        resK (call lim 27 [(.str (ByteArray.mk #[48, 49, 50, 51, 52, 53, 54, 55, 56, 57, 65, 66, 67, 68, 69, 70])), x29_1] H) fun x30_1 H =>
        resK (call lim 27 [(.str (ByteArray.mk #[48, 49, 50, 51, 52, 53, 54, 55, 56, 57, 65, 66, 67, 68, 69, 70])), x32_1] H) fun x33_1 H =>
        purK (binA Tryd.prog H .shl 3 x30_1 (.int .u64 4)) fun x35_1 =>
        purK (binA Tryd.prog H .or 3 x35_1 x33_1) fun x37_1 =>
        purK (cvI .u8 x37_1) fun x38_1 =>
        N11_5 ρ call yc lim k x22_1 x6 x38_1 x30_1 x33_1 H (fun x4_1 x7_1 H =>
          N11_4 ρ call yc lim k x4_1 x6 x7_1 H kn) R))
    (
      resK (call lim 23 [x20_1] H) fun x52_1 H =>
      purK (unA .not x52_1) fun x53_1 =>
      condK x53_1
      (
        R [(.str (ByteArray.mk #[])), (.int .i64 4)] H)
      (
        N11_4 ρ call yc lim k x22_1 x6 x20_1 H kn)))
  (
    k0 x6 H)
theorem N11_3b_x (ρ : Addr → Option Value) (call : CallF) (yc : YieldF) (lim k : Nat) (J : CodeF) (x4 x6 : AV) (H : Heap) (kn : KS) (k0 : KS) (R : List AV → Heap → Res) :
    evX (cx ρ) call yc false 11 lim k J (Code.at [1, 1, 1, 1, 0, 0, 0] c11) (sp 57 [(4, x4), (6, x6)]) H (kk (some [4, 6]) kn [(0, (some [6]), k0)] R [2, 3]) =
  purK (binA Tryd.prog H .neq 9 x4 (.str (ByteArray.mk #[]))) fun x18_1 =>
  condK x18_1
  (
    purK (ixT x4 (.int .i64 0)) fun x20_1 =>
    purK (slT x4 (some (.int .i64 1)) none) fun x22_1 =>
    purK (binA Tryd.prog H .eql 5 x20_1 (.int .u8 37)) fun x24_1 =>
    condK x24_1
    (
      purK (lenT x22_1) fun x26_1 =>
      purK (binA Tryd.prog H .lss 3 x26_1 (.int .i64 2)) fun x27_1 =>
      condK x27_1
      (
        R [(.str (ByteArray.mk #[])), (.int .i64 4)] H)
      (
        purK (ixT x22_1 (.int .i64 0)) fun x29_1 =>
        purK (ixT x22_1 (.int .i64 1)) fun x32_1 =>
        resK (call lim 27 [(.str (ByteArray.mk #[48, 49, 50, 51, 52, 53, 54, 55, 56, 57, 65, 66, 67, 68, 69, 70])), x29_1] H) fun x30_1 H =>
        resK (call lim 27 [(.str (ByteArray.mk #[48, 49, 50, 51, 52, 53, 54, 55, 56, 57, 65, 66, 67, 68, 69, 70])), x32_1] H) fun x33_1 H =>
        purK (binA Tryd.prog H .shl 3 x30_1 (.int .u64 4)) fun x35_1 =>
        purK (binA Tryd.prog H .or 3 x35_1 x33_1) fun x37_1 =>
        purK (cvI .u8 x37_1) fun x38_1 =>
        J (Code.at [1, 1, 1, 1, 0, 0, 0, 1, 0, 1, 1, 0, 1, 0, 1, 1, 1] c11) (sp 57 [(4, x22_1), (6, x6), (7, x38_1), (8, x30_1), (9, x33_1)]) H (kk (some [4, 6, 7]) (fun s H => J (Code.at [1, 1, 1, 1, 0, 0, 0, 1, 0, 1, 1, 1] c11) s H (kk (some [4, 6]) kn [(1, (some [4, 6]), kn), (0, (some [6]), k0)] R [2, 3])) [(1, (some [4, 6]), kn), (0, (some [6]), k0)] R [2, 3])))
    (
      resK (call lim 23 [x20_1] H) fun x52_1 H =>
      purK (unA .not x52_1) fun x53_1 =>
      condK x53_1
      (
        R [(.str (ByteArray.mk #[])), (.int .i64 4)] H)
      (
        J (Code.at [1, 1, 1, 1, 0, 0, 0, 1, 0, 1, 1, 1] c11) (sp 57 [(4, x22_1), (6, x6), (7, x20_1)]) H (kk (some [4, 6]) kn [(1, (some [4, 6]), kn), (0, (some [6]), k0)] R [2, 3]))))
  (
    k0 (sp 57 [(6, x6)]) H) := by
  kernel_rfl
theorem N11_3b_eq (ρ : Addr → Option Value) (call : CallF) (yc : YieldF) (lim k : Nat) (x4 x6 : AV) (H : Heap) (kn : KS) (k0 : KS) (R : List AV → Heap → Res) :
    evL (cx ρ) call yc false 11 lim k (Code.at [1, 1, 1, 1, 0, 0, 0] c11) (sp 57 [(4, x4), (6, x6)]) H (kk (some [4, 6]) kn [(0, (some [6]), k0)] R [2, 3]) = N11_3b ρ call yc lim k x4 x6 H (fun x4 H => kn (sp 57 [(4, x4), (6, x6)]) H) (fun x6 H => k0 (sp 57 [(6, x6)]) H) R := by
  rw [evL_X, N11_3b_x]
  simp only [← evL_X, N11_3b, N11_4_eq, N11_5_eq]
noncomputable def N11_3 (ρ : Addr → Option Value) (call : CallF) (yc : YieldF) (lim k : Nat) (x4 x6 : AV) (H : Heap) (k0 : AV → Heap → Res) (R : List AV → Heap → Res) : Res :=
  loopL (fun (x : AV) H kn => N11_3b ρ call yc lim k x x6 H (fun x4 H => kn x4 H) k0 R) k x4 H
theorem N11_3_eq (ρ : Addr → Option Value) (call : CallF) (yc : YieldF) (lim k : Nat) (x4 x6 : AV) (H : Heap) (kn : KS) (k0 : KS) (R : List AV → Heap → Res) :
    evL (cx ρ) call yc false 11 lim k (Code.at [1, 1, 1, 1, 0, 0] c11) (sp 57 [(4, x4), (6, x6)]) H (kk (some [6]) kn [(0, (some [6]), k0)] R [2, 3]) = N11_3 ρ call yc lim k x4 x6 H (fun x6 H => k0 (sp 57 [(6, x6)]) H) R := by
  have e : Code.at [1, 1, 1, 1, 0, 0] c11 = .loop (Code.at [1, 1, 1, 1, 0, 0, 0] c11) := by kernel_rfl
  rw [e]
  unfold N11_3
  exact loop_node [4, 6] (fun x : AV => (sp 57 [(4, (x)), (6, x6)])) (fun (x : AV) H kn => N11_3b ρ call yc lim k x x6 H (fun x4 H => kn x4 H) (fun x6 H => k0 (sp 57 [(6, x6)]) H) R) (by kernel_rfl) (fun x => by kernel_rfl) (fun x H kn => N11_3b_eq ρ call yc lim k (x) x6 H kn k0 R) x4 (sp 57 [(4, x4), (6, x6)]) H (by kernel_rfl)
noncomputable def N11_1 (ρ : Addr → Option Value) (call : CallF) (yc : YieldF) (lim k : Nat) (x4 x6 : AV) (H : Heap) (R : List AV → Heap → Res) : Res :=
  N11_3 ρ call yc lim k x4 x6 H (fun x6_1 H =>
    N11_2 ρ call yc lim k x6_1 H R) R
theorem N11_1_x (ρ : Addr → Option Value) (call : CallF) (yc : YieldF) (lim k : Nat) (J : CodeF) (x4 x6 : AV) (H : Heap) (R : List AV → Heap → Res) :
    evX (cx ρ) call yc false 11 lim k J (Code.at [1, 1, 1, 1] c11) (sp 57 [(4, x4), (6, x6)]) H (kk none (fun s H => R (([2, 3] : List Nat).map fun t => s.getD t (.tup [])) H) [] R [2, 3]) =
  J (Code.at [1, 1, 1, 1, 0, 0] c11) (sp 57 [(4, x4), (6, x6)]) H (kk (some [6]) (fun s H => J (Code.at [1, 1, 1, 1, 1] c11) s H (kk none (fun s H => R (([2, 3] : List Nat).map fun t => s.getD t (.tup [])) H) [] R [2, 3])) [(0, (some [6]), (fun s H => J (Code.at [1, 1, 1, 1, 1] c11) s H (kk none (fun s H => R (([2, 3] : List Nat).map fun t => s.getD t (.tup [])) H) [] R [2, 3])))] R [2, 3]) := by
  kernel_rfl
theorem N11_1_eq (ρ : Addr → Option Value) (call : CallF) (yc : YieldF) (lim k : Nat) (x4 x6 : AV) (H : Heap) (R : List AV → Heap → Res) :
    evL (cx ρ) call yc false 11 lim k (Code.at [1, 1, 1, 1] c11) (sp 57 [(4, x4), (6, x6)]) H (kk none (fun s H => R (([2, 3] : List Nat).map fun t => s.getD t (.tup [])) H) [] R [2, 3]) = N11_1 ρ call yc lim k x4 x6 H R := by
  rw [evL_X, N11_1_x]
  simp only [← evL_X, N11_1, N11_2_eq, N11_3_eq]
noncomputable def L11 (ρ : Addr → Option Value) (call : CallF) (yc : YieldF) (lim k : Nat) (x0 : AV) (H : Heap) : Res :=
  resK (call lim 26 [x0, (.str (ByteArray.mk #[61]))] H) fun x12 H =>
  purK (extA 0 x12) fun x13 =>
  purK (extA 1 x12) fun x14 =>
  purK (unA .not x14) fun x16 =>
  condK x16
  (
    retK [(.str (ByteArray.mk #[])), (.int .i64 4)] H)
  (
    effK H (some (.ptr H.sz 0 0, .new (newCells 54 false [.nilp, .nils]))) fun x6 H =>
    N11_1 ρ call yc lim k x13 x6 H retK)
theorem L11_x (ρ : Addr → Option Value) (call : CallF) (yc : YieldF) (lim k : Nat) (J : CodeF) (x0 : AV) (H : Heap) :
    evX (cx ρ) call yc false 11 lim k J c11 [x0, (.tup []), (.tup []), (.tup []), (.tup []), (.tup []), (.tup []), (.tup []), (.tup []), (.tup []), (.tup []), (.tup []), (.tup []), (.tup []), (.tup []), (.tup []), (.tup []), (.tup []), (.tup []), (.tup []), (.tup []), (.tup []), (.tup []), (.tup []), (.tup []), (.tup []), (.tup []), (.tup []), (.tup []), (.tup []), (.tup []), (.tup []), (.tup []), (.tup []), (.tup []), (.tup []), (.tup []), (.tup []), (.tup []), (.tup []), (.tup []), (.tup []), (.tup []), (.tup []), (.tup []), (.tup []), (.tup []), (.tup []), (.tup []), (.tup []), (.tup []), (.tup []), (.tup []), (.tup []), (.tup []), (.tup []), (.tup [])] H (kk none (fun s H => retK (([2, 3] : List Nat).map fun t => s.getD t (.tup [])) H) [] retK [2, 3]) =
  resK (call lim 26 [x0, (.str (ByteArray.mk #[61]))] H) fun x12 H =>
  purK (extA 0 x12) fun x13 =>
  purK (extA 1 x12) fun x14 =>
  purK (unA .not x14) fun x16 =>
  condK x16
  (
    retK [(.str (ByteArray.mk #[])), (.int .i64 4)] H)
  (
    effK H (some (.ptr H.sz 0 0, .new (newCells 54 false [.nilp, .nils]))) fun x6 H =>
    J (Code.at [1, 1, 1, 1] c11) (sp 57 [(4, x13), (6, x6)]) H (kk none (fun s H => retK (([2, 3] : List Nat).map fun t => s.getD t (.tup [])) H) [] retK [2, 3])) := by
  kernel_rfl
theorem G11 (ρ : Addr → Option Value) (call : CallF) (yc : YieldF) (lim k : Nat) (x0 : AV) (H : Heap) :
    evL (cx ρ) call yc false 11 lim k c11 [x0, (.tup []), (.tup []), (.tup []), (.tup []), (.tup []), (.tup []), (.tup []), (.tup []), (.tup []), (.tup []), (.tup []), (.tup []), (.tup []), (.tup []), (.tup []), (.tup []), (.tup []), (.tup []), (.tup []), (.tup []), (.tup []), (.tup []), (.tup []), (.tup []), (.tup []), (.tup []), (.tup []), (.tup []), (.tup []), (.tup []), (.tup []), (.tup []), (.tup []), (.tup []), (.tup []), (.tup []), (.tup []), (.tup []), (.tup []), (.tup []), (.tup []), (.tup []), (.tup []), (.tup []), (.tup []), (.tup []), (.tup []), (.tup []), (.tup []), (.tup []), (.tup []), (.tup []), (.tup []), (.tup []), (.tup []), (.tup [])] H (kk none (fun s H => retK (([2, 3] : List Nat).map fun t => s.getD t (.tup [])) H) [] retK [2, 3]) = L11 ρ call yc lim k x0 H := by
  rw [evL_X, L11_x]
  simp only [← evL_X, L11, N11_1_eq]
theorem E11 (ρ : Addr → Option Value) (k lim : Nat) (x0 : AV) (H : Heap) : evCall (cx ρ) (k + 1) lim 11 [x0] H = L11 ρ (evCall (cx ρ) k) (evCY (cx ρ) k).2 lim k x0 H := by
  rw [evCall_body (cx ρ) k lim 11 _ H Tryd.f11 c11 [2, 3] (by kernel_rfl) (by kernel_rfl) (by kernel_rfl) (by kernel_rfl) (by kernel_rfl)]
  exact G11 ρ (evCall (cx ρ) k) (evCY (cx ρ) k).2 lim k x0 H
end Go.Proofs.YtnkeebchblfbgaaDoor

-- part Sw1
/- Functions, lifted. Printed by a program of this repo. -/
set_option linter.unusedVariables false
set_option linter.unusedSimpArgs false
set_option maxRecDepth 100000
set_option maxHeartbeats 4000000
namespace Go.Proofs.YtnkeebchblfbgaaDoor
open Go.Ev Go.RowKit
-- haycroft/haycroftref27.Unquote
noncomputable def c12 : Code := Code.of Tryd.prog 12
noncomputable def N12_1 (ρ : Addr → Option Value) (call : CallF) (yc : YieldF) (lim k : Nat) (x4 : AV) (H : Heap) (R : List AV → Heap → Res) : Res :=
  purK (b2s ρ H x4) fun x78_1 =>
  R [x78_1, (.bool true)] H
theorem N12_1_eq (ρ : Addr → Option Value) (call : CallF) (yc : YieldF) (lim k : Nat) (x4 : AV) (H : Heap) (R : List AV → Heap → Res) :
    evL (cx ρ) call yc false 12 lim k (Code.at [1, 1, 1, 1] c12) (sp 79 [(4, x4)]) H (kk none (fun s H => R (([2, 3] : List Nat).map fun t => s.getD t (.tup [])) H) [] R [2, 3]) = N12_1 ρ call yc lim k x4 H R := by
  kernel_rfl
noncomputable def N12_4 (ρ : Addr → Option Value) (call : CallF) (yc : YieldF) (lim k : Nat) (x0 x4 x5 : AV) (H : Heap) (kn : AV → AV → Heap → Res) : Res :=
  purK (binA Tryd.prog H .add 3 x5 (.int .i64 1)) fun x21_1 =>
  kn x4 x21_1 H
theorem N12_4_eq (ρ : Addr → Option Value) (call : CallF) (yc : YieldF) (lim k : Nat) (x0 x4 x5 : AV) (H : Heap) (kn : KS) (k0 : KS) (R : List AV → Heap → Res) :
    evL (cx ρ) call yc false 12 lim k (Code.at [1, 1, 1, 0, 1, 0, 0, 1, 1] c12) (sp 79 [(0, x0), (4, x4), (5, x5)]) H (kk (some [0, 4, 5]) kn [(0, (some [4]), k0)] R [2, 3]) = N12_4 ρ call yc lim k x0 x4 x5 H (fun x4 x5 H => kn (sp 79 [(0, x0), (4, x4), (5, x5)]) H) := by
  kernel_rfl
noncomputable def N12_6 (ρ : Addr → Option Value) (call : CallF) (yc : YieldF) (lim k : Nat) (x0 x4 x5 : AV) (H : Heap) (kn : AV → AV → Heap → Res) : Res :=
  purK (binA Tryd.prog H .add 3 x5 (.int .i64 2)) fun x76_1 =>
  kn x4 x76_1 H
theorem N12_6_eq (ρ : Addr → Option Value) (call : CallF) (yc : YieldF) (lim k : Nat) (x0 x4 x5 : AV) (H : Heap) (kn : KS) (k1 : KS) (k0 : KS) (R : List AV → Heap → Res) :
    evL (cx ρ) call yc false 12 lim k (Code.at [1, 1, 1, 0, 1, 0, 0, 1, 0, 0, 1, 1, 1, 1, 1, 1] c12) (sp 79 [(0, x0), (4, x4), (5, x5)]) H (kk (some [0, 4, 5]) kn [(1, (some [0, 4, 5]), k1), (0, (some [4]), k0)] R [2, 3]) = N12_6 ρ call yc lim k x0 x4 x5 H (fun x4 x5 H => kn (sp 79 [(0, x0), (4, x4), (5, x5)]) H) := by
  kernel_rfl
noncomputable def N12_5 (ρ : Addr → Option Value) (call : CallF) (yc : YieldF) (lim k : Nat) (x0 x4 x5 : AV) (H : Heap) (kn : AV → AV → Heap → Res) (R : List AV → Heap → Res) : Res :=
  purK (binA Tryd.prog H .add 3 x5 (.int .i64 1)) fun x58_1 =>
  purK (ixT x0 x58_1) fun x59_1 =>
  purK (binA Tryd.prog H .add 3 x5 (.int .i64 2)) fun x64_1 =>
  purK (ixT x0 x64_1) fun x65_1 =>
  resK (call lim 29 [x59_1] H) fun x60_1 H => bif (agn (binA Tryd.prog H .add 3 x5 (.int .i64 2)) x64_1 && true) then
    purK (binA Tryd.prog H .mul 3 (.int .i64 16) x60_1) fun x61_1 =>
    resK (call lim 29 [x65_1] H) fun x66_1 H => bif (agn (binA Tryd.prog H .mul 3 (.int .i64 16) x60_1) x61_1 && true) then
      purK (binA Tryd.prog H .add 3 x61_1 x66_1) fun x67_1 =>
      purK (cvI .u8 x67_1) fun x68_1 =>
      resK (call lim 28 [x68_1] H) fun x70_1 H =>
      condK x70_1
      (
        R [(.str (ByteArray.mk #[])), (.bool false)] H)
      (
        effK H (bldS H 5 1 [.int .u8 0] 1 [(0, 1, x68_1)]) fun x73_1 H =>
        effK H (apA ρ lim H 5 1 1 x4 x73_1) fun x74_1 H =>
        N12_6 ρ call yc lim k x0 x74_1 x5 H kn)
    else none
  else none
theorem N12_5_x (ρ : Addr → Option Value) (call : CallF) (yc : YieldF) (lim k : Nat) (J : CodeF) (x0 x4 x5 : AV) (H : Heap) (kn : KS) (k1 : KS) (k0 : KS) (R : List AV → Heap → Res) :
    evX (cx ρ) call yc false 12 lim k J (Code.at [1, 1, 1, 0, 1, 0, 0, 1, 0, 0, 1, 1, 1] c12) (sp 79 [(0, x0), (4, x4), (5, x5)]) H (kk (some [0, 4, 5]) kn [(1, (some [0, 4, 5]), k1), (0, (some [4]), k0)] R [2, 3]) =
  purK (binA Tryd.prog H .add 3 x5 (.int .i64 1)) fun x58_1 =>
  purK (ixT x0 x58_1) fun x59_1 =>
  purK (binA Tryd.prog H .add 3 x5 (.int .i64 2)) fun x64_1 =>
  purK (ixT x0 x64_1) fun x65_1 =>
  resK (call lim 29 [x59_1] H) fun x60_1 H => bif (agn (binA Tryd.prog H .add 3 x5 (.int .i64 2)) x64_1 && true) then
    purK (binA Tryd.prog H .mul 3 (.int .i64 16) x60_1) fun x61_1 =>
    resK (call lim 29 [x65_1] H) fun x66_1 H => bif (agn (binA Tryd.prog H .mul 3 (.int .i64 16) x60_1) x61_1 && true) then
      purK (binA Tryd.prog H .add 3 x61_1 x66_1) fun x67_1 =>
      purK (cvI .u8 x67_1) fun x68_1 =>
      resK (call lim 28 [x68_1] H) fun x70_1 H =>
      condK x70_1
      (
        R [(.str (ByteArray.mk #[])), (.bool false)] H)
      (
        effK H (bldS H 5 1 [.int .u8 0] 1 [(0, 1, x68_1)]) fun x73_1 H =>
        effK H (apA ρ lim H 5 1 1 x4 x73_1) fun x74_1 H =>
        J (Code.at [1, 1, 1, 0, 1, 0, 0, 1, 0, 0, 1, 1, 1, 1, 1, 1] c12) (sp 79 [(0, x0), (4, x74_1), (5, x5)]) H (kk (some [0, 4, 5]) kn [(1, (some [0, 4, 5]), k1), (0, (some [4]), k0)] R [2, 3]))
    else none
  else none := by
  kernel_rfl
theorem N12_5_eq (ρ : Addr → Option Value) (call : CallF) (yc : YieldF) (lim k : Nat) (x0 x4 x5 : AV) (H : Heap) (kn : KS) (k1 : KS) (k0 : KS) (R : List AV → Heap → Res) :
    evL (cx ρ) call yc false 12 lim k (Code.at [1, 1, 1, 0, 1, 0, 0, 1, 0, 0, 1, 1, 1] c12) (sp 79 [(0, x0), (4, x4), (5, x5)]) H (kk (some [0, 4, 5]) kn [(1, (some [0, 4, 5]), k1), (0, (some [4]), k0)] R [2, 3]) = N12_5 ρ call yc lim k x0 x4 x5 H (fun x4 x5 H => kn (sp 79 [(0, x0), (4, x4), (5, x5)]) H) R := by
  rw [evL_X, N12_5_x]
  simp only [← evL_X, N12_5, N12_6_eq]
noncomputable def N12_7 (ρ : Addr → Option Value) (call : CallF) (yc : YieldF) (lim k : Nat) (x0 x4 x5 x55 : AV) (H : Heap) (kn : AV → AV → Heap → Res) (R : List AV → Heap → Res) : Res :=
  condK x55
  (
    R [(.str (ByteArray.mk #[])), (.bool false)] H)
  (
    kn x4 x5 H)
theorem N12_7_eq (ρ : Addr → Option Value) (call : CallF) (yc : YieldF) (lim k : Nat) (x0 x4 x5 x55 : AV) (H : Heap) (kn : KS) (k1 : KS) (k0 : KS) (R : List AV → Heap → Res) :
    evL (cx ρ) call yc false 12 lim k (Code.at [1, 1, 1, 0, 1, 0, 0, 1, 0, 0, 1, 1, 0, 1] c12) (sp 79 [(0, x0), (4, x4), (5, x5), (55, x55)]) H (kk (some [0, 4, 5]) kn [(1, (some [0, 4, 5]), k1), (0, (some [4]), k0)] R [2, 3]) = N12_7 ρ call yc lim k x0 x4 x5 x55 H (fun x4 x5 H => kn (sp 79 [(0, x0), (4, x4), (5, x5)]) H) R := by
  kernel_rfl
noncomputable def N12_3b (ρ : Addr → Option Value) (call : CallF) (yc : YieldF) (lim k : Nat) (x0 x4 x5 : AV) (H : Heap) (kn : AV → AV → Heap → Res) (k0 : AV → Heap → Res) (R : List AV → Heap → Res) : Res :=
  purK (lenT x0) fun x18_1 =>
  purK (binA Tryd.prog H .lss 3 x5 x18_1) fun x19_1 =>
  condK x19_1
  (
    purK (ixT x0 x5) fun x24_1 =>
    resK (call lim 28 [x24_1] H) fun x26_1 H =>
    condK x26_1
    (
      effK H (bldS H 5 1 [.int .u8 0] 1 [(0, 1, x24_1)]) fun x29_1 H =>
      effK H (apA ρ lim H 5 1 1 x4 x29_1) fun x30_1 H =>
      N12_4 ρ call yc lim k x0 x30_1 x5 H kn)
    (
      purK (binA Tryd.prog H .neq 5 x24_1 (.int .u8 37)) fun x32_1 =>
      purK (gPur (wantV x32_1 false) (some x5)) fun x34_1 =>
      purK (gPur (wantV x32_1 false) (some x0)) fun x35_1 =>
      purK (gPur (wantV x32_1 false) (lenT x35_1)) fun x36_1 =>
      purK (gPur (wantV x32_1 false) (binA Tryd.prog H .sub 3 x36_1 (.int .i64 2))) fun x37_1 =>
      purK (gPur (wantV x32_1 false) (binA Tryd.prog H .geq 3 x34_1 x37_1)) fun x38_1 =>
      purK (pickA x32_1 (.bool true) x38_1) fun x39_1 =>
      purK (gPur (wantV x39_1 false) (some x0)) fun x41_1 =>
      purK (gPur (wantV x39_1 false) (some x5)) fun x42_1 =>
      purK (gPur (wantV x39_1 false) (binA Tryd.prog H .add 3 x42_1 (.int .i64 1))) fun x43_1 =>
      purK (gPur (wantV x39_1 false) (ixT x41_1 x43_1)) fun x44_1 =>
      resK (gRes (wantV x39_1 false) H (call lim 29 [x44_1] H)) fun x45_1 H =>
      purK (gPur (wantV x39_1 false) (binA Tryd.prog H .gtr 3 x45_1 (.int .i64 15))) fun x46_1 =>
      purK (pickA x39_1 (.bool true) x46_1) fun x47_1 =>
      purK (gPur (wantV x47_1 false) (some x0)) fun x49_1 =>
      purK (gPur (wantV x47_1 false) (some x5)) fun x50_1 =>
      purK (gPur (wantV x47_1 false) (binA Tryd.prog H .add 3 x50_1 (.int .i64 2))) fun x51_1 =>
      purK (gPur (wantV x47_1 false) (ixT x49_1 x51_1)) fun x52_1 =>
      resK (gRes (wantV x47_1 false) H (call lim 29 [x52_1] H)) fun x53_1 H =>
      purK (gPur (wantV x47_1 false) (binA Tryd.prog H .gtr 3 x53_1 (.int .i64 15))) fun x54_1 =>
      purK (pickA x47_1 (.bool true) x54_1) fun x55_1 =>
      N12_7 ρ call yc lim k x0 x4 x5 x55_1 H (fun x4_1 x5_1 H =>
        N12_5 ρ call yc lim k x0 x4_1 x5_1 H (fun x4_2 x5_2 H =>
          N12_4 ρ call yc lim k x0 x4_2 x5_2 H kn) R) R))
  (
    k0 x4 H)
theorem N12_3b_x (ρ : Addr → Option Value) (call : CallF) (yc : YieldF) (lim k : Nat) (J : CodeF) (x0 x4 x5 : AV) (H : Heap) (kn : KS) (k0 : KS) (R : List AV → Heap → Res) :
    evX (cx ρ) call yc false 12 lim k J (Code.at [1, 1, 1, 0, 1, 0, 0] c12) (sp 79 [(0, x0), (4, x4), (5, x5)]) H (kk (some [0, 4, 5]) kn [(0, (some [4]), k0)] R [2, 3]) =
  purK (lenT x0) fun x18_1 =>
  purK (binA Tryd.prog H .lss 3 x5 x18_1) fun x19_1 =>
  condK x19_1
  (
    purK (ixT x0 x5) fun x24_1 =>
    resK (call lim 28 [x24_1] H) fun x26_1 H =>
    condK x26_1
    (
      effK H (bldS H 5 1 [.int .u8 0] 1 [(0, 1, x24_1)]) fun x29_1 H =>
      effK H (apA ρ lim H 5 1 1 x4 x29_1) fun x30_1 H =>
      J (Code.at [1, 1, 1, 0, 1, 0, 0, 1, 1] c12) (sp 79 [(0, x0), (4, x30_1), (5, x5)]) H (kk (some [0, 4, 5]) kn [(0, (some [4]), k0)] R [2, 3]))
    (
      purK (binA Tryd.prog H .neq 5 x24_1 (.int .u8 37)) fun x32_1 =>
      purK (gPur (wantV x32_1 false) (some x5)) fun x34_1 =>
      purK (gPur (wantV x32_1 false) (some x0)) fun x35_1 =>
      purK (gPur (wantV x32_1 false) (lenT x35_1)) fun x36_1 =>
      purK (gPur (wantV x32_1 false) (binA Tryd.prog H .sub 3 x36_1 (.int .i64 2))) fun x37_1 =>
      purK (gPur (wantV x32_1 false) (binA Tryd.prog H .geq 3 x34_1 x37_1)) fun x38_1 =>
      purK (pickA x32_1 (.bool true) x38_1) fun x39_1 =>
      purK (gPur (wantV x39_1 false) (some x0)) fun x41_1 =>
      purK (gPur (wantV x39_1 false) (some x5)) fun x42_1 =>
      purK (gPur (wantV x39_1 false) (binA Tryd.prog H .add 3 x42_1 (.int .i64 1))) fun x43_1 =>
      purK (gPur (wantV x39_1 false) (ixT x41_1 x43_1)) fun x44_1 =>
      resK (gRes (wantV x39_1 false) H (call lim 29 [x44_1] H)) fun x45_1 H =>
      purK (gPur (wantV x39_1 false) (binA Tryd.prog H .gtr 3 x45_1 (.int .i64 15))) fun x46_1 =>
      purK (pickA x39_1 (.bool true) x46_1) fun x47_1 =>
      purK (gPur (wantV x47_1 false) (some x0)) fun x49_1 =>
      purK (gPur (wantV x47_1 false) (some x5)) fun x50_1 =>
      purK (gPur (wantV x47_1 false) (binA Tryd.prog H .add 3 x50_1 (.int .i64 2))) fun x51_1 =>
      purK (gPur (wantV x47_1 false) (ixT x49_1 x51_1)) fun x52_1 =>
      resK (gRes (wantV x47_1 false) H (call lim 29 [x52_1] H)) fun x53_1 H =>
      purK (gPur (wantV x47_1 false) (binA Tryd.prog H .gtr 3 x53_1 (.int .i64 15))) fun x54_1 =>
      purK (pickA x47_1 (.bool true) x54_1) fun x55_1 =>
      J (Code.at [1, 1, 1, 0, 1, 0, 0, 1, 0, 0, 1, 1, 0, 1] c12) (sp 79 [(0, x0), (4, x4), (5, x5), (55, x55_1)]) H (kk (some [0, 4, 5]) (fun s H => J (Code.at [1, 1, 1, 0, 1, 0, 0, 1, 0, 0, 1, 1, 1] c12) s H (kk (some [0, 4, 5]) (fun s H => J (Code.at [1, 1, 1, 0, 1, 0, 0, 1, 1] c12) s H (kk (some [0, 4, 5]) kn [(0, (some [4]), k0)] R [2, 3])) [(1, (some [0, 4, 5]), (fun s H => J (Code.at [1, 1, 1, 0, 1, 0, 0, 1, 1] c12) s H (kk (some [0, 4, 5]) kn [(0, (some [4]), k0)] R [2, 3]))), (0, (some [4]), k0)] R [2, 3])) [(1, (some [0, 4, 5]), (fun s H => J (Code.at [1, 1, 1, 0, 1, 0, 0, 1, 1] c12) s H (kk (some [0, 4, 5]) kn [(0, (some [4]), k0)] R [2, 3]))), (0, (some [4]), k0)] R [2, 3])))
  (
    k0 (sp 79 [(4, x4)]) H) := by
  kernel_rfl
theorem N12_3b_eq (ρ : Addr → Option Value) (call : CallF) (yc : YieldF) (lim k : Nat) (x0 x4 x5 : AV) (H : Heap) (kn : KS) (k0 : KS) (R : List AV → Heap → Res) :
    evL (cx ρ) call yc false 12 lim k (Code.at [1, 1, 1, 0, 1, 0, 0] c12) (sp 79 [(0, x0), (4, x4), (5, x5)]) H (kk (some [0, 4, 5]) kn [(0, (some [4]), k0)] R [2, 3]) = N12_3b ρ call yc lim k x0 x4 x5 H (fun x4 x5 H => kn (sp 79 [(0, x0), (4, x4), (5, x5)]) H) (fun x4 H => k0 (sp 79 [(4, x4)]) H) R := by
  rw [evL_X, N12_3b_x]
  simp only [← evL_X, N12_3b, N12_4_eq, N12_5_eq, N12_7_eq]
noncomputable def N12_3 (ρ : Addr → Option Value) (call : CallF) (yc : YieldF) (lim k : Nat) (x0 x4 x5 : AV) (H : Heap) (k0 : AV → Heap → Res) (R : List AV → Heap → Res) : Res :=
  loopL (fun (x : AV × AV) H kn => N12_3b ρ call yc lim k x0 x.1 x.2 H (fun x4 x5 H => kn (x4, x5) H) k0 R) k (x4, x5) H
theorem N12_3_eq (ρ : Addr → Option Value) (call : CallF) (yc : YieldF) (lim k : Nat) (x0 x4 x5 : AV) (H : Heap) (kn : KS) (k0 : KS) (R : List AV → Heap → Res) :
    evL (cx ρ) call yc false 12 lim k (Code.at [1, 1, 1, 0, 1, 0] c12) (sp 79 [(0, x0), (4, x4), (5, x5)]) H (kk (some [4]) kn [(0, (some [4]), k0)] R [2, 3]) = N12_3 ρ call yc lim k x0 x4 x5 H (fun x4 H => k0 (sp 79 [(4, x4)]) H) R := by
  have e : Code.at [1, 1, 1, 0, 1, 0] c12 = .loop (Code.at [1, 1, 1, 0, 1, 0, 0] c12) := by kernel_rfl
  rw [e]
  unfold N12_3
  exact loop_node [0, 4, 5] (fun x : AV × AV => (sp 79 [(0, x0), (4, (x.1)), (5, (x.2))])) (fun (x : AV × AV) H kn => N12_3b ρ call yc lim k x0 x.1 x.2 H (fun x4 x5 H => kn (x4, x5) H) (fun x4 H => k0 (sp 79 [(4, x4)]) H) R) (by kernel_rfl) (fun x => by kernel_rfl) (fun x H kn => N12_3b_eq ρ call yc lim k x0 (x.1) (x.2) H kn k0 R) (x4, x5) (sp 79 [(0, x0), (4, x4), (5, x5)]) H (by kernel_rfl)
noncomputable def N12_2 (ρ : Addr → Option Value) (call : CallF) (yc : YieldF) (lim k : Nat) (x0 x4 x5 : AV) (H : Heap) (kn : AV → Heap → Res) (R : List AV → Heap → Res) : Res :=
  N12_3 ρ call yc lim k x0 x4 x5 H kn R
theorem N12_2_x (ρ : Addr → Option Value) (call : CallF) (yc : YieldF) (lim k : Nat) (J : CodeF) (x0 x4 x5 : AV) (H : Heap) (kn : KS) (R : List AV → Heap → Res) :
    evX (cx ρ) call yc false 12 lim k J (Code.at [1, 1, 1, 0, 1] c12) (sp 79 [(0, x0), (4, x4), (5, x5)]) H (kk (some [4]) kn [] R [2, 3]) =
  J (Code.at [1, 1, 1, 0, 1, 0] c12) (sp 79 [(0, x0), (4, x4), (5, x5)]) H (kk (some [4]) kn [(0, (some [4]), kn)] R [2, 3]) := by
  kernel_rfl
theorem N12_2_eq (ρ : Addr → Option Value) (call : CallF) (yc : YieldF) (lim k : Nat) (x0 x4 x5 : AV) (H : Heap) (kn : KS) (R : List AV → Heap → Res) :
    evL (cx ρ) call yc false 12 lim k (Code.at [1, 1, 1, 0, 1] c12) (sp 79 [(0, x0), (4, x4), (5, x5)]) H (kk (some [4]) kn [] R [2, 3]) = N12_2 ρ call yc lim k x0 x4 x5 H (fun x4 H => kn (sp 79 [(4, x4)]) H) R := by
  rw [evL_X, N12_2_x]
  simp only [← evL_X, N12_2, N12_3_eq]
noncomputable def L12 (ρ : Addr → Option Value) (call : CallF) (yc : YieldF) (lim k : Nat) (x0 : AV) (H : Heap) : Res :=
  purK (lenT x0) fun x8 =>
  purK (binA Tryd.prog H .eql 3 x8 (.int .i64 0)) fun x9 =>
  purK (gPur (wantV x9 false) (some x0)) fun x11 =>
  purK (gPur (wantV x9 false) (ixT x11 (.int .i64 0))) fun x12 =>
  purK (gPur (wantV x9 false) (binA Tryd.prog H .neq 5 x12 (.int .u8 61))) fun x13 =>
  purK (pickA x9 (.bool true) x13) fun x14 =>
  condK x14
  (
    retK [(.str (ByteArray.mk #[])), (.bool false)] H)
  (
    effK H (bldS H 5 1 [.int .u8 0] 0 []) fun x15 H =>
    N12_2 ρ call yc lim k x0 x15 (.int .i64 1) H (fun x4 H =>
      N12_1 ρ call yc lim k x4 H retK) retK)
theorem L12_x (ρ : Addr → Option Value) (call : CallF) (yc : YieldF) (lim k : Nat) (J : CodeF) (x0 : AV) (H : Heap) :
    evX (cx ρ) call yc false 12 lim k J c12 [x0, (.tup []), (.tup []), (.tup []), (.tup []), (.tup []), (.tup []), (.tup []), (.tup []), (.tup []), (.tup []), (.tup []), (.tup []), (.tup []), (.tup []), (.tup []), (.tup []), (.tup []), (.tup []), (.tup []), (.tup []), (.tup []), (.tup []), (.tup []), (.tup []), (.tup []), (.tup []), (.tup []), (.tup []), (.tup []), (.tup []), (.tup []), (.tup []), (.tup []), (.tup []), (.tup []), (.tup []), (.tup []), (.tup []), (.tup []), (.tup []), (.tup []), (.tup []), (.tup []), (.tup []), (.tup []), (.tup []), (.tup []), (.tup []), (.tup []), (.tup []), (.tup []), (.tup []), (.tup []), (.tup []), (.tup []), (.tup []), (.tup []), (.tup []), (.tup []), (.tup []), (.tup []), (.tup []), (.tup []), (.tup []), (.tup []), (.tup []), (.tup []), (.tup []), (.tup []), (.tup []), (.tup []), (.tup []), (.tup []), (.tup []), (.tup []), (.tup []), (.tup []), (.tup [])] H (kk none (fun s H => retK (([2, 3] : List Nat).map fun t => s.getD t (.tup [])) H) [] retK [2, 3]) =
  purK (lenT x0) fun x8 =>
  purK (binA Tryd.prog H .eql 3 x8 (.int .i64 0)) fun x9 =>
  purK (gPur (wantV x9 false) (some x0)) fun x11 =>
  purK (gPur (wantV x9 false) (ixT x11 (.int .i64 0))) fun x12 =>
  purK (gPur (wantV x9 false) (binA Tryd.prog H .neq 5 x12 (.int .u8 61))) fun x13 =>
  purK (pickA x9 (.bool true) x13) fun x14 =>
  condK x14
  (
    retK [(.str (ByteArray.mk #[])), (.bool false)] H)
  (
    effK H (bldS H 5 1 [.int .u8 0] 0 []) fun x15 H =>
    J (Code.at [1, 1, 1, 0, 1] c12) (sp 79 [(0, x0), (4, x15), (5, (.int .i64 1))]) H (kk (some [4]) (fun s H => J (Code.at [1, 1, 1, 1] c12) s H (kk none (fun s H => retK (([2, 3] : List Nat).map fun t => s.getD t (.tup [])) H) [] retK [2, 3])) [] retK [2, 3])) := by
  kernel_rfl
theorem G12 (ρ : Addr → Option Value) (call : CallF) (yc : YieldF) (lim k : Nat) (x0 : AV) (H : Heap) :
    evL (cx ρ) call yc false 12 lim k c12 [x0, (.tup []), (.tup []), (.tup []), (.tup []), (.tup []), (.tup []), (.tup []), (.tup []), (.tup []), (.tup []), (.tup []), (.tup []), (.tup []), (.tup []), (.tup []), (.tup []), (.tup []), (.tup []), (.tup []), (.tup []), (.tup []), (.tup []), (.tup []), (.tup []), (.tup []), (.tup []), (.tup []), (.tup []), (.tup []), (.tup []), (.tup []), (.tup []), (.tup []), (.tup []), (.tup []), (.tup []), (.tup []), (.tup []), (.tup []), (.tup []), (.tup []), (.tup []), (.tup []), (.tup []), (.tup []), (.tup []), (.tup []), (.tup []), (.tup []), (.tup []), (.tup []), (.tup []), (.tup []), (.tup []), (.tup []), (.tup []), (.tup []), (.tup []), (.tup []), (.tup []), (.tup []), (.tup []), (.tup []), (.tup []), (.tup []), (.tup []), (.tup []), (.tup []), (.tup []), (.tup []), (.tup []), (.tup []), (.tup []), (.tup []), (.tup []), (.tup []), (.tup []), (.tup [])] H (kk none (fun s H => retK (([2, 3] : List Nat).map fun t => s.getD t (.tup [])) H) [] retK [2, 3]) = L12 ρ call yc lim k x0 H := by
  rw [evL_X, L12_x]
  simp only [← evL_X, L12, N12_1_eq, N12_2_eq]
theorem E12 (ρ : Addr → Option Value) (k lim : Nat) (x0 : AV) (H : Heap) : evCall (cx ρ) (k + 1) lim 12 [x0] H = L12 ρ (evCall (cx ρ) k) (evCY (cx ρ) k).2 lim k x0 H := by
  rw [evCall_body (cx ρ) k lim 12 _ H Tryd.f12 c12 [2, 3] (by kernel_rfl) (by kernel_rfl) (by kernel_rfl) (by kernel_rfl) (by kernel_rfl)]
  exact G12 ρ (evCall (cx ρ) k) (evCY (cx ρ) k).2 lim k x0 H
-- haycroft/haycroftref27.Quote
noncomputable def c13 : Code := Code.of Tryd.prog 13
noncomputable def N13_1 (ρ : Addr → Option Value) (call : CallF) (yc : YieldF) (lim k : Nat) (x3 : AV) (H : Heap) (R : List AV → Heap → Res) : Res :=
  purK (b2s ρ H x3) fun x36_1 =>
  R [x36_1] H
theorem N13_1_eq (ρ : Addr → Option Value) (call : CallF) (yc : YieldF) (lim k : Nat) (x3 : AV) (H : Heap) (R : List AV → Heap → Res) :
    evL (cx ρ) call yc false 13 lim k (Code.at [1, 1, 1] c13) (sp 37 [(3, x3)]) H (kk none (fun s H => R (([2] : List Nat).map fun t => s.getD t (.tup [])) H) [] R [2]) = N13_1 ρ call yc lim k x3 H R := by
  kernel_rfl
noncomputable def N13_4 (ρ : Addr → Option Value) (call : CallF) (yc : YieldF) (lim k : Nat) (x0 x3 x4 : AV) (H : Heap) (kn : AV → AV → Heap → Res) : Res :=
  purK (binA Tryd.prog H .add 3 x4 (.int .i64 1)) fun x11_1 =>
  kn x3 x11_1 H
theorem N13_4_eq (ρ : Addr → Option Value) (call : CallF) (yc : YieldF) (lim k : Nat) (x0 x3 x4 : AV) (H : Heap) (kn : KS) (k0 : KS) (R : List AV → Heap → Res) :
    evL (cx ρ) call yc false 13 lim k (Code.at [1, 1, 0, 1, 0, 0, 1, 1] c13) (sp 37 [(0, x0), (3, x3), (4, x4)]) H (kk (some [0, 3, 4]) kn [(0, (some [3]), k0)] R [2]) = N13_4 ρ call yc lim k x0 x3 x4 H (fun x3 x4 H => kn (sp 37 [(0, x0), (3, x3), (4, x4)]) H) := by
  kernel_rfl
noncomputable def N13_3b (ρ : Addr → Option Value) (call : CallF) (yc : YieldF) (lim k : Nat) (x0 x3 x4 : AV) (H : Heap) (kn : AV → AV → Heap → Res) (k0 : AV → Heap → Res) : Res :=
  purK (lenT x0) fun x8_1 =>
  purK (binA Tryd.prog H .lss 3 x4 x8_1) fun x9_1 =>
  condK x9_1
  (
    purK (ixT x0 x4) fun x14_1 =>
    resK (call lim 28 [x14_1] H) fun x15_1 H =>
    condK x15_1
    (
      purK (ixT x0 x4) fun x19_1 =>
      effK H (bldS H 5 1 [.int .u8 0] 1 [(0, 1, x19_1)]) fun x20_1 H =>
      effK H (apA ρ lim H 5 1 1 x3 x20_1) fun x21_1 H =>
      N13_4 ρ call yc lim k x0 x21_1 x4 H kn)
    (
      purK (ixT x0 x4) fun x25_1 =>
      purK (binA Tryd.prog H .quo 5 x25_1 (.int .u8 16)) fun x26_1 =>
      purK (ixT x0 x4) fun x30_1 =>
      purK (binA Tryd.prog H .rem 5 x30_1 (.int .u8 16)) fun x31_1 =>
      resK (call lim 30 [x26_1] H) fun x27_1 H => bif (agn (binA Tryd.prog H .rem 5 x30_1 (.int .u8 16)) x31_1 && true) then
        resK (call lim 30 [x31_1] H) fun x32_1 H =>
        mkK H (bldS H 5 1 [.int .u8 0] 3 [(0, 1, (.int .u8 37)), (1, 1, x27_1), (2, 1, x32_1)]) true fun x33_1 H => bif (agn (binA Tryd.prog H .rem 5 x30_1 (.int .u8 16)) x31_1 && (agn (binA Tryd.prog H .quo 5 x25_1 (.int .u8 16)) x26_1 && true)) then
          effK H (apA ρ lim H 5 1 1 x3 x33_1) fun x34_1 H =>
          N13_4 ρ call yc lim k x0 x34_1 x4 H kn
        else none
      else none))
  (
    k0 x3 H)
theorem N13_3b_x (ρ : Addr → Option Value) (call : CallF) (yc : YieldF) (lim k : Nat) (J : CodeF) (x0 x3 x4 : AV) (H : Heap) (kn : KS) (k0 : KS) (R : List AV → Heap → Res) :
    evX (cx ρ) call yc false 13 lim k J (Code.at [1, 1, 0, 1, 0, 0] c13) (sp 37 [(0, x0), (3, x3), (4, x4)]) H (kk (some [0, 3, 4]) kn [(0, (some [3]), k0)] R [2]) =
  purK (lenT x0) fun x8_1 =>
  purK (binA Tryd.prog H .lss 3 x4 x8_1) fun x9_1 =>
  condK x9_1
  (
    purK (ixT x0 x4) fun x14_1 =>
    resK (call lim 28 [x14_1] H) fun x15_1 H =>
    condK x15_1
    (
      purK (ixT x0 x4) fun x19_1 =>
      effK H (bldS H 5 1 [.int .u8 0] 1 [(0, 1, x19_1)]) fun x20_1 H =>
      effK H (apA ρ lim H 5 1 1 x3 x20_1) fun x21_1 H =>
      J (Code.at [1, 1, 0, 1, 0, 0, 1, 1] c13) (sp 37 [(0, x0), (3, x21_1), (4, x4)]) H (kk (some [0, 3, 4]) kn [(0, (some [3]), k0)] R [2]))
    (
      purK (ixT x0 x4) fun x25_1 =>
      purK (binA Tryd.prog H .quo 5 x25_1 (.int .u8 16)) fun x26_1 =>
      purK (ixT x0 x4) fun x30_1 =>
      purK (binA Tryd.prog H .rem 5 x30_1 (.int .u8 16)) fun x31_1 =>
      resK (call lim 30 [x26_1] H) fun x27_1 H => bif (agn (binA Tryd.prog H .rem 5 x30_1 (.int .u8 16)) x31_1 && true) then
        resK (call lim 30 [x31_1] H) fun x32_1 H =>
        mkK H (bldS H 5 1 [.int .u8 0] 3 [(0, 1, (.int .u8 37)), (1, 1, x27_1), (2, 1, x32_1)]) true fun x33_1 H => bif (agn (binA Tryd.prog H .rem 5 x30_1 (.int .u8 16)) x31_1 && (agn (binA Tryd.prog H .quo 5 x25_1 (.int .u8 16)) x26_1 && true)) then
          effK H (apA ρ lim H 5 1 1 x3 x33_1) fun x34_1 H =>
          J (Code.at [1, 1, 0, 1, 0, 0, 1, 1] c13) (sp 37 [(0, x0), (3, x34_1), (4, x4)]) H (kk (some [0, 3, 4]) kn [(0, (some [3]), k0)] R [2])
        else none
      else none))
  (
    k0 (sp 37 [(3, x3)]) H) := by
  kernel_rfl
theorem N13_3b_eq (ρ : Addr → Option Value) (call : CallF) (yc : YieldF) (lim k : Nat) (x0 x3 x4 : AV) (H : Heap) (kn : KS) (k0 : KS) (R : List AV → Heap → Res) :
    evL (cx ρ) call yc false 13 lim k (Code.at [1, 1, 0, 1, 0, 0] c13) (sp 37 [(0, x0), (3, x3), (4, x4)]) H (kk (some [0, 3, 4]) kn [(0, (some [3]), k0)] R [2]) = N13_3b ρ call yc lim k x0 x3 x4 H (fun x3 x4 H => kn (sp 37 [(0, x0), (3, x3), (4, x4)]) H) (fun x3 H => k0 (sp 37 [(3, x3)]) H) := by
  rw [evL_X, N13_3b_x]
  simp only [← evL_X, N13_3b, N13_4_eq]
noncomputable def N13_3 (ρ : Addr → Option Value) (call : CallF) (yc : YieldF) (lim k : Nat) (x0 x3 x4 : AV) (H : Heap) (k0 : AV → Heap → Res) : Res :=
  loopL (fun (x : AV × AV) H kn => N13_3b ρ call yc lim k x0 x.1 x.2 H (fun x3 x4 H => kn (x3, x4) H) k0) k (x3, x4) H
theorem N13_3_eq (ρ : Addr → Option Value) (call : CallF) (yc : YieldF) (lim k : Nat) (x0 x3 x4 : AV) (H : Heap) (kn : KS) (k0 : KS) (R : List AV → Heap → Res) :
    evL (cx ρ) call yc false 13 lim k (Code.at [1, 1, 0, 1, 0] c13) (sp 37 [(0, x0), (3, x3), (4, x4)]) H (kk (some [3]) kn [(0, (some [3]), k0)] R [2]) = N13_3 ρ call yc lim k x0 x3 x4 H (fun x3 H => k0 (sp 37 [(3, x3)]) H) := by
  have e : Code.at [1, 1, 0, 1, 0] c13 = .loop (Code.at [1, 1, 0, 1, 0, 0] c13) := by kernel_rfl
  rw [e]
  unfold N13_3
  exact loop_node [0, 3, 4] (fun x : AV × AV => (sp 37 [(0, x0), (3, (x.1)), (4, (x.2))])) (fun (x : AV × AV) H kn => N13_3b ρ call yc lim k x0 x.1 x.2 H (fun x3 x4 H => kn (x3, x4) H) (fun x3 H => k0 (sp 37 [(3, x3)]) H)) (by kernel_rfl) (fun x => by kernel_rfl) (fun x H kn => N13_3b_eq ρ call yc lim k x0 (x.1) (x.2) H kn k0 R) (x3, x4) (sp 37 [(0, x0), (3, x3), (4, x4)]) H (by kernel_rfl)
noncomputable def N13_2 (ρ : Addr → Option Value) (call : CallF) (yc : YieldF) (lim k : Nat) (x0 x3 x4 : AV) (H : Heap) (kn : AV → Heap → Res) : Res :=
  N13_3 ρ call yc lim k x0 x3 x4 H kn
theorem N13_2_x (ρ : Addr → Option Value) (call : CallF) (yc : YieldF) (lim k : Nat) (J : CodeF) (x0 x3 x4 : AV) (H : Heap) (kn : KS) (R : List AV → Heap → Res) :
    evX (cx ρ) call yc false 13 lim k J (Code.at [1, 1, 0, 1] c13) (sp 37 [(0, x0), (3, x3), (4, x4)]) H (kk (some [3]) kn [] R [2]) =
  J (Code.at [1, 1, 0, 1, 0] c13) (sp 37 [(0, x0), (3, x3), (4, x4)]) H (kk (some [3]) kn [(0, (some [3]), kn)] R [2]) := by
  kernel_rfl
theorem N13_2_eq (ρ : Addr → Option Value) (call : CallF) (yc : YieldF) (lim k : Nat) (x0 x3 x4 : AV) (H : Heap) (kn : KS) (R : List AV → Heap → Res) :
    evL (cx ρ) call yc false 13 lim k (Code.at [1, 1, 0, 1] c13) (sp 37 [(0, x0), (3, x3), (4, x4)]) H (kk (some [3]) kn [] R [2]) = N13_2 ρ call yc lim k x0 x3 x4 H (fun x3 H => kn (sp 37 [(3, x3)]) H) := by
  rw [evL_X, N13_2_x]
  simp only [← evL_X, N13_2, N13_3_eq]
noncomputable def L13 (ρ : Addr → Option Value) (call : CallF) (yc : YieldF) (lim k : Nat) (x0 : AV) (H : Heap) : Res :=
  effK H (bldS H 5 1 [.int .u8 0] 1 [(0, 1, (.int .u8 61))]) fun x5 H =>
  N13_2 ρ call yc lim k x0 x5 (.int .i64 0) H (fun x3 H =>
    N13_1 ρ call yc lim k x3 H retK)
theorem L13_x (ρ : Addr → Option Value) (call : CallF) (yc : YieldF) (lim k : Nat) (J : CodeF) (x0 : AV) (H : Heap) :
    evX (cx ρ) call yc false 13 lim k J c13 [x0, (.tup []), (.tup []), (.tup []), (.tup []), (.tup []), (.tup []), (.tup []), (.tup []), (.tup []), (.tup []), (.tup []), (.tup []), (.tup []), (.tup []), (.tup []), (.tup []), (.tup []), (.tup []), (.tup []), (.tup []), (.tup []), (.tup []), (.tup []), (.tup []), (.tup []), (.tup []), (.tup []), (.tup []), (.tup []), (.tup []), (.tup []), (.tup []), (.tup []), (.tup []), (.tup []), (.tup [])] H (kk none (fun s H => retK (([2] : List Nat).map fun t => s.getD t (.tup [])) H) [] retK [2]) =
  effK H (bldS H 5 1 [.int .u8 0] 1 [(0, 1, (.int .u8 61))]) fun x5 H =>
  J (Code.at [1, 1, 0, 1] c13) (sp 37 [(0, x0), (3, x5), (4, (.int .i64 0))]) H (kk (some [3]) (fun s H => J (Code.at [1, 1, 1] c13) s H (kk none (fun s H => retK (([2] : List Nat).map fun t => s.getD t (.tup [])) H) [] retK [2])) [] retK [2]) := by
  kernel_rfl
theorem G13 (ρ : Addr → Option Value) (call : CallF) (yc : YieldF) (lim k : Nat) (x0 : AV) (H : Heap) :
    evL (cx ρ) call yc false 13 lim k c13 [x0, (.tup []), (.tup []), (.tup []), (.tup []), (.tup []), (.tup []), (.tup []), (.tup []), (.tup []), (.tup []), (.tup []), (.tup []), (.tup []), (.tup []), (.tup []), (.tup []), (.tup []), (.tup []), (.tup []), (.tup []), (.tup []), (.tup []), (.tup []), (.tup []), (.tup []), (.tup []), (.tup []), (.tup []), (.tup []), (.tup []), (.tup []), (.tup []), (.tup []), (.tup []), (.tup []), (.tup [])] H (kk none (fun s H => retK (([2] : List Nat).map fun t => s.getD t (.tup [])) H) [] retK [2]) = L13 ρ call yc lim k x0 H := by
  rw [evL_X, L13_x]
  simp only [← evL_X, L13, N13_1_eq, N13_2_eq]
theorem E13 (ρ : Addr → Option Value) (k lim : Nat) (x0 : AV) (H : Heap) : evCall (cx ρ) (k + 1) lim 13 [x0] H = L13 ρ (evCall (cx ρ) k) (evCY (cx ρ) k).2 lim k x0 H := by
  rw [evCall_body (cx ρ) k lim 13 _ H Tryd.f13 c13 [2] (by kernel_rfl) (by kernel_rfl) (by kernel_rfl) (by kernel_rfl) (by kernel_rfl)]
  exact G13 ρ (evCall (cx ρ) k) (evCY (cx ρ) k).2 lim k x0 H
-- strings.Cut
noncomputable def c17 : Code := Code.of Tryd.prog 17
noncomputable def L17 (ρ : Addr → Option Value) (call : CallF) (yc : YieldF) (lim k : Nat) (x0 x1 : AV) (H : Heap) : Res :=
  resK (call lim 36 [x0, x1] H) fun x9 H =>
  purK (extA 0 x9) fun x10 =>
  purK (extA 1 x9) fun x11 =>
  purK (extA 2 x9) fun x12 =>
  retK [x10, x11, x12] H
theorem G17 (ρ : Addr → Option Value) (call : CallF) (yc : YieldF) (lim k : Nat) (x0 x1 : AV) (H : Heap) :
    evL (cx ρ) call yc false 17 lim k c17 [x0, x1, (.tup []), (.tup []), (.tup []), (.tup []), (.tup []), (.tup []), (.tup []), (.tup []), (.tup []), (.tup []), (.tup [])] H (kk none (fun s H => retK (([4, 5, 6] : List Nat).map fun t => s.getD t (.tup [])) H) [] retK [4, 5, 6]) = L17 ρ call yc lim k x0 x1 H := by
  kernel_rfl
theorem E17 (ρ : Addr → Option Value) (k lim : Nat) (x0 x1 : AV) (H : Heap) : evCall (cx ρ) (k + 1) lim 17 [x0, x1] H = L17 ρ (evCall (cx ρ) k) (evCY (cx ρ) k).2 lim k x0 x1 H := by
  rw [evCall_body (cx ρ) k lim 17 _ H Tryd.f17 c17 [4, 5, 6] (by kernel_rfl) (by kernel_rfl) (by kernel_rfl) (by kernel_rfl) (by kernel_rfl)]
  exact G17 ρ (evCall (cx ρ) k) (evCY (cx ρ) k).2 lim k x0 x1 H
-- haycroft/script.step
noncomputable def c18 : Code := Code.of Tryd.prog 18
noncomputable def N18_1 (ρ : Addr → Option Value) (call : CallF) (yc : YieldF) (lim k : Nat) (x2 x4 x5 : AV) (H : Heap) (R : List AV → Heap → Res) : Res :=
  purK (ldN ρ H 8 x5) fun x67_1 =>
  purK (nilChkA x4) fun x69_1 =>
  purK (addA 1 x69_1) fun x70_1 =>
  purK (ld1 ρ H x70_1) fun x71_1 =>
  purK (unA .not x71_1) fun x72_1 =>
  boolK (wantV x72_1 true) fun b1 => purK (bif b1 then some x4 else some (.tup [])) fun x74_1 =>
  boolK (wantV x72_1 true) fun b2 => purK (bif b2 then nilChkA x74_1 else some (.tup [])) fun x75_1 =>
  boolK (wantV x72_1 true) fun b3 => purK (bif b3 then addA 0 x75_1 else some (.tup [])) fun x76_1 =>
  boolK (wantV x72_1 true) fun b4 => purK (bif b4 then ld1 ρ H x76_1 else some (.tup [])) fun x77_1 =>
  boolK (wantV x72_1 true) fun b5 => purK (bif b5 then lenS x77_1 else some (.tup [])) fun x78_1 =>
  boolK (wantV x72_1 true) fun b6 => purK (bif b6 then binA Tryd.prog H .eql 3 x78_1 (.int .i64 0) else some (.tup [])) fun x79_1 =>
  purK (pickA x72_1 x79_1 (.bool false)) fun x80_1 =>
  boolK (wantV x80_1 true) fun b7 => purK (bif b7 then addA 7 x5 else some (.tup [])) fun x82_1 =>
  boolK (wantV x80_1 true) fun b8 => purK (bif b8 then ld1 ρ H x82_1 else some (.tup [])) fun x83_1 =>
  boolK (wantV x80_1 true) fun b9 => purK (bif b9 then lenS x83_1 else some (.tup [])) fun x84_1 =>
  boolK (wantV x80_1 true) fun b10 => purK (bif b10 then binA Tryd.prog H .leq 3 x84_1 (.int .i64 32) else some (.tup [])) fun x85_1 =>
  purK (pickA x80_1 x85_1 (.bool false)) fun x86_1 =>
  effK H (stA lim H 8 x2 x67_1) fun _ H => bif ((!b10 || agn (binA Tryd.prog H .leq 3 x84_1 (.int .i64 32)) x85_1) && ((!b9 || agn (lenS x83_1) x84_1) && ((!b8 || agn (ld1 ρ H x82_1) x83_1) && ((!b6 || true) && ((!b5 || true) && ((!b4 || true) && true)))))) then
    R [x2, x86_1] H
  else none
theorem N18_1_eq (ρ : Addr → Option Value) (call : CallF) (yc : YieldF) (lim k : Nat) (x2 x4 x5 : AV) (H : Heap) (R : List AV → Heap → Res) :
    evL (cx ρ) call yc false 18 lim k (Code.at [1, 1, 1, 1] c18) (sp 87 [(2, x2), (4, x4), (5, x5)]) H (kk none (fun s H => R (([2, 3] : List Nat).map fun t => s.getD t (.tup [])) H) [] R [2, 3]) = N18_1 ρ call yc lim k x2 x4 x5 H R := by
  kernel_rfl
noncomputable def N18_5b (ρ : Addr → Option Value) (call : CallF) (yc : YieldF) (lim k : Nat) (x2 x4 x5 : AV) (H : Heap) (kn : Heap → Res) (k1 : AV → AV → AV → Heap → Res) : Res :=
  purK (nilChkA x4) fun x45_1 =>
  purK (addA 0 x45_1) fun x46_1 =>
  purK (ld1 ρ H x46_1) fun x47_1 =>
  purK (lenS x47_1) fun x48_1 =>
  purK (binA Tryd.prog H .gtr 3 x48_1 (.int .i64 0)) fun x49_1 =>
  purK (gPur (wantV x49_1 true) (some x4)) fun x51_1 =>
  purK (gPur (wantV x49_1 true) (nilChkA x51_1)) fun x52_1 =>
  purK (gPur (wantV x49_1 true) (addA 1 x52_1)) fun x53_1 =>
  purK (gPur (wantV x49_1 true) (ld1 ρ H x53_1)) fun x54_1 =>
  purK (gPur (wantV x49_1 true) (unA .not x54_1)) fun x55_1 =>
  purK (pickA x49_1 x55_1 (.bool false)) fun x56_1 =>
  condK x56_1
  (
    purK (addA 7 x5) fun x57_1 =>
    purK (ld1 ρ H x57_1) fun x58_1 =>
    resK (call lim 40 [x4] H) fun x60_1 H => bif (agn (ld1 ρ H x57_1) x58_1 && true) then
      mkK H (bldS H 3 1 [.int .i64 0] 1 [(0, 1, x60_1)]) true fun x61_1 H => bif (agn (ld1 ρ H x57_1) x58_1 && true) then
        effK H (apA ρ lim H 3 1 8 x58_1 x61_1) fun x62_1 H =>
        purK (addA 7 x5) fun x63_1 =>
        effK H (stA lim H 1 x63_1 x62_1) fun _ H =>
        kn H
      else none
    else none)
  (
    k1 x2 x4 x5 H)
theorem N18_5b_eq (ρ : Addr → Option Value) (call : CallF) (yc : YieldF) (lim k : Nat) (x2 x4 x5 : AV) (H : Heap) (kn : KS) (k1 : KS) (k0 : KS) (R : List AV → Heap → Res) :
    evL (cx ρ) call yc false 18 lim k (Code.at [1, 1, 1, 0, 1, 0, 1, 1, 1, 1, 1, 1, 1, 0, 0, 0] c18) (sp 87 [(2, x2), (4, x4), (5, x5)]) H (kk (some [2, 4, 5]) kn [(1, (some [2, 4, 5]), k1), (0, (some [2, 4, 5]), k0)] R [2, 3]) = N18_5b ρ call yc lim k x2 x4 x5 H (fun H => kn (sp 87 [(2, x2), (4, x4), (5, x5)]) H) (fun x2 x4 x5 H => k1 (sp 87 [(2, x2), (4, x4), (5, x5)]) H) := by
  kernel_rfl
noncomputable def N18_5 (ρ : Addr → Option Value) (call : CallF) (yc : YieldF) (lim k : Nat) (x2 x4 x5 : AV) (H : Heap) (k1 : AV → AV → AV → Heap → Res) : Res :=
  loopL (fun (x : Unit) H kn => N18_5b ρ call yc lim k x2 x4 x5 H (fun H => kn () H) k1) k () H
theorem N18_5_eq (ρ : Addr → Option Value) (call : CallF) (yc : YieldF) (lim k : Nat) (x0 x1 x2 x3 x4 x5 x6 x7 x8 x9 x10 x11 x12 x13 x14 x15 x16 x17 x18 x19 x20 x21 x22 x23 x24 x25 x26 x27 x28 x29 x30 x31 x32 x33 x34 x35 x36 x37 x38 x39 x40 x41 x42 x43 x44 x45 x46 x47 x48 x49 x50 x51 x52 x53 x54 x55 x56 x57 x58 x59 x60 x61 x62 x63 x64 x65 x66 x67 x68 x69 x70 x71 x72 x73 x74 x75 x76 x77 x78 x79 x80 x81 x82 x83 x84 x85 x86 : AV) (H : Heap) (kn : KS) (k1 : KS) (k0 : KS) (R : List AV → Heap → Res) :
    evL (cx ρ) call yc false 18 lim k (Code.at [1, 1, 1, 0, 1, 0, 1, 1, 1, 1, 1, 1, 1, 0, 0] c18) [x0, x1, x2, x3, x4, x5, x6, x7, x8, x9, x10, x11, x12, x13, x14, x15, x16, x17, x18, x19, x20, x21, x22, x23, x24, x25, x26, x27, x28, x29, x30, x31, x32, x33, x34, x35, x36, x37, x38, x39, x40, x41, x42, x43, x44, x45, x46, x47, x48, x49, x50, x51, x52, x53, x54, x55, x56, x57, x58, x59, x60, x61, x62, x63, x64, x65, x66, x67, x68, x69, x70, x71, x72, x73, x74, x75, x76, x77, x78, x79, x80, x81, x82, x83, x84, x85, x86] H (kk (some [2, 4, 5]) kn [(1, (some [2, 4, 5]), k1), (0, (some [2, 4, 5]), k0)] R [2, 3]) = N18_5 ρ call yc lim k x2 x4 x5 H (fun x2 x4 x5 H => k1 (sp 87 [(2, x2), (4, x4), (5, x5)]) H) := by
  have e : Code.at [1, 1, 1, 0, 1, 0, 1, 1, 1, 1, 1, 1, 1, 0, 0] c18 = .loop (Code.at [1, 1, 1, 0, 1, 0, 1, 1, 1, 1, 1, 1, 1, 0, 0, 0] c18) := by kernel_rfl
  rw [e]
  unfold N18_5
  exact loop_node [2, 4, 5] (fun x : Unit => (sp 87 [(2, x2), (4, x4), (5, x5)])) (fun (x : Unit) H kn => N18_5b ρ call yc lim k x2 x4 x5 H (fun H => kn () H) (fun x2 x4 x5 H => k1 (sp 87 [(2, x2), (4, x4), (5, x5)]) H)) (by kernel_rfl) (fun x => by kernel_rfl) (fun x H kn => N18_5b_eq ρ call yc lim k x2 x4 x5 H kn k1 k0 R) () [x0, x1, x2, x3, x4, x5, x6, x7, x8, x9, x10, x11, x12, x13, x14, x15, x16, x17, x18, x19, x20, x21, x22, x23, x24, x25, x26, x27, x28, x29, x30, x31, x32, x33, x34, x35, x36, x37, x38, x39, x40, x41, x42, x43, x44, x45, x46, x47, x48, x49, x50, x51, x52, x53, x54, x55, x56, x57, x58, x59, x60, x61, x62, x63, x64, x65, x66, x67, x68, x69, x70, x71, x72, x73, x74, x75, x76, x77, x78, x79, x80, x81, x82, x83, x84, x85, x86] H (by kernel_rfl)
noncomputable def N18_6 (ρ : Addr → Option Value) (call : CallF) (yc : YieldF) (lim k : Nat) (x2 x4 x5 x64 : AV) (H : Heap) (kn : AV → AV → AV → Heap → Res) : Res :=
  condK x64
  (
    kn x2 x4 x5 H)
  (
    purK (nilChkA x4) fun x18_1 =>
    purK (addA 1 x18_1) fun x19_1 =>
    effK H (stA lim H 1 x19_1 (.bool true)) fun _ H =>
    kn x2 x4 x5 H)
theorem N18_6_eq (ρ : Addr → Option Value) (call : CallF) (yc : YieldF) (lim k : Nat) (x2 x4 x5 x64 : AV) (H : Heap) (kn : KS) (k0 : KS) (R : List AV → Heap → Res) :
    evL (cx ρ) call yc false 18 lim k (Code.at [1, 1, 1, 0, 1, 0, 1, 1, 1, 1, 1, 1, 1, 1, 1] c18) (sp 87 [(2, x2), (4, x4), (5, x5), (64, x64)]) H (kk (some [2, 4, 5]) kn [(0, (some [2, 4, 5]), k0)] R [2, 3]) = N18_6 ρ call yc lim k x2 x4 x5 x64 H (fun x2 x4 x5 H => kn (sp 87 [(2, x2), (4, x4), (5, x5)]) H) := by
  kernel_rfl
noncomputable def N18_4 (ρ : Addr → Option Value) (call : CallF) (yc : YieldF) (lim k : Nat) (x2 x4 x5 x16 x42 : AV) (H : Heap) (kn : AV → AV → AV → Heap → Res) : Res :=
  condK x42
  (
    N18_5 ρ call yc lim k x2 x4 x5 H kn)
  (
    purK (binA Tryd.prog H .eql 3 x16 (.int .i64 8)) fun x65_1 =>
    condK x65_1
    (
      N18_6 ρ call yc lim k x2 x4 x5 x65_1 H kn)
    (
      purK (binA Tryd.prog H .eql 3 x16 (.int .i64 10)) fun x66_1 =>
      N18_6 ρ call yc lim k x2 x4 x5 x66_1 H kn))
theorem N18_4_x (ρ : Addr → Option Value) (call : CallF) (yc : YieldF) (lim k : Nat) (J : CodeF) (x2 x4 x5 x16 x42 : AV) (H : Heap) (kn : KS) (k0 : KS) (R : List AV → Heap → Res) :
    evX (cx ρ) call yc false 18 lim k J (Code.at [1, 1, 1, 0, 1, 0, 1, 1, 1, 1, 1, 1, 1] c18) (sp 87 [(2, x2), (4, x4), (5, x5), (16, x16), (42, x42)]) H (kk (some [2, 4, 5]) kn [(0, (some [2, 4, 5]), k0)] R [2, 3]) =
  condK x42
  (
    J (Code.at [1, 1, 1, 0, 1, 0, 1, 1, 1, 1, 1, 1, 1, 0, 0] c18) [.any, .any, x2, .any, x4, x5, .any, .any, .any, .any, .any, .any, .any, .any, .any, .any, x16, .any, .any, .any, .any, .any, .any, .any, .any, .any, .any, .any, .any, .any, .any, .any, .any, .any, .any, .any, .any, .any, .any, .any, .any, .any, x42, .any, .any, .any, .any, .any, .any, .any, .any, .any, .any, .any, .any, .any, .any, .any, .any, .any, .any, .any, .any, .any, .any, .any, .any, .any, .any, .any, .any, .any, .any, .any, .any, .any, .any, .any, .any, .any, .any, .any, .any, .any, .any, .any, .any] H (kk (some [2, 4, 5]) kn [(1, (some [2, 4, 5]), kn), (0, (some [2, 4, 5]), k0)] R [2, 3]))
  (
    purK (binA Tryd.prog H .eql 3 x16 (.int .i64 8)) fun x65_1 =>
    condK x65_1
    (
      J (Code.at [1, 1, 1, 0, 1, 0, 1, 1, 1, 1, 1, 1, 1, 1, 1] c18) (sp 87 [(2, x2), (4, x4), (5, x5), (64, x65_1)]) H (kk (some [2, 4, 5]) kn [(0, (some [2, 4, 5]), k0)] R [2, 3]))
    (
      purK (binA Tryd.prog H .eql 3 x16 (.int .i64 10)) fun x66_1 =>
      J (Code.at [1, 1, 1, 0, 1, 0, 1, 1, 1, 1, 1, 1, 1, 1, 1] c18) (sp 87 [(2, x2), (4, x4), (5, x5), (64, x66_1)]) H (kk (some [2, 4, 5]) kn [(0, (some [2, 4, 5]), k0)] R [2, 3]))) := by
  kernel_rfl
theorem N18_4_eq (ρ : Addr → Option Value) (call : CallF) (yc : YieldF) (lim k : Nat) (x2 x4 x5 x16 x42 : AV) (H : Heap) (kn : KS) (k0 : KS) (R : List AV → Heap → Res) :
    evL (cx ρ) call yc false 18 lim k (Code.at [1, 1, 1, 0, 1, 0, 1, 1, 1, 1, 1, 1, 1] c18) (sp 87 [(2, x2), (4, x4), (5, x5), (16, x16), (42, x42)]) H (kk (some [2, 4, 5]) kn [(0, (some [2, 4, 5]), k0)] R [2, 3]) = N18_4 ρ call yc lim k x2 x4 x5 x16 x42 H (fun x2 x4 x5 H => kn (sp 87 [(2, x2), (4, x4), (5, x5)]) H) := by
  rw [evL_X, N18_4_x]
  simp only [← evL_X, N18_4, N18_5_eq, N18_6_eq]
noncomputable def N18_3 (ρ : Addr → Option Value) (call : CallF) (yc : YieldF) (lim k : Nat) (x2 x4 x5 x16 x34 : AV) (H : Heap) (kn : AV → AV → AV → Heap → Res) : Res :=
  condK x34
  (
    resK (call lim 40 [x4] H) fun x40_1 H =>
    purK (addA 2 x5) fun x41_1 =>
    effK H (stA lim H 1 x41_1 x40_1) fun _ H =>
    kn x2 x4 x5 H)
  (
    purK (binA Tryd.prog H .eql 3 x16 (.int .i64 9)) fun x43_1 =>
    N18_4 ρ call yc lim k x2 x4 x5 x16 x43_1 H kn)
theorem N18_3_x (ρ : Addr → Option Value) (call : CallF) (yc : YieldF) (lim k : Nat) (J : CodeF) (x2 x4 x5 x16 x34 : AV) (H : Heap) (kn : KS) (k0 : KS) (R : List AV → Heap → Res) :
    evX (cx ρ) call yc false 18 lim k J (Code.at [1, 1, 1, 0, 1, 0, 1, 1, 1, 1, 1] c18) (sp 87 [(2, x2), (4, x4), (5, x5), (16, x16), (34, x34)]) H (kk (some [2, 4, 5]) kn [(0, (some [2, 4, 5]), k0)] R [2, 3]) =
  condK x34
  (
    resK (call lim 40 [x4] H) fun x40_1 H =>
    purK (addA 2 x5) fun x41_1 =>
    effK H (stA lim H 1 x41_1 x40_1) fun _ H =>
    kn (sp 87 [(2, x2), (4, x4), (5, x5)]) H)
  (
    purK (binA Tryd.prog H .eql 3 x16 (.int .i64 9)) fun x43_1 =>
    J (Code.at [1, 1, 1, 0, 1, 0, 1, 1, 1, 1, 1, 1, 1] c18) (sp 87 [(2, x2), (4, x4), (5, x5), (16, x16), (42, x43_1)]) H (kk (some [2, 4, 5]) kn [(0, (some [2, 4, 5]), k0)] R [2, 3])) := by
  kernel_rfl
theorem N18_3_eq (ρ : Addr → Option Value) (call : CallF) (yc : YieldF) (lim k : Nat) (x2 x4 x5 x16 x34 : AV) (H : Heap) (kn : KS) (k0 : KS) (R : List AV → Heap → Res) :
    evL (cx ρ) call yc false 18 lim k (Code.at [1, 1, 1, 0, 1, 0, 1, 1, 1, 1, 1] c18) (sp 87 [(2, x2), (4, x4), (5, x5), (16, x16), (34, x34)]) H (kk (some [2, 4, 5]) kn [(0, (some [2, 4, 5]), k0)] R [2, 3]) = N18_3 ρ call yc lim k x2 x4 x5 x16 x34 H (fun x2 x4 x5 H => kn (sp 87 [(2, x2), (4, x4), (5, x5)]) H) := by
  rw [evL_X, N18_3_x]
  simp only [← evL_X, N18_3, N18_4_eq]
noncomputable def N18_7 (ρ : Addr → Option Value) (call : CallF) (yc : YieldF) (lim k : Nat) (x2 x4 x5 x16 x34 : AV) (H : Heap) (kn : AV → AV → AV → AV → AV → Heap → Res) : Res :=
  condK x34
  (
    kn x2 x4 x5 x16 x34 H)
  (
    purK (binA Tryd.prog H .eql 3 x16 (.int .i64 6)) fun x37_1 =>
    condK x37_1
    (
      kn x2 x4 x5 x16 x37_1 H)
    (
      purK (binA Tryd.prog H .eql 3 x16 (.int .i64 7)) fun x38_1 =>
      kn x2 x4 x5 x16 x38_1 H))
theorem N18_7_eq (ρ : Addr → Option Value) (call : CallF) (yc : YieldF) (lim k : Nat) (x2 x4 x5 x16 x34 : AV) (H : Heap) (kn : KS) (k0 : KS) (R : List AV → Heap → Res) :
    evL (cx ρ) call yc false 18 lim k (Code.at [1, 1, 1, 0, 1, 0, 1, 1, 1, 1, 0, 1, 1, 1] c18) (sp 87 [(2, x2), (4, x4), (5, x5), (16, x16), (34, x34)]) H (kk (some [2, 4, 5, 16, 34]) kn [(0, (some [2, 4, 5]), k0)] R [2, 3]) = N18_7 ρ call yc lim k x2 x4 x5 x16 x34 H (fun x2 x4 x5 x16 x34 H => kn (sp 87 [(2, x2), (4, x4), (5, x5), (16, x16), (34, x34)]) H) := by
  kernel_rfl
noncomputable def N18_2 (ρ : Addr → Option Value) (call : CallF) (yc : YieldF) (lim k : Nat) (x2 x4 x5 x16 x28 : AV) (H : Heap) (kn : AV → AV → AV → Heap → Res) : Res :=
  condK x28
  (
    resK (call lim 40 [x4] H) fun x32_1 H =>
    purK (addA 1 x5) fun x33_1 =>
    effK H (stA lim H 1 x33_1 x32_1) fun _ H =>
    kn x2 x4 x5 H)
  (
    purK (binA Tryd.prog H .eql 3 x16 (.int .i64 4)) fun x35_1 =>
    condK x35_1
    (
      N18_3 ρ call yc lim k x2 x4 x5 x16 x35_1 H kn)
    (
      purK (binA Tryd.prog H .eql 3 x16 (.int .i64 5)) fun x36_1 =>
      N18_7 ρ call yc lim k x2 x4 x5 x16 x36_1 H (fun x2_1 x4_1 x5_1 x16_1 x34_1 H =>
        N18_3 ρ call yc lim k x2_1 x4_1 x5_1 x16_1 x34_1 H kn)))
theorem N18_2_x (ρ : Addr → Option Value) (call : CallF) (yc : YieldF) (lim k : Nat) (J : CodeF) (x2 x4 x5 x16 x28 : AV) (H : Heap) (kn : KS) (k0 : KS) (R : List AV → Heap → Res) :
    evX (cx ρ) call yc false 18 lim k J (Code.at [1, 1, 1, 0, 1, 0, 1, 1, 1] c18) (sp 87 [(2, x2), (4, x4), (5, x5), (16, x16), (28, x28)]) H (kk (some [2, 4, 5]) kn [(0, (some [2, 4, 5]), k0)] R [2, 3]) =
  condK x28
  (
    resK (call lim 40 [x4] H) fun x32_1 H =>
    purK (addA 1 x5) fun x33_1 =>
    effK H (stA lim H 1 x33_1 x32_1) fun _ H =>
    kn (sp 87 [(2, x2), (4, x4), (5, x5)]) H)
  (
    purK (binA Tryd.prog H .eql 3 x16 (.int .i64 4)) fun x35_1 =>
    condK x35_1
    (
      J (Code.at [1, 1, 1, 0, 1, 0, 1, 1, 1, 1, 1] c18) (sp 87 [(2, x2), (4, x4), (5, x5), (16, x16), (34, x35_1)]) H (kk (some [2, 4, 5]) kn [(0, (some [2, 4, 5]), k0)] R [2, 3]))
    (
      purK (binA Tryd.prog H .eql 3 x16 (.int .i64 5)) fun x36_1 =>
      J (Code.at [1, 1, 1, 0, 1, 0, 1, 1, 1, 1, 0, 1, 1, 1] c18) (sp 87 [(2, x2), (4, x4), (5, x5), (16, x16), (34, x36_1)]) H (kk (some [2, 4, 5, 16, 34]) (fun s H => J (Code.at [1, 1, 1, 0, 1, 0, 1, 1, 1, 1, 1] c18) s H (kk (some [2, 4, 5]) kn [(0, (some [2, 4, 5]), k0)] R [2, 3])) [(0, (some [2, 4, 5]), k0)] R [2, 3]))) := by
  kernel_rfl
theorem N18_2_eq (ρ : Addr → Option Value) (call : CallF) (yc : YieldF) (lim k : Nat) (x2 x4 x5 x16 x28 : AV) (H : Heap) (kn : KS) (k0 : KS) (R : List AV → Heap → Res) :
    evL (cx ρ) call yc false 18 lim k (Code.at [1, 1, 1, 0, 1, 0, 1, 1, 1] c18) (sp 87 [(2, x2), (4, x4), (5, x5), (16, x16), (28, x28)]) H (kk (some [2, 4, 5]) kn [(0, (some [2, 4, 5]), k0)] R [2, 3]) = N18_2 ρ call yc lim k x2 x4 x5 x16 x28 H (fun x2 x4 x5 H => kn (sp 87 [(2, x2), (4, x4), (5, x5)]) H) := by
  rw [evL_X, N18_2_x]
  simp only [← evL_X, N18_2, N18_3_eq, N18_7_eq]
noncomputable def L18 (ρ : Addr → Option Value) (call : CallF) (yc : YieldF) (lim k : Nat) (x0 : AV) (H : Heap) : Res :=
  effK H (some (.ptr H.sz 0 0, .new (newCells 43 false [.int .i64 0, .int .i64 0, .int .i64 0, .int .i64 0, .str ByteArray.empty, .str ByteArray.empty, .int .u64 0, .nils]))) fun x2 H =>
  resK (call lim 37 [x0, (.str (ByteArray.mk #[32]))] H) fun x7 H =>
  purK (bldA [.nils, .bool false] [(0, 1, x7)]) fun x8 =>
  effK H (boxA H 75 x8) fun x9 H =>
  mkK H (some (.ptr H.sz 0 0, .new (newCells 43 false [.int .i64 0, .int .i64 0, .int .i64 0, .int .i64 0, .str ByteArray.empty, .str ByteArray.empty, .int .u64 0, .nils]))) true fun x5 H =>
  purK (slR 1 11 (.xp ⟨0, 0, none⟩) none none none) fun x10 =>
  resK (call lim 39 [x9] H) fun x12 H =>
  resK (call lim 38 [x10, x12] H) fun x13 H =>
  purK (bldA [.int .i64 0, .int .i64 0, .int .i64 0, .int .i64 0, .str ByteArray.empty, .str ByteArray.empty, .int .u64 0, .nils] [(0, 1, x13)]) fun x14 =>
  effK H (stA lim H 8 x5 x14) fun _ H =>
  purK (addA 0 x5) fun x15 =>
  purK (ld1 ρ H x15) fun x16 =>
  purK (binA Tryd.prog H .eql 3 x16 (.int .i64 1)) fun x21 =>
  condK x21
  (
    resK (call lim 40 [x9] H) fun x23 H =>
    purK (addA 1 x5) fun x24 =>
    effK H (stA lim H 1 x24 x23) fun _ H =>
    resK (call lim 41 [x9] H) fun x26 H =>
    purK (addA 3 x5) fun x27 =>
    effK H (stA lim H 4 x27 x26) fun _ H =>
    N18_1 ρ call yc lim k x2 x9 x5 H (retC (cx ρ) [some 43, none]))
  (
    purK (binA Tryd.prog H .eql 3 x16 (.int .i64 2)) fun x29 =>
    condK x29
    (
      N18_2 ρ call yc lim k x2 x9 x5 x16 x29 H (fun x2_1 x4 x5_1 H =>
        N18_1 ρ call yc lim k x2_1 x4 x5_1 H (retC (cx ρ) [some 43, none])))
    (
      purK (binA Tryd.prog H .eql 3 x16 (.int .i64 3)) fun x30 =>
      N18_2 ρ call yc lim k x2 x9 x5 x16 x30 H (fun x2_2 x4_1 x5_2 H =>
        N18_1 ρ call yc lim k x2_2 x4_1 x5_2 H (retC (cx ρ) [some 43, none]))))
theorem L18_x (ρ : Addr → Option Value) (call : CallF) (yc : YieldF) (lim k : Nat) (J : CodeF) (x0 : AV) (H : Heap) :
    evX (cx ρ) call yc false 18 lim k J c18 [x0, (.tup []), (.tup []), (.tup []), (.tup []), (.tup []), (.tup []), (.tup []), (.tup []), (.tup []), (.tup []), (.tup []), (.tup []), (.tup []), (.tup []), (.tup []), (.tup []), (.tup []), (.tup []), (.tup []), (.tup []), (.tup []), (.tup []), (.tup []), (.tup []), (.tup []), (.tup []), (.tup []), (.tup []), (.tup []), (.tup []), (.tup []), (.tup []), (.tup []), (.tup []), (.tup []), (.tup []), (.tup []), (.tup []), (.tup []), (.tup []), (.tup []), (.tup []), (.tup []), (.tup []), (.tup []), (.tup []), (.tup []), (.tup []), (.tup []), (.tup []), (.tup []), (.tup []), (.tup []), (.tup []), (.tup []), (.tup []), (.tup []), (.tup []), (.tup []), (.tup []), (.tup []), (.tup []), (.tup []), (.tup []), (.tup []), (.tup []), (.tup []), (.tup []), (.tup []), (.tup []), (.tup []), (.tup []), (.tup []), (.tup []), (.tup []), (.tup []), (.tup []), (.tup []), (.tup []), (.tup []), (.tup []), (.tup []), (.tup []), (.tup []), (.tup []), (.tup [])] H (kk none (fun s H => (retC (cx ρ) [some 43, none]) (([2, 3] : List Nat).map fun t => s.getD t (.tup [])) H) [] (retC (cx ρ) [some 43, none]) [2, 3]) =
  effK H (some (.ptr H.sz 0 0, .new (newCells 43 false [.int .i64 0, .int .i64 0, .int .i64 0, .int .i64 0, .str ByteArray.empty, .str ByteArray.empty, .int .u64 0, .nils]))) fun x2 H =>
  resK (call lim 37 [x0, (.str (ByteArray.mk #[32]))] H) fun x7 H =>
  purK (bldA [.nils, .bool false] [(0, 1, x7)]) fun x8 =>
  effK H (boxA H 75 x8) fun x9 H =>
  mkK H (some (.ptr H.sz 0 0, .new (newCells 43 false [.int .i64 0, .int .i64 0, .int .i64 0, .int .i64 0, .str ByteArray.empty, .str ByteArray.empty, .int .u64 0, .nils]))) true fun x5 H =>
  purK (slR 1 11 (.xp ⟨0, 0, none⟩) none none none) fun x10 =>
  resK (call lim 39 [x9] H) fun x12 H =>
  resK (call lim 38 [x10, x12] H) fun x13 H =>
  purK (bldA [.int .i64 0, .int .i64 0, .int .i64 0, .int .i64 0, .str ByteArray.empty, .str ByteArray.empty, .int .u64 0, .nils] [(0, 1, x13)]) fun x14 =>
  effK H (stA lim H 8 x5 x14) fun _ H =>
  purK (addA 0 x5) fun x15 =>
  purK (ld1 ρ H x15) fun x16 =>
  purK (binA Tryd.prog H .eql 3 x16 (.int .i64 1)) fun x21 =>
  condK x21
  (
    resK (call lim 40 [x9] H) fun x23 H =>
    purK (addA 1 x5) fun x24 =>
    effK H (stA lim H 1 x24 x23) fun _ H =>
    resK (call lim 41 [x9] H) fun x26 H =>
    purK (addA 3 x5) fun x27 =>
    effK H (stA lim H 4 x27 x26) fun _ H =>
    J (Code.at [1, 1, 1, 1] c18) (sp 87 [(2, x2), (4, x9), (5, x5)]) H (kk none (fun s H => (retC (cx ρ) [some 43, none]) (([2, 3] : List Nat).map fun t => s.getD t (.tup [])) H) [] (retC (cx ρ) [some 43, none]) [2, 3]))
  (
    purK (binA Tryd.prog H .eql 3 x16 (.int .i64 2)) fun x29 =>
    condK x29
    (
      J (Code.at [1, 1, 1, 0, 1, 0, 1, 1, 1] c18) (sp 87 [(2, x2), (4, x9), (5, x5), (16, x16), (28, x29)]) H (kk (some [2, 4, 5]) (fun s H => J (Code.at [1, 1, 1, 1] c18) s H (kk none (fun s H => (retC (cx ρ) [some 43, none]) (([2, 3] : List Nat).map fun t => s.getD t (.tup [])) H) [] (retC (cx ρ) [some 43, none]) [2, 3])) [(0, (some [2, 4, 5]), (fun s H => J (Code.at [1, 1, 1, 1] c18) s H (kk none (fun s H => (retC (cx ρ) [some 43, none]) (([2, 3] : List Nat).map fun t => s.getD t (.tup [])) H) [] (retC (cx ρ) [some 43, none]) [2, 3])))] (retC (cx ρ) [some 43, none]) [2, 3]))
    (
      purK (binA Tryd.prog H .eql 3 x16 (.int .i64 3)) fun x30 =>
      J (Code.at [1, 1, 1, 0, 1, 0, 1, 1, 1] c18) (sp 87 [(2, x2), (4, x9), (5, x5), (16, x16), (28, x30)]) H (kk (some [2, 4, 5]) (fun s H => J (Code.at [1, 1, 1, 1] c18) s H (kk none (fun s H => (retC (cx ρ) [some 43, none]) (([2, 3] : List Nat).map fun t => s.getD t (.tup [])) H) [] (retC (cx ρ) [some 43, none]) [2, 3])) [(0, (some [2, 4, 5]), (fun s H => J (Code.at [1, 1, 1, 1] c18) s H (kk none (fun s H => (retC (cx ρ) [some 43, none]) (([2, 3] : List Nat).map fun t => s.getD t (.tup [])) H) [] (retC (cx ρ) [some 43, none]) [2, 3])))] (retC (cx ρ) [some 43, none]) [2, 3]))) := by
  kernel_rfl
theorem G18 (ρ : Addr → Option Value) (call : CallF) (yc : YieldF) (lim k : Nat) (x0 : AV) (H : Heap) :
    evL (cx ρ) call yc false 18 lim k c18 [x0, (.tup []), (.tup []), (.tup []), (.tup []), (.tup []), (.tup []), (.tup []), (.tup []), (.tup []), (.tup []), (.tup []), (.tup []), (.tup []), (.tup []), (.tup []), (.tup []), (.tup []), (.tup []), (.tup []), (.tup []), (.tup []), (.tup []), (.tup []), (.tup []), (.tup []), (.tup []), (.tup []), (.tup []), (.tup []), (.tup []), (.tup []), (.tup []), (.tup []), (.tup []), (.tup []), (.tup []), (.tup []), (.tup []), (.tup []), (.tup []), (.tup []), (.tup []), (.tup []), (.tup []), (.tup []), (.tup []), (.tup []), (.tup []), (.tup []), (.tup []), (.tup []), (.tup []), (.tup []), (.tup []), (.tup []), (.tup []), (.tup []), (.tup []), (.tup []), (.tup []), (.tup []), (.tup []), (.tup []), (.tup []), (.tup []), (.tup []), (.tup []), (.tup []), (.tup []), (.tup []), (.tup []), (.tup []), (.tup []), (.tup []), (.tup []), (.tup []), (.tup []), (.tup []), (.tup []), (.tup []), (.tup []), (.tup []), (.tup []), (.tup []), (.tup []), (.tup [])] H (kk none (fun s H => (retC (cx ρ) [some 43, none]) (([2, 3] : List Nat).map fun t => s.getD t (.tup [])) H) [] (retC (cx ρ) [some 43, none]) [2, 3]) = L18 ρ call yc lim k x0 H := by
  rw [evL_X, L18_x]
  simp only [← evL_X, L18, N18_1_eq, N18_2_eq]
theorem E18 (ρ : Addr → Option Value) (k lim : Nat) (x0 : AV) (H : Heap) : evCall (cx ρ) (k + 1) lim 18 [x0] H = L18 ρ (evCall (cx ρ) k) (evCY (cx ρ) k).2 lim k x0 H := by
  rw [evCall_cells (cx ρ) k lim 18 _ H Tryd.f18 c18 [2, 3] [some 43, none] (by kernel_rfl) (by kernel_rfl) (by kernel_rfl) (by kernel_rfl) (by kernel_rfl) (by kernel_rfl)]
  exact G18 ρ (evCall (cx ρ) k) (evCY (cx ρ) k).2 lim k x0 H
-- (*strings.Builder).WriteByte
noncomputable def c22 : Code := Code.of Tryd.prog 22
noncomputable def L22 (ρ : Addr → Option Value) (call : CallF) (yc : YieldF) (lim k : Nat) (x0 x1 : AV) (H : Heap) : Res :=
  resK (call lim 45 [x0] H) fun x6 H =>
  purK (nilChkA x0) fun x9 =>
  purK (addA 1 x9) fun x10 =>
  purK (ld1 ρ H x10) fun x11 =>
  effK H (bldS H 5 1 [.int .u8 0] 1 [(0, 1, x1)]) fun x13 H =>
  effK H (apA ρ lim H 5 1 1 x11 x13) fun x14 H =>
  purK (nilChkA x0) fun x15 =>
  purK (addA 1 x15) fun x16 =>
  effK H (stA lim H 1 x16 x14) fun _ H =>
  retK [.nili] H
theorem G22 (ρ : Addr → Option Value) (call : CallF) (yc : YieldF) (lim k : Nat) (x0 x1 : AV) (H : Heap) :
    evL (cx ρ) call yc false 22 lim k c22 [x0, x1, (.tup []), (.tup []), (.tup []), (.tup []), (.tup []), (.tup []), (.tup []), (.tup []), (.tup []), (.tup []), (.tup []), (.tup []), (.tup []), (.tup []), (.tup [])] H (kk none (fun s H => retK (([4] : List Nat).map fun t => s.getD t (.tup [])) H) [] retK [4]) = L22 ρ call yc lim k x0 x1 H := by
  kernel_rfl
theorem E22 (ρ : Addr → Option Value) (k lim : Nat) (x0 x1 : AV) (H : Heap) : evCall (cx ρ) (k + 1) lim 22 [x0, x1] H = L22 ρ (evCall (cx ρ) k) (evCY (cx ρ) k).2 lim k x0 x1 H := by
  rw [evCall_body (cx ρ) k lim 22 _ H Tryd.f22 c22 [4] (by kernel_rfl) (by kernel_rfl) (by kernel_rfl) (by kernel_rfl) (by kernel_rfl)]
  exact G22 ρ (evCall (cx ρ) k) (evCY (cx ρ) k).2 lim k x0 x1 H
-- haycroft/script.plain
noncomputable def c23 : Code := Code.of Tryd.prog 23
noncomputable def L23 (ρ : Addr → Option Value) (call : CallF) (yc : YieldF) (lim k : Nat) (x0 : AV) (H : Heap) : Res :=
  purK (binA Tryd.prog H .geq 5 x0 (.int .u8 33)) fun x4 =>
  purK (gPur (wantV x4 true) (some x0)) fun x6 =>
  purK (gPur (wantV x4 true) (binA Tryd.prog H .leq 5 x6 (.int .u8 126))) fun x7 =>
  purK (pickA x4 x7 (.bool false)) fun x8 =>
  purK (gPur (wantV x8 true) (some x0)) fun x10 =>
  purK (gPur (wantV x8 true) (binA Tryd.prog H .neq 5 x10 (.int .u8 37))) fun x11 =>
  purK (pickA x8 x11 (.bool false)) fun x12 =>
  retK [x12] H
theorem G23 (ρ : Addr → Option Value) (call : CallF) (yc : YieldF) (lim k : Nat) (x0 : AV) (H : Heap) :
    evL (cx ρ) call yc false 23 lim k c23 [x0, (.tup []), (.tup []), (.tup []), (.tup []), (.tup []), (.tup []), (.tup []), (.tup []), (.tup []), (.tup []), (.tup []), (.tup [])] H (kk none (fun s H => retK (([2] : List Nat).map fun t => s.getD t (.tup [])) H) [] retK [2]) = L23 ρ call yc lim k x0 H := by
  kernel_rfl
theorem E23 (ρ : Addr → Option Value) (k lim : Nat) (x0 : AV) (H : Heap) : evCall (cx ρ) (k + 1) lim 23 [x0] H = L23 ρ (evCall (cx ρ) k) (evCY (cx ρ) k).2 lim k x0 H := by
  rw [evCall_body (cx ρ) k lim 23 _ H Tryd.f23 c23 [2] (by kernel_rfl) (by kernel_rfl) (by kernel_rfl) (by kernel_rfl) (by kernel_rfl)]
  exact G23 ρ (evCall (cx ρ) k) (evCY (cx ρ) k).2 lim k x0 H
-- (*strings.Builder).WriteString
noncomputable def c24 : Code := Code.of Tryd.prog 24
noncomputable def L24 (ρ : Addr → Option Value) (call : CallF) (yc : YieldF) (lim k : Nat) (x0 x1 : AV) (H : Heap) : Res :=
  resK (call lim 45 [x0] H) fun x7 H =>
  purK (nilChkA x0) fun x10 =>
  purK (addA 1 x10) fun x11 =>
  purK (ld1 ρ H x11) fun x12 =>
  effK H (apA ρ lim H 5 1 1 x12 x1) fun x14 H =>
  purK (nilChkA x0) fun x15 =>
  purK (addA 1 x15) fun x16 =>
  effK H (stA lim H 1 x16 x14) fun _ H =>
  purK (lenT x1) fun x18 =>
  retK [x18, .nili] H
theorem G24 (ρ : Addr → Option Value) (call : CallF) (yc : YieldF) (lim k : Nat) (x0 x1 : AV) (H : Heap) :
    evL (cx ρ) call yc false 24 lim k c24 [x0, x1, (.tup []), (.tup []), (.tup []), (.tup []), (.tup []), (.tup []), (.tup []), (.tup []), (.tup []), (.tup []), (.tup []), (.tup []), (.tup []), (.tup []), (.tup []), (.tup []), (.tup [])] H (kk none (fun s H => retK (([4, 5] : List Nat).map fun t => s.getD t (.tup [])) H) [] retK [4, 5]) = L24 ρ call yc lim k x0 x1 H := by
  kernel_rfl
theorem E24 (ρ : Addr → Option Value) (k lim : Nat) (x0 x1 : AV) (H : Heap) : evCall (cx ρ) (k + 1) lim 24 [x0, x1] H = L24 ρ (evCall (cx ρ) k) (evCY (cx ρ) k).2 lim k x0 x1 H := by
  rw [evCall_body (cx ρ) k lim 24 _ H Tryd.f24 c24 [4, 5] (by kernel_rfl) (by kernel_rfl) (by kernel_rfl) (by kernel_rfl) (by kernel_rfl)]
  exact G24 ρ (evCall (cx ρ) k) (evCY (cx ρ) k).2 lim k x0 x1 H
-- (*strings.Builder).String
noncomputable def c25 : Code := Code.of Tryd.prog 25
noncomputable def L25 (ρ : Addr → Option Value) (call : CallF) (yc : YieldF) (lim k : Nat) (x0 : AV) (H : Heap) : Res :=
  purK (nilChkA x0) fun x4 =>
  purK (addA 1 x4) fun x5 =>
  purK (ld1 ρ H x5) fun x6 =>
  purK (nilChkA x0) fun x9 =>
  purK (addA 1 x9) fun x10 =>
  purK (ld1 ρ H x10) fun x11 =>
  purK (lenS x11) fun x12 =>
  effK H (builtinA (cx ρ) lim H .unsafeSliceData #[52] [x6]) fun x7 H => bif (agn (lenS x11) x12 && (agn (ld1 ρ H x10) x11 && true)) then
    effK H (builtinA (cx ρ) lim H .unsafeString #[84, 3] [x7, x12]) fun x13 H =>
    retK [x13] H
  else none
theorem G25 (ρ : Addr → Option Value) (call : CallF) (yc : YieldF) (lim k : Nat) (x0 : AV) (H : Heap) :
    evL (cx ρ) call yc false 25 lim k c25 [x0, (.tup []), (.tup []), (.tup []), (.tup []), (.tup []), (.tup []), (.tup []), (.tup []), (.tup []), (.tup []), (.tup []), (.tup []), (.tup [])] H (kk none (fun s H => retK (([2] : List Nat).map fun t => s.getD t (.tup [])) H) [] retK [2]) = L25 ρ call yc lim k x0 H := by
  kernel_rfl
theorem E25 (ρ : Addr → Option Value) (k lim : Nat) (x0 : AV) (H : Heap) : evCall (cx ρ) (k + 1) lim 25 [x0] H = L25 ρ (evCall (cx ρ) k) (evCY (cx ρ) k).2 lim k x0 H := by
  rw [evCall_body (cx ρ) k lim 25 _ H Tryd.f25 c25 [2] (by kernel_rfl) (by kernel_rfl) (by kernel_rfl) (by kernel_rfl) (by kernel_rfl)]
  exact G25 ρ (evCall (cx ρ) k) (evCY (cx ρ) k).2 lim k x0 H
end Go.Proofs.YtnkeebchblfbgaaDoor

-- part Sw2
/- Functions, lifted. Printed by a program of this repo. -/
set_option linter.unusedVariables false
set_option linter.unusedSimpArgs false
set_option maxRecDepth 100000
set_option maxHeartbeats 4000000
namespace Go.Proofs.YtnkeebchblfbgaaDoor
open Go.Ev Go.RowKit
-- strings.CutPrefix
noncomputable def c26 : Code := Code.of Tryd.prog 26
noncomputable def L26 (ρ : Addr → Option Value) (call : CallF) (yc : YieldF) (lim k : Nat) (x0 x1 : AV) (H : Heap) : Res :=
  resK (call lim 46 [x0, x1] H) fun x8 H =>
  purK (extA 0 x8) fun x9 =>
  purK (extA 1 x8) fun x10 =>
  retK [x9, x10] H
theorem G26 (ρ : Addr → Option Value) (call : CallF) (yc : YieldF) (lim k : Nat) (x0 x1 : AV) (H : Heap) :
    evL (cx ρ) call yc false 26 lim k c26 [x0, x1, (.tup []), (.tup []), (.tup []), (.tup []), (.tup []), (.tup []), (.tup []), (.tup []), (.tup [])] H (kk none (fun s H => retK (([4, 5] : List Nat).map fun t => s.getD t (.tup [])) H) [] retK [4, 5]) = L26 ρ call yc lim k x0 x1 H := by
  kernel_rfl
theorem E26 (ρ : Addr → Option Value) (k lim : Nat) (x0 x1 : AV) (H : Heap) : evCall (cx ρ) (k + 1) lim 26 [x0, x1] H = L26 ρ (evCall (cx ρ) k) (evCY (cx ρ) k).2 lim k x0 x1 H := by
  rw [evCall_body (cx ρ) k lim 26 _ H Tryd.f26 c26 [4, 5] (by kernel_rfl) (by kernel_rfl) (by kernel_rfl) (by kernel_rfl) (by kernel_rfl)]
  exact G26 ρ (evCall (cx ρ) k) (evCY (cx ρ) k).2 lim k x0 x1 H
-- strings.IndexByte
noncomputable def c27 : Code := Code.of Tryd.prog 27
noncomputable def L27 (ρ : Addr → Option Value) (call : CallF) (yc : YieldF) (lim k : Nat) (x0 x1 : AV) (H : Heap) : Res :=
  resK (call lim 47 [x0, x1] H) fun x7 H =>
  retK [x7] H
theorem G27 (ρ : Addr → Option Value) (call : CallF) (yc : YieldF) (lim k : Nat) (x0 x1 : AV) (H : Heap) :
    evL (cx ρ) call yc false 27 lim k c27 [x0, x1, (.tup []), (.tup []), (.tup []), (.tup []), (.tup []), (.tup [])] H (kk none (fun s H => retK (([4] : List Nat).map fun t => s.getD t (.tup [])) H) [] retK [4]) = L27 ρ call yc lim k x0 x1 H := by
  kernel_rfl
theorem E27 (ρ : Addr → Option Value) (k lim : Nat) (x0 x1 : AV) (H : Heap) : evCall (cx ρ) (k + 1) lim 27 [x0, x1] H = L27 ρ (evCall (cx ρ) k) (evCY (cx ρ) k).2 lim k x0 x1 H := by
  rw [evCall_body (cx ρ) k lim 27 _ H Tryd.f27 c27 [4] (by kernel_rfl) (by kernel_rfl) (by kernel_rfl) (by kernel_rfl) (by kernel_rfl)]
  exact G27 ρ (evCall (cx ρ) k) (evCY (cx ρ) k).2 lim k x0 x1 H
-- haycroft/haycroftref27.plain
noncomputable def c28 : Code := Code.of Tryd.prog 28
noncomputable def L28 (ρ : Addr → Option Value) (call : CallF) (yc : YieldF) (lim k : Nat) (x0 : AV) (H : Heap) : Res :=
  purK (binA Tryd.prog H .gtr 5 x0 (.int .u8 32)) fun x4 =>
  purK (gPur (wantV x4 true) (some x0)) fun x6 =>
  purK (gPur (wantV x4 true) (binA Tryd.prog H .lss 5 x6 (.int .u8 127))) fun x7 =>
  purK (pickA x4 x7 (.bool false)) fun x8 =>
  purK (gPur (wantV x8 true) (some x0)) fun x10 =>
  purK (gPur (wantV x8 true) (binA Tryd.prog H .neq 5 x10 (.int .u8 37))) fun x11 =>
  purK (pickA x8 x11 (.bool false)) fun x12 =>
  retK [x12] H
theorem G28 (ρ : Addr → Option Value) (call : CallF) (yc : YieldF) (lim k : Nat) (x0 : AV) (H : Heap) :
    evL (cx ρ) call yc false 28 lim k c28 [x0, (.tup []), (.tup []), (.tup []), (.tup []), (.tup []), (.tup []), (.tup []), (.tup []), (.tup []), (.tup []), (.tup []), (.tup [])] H (kk none (fun s H => retK (([2] : List Nat).map fun t => s.getD t (.tup [])) H) [] retK [2]) = L28 ρ call yc lim k x0 H := by
  kernel_rfl
theorem E28 (ρ : Addr → Option Value) (k lim : Nat) (x0 : AV) (H : Heap) : evCall (cx ρ) (k + 1) lim 28 [x0] H = L28 ρ (evCall (cx ρ) k) (evCY (cx ρ) k).2 lim k x0 H := by
  rw [evCall_body (cx ρ) k lim 28 _ H Tryd.f28 c28 [2] (by kernel_rfl) (by kernel_rfl) (by kernel_rfl) (by kernel_rfl) (by kernel_rfl)]
  exact G28 ρ (evCall (cx ρ) k) (evCY (cx ρ) k).2 lim k x0 H
-- haycroft/haycroftref27.worth
noncomputable def c29 : Code := Code.of Tryd.prog 29
noncomputable def L29 (ρ : Addr → Option Value) (call : CallF) (yc : YieldF) (lim k : Nat) (x0 : AV) (H : Heap) : Res :=
  purK (binA Tryd.prog H .geq 5 x0 (.int .u8 48)) fun x4 =>
  purK (gPur (wantV x4 true) (some x0)) fun x6 =>
  purK (gPur (wantV x4 true) (binA Tryd.prog H .leq 5 x6 (.int .u8 57))) fun x7 =>
  purK (pickA x4 x7 (.bool false)) fun x8 =>
  condK x8
  (
    purK (cvI .i64 x0) fun x10 =>
    purK (binA Tryd.prog H .sub 3 x10 (.int .i64 48)) fun x11 =>
    retK [x11] H)
  (
    purK (binA Tryd.prog H .geq 5 x0 (.int .u8 65)) fun x13 =>
    purK (gPur (wantV x13 true) (some x0)) fun x15 =>
    purK (gPur (wantV x13 true) (binA Tryd.prog H .leq 5 x15 (.int .u8 70))) fun x16 =>
    purK (pickA x13 x16 (.bool false)) fun x17 =>
    condK x17
    (
      purK (cvI .i64 x0) fun x19 =>
      purK (binA Tryd.prog H .sub 3 x19 (.int .i64 55)) fun x20 =>
      retK [x20] H)
    (
      retK [(.int .i64 99)] H))
theorem G29 (ρ : Addr → Option Value) (call : CallF) (yc : YieldF) (lim k : Nat) (x0 : AV) (H : Heap) :
    evL (cx ρ) call yc false 29 lim k c29 [x0, (.tup []), (.tup []), (.tup []), (.tup []), (.tup []), (.tup []), (.tup []), (.tup []), (.tup []), (.tup []), (.tup []), (.tup []), (.tup []), (.tup []), (.tup []), (.tup []), (.tup []), (.tup []), (.tup []), (.tup [])] H (kk none (fun s H => retK (([2] : List Nat).map fun t => s.getD t (.tup [])) H) [] retK [2]) = L29 ρ call yc lim k x0 H := by
  kernel_rfl
theorem E29 (ρ : Addr → Option Value) (k lim : Nat) (x0 : AV) (H : Heap) : evCall (cx ρ) (k + 1) lim 29 [x0] H = L29 ρ (evCall (cx ρ) k) (evCY (cx ρ) k).2 lim k x0 H := by
  rw [evCall_body (cx ρ) k lim 29 _ H Tryd.f29 c29 [2] (by kernel_rfl) (by kernel_rfl) (by kernel_rfl) (by kernel_rfl) (by kernel_rfl)]
  exact G29 ρ (evCall (cx ρ) k) (evCY (cx ρ) k).2 lim k x0 H
-- haycroft/haycroftref27.digit
noncomputable def c30 : Code := Code.of Tryd.prog 30
noncomputable def L30 (ρ : Addr → Option Value) (call : CallF) (yc : YieldF) (lim k : Nat) (x0 : AV) (H : Heap) : Res :=
  purK (binA Tryd.prog H .lss 5 x0 (.int .u8 10)) fun x4 =>
  condK x4
  (
    purK (binA Tryd.prog H .add 5 (.int .u8 48) x0) fun x6 =>
    retK [x6] H)
  (
    purK (binA Tryd.prog H .add 5 (.int .u8 55) x0) fun x8 =>
    retK [x8] H)
theorem G30 (ρ : Addr → Option Value) (call : CallF) (yc : YieldF) (lim k : Nat) (x0 : AV) (H : Heap) :
    evL (cx ρ) call yc false 30 lim k c30 [x0, (.tup []), (.tup []), (.tup []), (.tup []), (.tup []), (.tup []), (.tup []), (.tup [])] H (kk none (fun s H => retK (([2] : List Nat).map fun t => s.getD t (.tup [])) H) [] retK [2]) = L30 ρ call yc lim k x0 H := by
  kernel_rfl
theorem E30 (ρ : Addr → Option Value) (k lim : Nat) (x0 : AV) (H : Heap) : evCall (cx ρ) (k + 1) lim 30 [x0] H = L30 ρ (evCall (cx ρ) k) (evCY (cx ρ) k).2 lim k x0 H := by
  rw [evCall_body (cx ρ) k lim 30 _ H Tryd.f30 c30 [2] (by kernel_rfl) (by kernel_rfl) (by kernel_rfl) (by kernel_rfl) (by kernel_rfl)]
  exact G30 ρ (evCall (cx ρ) k) (evCY (cx ρ) k).2 lim k x0 H
-- internal/stringslite.Cut
noncomputable def c36 : Code := Code.of Tryd.prog 36
noncomputable def L36 (ρ : Addr → Option Value) (call : CallF) (yc : YieldF) (lim k : Nat) (x0 x1 : AV) (H : Heap) : Res :=
  resK (call lim 52 [x0, x1] H) fun x10 H =>
  purK (binA Tryd.prog H .geq 3 x10 (.int .i64 0)) fun x12 =>
  condK x12
  (
    purK (slT x0 none (some x10)) fun x15 =>
    purK (lenT x1) fun x19 =>
    purK (binA Tryd.prog H .add 3 x10 x19) fun x20 =>
    purK (slT x0 (some x20) none) fun x21 =>
    retK [x15, x21, (.bool true)] H)
  (
    retK [x0, (.str (ByteArray.mk #[])), (.bool false)] H)
theorem G36 (ρ : Addr → Option Value) (call : CallF) (yc : YieldF) (lim k : Nat) (x0 x1 : AV) (H : Heap) :
    evL (cx ρ) call yc false 36 lim k c36 [x0, x1, (.tup []), (.tup []), (.tup []), (.tup []), (.tup []), (.tup []), (.tup []), (.tup []), (.tup []), (.tup []), (.tup []), (.tup []), (.tup []), (.tup []), (.tup []), (.tup []), (.tup []), (.tup []), (.tup []), (.tup []), (.tup [])] H (kk none (fun s H => retK (([4, 5, 6] : List Nat).map fun t => s.getD t (.tup [])) H) [] retK [4, 5, 6]) = L36 ρ call yc lim k x0 x1 H := by
  kernel_rfl
theorem E36 (ρ : Addr → Option Value) (k lim : Nat) (x0 x1 : AV) (H : Heap) : evCall (cx ρ) (k + 1) lim 36 [x0, x1] H = L36 ρ (evCall (cx ρ) k) (evCY (cx ρ) k).2 lim k x0 x1 H := by
  rw [evCall_body (cx ρ) k lim 36 _ H Tryd.f36 c36 [4, 5, 6] (by kernel_rfl) (by kernel_rfl) (by kernel_rfl) (by kernel_rfl) (by kernel_rfl)]
  exact G36 ρ (evCall (cx ρ) k) (evCY (cx ρ) k).2 lim k x0 x1 H
-- strings.Split
noncomputable def c37 : Code := Code.of Tryd.prog 37
noncomputable def L37 (ρ : Addr → Option Value) (call : CallF) (yc : YieldF) (lim k : Nat) (x0 x1 : AV) (H : Heap) : Res :=
  resK (call lim 53 [x0, x1, (.int .i64 0), (.int .i64 (-1))] H) fun x7 H =>
  retK [x7] H
theorem G37 (ρ : Addr → Option Value) (call : CallF) (yc : YieldF) (lim k : Nat) (x0 x1 : AV) (H : Heap) :
    evL (cx ρ) call yc false 37 lim k c37 [x0, x1, (.tup []), (.tup []), (.tup []), (.tup []), (.tup []), (.tup [])] H (kk none (fun s H => retK (([4] : List Nat).map fun t => s.getD t (.tup [])) H) [] retK [4]) = L37 ρ call yc lim k x0 x1 H := by
  kernel_rfl
theorem E37 (ρ : Addr → Option Value) (k lim : Nat) (x0 x1 : AV) (H : Heap) : evCall (cx ρ) (k + 1) lim 37 [x0, x1] H = L37 ρ (evCall (cx ρ) k) (evCY (cx ρ) k).2 lim k x0 x1 H := by
  rw [evCall_body (cx ρ) k lim 37 _ H Tryd.f37 c37 [4] (by kernel_rfl) (by kernel_rfl) (by kernel_rfl) (by kernel_rfl) (by kernel_rfl)]
  exact G37 ρ (evCall (cx ρ) k) (evCY (cx ρ) k).2 lim k x0 x1 H
-- slices.Index[[]string,string]
noncomputable def c38 : Code := Code.of Tryd.prog 38
noncomputable def N38_1 (ρ : Addr → Option Value) (call : CallF) (yc : YieldF) (lim k : Nat) (H : Heap) (R : List AV → Heap → Res) : Res :=
  R [(.int .i64 (-1))] H
theorem N38_1_eq (ρ : Addr → Option Value) (call : CallF) (yc : YieldF) (lim k : Nat) (H : Heap) (R : List AV → Heap → Res) :
    evL (cx ρ) call yc false 38 lim k (Code.at [1, 1] c38) (sp 19 []) H (kk none (fun s H => R (([4] : List Nat).map fun t => s.getD t (.tup [])) H) [] R [4]) = N38_1 ρ call yc lim k H R := by
  kernel_rfl
noncomputable def N38_3b (ρ : Addr → Option Value) (call : CallF) (yc : YieldF) (lim k : Nat) (x0 x1 x7 x8 : AV) (H : Heap) (kn : AV → Heap → Res) (k0 : Heap → Res) (R : List AV → Heap → Res) : Res :=
  purK (binA Tryd.prog H .lss 3 x8 x7) fun x9_1 =>
  condK x9_1
  (
    purK (ixS 1 x0 x8) fun x14_1 =>
    purK (ld1 ρ H x14_1) fun x15_1 =>
    purK (binA Tryd.prog H .eql 9 x1 x15_1) fun x16_1 =>
    condK x16_1
    (
      R [x8] H)
    (
      purK (binA Tryd.prog H .add 3 x8 (.int .i64 1)) fun x18_1 =>
      kn x18_1 H))
  (
    k0 H)
theorem N38_3b_eq (ρ : Addr → Option Value) (call : CallF) (yc : YieldF) (lim k : Nat) (x0 x1 x7 x8 : AV) (H : Heap) (kn : KS) (k0 : KS) (R : List AV → Heap → Res) :
    evL (cx ρ) call yc false 38 lim k (Code.at [1, 0, 1, 0, 0] c38) (sp 19 [(0, x0), (1, x1), (7, x7), (8, x8)]) H (kk (some [0, 1, 7, 8]) kn [(0, (some []), k0)] R [4]) = N38_3b ρ call yc lim k x0 x1 x7 x8 H (fun x8 H => kn (sp 19 [(0, x0), (1, x1), (7, x7), (8, x8)]) H) (fun H => k0 (sp 19 []) H) R := by
  kernel_rfl
noncomputable def N38_3 (ρ : Addr → Option Value) (call : CallF) (yc : YieldF) (lim k : Nat) (x0 x1 x7 x8 : AV) (H : Heap) (k0 : Heap → Res) (R : List AV → Heap → Res) : Res :=
  loopL (fun (x : AV) H kn => N38_3b ρ call yc lim k x0 x1 x7 x H (fun x8 H => kn x8 H) k0 R) k x8 H
theorem N38_3_eq (ρ : Addr → Option Value) (call : CallF) (yc : YieldF) (lim k : Nat) (x0 x1 x7 x8 : AV) (H : Heap) (kn : KS) (k0 : KS) (R : List AV → Heap → Res) :
    evL (cx ρ) call yc false 38 lim k (Code.at [1, 0, 1, 0] c38) (sp 19 [(0, x0), (1, x1), (7, x7), (8, x8)]) H (kk (some []) kn [(0, (some []), k0)] R [4]) = N38_3 ρ call yc lim k x0 x1 x7 x8 H (fun H => k0 (sp 19 []) H) R := by
  have e : Code.at [1, 0, 1, 0] c38 = .loop (Code.at [1, 0, 1, 0, 0] c38) := by kernel_rfl
  rw [e]
  unfold N38_3
  exact loop_node [0, 1, 7, 8] (fun x : AV => (sp 19 [(0, x0), (1, x1), (7, x7), (8, (x))])) (fun (x : AV) H kn => N38_3b ρ call yc lim k x0 x1 x7 x H (fun x8 H => kn x8 H) (fun H => k0 (sp 19 []) H) R) (by kernel_rfl) (fun x => by kernel_rfl) (fun x H kn => N38_3b_eq ρ call yc lim k x0 x1 x7 (x) H kn k0 R) x8 (sp 19 [(0, x0), (1, x1), (7, x7), (8, x8)]) H (by kernel_rfl)
noncomputable def N38_2 (ρ : Addr → Option Value) (call : CallF) (yc : YieldF) (lim k : Nat) (x0 x1 x7 x8 : AV) (H : Heap) (kn : Heap → Res) (R : List AV → Heap → Res) : Res :=
  N38_3 ρ call yc lim k x0 x1 x7 x8 H kn R
theorem N38_2_x (ρ : Addr → Option Value) (call : CallF) (yc : YieldF) (lim k : Nat) (J : CodeF) (x0 x1 x7 x8 : AV) (H : Heap) (kn : KS) (R : List AV → Heap → Res) :
    evX (cx ρ) call yc false 38 lim k J (Code.at [1, 0, 1] c38) (sp 19 [(0, x0), (1, x1), (7, x7), (8, x8)]) H (kk (some []) kn [] R [4]) =
  J (Code.at [1, 0, 1, 0] c38) (sp 19 [(0, x0), (1, x1), (7, x7), (8, x8)]) H (kk (some []) kn [(0, (some []), kn)] R [4]) := by
  kernel_rfl
theorem N38_2_eq (ρ : Addr → Option Value) (call : CallF) (yc : YieldF) (lim k : Nat) (x0 x1 x7 x8 : AV) (H : Heap) (kn : KS) (R : List AV → Heap → Res) :
    evL (cx ρ) call yc false 38 lim k (Code.at [1, 0, 1] c38) (sp 19 [(0, x0), (1, x1), (7, x7), (8, x8)]) H (kk (some []) kn [] R [4]) = N38_2 ρ call yc lim k x0 x1 x7 x8 H (fun H => kn (sp 19 []) H) R := by
  rw [evL_X, N38_2_x]
  simp only [← evL_X, N38_2, N38_3_eq]
noncomputable def L38 (ρ : Addr → Option Value) (call : CallF) (yc : YieldF) (lim k : Nat) (x0 x1 : AV) (H : Heap) : Res :=
  purK (lenS x0) fun x7 =>
  N38_2 ρ call yc lim k x0 x1 x7 (.int .i64 0) H (fun H =>
    N38_1 ρ call yc lim k H retK) retK
theorem L38_x (ρ : Addr → Option Value) (call : CallF) (yc : YieldF) (lim k : Nat) (J : CodeF) (x0 x1 : AV) (H : Heap) :
    evX (cx ρ) call yc false 38 lim k J c38 [x0, x1, (.tup []), (.tup []), (.tup []), (.tup []), (.tup []), (.tup []), (.tup []), (.tup []), (.tup []), (.tup []), (.tup []), (.tup []), (.tup []), (.tup []), (.tup []), (.tup []), (.tup [])] H (kk none (fun s H => retK (([4] : List Nat).map fun t => s.getD t (.tup [])) H) [] retK [4]) =
  purK (lenS x0) fun x7 =>
  J (Code.at [1, 0, 1] c38) (sp 19 [(0, x0), (1, x1), (7, x7), (8, (.int .i64 0))]) H (kk (some []) (fun s H => J (Code.at [1, 1] c38) s H (kk none (fun s H => retK (([4] : List Nat).map fun t => s.getD t (.tup [])) H) [] retK [4])) [] retK [4]) := by
  kernel_rfl
theorem G38 (ρ : Addr → Option Value) (call : CallF) (yc : YieldF) (lim k : Nat) (x0 x1 : AV) (H : Heap) :
    evL (cx ρ) call yc false 38 lim k c38 [x0, x1, (.tup []), (.tup []), (.tup []), (.tup []), (.tup []), (.tup []), (.tup []), (.tup []), (.tup []), (.tup []), (.tup []), (.tup []), (.tup []), (.tup []), (.tup []), (.tup []), (.tup [])] H (kk none (fun s H => retK (([4] : List Nat).map fun t => s.getD t (.tup [])) H) [] retK [4]) = L38 ρ call yc lim k x0 x1 H := by
  rw [evL_X, L38_x]
  simp only [← evL_X, L38, N38_1_eq, N38_2_eq]
theorem E38 (ρ : Addr → Option Value) (k lim : Nat) (x0 x1 : AV) (H : Heap) : evCall (cx ρ) (k + 1) lim 38 [x0, x1] H = L38 ρ (evCall (cx ρ) k) (evCY (cx ρ) k).2 lim k x0 x1 H := by
  rw [evCall_body (cx ρ) k lim 38 _ H Tryd.f38 c38 [4] (by kernel_rfl) (by kernel_rfl) (by kernel_rfl) (by kernel_rfl) (by kernel_rfl)]
  exact G38 ρ (evCall (cx ρ) k) (evCY (cx ρ) k).2 lim k x0 x1 H
-- (*haycroft/script.reader).word
noncomputable def c39 : Code := Code.of Tryd.prog 39
noncomputable def N39_1 (ρ : Addr → Option Value) (call : CallF) (yc : YieldF) (lim k : Nat) (x3 : AV) (H : Heap) (R : List AV → Heap → Res) : Res :=
  R [x3] H
theorem N39_1_eq (ρ : Addr → Option Value) (call : CallF) (yc : YieldF) (lim k : Nat) (x3 : AV) (H : Heap) (R : List AV → Heap → Res) :
    evL (cx ρ) call yc false 39 lim k (Code.at [1, 1, 1, 1] c39) (sp 28 [(3, x3)]) H (kk none (fun s H => R (([2] : List Nat).map fun t => s.getD t (.tup [])) H) [] R [2]) = N39_1 ρ call yc lim k x3 H R := by
  kernel_rfl
noncomputable def L39 (ρ : Addr → Option Value) (call : CallF) (yc : YieldF) (lim k : Nat) (x0 : AV) (H : Heap) : Res :=
  purK (nilChkA x0) fun x5 =>
  purK (addA 0 x5) fun x6 =>
  purK (ld1 ρ H x6) fun x7 =>
  purK (lenS x7) fun x8 =>
  purK (binA Tryd.prog H .eql 3 x8 (.int .i64 0)) fun x9 =>
  condK x9
  (
    purK (nilChkA x0) fun x11 =>
    purK (addA 1 x11) fun x12 =>
    effK H (stA lim H 1 x12 (.bool true)) fun _ H =>
    retK [(.str (ByteArray.mk #[]))] H)
  (
    purK (nilChkA x0) fun x14 =>
    purK (addA 0 x14) fun x15 =>
    purK (ld1 ρ H x15) fun x16 =>
    purK (ixS 1 x16 (.int .i64 0)) fun x17 =>
    purK (ld1 ρ H x17) fun x18 =>
    purK (nilChkA x0) fun x21 =>
    purK (addA 0 x21) fun x22 =>
    purK (ld1 ρ H x22) fun x23 =>
    purK (slS 1 x23 (some (.int .i64 1)) none none) fun x24 =>
    purK (nilChkA x0) fun x25 =>
    purK (addA 0 x25) fun x26 =>
    effK H (stA lim H 1 x26 x24) fun _ H =>
    N39_1 ρ call yc lim k x18 H retK)
theorem L39_x (ρ : Addr → Option Value) (call : CallF) (yc : YieldF) (lim k : Nat) (J : CodeF) (x0 : AV) (H : Heap) :
    evX (cx ρ) call yc false 39 lim k J c39 [x0, (.tup []), (.tup []), (.tup []), (.tup []), (.tup []), (.tup []), (.tup []), (.tup []), (.tup []), (.tup []), (.tup []), (.tup []), (.tup []), (.tup []), (.tup []), (.tup []), (.tup []), (.tup []), (.tup []), (.tup []), (.tup []), (.tup []), (.tup []), (.tup []), (.tup []), (.tup []), (.tup [])] H (kk none (fun s H => retK (([2] : List Nat).map fun t => s.getD t (.tup [])) H) [] retK [2]) =
  purK (nilChkA x0) fun x5 =>
  purK (addA 0 x5) fun x6 =>
  purK (ld1 ρ H x6) fun x7 =>
  purK (lenS x7) fun x8 =>
  purK (binA Tryd.prog H .eql 3 x8 (.int .i64 0)) fun x9 =>
  condK x9
  (
    purK (nilChkA x0) fun x11 =>
    purK (addA 1 x11) fun x12 =>
    effK H (stA lim H 1 x12 (.bool true)) fun _ H =>
    retK [(.str (ByteArray.mk #[]))] H)
  (
    purK (nilChkA x0) fun x14 =>
    purK (addA 0 x14) fun x15 =>
    purK (ld1 ρ H x15) fun x16 =>
    purK (ixS 1 x16 (.int .i64 0)) fun x17 =>
    purK (ld1 ρ H x17) fun x18 =>
    purK (nilChkA x0) fun x21 =>
    purK (addA 0 x21) fun x22 =>
    purK (ld1 ρ H x22) fun x23 =>
    purK (slS 1 x23 (some (.int .i64 1)) none none) fun x24 =>
    purK (nilChkA x0) fun x25 =>
    purK (addA 0 x25) fun x26 =>
    effK H (stA lim H 1 x26 x24) fun _ H =>
    J (Code.at [1, 1, 1, 1] c39) (sp 28 [(3, x18)]) H (kk none (fun s H => retK (([2] : List Nat).map fun t => s.getD t (.tup [])) H) [] retK [2])) := by
  kernel_rfl
theorem G39 (ρ : Addr → Option Value) (call : CallF) (yc : YieldF) (lim k : Nat) (x0 : AV) (H : Heap) :
    evL (cx ρ) call yc false 39 lim k c39 [x0, (.tup []), (.tup []), (.tup []), (.tup []), (.tup []), (.tup []), (.tup []), (.tup []), (.tup []), (.tup []), (.tup []), (.tup []), (.tup []), (.tup []), (.tup []), (.tup []), (.tup []), (.tup []), (.tup []), (.tup []), (.tup []), (.tup []), (.tup []), (.tup []), (.tup []), (.tup []), (.tup [])] H (kk none (fun s H => retK (([2] : List Nat).map fun t => s.getD t (.tup [])) H) [] retK [2]) = L39 ρ call yc lim k x0 H := by
  rw [evL_X, L39_x]
  simp only [← evL_X, L39, N39_1_eq]
theorem E39 (ρ : Addr → Option Value) (k lim : Nat) (x0 : AV) (H : Heap) : evCall (cx ρ) (k + 1) lim 39 [x0] H = L39 ρ (evCall (cx ρ) k) (evCY (cx ρ) k).2 lim k x0 H := by
  rw [evCall_body (cx ρ) k lim 39 _ H Tryd.f39 c39 [2] (by kernel_rfl) (by kernel_rfl) (by kernel_rfl) (by kernel_rfl) (by kernel_rfl)]
  exact G39 ρ (evCall (cx ρ) k) (evCY (cx ρ) k).2 lim k x0 H
-- (*haycroft/script.reader).number
noncomputable def c40 : Code := Code.of Tryd.prog 40
noncomputable def L40 (ρ : Addr → Option Value) (call : CallF) (yc : YieldF) (lim k : Nat) (x0 : AV) (H : Heap) : Res :=
  resK (call lim 39 [x0] H) fun x7 H =>
  resK (call lim 54 [x7, (.int .u64 999999999)] H) fun x8 H =>
  purK (extA 0 x8) fun x9 =>
  purK (extA 1 x8) fun x10 =>
  purK (nilChkA x0) fun x13 =>
  purK (addA 1 x13) fun x14 =>
  purK (ld1 ρ H x14) fun x15 =>
  purK (gPur (wantV x15 false) (some x10)) fun x17 =>
  purK (gPur (wantV x15 false) (unA .not x17)) fun x18 =>
  purK (pickA x15 (.bool true) x18) fun x19 =>
  purK (nilChkA x0) fun x20 =>
  purK (addA 1 x20) fun x21 =>
  effK H (stA lim H 1 x21 x19) fun _ H =>
  purK (cvI .i64 x9) fun x23 =>
  retK [x23] H
theorem G40 (ρ : Addr → Option Value) (call : CallF) (yc : YieldF) (lim k : Nat) (x0 : AV) (H : Heap) :
    evL (cx ρ) call yc false 40 lim k c40 [x0, (.tup []), (.tup []), (.tup []), (.tup []), (.tup []), (.tup []), (.tup []), (.tup []), (.tup []), (.tup []), (.tup []), (.tup []), (.tup []), (.tup []), (.tup []), (.tup []), (.tup []), (.tup []), (.tup []), (.tup []), (.tup []), (.tup []), (.tup [])] H (kk none (fun s H => retK (([2] : List Nat).map fun t => s.getD t (.tup [])) H) [] retK [2]) = L40 ρ call yc lim k x0 H := by
  kernel_rfl
theorem E40 (ρ : Addr → Option Value) (k lim : Nat) (x0 : AV) (H : Heap) : evCall (cx ρ) (k + 1) lim 40 [x0] H = L40 ρ (evCall (cx ρ) k) (evCY (cx ρ) k).2 lim k x0 H := by
  rw [evCall_body (cx ρ) k lim 40 _ H Tryd.f40 c40 [2] (by kernel_rfl) (by kernel_rfl) (by kernel_rfl) (by kernel_rfl) (by kernel_rfl)]
  exact G40 ρ (evCall (cx ρ) k) (evCY (cx ρ) k).2 lim k x0 H
-- (*haycroft/script.reader).op
noncomputable def c41 : Code := Code.of Tryd.prog 41
noncomputable def N41_1 (ρ : Addr → Option Value) (call : CallF) (yc : YieldF) (lim k : Nat) (x2 x4 : AV) (H : Heap) (R : List AV → Heap → Res) : Res :=
  purK (ldN ρ H 4 x4) fun x49_1 =>
  effK H (stA lim H 4 x2 x49_1) fun _ H =>
  R [x2] H
theorem N41_1_eq (ρ : Addr → Option Value) (call : CallF) (yc : YieldF) (lim k : Nat) (x2 x4 : AV) (H : Heap) (R : List AV → Heap → Res) :
    evL (cx ρ) call yc false 41 lim k (Code.at [1, 1, 1, 1] c41) (sp 50 [(2, x2), (4, x4)]) H (kk none (fun s H => R (([2] : List Nat).map fun t => s.getD t (.tup [])) H) [] R [2]) = N41_1 ρ call yc lim k x2 x4 H R := by
  kernel_rfl
noncomputable def N41_2 (ρ : Addr → Option Value) (call : CallF) (yc : YieldF) (lim k : Nat) (x0 x2 x4 x5 x6 : AV) (H : Heap) (kn : AV → AV → Heap → Res) : Res :=
  purK (addA 3 x4) fun x37_1 =>
  effK H (stA lim H 1 x37_1 x5) fun _ H =>
  purK (nilChkA x0) fun x40_1 =>
  purK (addA 1 x40_1) fun x41_1 =>
  purK (ld1 ρ H x41_1) fun x42_1 =>
  purK (gPur (wantV x42_1 false) (some x6)) fun x44_1 =>
  purK (gPur (wantV x42_1 false) (unA .not x44_1)) fun x45_1 =>
  purK (pickA x42_1 (.bool true) x45_1) fun x46_1 =>
  purK (nilChkA x0) fun x47_1 =>
  purK (addA 1 x47_1) fun x48_1 =>
  effK H (stA lim H 1 x48_1 x46_1) fun _ H =>
  kn x2 x4 H
theorem N41_2_eq (ρ : Addr → Option Value) (call : CallF) (yc : YieldF) (lim k : Nat) (x0 x2 x4 x5 x6 : AV) (H : Heap) (kn : KS) (k0 : KS) (R : List AV → Heap → Res) :
    evL (cx ρ) call yc false 41 lim k (Code.at [1, 1, 1, 0, 1, 0, 1, 1, 1, 1, 1, 0, 1] c41) (sp 50 [(0, x0), (2, x2), (4, x4), (5, x5), (6, x6)]) H (kk (some [2, 4]) kn [(0, (some [2, 4]), k0)] R [2]) = N41_2 ρ call yc lim k x0 x2 x4 x5 x6 H (fun x2 x4 H => kn (sp 50 [(2, x2), (4, x4)]) H) := by
  kernel_rfl
noncomputable def L41 (ρ : Addr → Option Value) (call : CallF) (yc : YieldF) (lim k : Nat) (x0 : AV) (H : Heap) : Res :=
  effK H (some (.ptr H.sz 0 0, .new (newCells 40 false [.int .i64 0, .str ByteArray.empty, .str ByteArray.empty, .int .u64 0]))) fun x2 H =>
  resK (call lim 39 [x0] H) fun x8 H =>
  purK (slR 1 5 (.xp ⟨1, 0, none⟩) none none none) fun x9 =>
  resK (call lim 38 [x9, x8] H) fun x11 H =>
  purK (foldsA maxA [x11, (.int .i64 0)]) fun x12 =>
  resK (call lim 55 [x0] H) fun x14 H =>
  purK (bldA [.int .i64 0, .str ByteArray.empty, .str ByteArray.empty, .int .u64 0] [(0, 1, x12), (1, 1, x14)]) fun x15 =>
  effK H (some (.ptr H.sz 0 0, .new (newCells 40 false [.int .i64 0, .str ByteArray.empty, .str ByteArray.empty, .int .u64 0]))) fun x4 H =>
  effK H (stA lim H 4 x4 x15) fun _ H =>
  purK (addA 0 x4) fun x16 =>
  purK (ld1 ρ H x16) fun x17 =>
  purK (binA Tryd.prog H .eql 3 x17 (.int .i64 0)) fun x19 =>
  condK x19
  (
    purK (nilChkA x0) fun x21 =>
    purK (addA 1 x21) fun x22 =>
    effK H (stA lim H 1 x22 (.bool true)) fun _ H =>
    N41_1 ρ call yc lim k x2 x4 H (retC (cx ρ) [some 40]))
  (
    purK (binA Tryd.prog H .eql 3 x17 (.int .i64 2)) fun x24 =>
    condK x24
    (
      resK (call lim 55 [x0] H) fun x26 H =>
      purK (addA 2 x4) fun x27 =>
      effK H (stA lim H 1 x27 x26) fun _ H =>
      N41_1 ρ call yc lim k x2 x4 H (retC (cx ρ) [some 40]))
    (
      purK (binA Tryd.prog H .eql 3 x17 (.int .i64 3)) fun x29 =>
      condK x29
      (
        resK (call lim 39 [x0] H) fun x32 H =>
        resK (call lim 54 [x32, (.int .u64 18446744073709551615)] H) fun x33 H =>
        purK (extA 0 x33) fun x34 =>
        purK (extA 1 x33) fun x35 =>
        N41_2 ρ call yc lim k x0 x2 x4 x34 x35 H (fun x2_1 x4_1 H =>
          N41_1 ρ call yc lim k x2_1 x4_1 H (retC (cx ρ) [some 40])))
      (
        N41_1 ρ call yc lim k x2 x4 H (retC (cx ρ) [some 40]))))
theorem L41_x (ρ : Addr → Option Value) (call : CallF) (yc : YieldF) (lim k : Nat) (J : CodeF) (x0 : AV) (H : Heap) :
    evX (cx ρ) call yc false 41 lim k J c41 [x0, (.tup []), (.tup []), (.tup []), (.tup []), (.tup []), (.tup []), (.tup []), (.tup []), (.tup []), (.tup []), (.tup []), (.tup []), (.tup []), (.tup []), (.tup []), (.tup []), (.tup []), (.tup []), (.tup []), (.tup []), (.tup []), (.tup []), (.tup []), (.tup []), (.tup []), (.tup []), (.tup []), (.tup []), (.tup []), (.tup []), (.tup []), (.tup []), (.tup []), (.tup []), (.tup []), (.tup []), (.tup []), (.tup []), (.tup []), (.tup []), (.tup []), (.tup []), (.tup []), (.tup []), (.tup []), (.tup []), (.tup []), (.tup []), (.tup [])] H (kk none (fun s H => (retC (cx ρ) [some 40]) (([2] : List Nat).map fun t => s.getD t (.tup [])) H) [] (retC (cx ρ) [some 40]) [2]) =
  effK H (some (.ptr H.sz 0 0, .new (newCells 40 false [.int .i64 0, .str ByteArray.empty, .str ByteArray.empty, .int .u64 0]))) fun x2 H =>
  resK (call lim 39 [x0] H) fun x8 H =>
  purK (slR 1 5 (.xp ⟨1, 0, none⟩) none none none) fun x9 =>
  resK (call lim 38 [x9, x8] H) fun x11 H =>
  purK (foldsA maxA [x11, (.int .i64 0)]) fun x12 =>
  resK (call lim 55 [x0] H) fun x14 H =>
  purK (bldA [.int .i64 0, .str ByteArray.empty, .str ByteArray.empty, .int .u64 0] [(0, 1, x12), (1, 1, x14)]) fun x15 =>
  effK H (some (.ptr H.sz 0 0, .new (newCells 40 false [.int .i64 0, .str ByteArray.empty, .str ByteArray.empty, .int .u64 0]))) fun x4 H =>
  effK H (stA lim H 4 x4 x15) fun _ H =>
  purK (addA 0 x4) fun x16 =>
  purK (ld1 ρ H x16) fun x17 =>
  purK (binA Tryd.prog H .eql 3 x17 (.int .i64 0)) fun x19 =>
  condK x19
  (
    purK (nilChkA x0) fun x21 =>
    purK (addA 1 x21) fun x22 =>
    effK H (stA lim H 1 x22 (.bool true)) fun _ H =>
    J (Code.at [1, 1, 1, 1] c41) (sp 50 [(2, x2), (4, x4)]) H (kk none (fun s H => (retC (cx ρ) [some 40]) (([2] : List Nat).map fun t => s.getD t (.tup [])) H) [] (retC (cx ρ) [some 40]) [2]))
  (
    purK (binA Tryd.prog H .eql 3 x17 (.int .i64 2)) fun x24 =>
    condK x24
    (
      resK (call lim 55 [x0] H) fun x26 H =>
      purK (addA 2 x4) fun x27 =>
      effK H (stA lim H 1 x27 x26) fun _ H =>
      J (Code.at [1, 1, 1, 1] c41) (sp 50 [(2, x2), (4, x4)]) H (kk none (fun s H => (retC (cx ρ) [some 40]) (([2] : List Nat).map fun t => s.getD t (.tup [])) H) [] (retC (cx ρ) [some 40]) [2]))
    (
      purK (binA Tryd.prog H .eql 3 x17 (.int .i64 3)) fun x29 =>
      condK x29
      (
        resK (call lim 39 [x0] H) fun x32 H =>
        resK (call lim 54 [x32, (.int .u64 18446744073709551615)] H) fun x33 H =>
        purK (extA 0 x33) fun x34 =>
        purK (extA 1 x33) fun x35 =>
        J (Code.at [1, 1, 1, 0, 1, 0, 1, 1, 1, 1, 1, 0, 1] c41) (sp 50 [(0, x0), (2, x2), (4, x4), (5, x34), (6, x35)]) H (kk (some [2, 4]) (fun s H => J (Code.at [1, 1, 1, 1] c41) s H (kk none (fun s H => (retC (cx ρ) [some 40]) (([2] : List Nat).map fun t => s.getD t (.tup [])) H) [] (retC (cx ρ) [some 40]) [2])) [(0, (some [2, 4]), (fun s H => J (Code.at [1, 1, 1, 1] c41) s H (kk none (fun s H => (retC (cx ρ) [some 40]) (([2] : List Nat).map fun t => s.getD t (.tup [])) H) [] (retC (cx ρ) [some 40]) [2])))] (retC (cx ρ) [some 40]) [2]))
      (
        J (Code.at [1, 1, 1, 1] c41) (sp 50 [(2, x2), (4, x4)]) H (kk none (fun s H => (retC (cx ρ) [some 40]) (([2] : List Nat).map fun t => s.getD t (.tup [])) H) [] (retC (cx ρ) [some 40]) [2])))) := by
  kernel_rfl
theorem G41 (ρ : Addr → Option Value) (call : CallF) (yc : YieldF) (lim k : Nat) (x0 : AV) (H : Heap) :
    evL (cx ρ) call yc false 41 lim k c41 [x0, (.tup []), (.tup []), (.tup []), (.tup []), (.tup []), (.tup []), (.tup []), (.tup []), (.tup []), (.tup []), (.tup []), (.tup []), (.tup []), (.tup []), (.tup []), (.tup []), (.tup []), (.tup []), (.tup []), (.tup []), (.tup []), (.tup []), (.tup []), (.tup []), (.tup []), (.tup []), (.tup []), (.tup []), (.tup []), (.tup []), (.tup []), (.tup []), (.tup []), (.tup []), (.tup []), (.tup []), (.tup []), (.tup []), (.tup []), (.tup []), (.tup []), (.tup []), (.tup []), (.tup []), (.tup []), (.tup []), (.tup []), (.tup []), (.tup [])] H (kk none (fun s H => (retC (cx ρ) [some 40]) (([2] : List Nat).map fun t => s.getD t (.tup [])) H) [] (retC (cx ρ) [some 40]) [2]) = L41 ρ call yc lim k x0 H := by
  rw [evL_X, L41_x]
  simp only [← evL_X, L41, N41_1_eq, N41_2_eq]
theorem E41 (ρ : Addr → Option Value) (k lim : Nat) (x0 : AV) (H : Heap) : evCall (cx ρ) (k + 1) lim 41 [x0] H = L41 ρ (evCall (cx ρ) k) (evCY (cx ρ) k).2 lim k x0 H := by
  rw [evCall_cells (cx ρ) k lim 41 _ H Tryd.f41 c41 [2] [some 40] (by kernel_rfl) (by kernel_rfl) (by kernel_rfl) (by kernel_rfl) (by kernel_rfl) (by kernel_rfl)]
  exact G41 ρ (evCall (cx ρ) k) (evCY (cx ρ) k).2 lim k x0 H
-- (*strings.Builder).copyCheck
noncomputable def c45 : Code := Code.of Tryd.prog 45
noncomputable def L45 (ρ : Addr → Option Value) (call : CallF) (yc : YieldF) (lim k : Nat) (x0 : AV) (H : Heap) : Res :=
  purK (nilChkA x0) fun x3 =>
  purK (addA 0 x3) fun x4 =>
  purK (ld1 ρ H x4) fun x5 =>
  purK (binA Tryd.prog H .eql 51 x5 .nilp) fun x6 =>
  condK x6
  (
    purK (convXA (cx ρ) H 51 91 x0) fun x9 =>
    resK (call lim 56 [x9] H) fun x10 H =>
    purK (convXA (cx ρ) H 91 51 x10) fun x11 =>
    purK (nilChkA x0) fun x12 =>
    purK (addA 0 x12) fun x13 =>
    effK H (stA lim H 1 x13 x11) fun _ H =>
    retK [] H)
  (
    purK (nilChkA x0) fun x15 =>
    purK (addA 0 x15) fun x16 =>
    purK (ld1 ρ H x16) fun x17 =>
    purK (binA Tryd.prog H .neq 51 x17 x0) fun x19 =>
    condK x19
    (
      none)
    (
      retK [] H))
theorem G45 (ρ : Addr → Option Value) (call : CallF) (yc : YieldF) (lim k : Nat) (x0 : AV) (H : Heap) :
    evL (cx ρ) call yc false 45 lim k c45 [x0, (.tup []), (.tup []), (.tup []), (.tup []), (.tup []), (.tup []), (.tup []), (.tup []), (.tup []), (.tup []), (.tup []), (.tup []), (.tup []), (.tup []), (.tup []), (.tup []), (.tup []), (.tup []), (.tup [])] H (kk none (fun s H => retK (([] : List Nat).map fun t => s.getD t (.tup [])) H) [] retK []) = L45 ρ call yc lim k x0 H := by
  kernel_rfl
theorem E45 (ρ : Addr → Option Value) (k lim : Nat) (x0 : AV) (H : Heap) : evCall (cx ρ) (k + 1) lim 45 [x0] H = L45 ρ (evCall (cx ρ) k) (evCY (cx ρ) k).2 lim k x0 H := by
  rw [evCall_body (cx ρ) k lim 45 _ H Tryd.f45 c45 [] (by kernel_rfl) (by kernel_rfl) (by kernel_rfl) (by kernel_rfl) (by kernel_rfl)]
  exact G45 ρ (evCall (cx ρ) k) (evCY (cx ρ) k).2 lim k x0 H
-- internal/stringslite.CutPrefix
noncomputable def c46 : Code := Code.of Tryd.prog 46
noncomputable def L46 (ρ : Addr → Option Value) (call : CallF) (yc : YieldF) (lim k : Nat) (x0 x1 : AV) (H : Heap) : Res :=
  resK (call lim 57 [x0, x1] H) fun x8 H =>
  purK (unA .not x8) fun x9 =>
  condK x9
  (
    retK [x0, (.bool false)] H)
  (
    purK (lenT x1) fun x13 =>
    purK (slT x0 (some x13) none) fun x14 =>
    retK [x14, (.bool true)] H)
theorem G46 (ρ : Addr → Option Value) (call : CallF) (yc : YieldF) (lim k : Nat) (x0 x1 : AV) (H : Heap) :
    evL (cx ρ) call yc false 46 lim k c46 [x0, x1, (.tup []), (.tup []), (.tup []), (.tup []), (.tup []), (.tup []), (.tup []), (.tup []), (.tup []), (.tup []), (.tup []), (.tup []), (.tup [])] H (kk none (fun s H => retK (([4, 5] : List Nat).map fun t => s.getD t (.tup [])) H) [] retK [4, 5]) = L46 ρ call yc lim k x0 x1 H := by
  kernel_rfl
theorem E46 (ρ : Addr → Option Value) (k lim : Nat) (x0 x1 : AV) (H : Heap) : evCall (cx ρ) (k + 1) lim 46 [x0, x1] H = L46 ρ (evCall (cx ρ) k) (evCY (cx ρ) k).2 lim k x0 x1 H := by
  rw [evCall_body (cx ρ) k lim 46 _ H Tryd.f46 c46 [4, 5] (by kernel_rfl) (by kernel_rfl) (by kernel_rfl) (by kernel_rfl) (by kernel_rfl)]
  exact G46 ρ (evCall (cx ρ) k) (evCY (cx ρ) k).2 lim k x0 x1 H
-- internal/stringslite.IndexByte
noncomputable def c47 : Code := Code.of Tryd.prog 47
noncomputable def L47 (ρ : Addr → Option Value) (call : CallF) (yc : YieldF) (lim k : Nat) (x0 x1 : AV) (H : Heap) : Res :=
  resK (call lim 58 [x0, x1] H) fun x7 H =>
  retK [x7] H
theorem G47 (ρ : Addr → Option Value) (call : CallF) (yc : YieldF) (lim k : Nat) (x0 x1 : AV) (H : Heap) :
    evL (cx ρ) call yc false 47 lim k c47 [x0, x1, (.tup []), (.tup []), (.tup []), (.tup []), (.tup []), (.tup [])] H (kk none (fun s H => retK (([4] : List Nat).map fun t => s.getD t (.tup [])) H) [] retK [4]) = L47 ρ call yc lim k x0 x1 H := by
  kernel_rfl
theorem E47 (ρ : Addr → Option Value) (k lim : Nat) (x0 x1 : AV) (H : Heap) : evCall (cx ρ) (k + 1) lim 47 [x0, x1] H = L47 ρ (evCall (cx ρ) k) (evCY (cx ρ) k).2 lim k x0 x1 H := by
  rw [evCall_body (cx ρ) k lim 47 _ H Tryd.f47 c47 [4] (by kernel_rfl) (by kernel_rfl) (by kernel_rfl) (by kernel_rfl) (by kernel_rfl)]
  exact G47 ρ (evCall (cx ρ) k) (evCY (cx ρ) k).2 lim k x0 x1 H
-- strconv.Itoa
noncomputable def c48 : Code := Code.of Tryd.prog 48
noncomputable def L48 (ρ : Addr → Option Value) (call : CallF) (yc : YieldF) (lim k : Nat) (x0 : AV) (H : Heap) : Res :=
  resK (call lim 59 [x0] H) fun x4 H =>
  retK [x4] H
theorem G48 (ρ : Addr → Option Value) (call : CallF) (yc : YieldF) (lim k : Nat) (x0 : AV) (H : Heap) :
    evL (cx ρ) call yc false 48 lim k c48 [x0, (.tup []), (.tup []), (.tup []), (.tup [])] H (kk none (fun s H => retK (([2] : List Nat).map fun t => s.getD t (.tup [])) H) [] retK [2]) = L48 ρ call yc lim k x0 H := by
  kernel_rfl
theorem E48 (ρ : Addr → Option Value) (k lim : Nat) (x0 : AV) (H : Heap) : evCall (cx ρ) (k + 1) lim 48 [x0] H = L48 ρ (evCall (cx ρ) k) (evCY (cx ρ) k).2 lim k x0 H := by
  rw [evCall_body (cx ρ) k lim 48 _ H Tryd.f48 c48 [2] (by kernel_rfl) (by kernel_rfl) (by kernel_rfl) (by kernel_rfl) (by kernel_rfl)]
  exact G48 ρ (evCall (cx ρ) k) (evCY (cx ρ) k).2 lim k x0 H
-- strconv.FormatUint
noncomputable def c49 : Code := Code.of Tryd.prog 49
noncomputable def L49 (ρ : Addr → Option Value) (call : CallF) (yc : YieldF) (lim k : Nat) (x0 x1 : AV) (H : Heap) : Res :=
  resK (call lim 60 [x0, x1] H) fun x7 H =>
  retK [x7] H
theorem G49 (ρ : Addr → Option Value) (call : CallF) (yc : YieldF) (lim k : Nat) (x0 x1 : AV) (H : Heap) :
    evL (cx ρ) call yc false 49 lim k c49 [x0, x1, (.tup []), (.tup []), (.tup []), (.tup []), (.tup []), (.tup [])] H (kk none (fun s H => retK (([4] : List Nat).map fun t => s.getD t (.tup [])) H) [] retK [4]) = L49 ρ call yc lim k x0 x1 H := by
  kernel_rfl
theorem E49 (ρ : Addr → Option Value) (k lim : Nat) (x0 x1 : AV) (H : Heap) : evCall (cx ρ) (k + 1) lim 49 [x0, x1] H = L49 ρ (evCall (cx ρ) k) (evCY (cx ρ) k).2 lim k x0 x1 H := by
  rw [evCall_body (cx ρ) k lim 49 _ H Tryd.f49 c49 [4] (by kernel_rfl) (by kernel_rfl) (by kernel_rfl) (by kernel_rfl) (by kernel_rfl)]
  exact G49 ρ (evCall (cx ρ) k) (evCY (cx ρ) k).2 lim k x0 x1 H
end Go.Proofs.YtnkeebchblfbgaaDoor

-- part Sw3
/- Functions, lifted. Printed by a program of this repo. -/
set_option linter.unusedVariables false
set_option linter.unusedSimpArgs false
set_option maxRecDepth 100000
set_option maxHeartbeats 4000000
namespace Go.Proofs.YtnkeebchblfbgaaDoor
open Go.Ev Go.RowKit
-- internal/stringslite.Index
noncomputable def c52 : Code := Code.of Tryd.prog 52
noncomputable def N52_4 (ρ : Addr → Option Value) (call : CallF) (yc : YieldF) (lim k : Nat) (H : Heap) (R : List AV → Heap → Res) : Res :=
  R [(.int .i64 (-1))] H
theorem N52_4_eq (ρ : Addr → Option Value) (call : CallF) (yc : YieldF) (lim k : Nat) (H : Heap) (R : List AV → Heap → Res) :
    evL (cx ρ) call yc false 52 lim k (Code.at [1, 1, 1, 1, 1, 1, 1, 1, 1] c52) (sp 143 []) H (kk none (fun s H => R (([4] : List Nat).map fun t => s.getD t (.tup [])) H) [] R [4]) = N52_4 ρ call yc lim k H R := by
  kernel_rfl
noncomputable def N52_8 (ρ : Addr → Option Value) (call : CallF) (yc : YieldF) (lim k : Nat) (H : Heap) (R : List AV → Heap → Res) : Res :=
  R [(.int .i64 (-1))] H
theorem N52_8_eq (ρ : Addr → Option Value) (call : CallF) (yc : YieldF) (lim k : Nat) (H : Heap) (kn : KS) (k2 : KS) (k1 : KS) (R : List AV → Heap → Res) :
    evL (cx ρ) call yc false 52 lim k (Code.at [1, 1, 1, 1, 1, 1, 1, 1, 0, 0, 0, 1, 0, 1, 1, 1, 1, 1, 0, 1, 1] c52) (sp 143 []) H (kk (some [0, 1, 5, 6, 7, 8, 9, 10]) kn [(2, (some [0, 1, 5, 6, 7, 8, 9, 10]), k2), (1, (some []), k1)] R [4]) = N52_8 ρ call yc lim k H R := by
  kernel_rfl
noncomputable def N52_9 (ρ : Addr → Option Value) (call : CallF) (yc : YieldF) (lim k : Nat) (x8 x12 x114 : AV) (H : Heap) (kn : Heap → Res) (R : List AV → Heap → Res) : Res :=
  condK x114
  (
    purK (binA Tryd.prog H .add 3 x12 x8) fun x117_1 =>
    R [x117_1] H)
  (
    kn H)
theorem N52_9_eq (ρ : Addr → Option Value) (call : CallF) (yc : YieldF) (lim k : Nat) (x8 x12 x114 : AV) (H : Heap) (kn : KS) (k2 : KS) (k1 : KS) (R : List AV → Heap → Res) :
    evL (cx ρ) call yc false 52 lim k (Code.at [1, 1, 1, 1, 1, 1, 1, 1, 0, 0, 0, 1, 0, 1, 1, 1, 1, 1, 0, 1, 0, 1] c52) (sp 143 [(8, x8), (12, x12), (114, x114)]) H (kk (some []) kn [(2, (some [0, 1, 5, 6, 7, 8, 9, 10]), k2), (1, (some []), k1)] R [4]) = N52_9 ρ call yc lim k x8 x12 x114 H (fun H => kn (sp 143 []) H) R := by
  kernel_rfl
noncomputable def N52_10 (ρ : Addr → Option Value) (call : CallF) (yc : YieldF) (lim k : Nat) (x0 x1 x5 x6 x7 x8 x9 x10 x132 : AV) (H : Heap) (kn : AV → AV → Heap → Res) (R : List AV → Heap → Res) : Res :=
  condK x132
  (
    purK (slT x0 (some x8) none) fun x135_1 =>
    resK (call lim 64 [x135_1, x1] H) fun x137_1 H =>
    purK (binA Tryd.prog H .lss 3 x137_1 (.int .i64 0)) fun x139_1 =>
    condK x139_1
    (
      R [(.int .i64 (-1))] H)
    (
      purK (binA Tryd.prog H .add 3 x8 x137_1) fun x142_1 =>
      R [x142_1] H))
  (
    kn x8 x10 H)
theorem N52_10_eq (ρ : Addr → Option Value) (call : CallF) (yc : YieldF) (lim k : Nat) (x0 x1 x5 x6 x7 x8 x9 x10 x132 : AV) (H : Heap) (kn : KS) (k2 : KS) (k1 : KS) (R : List AV → Heap → Res) :
    evL (cx ρ) call yc false 52 lim k (Code.at [1, 1, 1, 1, 1, 1, 1, 1, 0, 0, 0, 1, 0, 1, 1, 1, 1, 1, 1, 1] c52) (sp 143 [(0, x0), (1, x1), (5, x5), (6, x6), (7, x7), (8, x8), (9, x9), (10, x10), (132, x132)]) H (kk (some [0, 1, 5, 6, 7, 8, 9, 10]) kn [(2, (some [0, 1, 5, 6, 7, 8, 9, 10]), k2), (1, (some []), k1)] R [4]) = N52_10 ρ call yc lim k x0 x1 x5 x6 x7 x8 x9 x10 x132 H (fun x8 x10 H => kn (sp 143 [(0, x0), (1, x1), (5, x5), (6, x6), (7, x7), (8, x8), (9, x9), (10, x10)]) H) R := by
  kernel_rfl
noncomputable def N52_7 (ρ : Addr → Option Value) (call : CallF) (yc : YieldF) (lim k : Nat) (x0 x1 x5 x6 x7 x8 x9 x10 : AV) (H : Heap) (kn : AV → AV → Heap → Res) (R : List AV → Heap → Res) : Res :=
  purK (binA Tryd.prog H .add 3 x8 (.int .i64 1)) fun x96_1 =>
  purK (binA Tryd.prog H .add 3 x10 (.int .i64 1)) fun x98_1 =>
  purK (ld1 ρ H (.xp ⟨2, 0, none⟩)) fun x100_1 =>
  purK (binA Tryd.prog H .leq 3 x5 x100_1) fun x101_1 =>
  purK (gPur (wantV x101_1 true) (some x98_1)) fun x103_1 =>
  purK (gPur (wantV x101_1 true) (some x96_1)) fun x104_1 =>
  resK (gRes (wantV x101_1 true) H (call lim 63 [x104_1] H)) fun x105_1 H =>
  purK (gPur (wantV x101_1 true) (binA Tryd.prog H .gtr 3 x103_1 x105_1)) fun x106_1 =>
  purK (pickA x101_1 x106_1 (.bool false)) fun x107_1 =>
  condK x107_1
  (
    purK (slT x0 (some x96_1) none) fun x110_1 =>
    resK (call lim 62 [x110_1, x1] H) fun x112_1 H =>
    purK (binA Tryd.prog H .geq 3 x112_1 (.int .i64 0)) fun x114_1 =>
    N52_9 ρ call yc lim k x96_1 x112_1 x114_1 H (fun H =>
      N52_8 ρ call yc lim k H R) R)
  (
    purK (ld1 ρ H (.xp ⟨2, 0, none⟩)) fun x119_1 =>
    purK (binA Tryd.prog H .gtr 3 x5 x119_1) fun x120_1 =>
    purK (gPur (wantV x120_1 true) (some x98_1)) fun x122_1 =>
    purK (gPur (wantV x120_1 true) (some x96_1)) fun x123_1 =>
    purK (gPur (wantV x120_1 true) (binA Tryd.prog H .shr 3 x123_1 (.int .u64 4))) fun x124_1 =>
    purK (gPur (wantV x120_1 true) (binA Tryd.prog H .add 3 (.int .i64 4) x124_1)) fun x125_1 =>
    purK (gPur (wantV x120_1 true) (binA Tryd.prog H .geq 3 x122_1 x125_1)) fun x126_1 =>
    purK (pickA x120_1 x126_1 (.bool false)) fun x127_1 =>
    purK (gPur (wantV x127_1 true) (some x96_1)) fun x129_1 =>
    purK (gPur (wantV x127_1 true) (some x9)) fun x130_1 =>
    purK (gPur (wantV x127_1 true) (binA Tryd.prog H .lss 3 x129_1 x130_1)) fun x131_1 =>
    purK (pickA x127_1 x131_1 (.bool false)) fun x132_1 =>
    N52_10 ρ call yc lim k x0 x1 x5 x6 x7 x96_1 x9 x98_1 x132_1 H kn R)
theorem N52_7_x (ρ : Addr → Option Value) (call : CallF) (yc : YieldF) (lim k : Nat) (J : CodeF) (x0 x1 x5 x6 x7 x8 x9 x10 : AV) (H : Heap) (kn : KS) (k2 : KS) (k1 : KS) (R : List AV → Heap → Res) :
    evX (cx ρ) call yc false 52 lim k J (Code.at [1, 1, 1, 1, 1, 1, 1, 1, 0, 0, 0, 1, 0, 1, 1] c52) (sp 143 [(0, x0), (1, x1), (5, x5), (6, x6), (7, x7), (8, x8), (9, x9), (10, x10)]) H (kk (some [0, 1, 5, 6, 7, 8, 9, 10]) kn [(2, (some [0, 1, 5, 6, 7, 8, 9, 10]), k2), (1, (some []), k1)] R [4]) =
  purK (binA Tryd.prog H .add 3 x8 (.int .i64 1)) fun x96_1 =>
  purK (binA Tryd.prog H .add 3 x10 (.int .i64 1)) fun x98_1 =>
  purK (ld1 ρ H (.xp ⟨2, 0, none⟩)) fun x100_1 =>
  purK (binA Tryd.prog H .leq 3 x5 x100_1) fun x101_1 =>
  purK (gPur (wantV x101_1 true) (some x98_1)) fun x103_1 =>
  purK (gPur (wantV x101_1 true) (some x96_1)) fun x104_1 =>
  resK (gRes (wantV x101_1 true) H (call lim 63 [x104_1] H)) fun x105_1 H =>
  purK (gPur (wantV x101_1 true) (binA Tryd.prog H .gtr 3 x103_1 x105_1)) fun x106_1 =>
  purK (pickA x101_1 x106_1 (.bool false)) fun x107_1 =>
  condK x107_1
  (
    purK (slT x0 (some x96_1) none) fun x110_1 =>
    resK (call lim 62 [x110_1, x1] H) fun x112_1 H =>
    purK (binA Tryd.prog H .geq 3 x112_1 (.int .i64 0)) fun x114_1 =>
    J (Code.at [1, 1, 1, 1, 1, 1, 1, 1, 0, 0, 0, 1, 0, 1, 1, 1, 1, 1, 0, 1, 0, 1] c52) (sp 143 [(8, x96_1), (12, x112_1), (114, x114_1)]) H (kk (some []) (fun s H => J (Code.at [1, 1, 1, 1, 1, 1, 1, 1, 0, 0, 0, 1, 0, 1, 1, 1, 1, 1, 0, 1, 1] c52) s H (kk (some [0, 1, 5, 6, 7, 8, 9, 10]) kn [(2, (some [0, 1, 5, 6, 7, 8, 9, 10]), k2), (1, (some []), k1)] R [4])) [(2, (some [0, 1, 5, 6, 7, 8, 9, 10]), k2), (1, (some []), k1)] R [4]))
  (
    purK (ld1 ρ H (.xp ⟨2, 0, none⟩)) fun x119_1 =>
    purK (binA Tryd.prog H .gtr 3 x5 x119_1) fun x120_1 =>
    purK (gPur (wantV x120_1 true) (some x98_1)) fun x122_1 =>
    purK (gPur (wantV x120_1 true) (some x96_1)) fun x123_1 =>
    purK (gPur (wantV x120_1 true) (binA Tryd.prog H .shr 3 x123_1 (.int .u64 4))) fun x124_1 =>
    purK (gPur (wantV x120_1 true) (binA Tryd.prog H .add 3 (.int .i64 4) x124_1)) fun x125_1 =>
    purK (gPur (wantV x120_1 true) (binA Tryd.prog H .geq 3 x122_1 x125_1)) fun x126_1 =>
    purK (pickA x120_1 x126_1 (.bool false)) fun x127_1 =>
    purK (gPur (wantV x127_1 true) (some x96_1)) fun x129_1 =>
    purK (gPur (wantV x127_1 true) (some x9)) fun x130_1 =>
    purK (gPur (wantV x127_1 true) (binA Tryd.prog H .lss 3 x129_1 x130_1)) fun x131_1 =>
    purK (pickA x127_1 x131_1 (.bool false)) fun x132_1 =>
    J (Code.at [1, 1, 1, 1, 1, 1, 1, 1, 0, 0, 0, 1, 0, 1, 1, 1, 1, 1, 1, 1] c52) (sp 143 [(0, x0), (1, x1), (5, x5), (6, x6), (7, x7), (8, x96_1), (9, x9), (10, x98_1), (132, x132_1)]) H (kk (some [0, 1, 5, 6, 7, 8, 9, 10]) kn [(2, (some [0, 1, 5, 6, 7, 8, 9, 10]), k2), (1, (some []), k1)] R [4])) := by
  kernel_rfl
theorem N52_7_eq (ρ : Addr → Option Value) (call : CallF) (yc : YieldF) (lim k : Nat) (x0 x1 x5 x6 x7 x8 x9 x10 : AV) (H : Heap) (kn : KS) (k2 : KS) (k1 : KS) (R : List AV → Heap → Res) :
    evL (cx ρ) call yc false 52 lim k (Code.at [1, 1, 1, 1, 1, 1, 1, 1, 0, 0, 0, 1, 0, 1, 1] c52) (sp 143 [(0, x0), (1, x1), (5, x5), (6, x6), (7, x7), (8, x8), (9, x9), (10, x10)]) H (kk (some [0, 1, 5, 6, 7, 8, 9, 10]) kn [(2, (some [0, 1, 5, 6, 7, 8, 9, 10]), k2), (1, (some []), k1)] R [4]) = N52_7 ρ call yc lim k x0 x1 x5 x6 x7 x8 x9 x10 H (fun x8 x10 H => kn (sp 143 [(0, x0), (1, x1), (5, x5), (6, x6), (7, x7), (8, x8), (9, x9), (10, x10)]) H) R := by
  rw [evL_X, N52_7_x]
  simp only [← evL_X, N52_7, N52_10_eq, N52_8_eq, N52_9_eq]
noncomputable def N52_11 (ρ : Addr → Option Value) (call : CallF) (yc : YieldF) (lim k : Nat) (x0 x1 x5 x6 x7 x8 x9 x10 x93 : AV) (H : Heap) (kn : AV → AV → Heap → Res) (R : List AV → Heap → Res) : Res :=
  condK x93
  (
    R [x8] H)
  (
    kn x8 x10 H)
theorem N52_11_eq (ρ : Addr → Option Value) (call : CallF) (yc : YieldF) (lim k : Nat) (x0 x1 x5 x6 x7 x8 x9 x10 x93 : AV) (H : Heap) (kn : KS) (k2 : KS) (k1 : KS) (R : List AV → Heap → Res) :
    evL (cx ρ) call yc false 52 lim k (Code.at [1, 1, 1, 1, 1, 1, 1, 1, 0, 0, 0, 1, 0, 1, 0, 1] c52) (sp 143 [(0, x0), (1, x1), (5, x5), (6, x6), (7, x7), (8, x8), (9, x9), (10, x10), (93, x93)]) H (kk (some [0, 1, 5, 6, 7, 8, 9, 10]) kn [(2, (some [0, 1, 5, 6, 7, 8, 9, 10]), k2), (1, (some []), k1)] R [4]) = N52_11 ρ call yc lim k x0 x1 x5 x6 x7 x8 x9 x10 x93 H (fun x8 x10 H => kn (sp 143 [(0, x0), (1, x1), (5, x5), (6, x6), (7, x7), (8, x8), (9, x9), (10, x10)]) H) R := by
  kernel_rfl
noncomputable def N52_6 (ρ : Addr → Option Value) (call : CallF) (yc : YieldF) (lim k : Nat) (x0 x1 x5 x6 x7 x8 x9 x10 : AV) (H : Heap) (kn : AV → AV → Heap → Res) (R : List AV → Heap → Res) : Res :=
  purK (binA Tryd.prog H .add 3 x8 (.int .i64 1)) fun x80_1 =>
  purK (ixT x0 x80_1) fun x81_1 =>
  purK (binA Tryd.prog H .eql 5 x81_1 x7) fun x83_1 =>
  purK (gPur (wantV x83_1 true) (some x0)) fun x85_1 =>
  purK (gPur (wantV x83_1 true) (some x8)) fun x86_1 =>
  purK (gPur (wantV x83_1 true) (some x8)) fun x87_1 =>
  purK (gPur (wantV x83_1 true) (some x5)) fun x88_1 =>
  purK (gPur (wantV x83_1 true) (binA Tryd.prog H .add 3 x87_1 x88_1)) fun x89_1 =>
  purK (gPur (wantV x83_1 true) (slT x85_1 (some x86_1) (some x89_1))) fun x90_1 =>
  purK (gPur (wantV x83_1 true) (some x1)) fun x91_1 =>
  purK (gPur (wantV x83_1 true) (binA Tryd.prog H .eql 9 x90_1 x91_1)) fun x92_1 =>
  purK (pickA x83_1 x92_1 (.bool false)) fun x93_1 =>
  N52_11 ρ call yc lim k x0 x1 x5 x6 x7 x8 x9 x10 x93_1 H (fun x8_1 x10_1 H =>
    N52_7 ρ call yc lim k x0 x1 x5 x6 x7 x8_1 x9 x10_1 H kn R) R
theorem N52_6_x (ρ : Addr → Option Value) (call : CallF) (yc : YieldF) (lim k : Nat) (J : CodeF) (x0 x1 x5 x6 x7 x8 x9 x10 : AV) (H : Heap) (kn : KS) (k2 : KS) (k1 : KS) (R : List AV → Heap → Res) :
    evX (cx ρ) call yc false 52 lim k J (Code.at [1, 1, 1, 1, 1, 1, 1, 1, 0, 0, 0, 1, 0, 1] c52) (sp 143 [(0, x0), (1, x1), (5, x5), (6, x6), (7, x7), (8, x8), (9, x9), (10, x10)]) H (kk (some [0, 1, 5, 6, 7, 8, 9, 10]) kn [(2, (some [0, 1, 5, 6, 7, 8, 9, 10]), k2), (1, (some []), k1)] R [4]) =
  purK (binA Tryd.prog H .add 3 x8 (.int .i64 1)) fun x80_1 =>
  purK (ixT x0 x80_1) fun x81_1 =>
  purK (binA Tryd.prog H .eql 5 x81_1 x7) fun x83_1 =>
  purK (gPur (wantV x83_1 true) (some x0)) fun x85_1 =>
  purK (gPur (wantV x83_1 true) (some x8)) fun x86_1 =>
  purK (gPur (wantV x83_1 true) (some x8)) fun x87_1 =>
  purK (gPur (wantV x83_1 true) (some x5)) fun x88_1 =>
  purK (gPur (wantV x83_1 true) (binA Tryd.prog H .add 3 x87_1 x88_1)) fun x89_1 =>
  purK (gPur (wantV x83_1 true) (slT x85_1 (some x86_1) (some x89_1))) fun x90_1 =>
  purK (gPur (wantV x83_1 true) (some x1)) fun x91_1 =>
  purK (gPur (wantV x83_1 true) (binA Tryd.prog H .eql 9 x90_1 x91_1)) fun x92_1 =>
  purK (pickA x83_1 x92_1 (.bool false)) fun x93_1 =>
  J (Code.at [1, 1, 1, 1, 1, 1, 1, 1, 0, 0, 0, 1, 0, 1, 0, 1] c52) (sp 143 [(0, x0), (1, x1), (5, x5), (6, x6), (7, x7), (8, x8), (9, x9), (10, x10), (93, x93_1)]) H (kk (some [0, 1, 5, 6, 7, 8, 9, 10]) (fun s H => J (Code.at [1, 1, 1, 1, 1, 1, 1, 1, 0, 0, 0, 1, 0, 1, 1] c52) s H (kk (some [0, 1, 5, 6, 7, 8, 9, 10]) kn [(2, (some [0, 1, 5, 6, 7, 8, 9, 10]), k2), (1, (some []), k1)] R [4])) [(2, (some [0, 1, 5, 6, 7, 8, 9, 10]), k2), (1, (some []), k1)] R [4]) := by
  kernel_rfl
theorem N52_6_eq (ρ : Addr → Option Value) (call : CallF) (yc : YieldF) (lim k : Nat) (x0 x1 x5 x6 x7 x8 x9 x10 : AV) (H : Heap) (kn : KS) (k2 : KS) (k1 : KS) (R : List AV → Heap → Res) :
    evL (cx ρ) call yc false 52 lim k (Code.at [1, 1, 1, 1, 1, 1, 1, 1, 0, 0, 0, 1, 0, 1] c52) (sp 143 [(0, x0), (1, x1), (5, x5), (6, x6), (7, x7), (8, x8), (9, x9), (10, x10)]) H (kk (some [0, 1, 5, 6, 7, 8, 9, 10]) kn [(2, (some [0, 1, 5, 6, 7, 8, 9, 10]), k2), (1, (some []), k1)] R [4]) = N52_6 ρ call yc lim k x0 x1 x5 x6 x7 x8 x9 x10 H (fun x8 x10 H => kn (sp 143 [(0, x0), (1, x1), (5, x5), (6, x6), (7, x7), (8, x8), (9, x9), (10, x10)]) H) R := by
  rw [evL_X, N52_6_x]
  simp only [← evL_X, N52_6, N52_11_eq, N52_7_eq]
noncomputable def N52_5b (ρ : Addr → Option Value) (call : CallF) (yc : YieldF) (lim k : Nat) (x0 x1 x5 x6 x7 x8 x9 x10 : AV) (H : Heap) (kn : AV → AV → Heap → Res) (k1 : Heap → Res) (R : List AV → Heap → Res) : Res :=
  purK (binA Tryd.prog H .lss 3 x8 x9) fun x59_1 =>
  condK x59_1
  (
    purK (ixT x0 x8) fun x62_1 =>
    purK (binA Tryd.prog H .neq 5 x62_1 x6) fun x64_1 =>
    condK x64_1
    (
      purK (binA Tryd.prog H .add 3 x8 (.int .i64 1)) fun x67_1 =>
      purK (slT x0 (some x67_1) (some x9)) fun x69_1 =>
      resK (call lim 47 [x69_1, x6] H) fun x71_1 H =>
      purK (binA Tryd.prog H .lss 3 x71_1 (.int .i64 0)) fun x73_1 =>
      condK x73_1
      (
        R [(.int .i64 (-1))] H)
      (
        purK (binA Tryd.prog H .add 3 x71_1 (.int .i64 1)) fun x76_1 =>
        purK (binA Tryd.prog H .add 3 x8 x76_1) fun x77_1 =>
        N52_6 ρ call yc lim k x0 x1 x5 x6 x7 x77_1 x9 x10 H kn R))
    (
      N52_6 ρ call yc lim k x0 x1 x5 x6 x7 x8 x9 x10 H kn R))
  (
    k1 H)
theorem N52_5b_x (ρ : Addr → Option Value) (call : CallF) (yc : YieldF) (lim k : Nat) (J : CodeF) (x0 x1 x5 x6 x7 x8 x9 x10 : AV) (H : Heap) (kn : KS) (k1 : KS) (R : List AV → Heap → Res) :
    evX (cx ρ) call yc false 52 lim k J (Code.at [1, 1, 1, 1, 1, 1, 1, 1, 0, 0, 0] c52) (sp 143 [(0, x0), (1, x1), (5, x5), (6, x6), (7, x7), (8, x8), (9, x9), (10, x10)]) H (kk (some [0, 1, 5, 6, 7, 8, 9, 10]) kn [(1, (some []), k1)] R [4]) =
  purK (binA Tryd.prog H .lss 3 x8 x9) fun x59_1 =>
  condK x59_1
  (
    purK (ixT x0 x8) fun x62_1 =>
    purK (binA Tryd.prog H .neq 5 x62_1 x6) fun x64_1 =>
    condK x64_1
    (
      purK (binA Tryd.prog H .add 3 x8 (.int .i64 1)) fun x67_1 =>
      purK (slT x0 (some x67_1) (some x9)) fun x69_1 =>
      resK (call lim 47 [x69_1, x6] H) fun x71_1 H =>
      purK (binA Tryd.prog H .lss 3 x71_1 (.int .i64 0)) fun x73_1 =>
      condK x73_1
      (
        R [(.int .i64 (-1))] H)
      (
        purK (binA Tryd.prog H .add 3 x71_1 (.int .i64 1)) fun x76_1 =>
        purK (binA Tryd.prog H .add 3 x8 x76_1) fun x77_1 =>
        J (Code.at [1, 1, 1, 1, 1, 1, 1, 1, 0, 0, 0, 1, 0, 1] c52) (sp 143 [(0, x0), (1, x1), (5, x5), (6, x6), (7, x7), (8, x77_1), (9, x9), (10, x10)]) H (kk (some [0, 1, 5, 6, 7, 8, 9, 10]) kn [(2, (some [0, 1, 5, 6, 7, 8, 9, 10]), kn), (1, (some []), k1)] R [4])))
    (
      J (Code.at [1, 1, 1, 1, 1, 1, 1, 1, 0, 0, 0, 1, 0, 1] c52) (sp 143 [(0, x0), (1, x1), (5, x5), (6, x6), (7, x7), (8, x8), (9, x9), (10, x10)]) H (kk (some [0, 1, 5, 6, 7, 8, 9, 10]) kn [(2, (some [0, 1, 5, 6, 7, 8, 9, 10]), kn), (1, (some []), k1)] R [4])))
  (
    k1 (sp 143 []) H) := by
  kernel_rfl
theorem N52_5b_eq (ρ : Addr → Option Value) (call : CallF) (yc : YieldF) (lim k : Nat) (x0 x1 x5 x6 x7 x8 x9 x10 : AV) (H : Heap) (kn : KS) (k1 : KS) (R : List AV → Heap → Res) :
    evL (cx ρ) call yc false 52 lim k (Code.at [1, 1, 1, 1, 1, 1, 1, 1, 0, 0, 0] c52) (sp 143 [(0, x0), (1, x1), (5, x5), (6, x6), (7, x7), (8, x8), (9, x9), (10, x10)]) H (kk (some [0, 1, 5, 6, 7, 8, 9, 10]) kn [(1, (some []), k1)] R [4]) = N52_5b ρ call yc lim k x0 x1 x5 x6 x7 x8 x9 x10 H (fun x8 x10 H => kn (sp 143 [(0, x0), (1, x1), (5, x5), (6, x6), (7, x7), (8, x8), (9, x9), (10, x10)]) H) (fun H => k1 (sp 143 []) H) R := by
  rw [evL_X, N52_5b_x]
  simp only [← evL_X, N52_5b, N52_6_eq]
noncomputable def N52_5 (ρ : Addr → Option Value) (call : CallF) (yc : YieldF) (lim k : Nat) (x0 x1 x5 x6 x7 x8 x9 x10 : AV) (H : Heap) (k1 : Heap → Res) (R : List AV → Heap → Res) : Res :=
  loopL (fun (x : AV × AV) H kn => N52_5b ρ call yc lim k x0 x1 x5 x6 x7 x.1 x9 x.2 H (fun x8 x10 H => kn (x8, x10) H) k1 R) k (x8, x10) H
theorem N52_5_eq (ρ : Addr → Option Value) (call : CallF) (yc : YieldF) (lim k : Nat) (x0 x1 x5 x6 x7 x8 x9 x10 : AV) (H : Heap) (kn : KS) (k1 : KS) (R : List AV → Heap → Res) :
    evL (cx ρ) call yc false 52 lim k (Code.at [1, 1, 1, 1, 1, 1, 1, 1, 0, 0] c52) (sp 143 [(0, x0), (1, x1), (5, x5), (6, x6), (7, x7), (8, x8), (9, x9), (10, x10)]) H (kk (some []) kn [(1, (some []), k1)] R [4]) = N52_5 ρ call yc lim k x0 x1 x5 x6 x7 x8 x9 x10 H (fun H => k1 (sp 143 []) H) R := by
  have e : Code.at [1, 1, 1, 1, 1, 1, 1, 1, 0, 0] c52 = .loop (Code.at [1, 1, 1, 1, 1, 1, 1, 1, 0, 0, 0] c52) := by kernel_rfl
  rw [e]
  unfold N52_5
  exact loop_node [0, 1, 5, 6, 7, 8, 9, 10] (fun x : AV × AV => (sp 143 [(0, x0), (1, x1), (5, x5), (6, x6), (7, x7), (8, (x.1)), (9, x9), (10, (x.2))])) (fun (x : AV × AV) H kn => N52_5b ρ call yc lim k x0 x1 x5 x6 x7 x.1 x9 x.2 H (fun x8 x10 H => kn (x8, x10) H) (fun H => k1 (sp 143 []) H) R) (by kernel_rfl) (fun x => by kernel_rfl) (fun x H kn => N52_5b_eq ρ call yc lim k x0 x1 x5 x6 x7 (x.1) x9 (x.2) H kn k1 R) (x8, x10) (sp 143 [(0, x0), (1, x1), (5, x5), (6, x6), (7, x7), (8, x8), (9, x9), (10, x10)]) H (by kernel_rfl)
noncomputable def N52_3 (ρ : Addr → Option Value) (call : CallF) (yc : YieldF) (lim k : Nat) (x0 x1 x5 x6 x7 x8 x9 x10 : AV) (H : Heap) (R : List AV → Heap → Res) : Res :=
  N52_5 ρ call yc lim k x0 x1 x5 x6 x7 x8 x9 x10 H (fun H =>
    N52_4 ρ call yc lim k H R) R
theorem N52_3_x (ρ : Addr → Option Value) (call : CallF) (yc : YieldF) (lim k : Nat) (J : CodeF) (x0 x1 x5 x6 x7 x8 x9 x10 : AV) (H : Heap) (R : List AV → Heap → Res) :
    evX (cx ρ) call yc false 52 lim k J (Code.at [1, 1, 1, 1, 1, 1, 1, 1] c52) (sp 143 [(0, x0), (1, x1), (5, x5), (6, x6), (7, x7), (8, x8), (9, x9), (10, x10)]) H (kk none (fun s H => R (([4] : List Nat).map fun t => s.getD t (.tup [])) H) [] R [4]) =
  J (Code.at [1, 1, 1, 1, 1, 1, 1, 1, 0, 0] c52) (sp 143 [(0, x0), (1, x1), (5, x5), (6, x6), (7, x7), (8, x8), (9, x9), (10, x10)]) H (kk (some []) (fun s H => J (Code.at [1, 1, 1, 1, 1, 1, 1, 1, 1] c52) s H (kk none (fun s H => R (([4] : List Nat).map fun t => s.getD t (.tup [])) H) [] R [4])) [(1, (some []), (fun s H => J (Code.at [1, 1, 1, 1, 1, 1, 1, 1, 1] c52) s H (kk none (fun s H => R (([4] : List Nat).map fun t => s.getD t (.tup [])) H) [] R [4])))] R [4]) := by
  kernel_rfl
theorem N52_3_eq (ρ : Addr → Option Value) (call : CallF) (yc : YieldF) (lim k : Nat) (x0 x1 x5 x6 x7 x8 x9 x10 : AV) (H : Heap) (R : List AV → Heap → Res) :
    evL (cx ρ) call yc false 52 lim k (Code.at [1, 1, 1, 1, 1, 1, 1, 1] c52) (sp 143 [(0, x0), (1, x1), (5, x5), (6, x6), (7, x7), (8, x8), (9, x9), (10, x10)]) H (kk none (fun s H => R (([4] : List Nat).map fun t => s.getD t (.tup [])) H) [] R [4]) = N52_3 ρ call yc lim k x0 x1 x5 x6 x7 x8 x9 x10 H R := by
  rw [evL_X, N52_3_x]
  simp only [← evL_X, N52_3, N52_4_eq, N52_5_eq]
noncomputable def N52_2 (ρ : Addr → Option Value) (call : CallF) (yc : YieldF) (lim k : Nat) (x0 x1 x5 x6 x7 : AV) (H : Heap) (R : List AV → Heap → Res) : Res :=
  purK (lenT x0) fun x53_1 =>
  purK (binA Tryd.prog H .sub 3 x53_1 x5) fun x55_1 =>
  purK (binA Tryd.prog H .add 3 x55_1 (.int .i64 1)) fun x56_1 =>
  N52_3 ρ call yc lim k x0 x1 x5 x6 x7 (.int .i64 0) x56_1 (.int .i64 0) H R
theorem N52_2_x (ρ : Addr → Option Value) (call : CallF) (yc : YieldF) (lim k : Nat) (J : CodeF) (x0 x1 x5 x6 x7 : AV) (H : Heap) (R : List AV → Heap → Res) :
    evX (cx ρ) call yc false 52 lim k J (Code.at [1, 1, 1, 1, 1] c52) (sp 143 [(0, x0), (1, x1), (5, x5), (6, x6), (7, x7)]) H (kk none (fun s H => R (([4] : List Nat).map fun t => s.getD t (.tup [])) H) [] R [4]) =
  purK (lenT x0) fun x53_1 =>
  purK (binA Tryd.prog H .sub 3 x53_1 x5) fun x55_1 =>
  purK (binA Tryd.prog H .add 3 x55_1 (.int .i64 1)) fun x56_1 =>
  J (Code.at [1, 1, 1, 1, 1, 1, 1, 1] c52) (sp 143 [(0, x0), (1, x1), (5, x5), (6, x6), (7, x7), (8, (.int .i64 0)), (9, x56_1), (10, (.int .i64 0))]) H (kk none (fun s H => R (([4] : List Nat).map fun t => s.getD t (.tup [])) H) [] R [4]) := by
  kernel_rfl
theorem N52_2_eq (ρ : Addr → Option Value) (call : CallF) (yc : YieldF) (lim k : Nat) (x0 x1 x5 x6 x7 : AV) (H : Heap) (R : List AV → Heap → Res) :
    evL (cx ρ) call yc false 52 lim k (Code.at [1, 1, 1, 1, 1] c52) (sp 143 [(0, x0), (1, x1), (5, x5), (6, x6), (7, x7)]) H (kk none (fun s H => R (([4] : List Nat).map fun t => s.getD t (.tup [])) H) [] R [4]) = N52_2 ρ call yc lim k x0 x1 x5 x6 x7 H R := by
  rw [evL_X, N52_2_x]
  simp only [← evL_X, N52_2, N52_3_eq]
noncomputable def N52_1 (ρ : Addr → Option Value) (call : CallF) (yc : YieldF) (lim k : Nat) (x0 x1 x5 : AV) (H : Heap) (R : List AV → Heap → Res) : Res :=
  purK (ixT x1 (.int .i64 0)) fun x49_1 =>
  purK (ixT x1 (.int .i64 1)) fun x51_1 =>
  N52_2 ρ call yc lim k x0 x1 x5 x49_1 x51_1 H R
theorem N52_1_x (ρ : Addr → Option Value) (call : CallF) (yc : YieldF) (lim k : Nat) (J : CodeF) (x0 x1 x5 : AV) (H : Heap) (R : List AV → Heap → Res) :
    evX (cx ρ) call yc false 52 lim k J (Code.at [1, 1, 1] c52) (sp 143 [(0, x0), (1, x1), (5, x5)]) H (kk none (fun s H => R (([4] : List Nat).map fun t => s.getD t (.tup [])) H) [] R [4]) =
  purK (ixT x1 (.int .i64 0)) fun x49_1 =>
  purK (ixT x1 (.int .i64 1)) fun x51_1 =>
  J (Code.at [1, 1, 1, 1, 1] c52) (sp 143 [(0, x0), (1, x1), (5, x5), (6, x49_1), (7, x51_1)]) H (kk none (fun s H => R (([4] : List Nat).map fun t => s.getD t (.tup [])) H) [] R [4]) := by
  kernel_rfl
theorem N52_1_eq (ρ : Addr → Option Value) (call : CallF) (yc : YieldF) (lim k : Nat) (x0 x1 x5 : AV) (H : Heap) (R : List AV → Heap → Res) :
    evL (cx ρ) call yc false 52 lim k (Code.at [1, 1, 1] c52) (sp 143 [(0, x0), (1, x1), (5, x5)]) H (kk none (fun s H => R (([4] : List Nat).map fun t => s.getD t (.tup [])) H) [] R [4]) = N52_1 ρ call yc lim k x0 x1 x5 H R := by
  rw [evL_X, N52_1_x]
  simp only [← evL_X, N52_1, N52_2_eq]
noncomputable def N52_12 (ρ : Addr → Option Value) (call : CallF) (yc : YieldF) (lim k : Nat) (x0 x1 x5 x36 : AV) (H : Heap) (kn : AV → AV → AV → Heap → Res) (R : List AV → Heap → Res) : Res :=
  condK x36
  (
    resK (call lim 62 [x0, x1] H) fun x47_1 H =>
    R [x47_1] H)
  (
    kn x0 x1 x5 H)
theorem N52_12_eq (ρ : Addr → Option Value) (call : CallF) (yc : YieldF) (lim k : Nat) (x0 x1 x5 x36 : AV) (H : Heap) (kn : KS) (k0 : KS) (R : List AV → Heap → Res) :
    evL (cx ρ) call yc false 52 lim k (Code.at [1, 1, 0, 0, 1, 1, 1, 1, 1, 1, 1] c52) (sp 143 [(0, x0), (1, x1), (5, x5), (36, x36)]) H (kk (some [0, 1, 5]) kn [(0, (some [0, 1, 5]), k0)] R [4]) = N52_12 ρ call yc lim k x0 x1 x5 x36 H (fun x0 x1 x5 H => kn (sp 143 [(0, x0), (1, x1), (5, x5)]) H) R := by
  kernel_rfl
noncomputable def L52 (ρ : Addr → Option Value) (call : CallF) (yc : YieldF) (lim k : Nat) (x0 x1 : AV) (H : Heap) : Res :=
  purK (lenT x1) fun x15 =>
  purK (binA Tryd.prog H .eql 3 x15 (.int .i64 0)) fun x18 =>
  purK (gPur (wantV x18 false) (some x1)) fun x20 =>
  purK (gPur (wantV x18 false) (some x0)) fun x21 =>
  purK (gPur (wantV x18 false) (binA Tryd.prog H .eql 9 x20 x21)) fun x22 =>
  purK (pickA x18 (.bool true) x22) fun x23 =>
  condK x23
  (
    retK [(.int .i64 0)] H)
  (
    purK (binA Tryd.prog H .eql 3 x15 (.int .i64 1)) fun x26 =>
    condK x26
    (
      purK (ixT x1 (.int .i64 0)) fun x29 =>
      resK (call lim 47 [x0, x29] H) fun x30 H =>
      retK [x30] H)
    (
      purK (lenT x0) fun x34 =>
      purK (binA Tryd.prog H .geq 3 x15 x34) fun x35 =>
      condK x35
      (
        retK [(.int .i64 (-1))] H)
      (
        purK (ld1 ρ H (.xp ⟨2, 0, none⟩)) fun x38 =>
        purK (binA Tryd.prog H .leq 3 x15 x38) fun x39 =>
        purK (gPur (wantV x39 true) (some x0)) fun x41 =>
        purK (gPur (wantV x39 true) (lenT x41)) fun x42 =>
        purK (gPur (wantV x39 true) (binA Tryd.prog H .leq 3 x42 (.int .i64 64))) fun x43 =>
        purK (pickA x39 x43 (.bool false)) fun x44 =>
        N52_12 ρ call yc lim k x0 x1 x15 x44 H (fun x0_1 x1_1 x5 H =>
          N52_1 ρ call yc lim k x0_1 x1_1 x5 H retK) retK)))
theorem L52_x (ρ : Addr → Option Value) (call : CallF) (yc : YieldF) (lim k : Nat) (J : CodeF) (x0 x1 : AV) (H : Heap) :
    evX (cx ρ) call yc false 52 lim k J c52 [x0, x1, (.tup []), (.tup []), (.tup []), (.tup []), (.tup []), (.tup []), (.tup []), (.tup []), (.tup []), (.tup []), (.tup []), (.tup []), (.tup []), (.tup []), (.tup []), (.tup []), (.tup []), (.tup []), (.tup []), (.tup []), (.tup []), (.tup []), (.tup []), (.tup []), (.tup []), (.tup []), (.tup []), (.tup []), (.tup []), (.tup []), (.tup []), (.tup []), (.tup []), (.tup []), (.tup []), (.tup []), (.tup []), (.tup []), (.tup []), (.tup []), (.tup []), (.tup []), (.tup []), (.tup []), (.tup []), (.tup []), (.tup []), (.tup []), (.tup []), (.tup []), (.tup []), (.tup []), (.tup []), (.tup []), (.tup []), (.tup []), (.tup []), (.tup []), (.tup []), (.tup []), (.tup []), (.tup []), (.tup []), (.tup []), (.tup []), (.tup []), (.tup []), (.tup []), (.tup []), (.tup []), (.tup []), (.tup []), (.tup []), (.tup []), (.tup []), (.tup []), (.tup []), (.tup []), (.tup []), (.tup []), (.tup []), (.tup []), (.tup []), (.tup []), (.tup []), (.tup []), (.tup []), (.tup []), (.tup []), (.tup []), (.tup []), (.tup []), (.tup []), (.tup []), (.tup []), (.tup []), (.tup []), (.tup []), (.tup []), (.tup []), (.tup []), (.tup []), (.tup []), (.tup []), (.tup []), (.tup []), (.tup []), (.tup []), (.tup []), (.tup []), (.tup []), (.tup []), (.tup []), (.tup []), (.tup []), (.tup []), (.tup []), (.tup []), (.tup []), (.tup []), (.tup []), (.tup []), (.tup []), (.tup []), (.tup []), (.tup []), (.tup []), (.tup []), (.tup []), (.tup []), (.tup []), (.tup []), (.tup []), (.tup []), (.tup []), (.tup []), (.tup []), (.tup []), (.tup []), (.tup []), (.tup [])] H (kk none (fun s H => retK (([4] : List Nat).map fun t => s.getD t (.tup [])) H) [] retK [4]) =
  purK (lenT x1) fun x15 =>
  purK (binA Tryd.prog H .eql 3 x15 (.int .i64 0)) fun x18 =>
  purK (gPur (wantV x18 false) (some x1)) fun x20 =>
  purK (gPur (wantV x18 false) (some x0)) fun x21 =>
  purK (gPur (wantV x18 false) (binA Tryd.prog H .eql 9 x20 x21)) fun x22 =>
  purK (pickA x18 (.bool true) x22) fun x23 =>
  condK x23
  (
    retK [(.int .i64 0)] H)
  (
    purK (binA Tryd.prog H .eql 3 x15 (.int .i64 1)) fun x26 =>
    condK x26
    (
      purK (ixT x1 (.int .i64 0)) fun x29 =>
      resK (call lim 47 [x0, x29] H) fun x30 H =>
      retK [x30] H)
    (
      purK (lenT x0) fun x34 =>
      purK (binA Tryd.prog H .geq 3 x15 x34) fun x35 =>
      condK x35
      (
        retK [(.int .i64 (-1))] H)
      (
        purK (ld1 ρ H (.xp ⟨2, 0, none⟩)) fun x38 =>
        purK (binA Tryd.prog H .leq 3 x15 x38) fun x39 =>
        purK (gPur (wantV x39 true) (some x0)) fun x41 =>
        purK (gPur (wantV x39 true) (lenT x41)) fun x42 =>
        purK (gPur (wantV x39 true) (binA Tryd.prog H .leq 3 x42 (.int .i64 64))) fun x43 =>
        purK (pickA x39 x43 (.bool false)) fun x44 =>
        J (Code.at [1, 1, 0, 0, 1, 1, 1, 1, 1, 1, 1] c52) (sp 143 [(0, x0), (1, x1), (5, x15), (36, x44)]) H (kk (some [0, 1, 5]) (fun s H => J (Code.at [1, 1, 1] c52) s H (kk none (fun s H => retK (([4] : List Nat).map fun t => s.getD t (.tup [])) H) [] retK [4])) [(0, (some [0, 1, 5]), (fun s H => J (Code.at [1, 1, 1] c52) s H (kk none (fun s H => retK (([4] : List Nat).map fun t => s.getD t (.tup [])) H) [] retK [4])))] retK [4])))) := by
  kernel_rfl
theorem G52 (ρ : Addr → Option Value) (call : CallF) (yc : YieldF) (lim k : Nat) (x0 x1 : AV) (H : Heap) :
    evL (cx ρ) call yc false 52 lim k c52 [x0, x1, (.tup []), (.tup []), (.tup []), (.tup []), (.tup []), (.tup []), (.tup []), (.tup []), (.tup []), (.tup []), (.tup []), (.tup []), (.tup []), (.tup []), (.tup []), (.tup []), (.tup []), (.tup []), (.tup []), (.tup []), (.tup []), (.tup []), (.tup []), (.tup []), (.tup []), (.tup []), (.tup []), (.tup []), (.tup []), (.tup []), (.tup []), (.tup []), (.tup []), (.tup []), (.tup []), (.tup []), (.tup []), (.tup []), (.tup []), (.tup []), (.tup []), (.tup []), (.tup []), (.tup []), (.tup []), (.tup []), (.tup []), (.tup []), (.tup []), (.tup []), (.tup []), (.tup []), (.tup []), (.tup []), (.tup []), (.tup []), (.tup []), (.tup []), (.tup []), (.tup []), (.tup []), (.tup []), (.tup []), (.tup []), (.tup []), (.tup []), (.tup []), (.tup []), (.tup []), (.tup []), (.tup []), (.tup []), (.tup []), (.tup []), (.tup []), (.tup []), (.tup []), (.tup []), (.tup []), (.tup []), (.tup []), (.tup []), (.tup []), (.tup []), (.tup []), (.tup []), (.tup []), (.tup []), (.tup []), (.tup []), (.tup []), (.tup []), (.tup []), (.tup []), (.tup []), (.tup []), (.tup []), (.tup []), (.tup []), (.tup []), (.tup []), (.tup []), (.tup []), (.tup []), (.tup []), (.tup []), (.tup []), (.tup []), (.tup []), (.tup []), (.tup []), (.tup []), (.tup []), (.tup []), (.tup []), (.tup []), (.tup []), (.tup []), (.tup []), (.tup []), (.tup []), (.tup []), (.tup []), (.tup []), (.tup []), (.tup []), (.tup []), (.tup []), (.tup []), (.tup []), (.tup []), (.tup []), (.tup []), (.tup []), (.tup []), (.tup []), (.tup []), (.tup []), (.tup []), (.tup []), (.tup [])] H (kk none (fun s H => retK (([4] : List Nat).map fun t => s.getD t (.tup [])) H) [] retK [4]) = L52 ρ call yc lim k x0 x1 H := by
  rw [evL_X, L52_x]
  simp only [← evL_X, L52, N52_12_eq, N52_1_eq]
theorem E52 (ρ : Addr → Option Value) (k lim : Nat) (x0 x1 : AV) (H : Heap) : evCall (cx ρ) (k + 1) lim 52 [x0, x1] H = L52 ρ (evCall (cx ρ) k) (evCY (cx ρ) k).2 lim k x0 x1 H := by
  rw [evCall_body (cx ρ) k lim 52 _ H Tryd.f52 c52 [4] (by kernel_rfl) (by kernel_rfl) (by kernel_rfl) (by kernel_rfl) (by kernel_rfl)]
  exact G52 ρ (evCall (cx ρ) k) (evCY (cx ρ) k).2 lim k x0 x1 H
-- strings.genSplit
noncomputable def c53 : Code := Code.of Tryd.prog 53
noncomputable def N53_4 (ρ : Addr → Option Value) (call : CallF) (yc : YieldF) (lim k : Nat) (x0 x9 x10 : AV) (H : Heap) (R : List AV → Heap → Res) : Res :=
  purK (ixS 1 x9 x10) fun x61_1 =>
  effK H (stA lim H 1 x61_1 x0) fun _ H =>
  purK (binA Tryd.prog H .add 3 x10 (.int .i64 1)) fun x64_1 =>
  purK (slS 1 x9 none (some x64_1) none) fun x65_1 =>
  R [x65_1] H
theorem N53_4_eq (ρ : Addr → Option Value) (call : CallF) (yc : YieldF) (lim k : Nat) (x0 x9 x10 : AV) (H : Heap) (R : List AV → Heap → Res) :
    evL (cx ρ) call yc false 53 lim k (Code.at [1, 1, 1, 1, 1, 1, 1, 1, 1] c53) (sp 66 [(0, x0), (9, x9), (10, x10)]) H (kk none (fun s H => R (([8] : List Nat).map fun t => s.getD t (.tup [])) H) [] R [8]) = N53_4 ρ call yc lim k x0 x9 x10 H R := by
  kernel_rfl
noncomputable def N53_6 (ρ : Addr → Option Value) (call : CallF) (yc : YieldF) (lim k : Nat) (x0 x1 x2 x3 x9 x10 : AV) (H : Heap) (kn : AV → AV → Heap → Res) : Res :=
  purK (binA Tryd.prog H .add 3 x10 (.int .i64 1)) fun x57_1 =>
  kn x0 x57_1 H
theorem N53_6_eq (ρ : Addr → Option Value) (call : CallF) (yc : YieldF) (lim k : Nat) (x0 x1 x2 x3 x9 x10 : AV) (H : Heap) (kn : KS) (k1 : KS) (k0 : KS) (R : List AV → Heap → Res) :
    evL (cx ρ) call yc false 53 lim k (Code.at [1, 1, 1, 1, 1, 1, 1, 1, 0, 0, 0, 1, 0, 1, 1, 1, 1] c53) (sp 66 [(0, x0), (1, x1), (2, x2), (3, x3), (9, x9), (10, x10)]) H (kk (some [0, 1, 2, 3, 9, 10]) kn [(1, (some [0, 1, 2, 3, 9, 10]), k1), (0, (some [0, 9, 10]), k0)] R [8]) = N53_6 ρ call yc lim k x0 x1 x2 x3 x9 x10 H (fun x0 x10 H => kn (sp 66 [(0, x0), (1, x1), (2, x2), (3, x3), (9, x9), (10, x10)]) H) := by
  kernel_rfl
noncomputable def N53_5b (ρ : Addr → Option Value) (call : CallF) (yc : YieldF) (lim k : Nat) (x0 x1 x2 x3 x9 x10 : AV) (H : Heap) (kn : AV → AV → Heap → Res) (k0 : AV → AV → AV → Heap → Res) : Res :=
  purK (binA Tryd.prog H .lss 3 x10 x3) fun x36_1 =>
  condK x36_1
  (
    resK (call lim 67 [x0, x1] H) fun x39_1 H =>
    purK (binA Tryd.prog H .lss 3 x39_1 (.int .i64 0)) fun x41_1 =>
    condK x41_1
    (
      k0 x0 x9 x10 H)
    (
      purK (binA Tryd.prog H .add 3 x39_1 x2) fun x47_1 =>
      purK (slT x0 none (some x47_1)) fun x48_1 =>
      purK (ixS 1 x9 x10) fun x49_1 =>
      effK H (stA lim H 1 x49_1 x48_1) fun _ H =>
      purK (lenT x1) fun x53_1 =>
      purK (binA Tryd.prog H .add 3 x39_1 x53_1) fun x54_1 =>
      purK (slT x0 (some x54_1) none) fun x55_1 =>
      N53_6 ρ call yc lim k x55_1 x1 x2 x3 x9 x10 H kn))
  (
    k0 x0 x9 x10 H)
theorem N53_5b_x (ρ : Addr → Option Value) (call : CallF) (yc : YieldF) (lim k : Nat) (J : CodeF) (x0 x1 x2 x3 x9 x10 : AV) (H : Heap) (kn : KS) (k0 : KS) (R : List AV → Heap → Res) :
    evX (cx ρ) call yc false 53 lim k J (Code.at [1, 1, 1, 1, 1, 1, 1, 1, 0, 0, 0] c53) (sp 66 [(0, x0), (1, x1), (2, x2), (3, x3), (9, x9), (10, x10)]) H (kk (some [0, 1, 2, 3, 9, 10]) kn [(0, (some [0, 9, 10]), k0)] R [8]) =
  purK (binA Tryd.prog H .lss 3 x10 x3) fun x36_1 =>
  condK x36_1
  (
    resK (call lim 67 [x0, x1] H) fun x39_1 H =>
    purK (binA Tryd.prog H .lss 3 x39_1 (.int .i64 0)) fun x41_1 =>
    condK x41_1
    (
      k0 (sp 66 [(0, x0), (9, x9), (10, x10)]) H)
    (
      purK (binA Tryd.prog H .add 3 x39_1 x2) fun x47_1 =>
      purK (slT x0 none (some x47_1)) fun x48_1 =>
      purK (ixS 1 x9 x10) fun x49_1 =>
      effK H (stA lim H 1 x49_1 x48_1) fun _ H =>
      purK (lenT x1) fun x53_1 =>
      purK (binA Tryd.prog H .add 3 x39_1 x53_1) fun x54_1 =>
      purK (slT x0 (some x54_1) none) fun x55_1 =>
      J (Code.at [1, 1, 1, 1, 1, 1, 1, 1, 0, 0, 0, 1, 0, 1, 1, 1, 1] c53) (sp 66 [(0, x55_1), (1, x1), (2, x2), (3, x3), (9, x9), (10, x10)]) H (kk (some [0, 1, 2, 3, 9, 10]) kn [(1, (some [0, 1, 2, 3, 9, 10]), kn), (0, (some [0, 9, 10]), k0)] R [8])))
  (
    k0 (sp 66 [(0, x0), (9, x9), (10, x10)]) H) := by
  kernel_rfl
theorem N53_5b_eq (ρ : Addr → Option Value) (call : CallF) (yc : YieldF) (lim k : Nat) (x0 x1 x2 x3 x9 x10 : AV) (H : Heap) (kn : KS) (k0 : KS) (R : List AV → Heap → Res) :
    evL (cx ρ) call yc false 53 lim k (Code.at [1, 1, 1, 1, 1, 1, 1, 1, 0, 0, 0] c53) (sp 66 [(0, x0), (1, x1), (2, x2), (3, x3), (9, x9), (10, x10)]) H (kk (some [0, 1, 2, 3, 9, 10]) kn [(0, (some [0, 9, 10]), k0)] R [8]) = N53_5b ρ call yc lim k x0 x1 x2 x3 x9 x10 H (fun x0 x10 H => kn (sp 66 [(0, x0), (1, x1), (2, x2), (3, x3), (9, x9), (10, x10)]) H) (fun x0 x9 x10 H => k0 (sp 66 [(0, x0), (9, x9), (10, x10)]) H) := by
  rw [evL_X, N53_5b_x]
  simp only [← evL_X, N53_5b, N53_6_eq]
noncomputable def N53_5 (ρ : Addr → Option Value) (call : CallF) (yc : YieldF) (lim k : Nat) (x0 x1 x2 x3 x9 x10 : AV) (H : Heap) (k0 : AV → AV → AV → Heap → Res) : Res :=
  loopL (fun (x : AV × AV) H kn => N53_5b ρ call yc lim k x.1 x1 x2 x3 x9 x.2 H (fun x0 x10 H => kn (x0, x10) H) k0) k (x0, x10) H
theorem N53_5_eq (ρ : Addr → Option Value) (call : CallF) (yc : YieldF) (lim k : Nat) (x0 x1 x2 x3 x9 x10 : AV) (H : Heap) (kn : KS) (k0 : KS) (R : List AV → Heap → Res) :
    evL (cx ρ) call yc false 53 lim k (Code.at [1, 1, 1, 1, 1, 1, 1, 1, 0, 0] c53) (sp 66 [(0, x0), (1, x1), (2, x2), (3, x3), (9, x9), (10, x10)]) H (kk (some [0, 9, 10]) kn [(0, (some [0, 9, 10]), k0)] R [8]) = N53_5 ρ call yc lim k x0 x1 x2 x3 x9 x10 H (fun x0 x9 x10 H => k0 (sp 66 [(0, x0), (9, x9), (10, x10)]) H) := by
  have e : Code.at [1, 1, 1, 1, 1, 1, 1, 1, 0, 0] c53 = .loop (Code.at [1, 1, 1, 1, 1, 1, 1, 1, 0, 0, 0] c53) := by kernel_rfl
  rw [e]
  unfold N53_5
  exact loop_node [0, 1, 2, 3, 9, 10] (fun x : AV × AV => (sp 66 [(0, (x.1)), (1, x1), (2, x2), (3, x3), (9, x9), (10, (x.2))])) (fun (x : AV × AV) H kn => N53_5b ρ call yc lim k x.1 x1 x2 x3 x9 x.2 H (fun x0 x10 H => kn (x0, x10) H) (fun x0 x9 x10 H => k0 (sp 66 [(0, x0), (9, x9), (10, x10)]) H)) (by kernel_rfl) (fun x => by kernel_rfl) (fun x H kn => N53_5b_eq ρ call yc lim k (x.1) x1 x2 x3 x9 (x.2) H kn k0 R) (x0, x10) (sp 66 [(0, x0), (1, x1), (2, x2), (3, x3), (9, x9), (10, x10)]) H (by kernel_rfl)
noncomputable def N53_3 (ρ : Addr → Option Value) (call : CallF) (yc : YieldF) (lim k : Nat) (x0 x1 x2 x3 x9 x10 : AV) (H : Heap) (R : List AV → Heap → Res) : Res :=
  N53_5 ρ call yc lim k x0 x1 x2 x3 x9 x10 H (fun x0_1 x9_1 x10_1 H =>
    N53_4 ρ call yc lim k x0_1 x9_1 x10_1 H R)
theorem N53_3_x (ρ : Addr → Option Value) (call : CallF) (yc : YieldF) (lim k : Nat) (J : CodeF) (x0 x1 x2 x3 x9 x10 : AV) (H : Heap) (R : List AV → Heap → Res) :
    evX (cx ρ) call yc false 53 lim k J (Code.at [1, 1, 1, 1, 1, 1, 1, 1] c53) (sp 66 [(0, x0), (1, x1), (2, x2), (3, x3), (9, x9), (10, x10)]) H (kk none (fun s H => R (([8] : List Nat).map fun t => s.getD t (.tup [])) H) [] R [8]) =
  J (Code.at [1, 1, 1, 1, 1, 1, 1, 1, 0, 0] c53) (sp 66 [(0, x0), (1, x1), (2, x2), (3, x3), (9, x9), (10, x10)]) H (kk (some [0, 9, 10]) (fun s H => J (Code.at [1, 1, 1, 1, 1, 1, 1, 1, 1] c53) s H (kk none (fun s H => R (([8] : List Nat).map fun t => s.getD t (.tup [])) H) [] R [8])) [(0, (some [0, 9, 10]), (fun s H => J (Code.at [1, 1, 1, 1, 1, 1, 1, 1, 1] c53) s H (kk none (fun s H => R (([8] : List Nat).map fun t => s.getD t (.tup [])) H) [] R [8])))] R [8]) := by
  kernel_rfl
theorem N53_3_eq (ρ : Addr → Option Value) (call : CallF) (yc : YieldF) (lim k : Nat) (x0 x1 x2 x3 x9 x10 : AV) (H : Heap) (R : List AV → Heap → Res) :
    evL (cx ρ) call yc false 53 lim k (Code.at [1, 1, 1, 1, 1, 1, 1, 1] c53) (sp 66 [(0, x0), (1, x1), (2, x2), (3, x3), (9, x9), (10, x10)]) H (kk none (fun s H => R (([8] : List Nat).map fun t => s.getD t (.tup [])) H) [] R [8]) = N53_3 ρ call yc lim k x0 x1 x2 x3 x9 x10 H R := by
  rw [evL_X, N53_3_x]
  simp only [← evL_X, N53_3, N53_4_eq, N53_5_eq]
noncomputable def N53_2 (ρ : Addr → Option Value) (call : CallF) (yc : YieldF) (lim k : Nat) (x0 x1 x2 x3 x9 : AV) (H : Heap) (R : List AV → Heap → Res) : Res :=
  purK (binA Tryd.prog H .sub 3 x3 (.int .i64 1)) fun x33_1 =>
  N53_3 ρ call yc lim k x0 x1 x2 x33_1 x9 (.int .i64 0) H R
theorem N53_2_x (ρ : Addr → Option Value) (call : CallF) (yc : YieldF) (lim k : Nat) (J : CodeF) (x0 x1 x2 x3 x9 : AV) (H : Heap) (R : List AV → Heap → Res) :
    evX (cx ρ) call yc false 53 lim k J (Code.at [1, 1, 1, 1, 1, 1] c53) (sp 66 [(0, x0), (1, x1), (2, x2), (3, x3), (9, x9)]) H (kk none (fun s H => R (([8] : List Nat).map fun t => s.getD t (.tup [])) H) [] R [8]) =
  purK (binA Tryd.prog H .sub 3 x3 (.int .i64 1)) fun x33_1 =>
  J (Code.at [1, 1, 1, 1, 1, 1, 1, 1] c53) (sp 66 [(0, x0), (1, x1), (2, x2), (3, x33_1), (9, x9), (10, (.int .i64 0))]) H (kk none (fun s H => R (([8] : List Nat).map fun t => s.getD t (.tup [])) H) [] R [8]) := by
  kernel_rfl
theorem N53_2_eq (ρ : Addr → Option Value) (call : CallF) (yc : YieldF) (lim k : Nat) (x0 x1 x2 x3 x9 : AV) (H : Heap) (R : List AV → Heap → Res) :
    evL (cx ρ) call yc false 53 lim k (Code.at [1, 1, 1, 1, 1, 1] c53) (sp 66 [(0, x0), (1, x1), (2, x2), (3, x3), (9, x9)]) H (kk none (fun s H => R (([8] : List Nat).map fun t => s.getD t (.tup [])) H) [] R [8]) = N53_2 ρ call yc lim k x0 x1 x2 x3 x9 H R := by
  rw [evL_X, N53_2_x]
  simp only [← evL_X, N53_2, N53_3_eq]
noncomputable def N53_1 (ρ : Addr → Option Value) (call : CallF) (yc : YieldF) (lim k : Nat) (x0 x1 x2 x3 : AV) (H : Heap) (R : List AV → Heap → Res) : Res :=
  purK (lenT x0) fun x27_1 =>
  purK (binA Tryd.prog H .add 3 x27_1 (.int .i64 1)) fun x28_1 =>
  purK (foldsA minA [x3, x28_1]) fun x29_1 =>
  effK H (mkS H 9 1 16 [.str ByteArray.empty] x29_1 x29_1) fun x31_1 H =>
  N53_2 ρ call yc lim k x0 x1 x2 x29_1 x31_1 H R
theorem N53_1_x (ρ : Addr → Option Value) (call : CallF) (yc : YieldF) (lim k : Nat) (J : CodeF) (x0 x1 x2 x3 : AV) (H : Heap) (R : List AV → Heap → Res) :
    evX (cx ρ) call yc false 53 lim k J (Code.at [1, 1, 1, 1] c53) (sp 66 [(0, x0), (1, x1), (2, x2), (3, x3)]) H (kk none (fun s H => R (([8] : List Nat).map fun t => s.getD t (.tup [])) H) [] R [8]) =
  purK (lenT x0) fun x27_1 =>
  purK (binA Tryd.prog H .add 3 x27_1 (.int .i64 1)) fun x28_1 =>
  purK (foldsA minA [x3, x28_1]) fun x29_1 =>
  effK H (mkS H 9 1 16 [.str ByteArray.empty] x29_1 x29_1) fun x31_1 H =>
  J (Code.at [1, 1, 1, 1, 1, 1] c53) (sp 66 [(0, x0), (1, x1), (2, x2), (3, x29_1), (9, x31_1)]) H (kk none (fun s H => R (([8] : List Nat).map fun t => s.getD t (.tup [])) H) [] R [8]) := by
  kernel_rfl
theorem N53_1_eq (ρ : Addr → Option Value) (call : CallF) (yc : YieldF) (lim k : Nat) (x0 x1 x2 x3 : AV) (H : Heap) (R : List AV → Heap → Res) :
    evL (cx ρ) call yc false 53 lim k (Code.at [1, 1, 1, 1] c53) (sp 66 [(0, x0), (1, x1), (2, x2), (3, x3)]) H (kk none (fun s H => R (([8] : List Nat).map fun t => s.getD t (.tup [])) H) [] R [8]) = N53_1 ρ call yc lim k x0 x1 x2 x3 H R := by
  rw [evL_X, N53_1_x]
  simp only [← evL_X, N53_1, N53_2_eq]
noncomputable def L53 (ρ : Addr → Option Value) (call : CallF) (yc : YieldF) (lim k : Nat) (x0 x1 x2 x3 : AV) (H : Heap) : Res :=
  purK (binA Tryd.prog H .eql 3 x3 (.int .i64 0)) fun x13 =>
  condK x13
  (
    retK [.nils] H)
  (
    purK (binA Tryd.prog H .eql 9 x1 (.str (ByteArray.mk #[]))) fun x15 =>
    condK x15
    (
      resK (call lim 65 [x0, x3] H) fun x18 H =>
      retK [x18] H)
    (
      purK (binA Tryd.prog H .lss 3 x3 (.int .i64 0)) fun x20 =>
      condK x20
      (
        resK (call lim 66 [x0, x1] H) fun x23 H =>
        purK (binA Tryd.prog H .add 3 x23 (.int .i64 1)) fun x24 =>
        N53_1 ρ call yc lim k x0 x1 x2 x24 H retK)
      (
        N53_1 ρ call yc lim k x0 x1 x2 x3 H retK)))
theorem L53_x (ρ : Addr → Option Value) (call : CallF) (yc : YieldF) (lim k : Nat) (J : CodeF) (x0 x1 x2 x3 : AV) (H : Heap) :
    evX (cx ρ) call yc false 53 lim k J c53 [x0, x1, x2, x3, (.tup []), (.tup []), (.tup []), (.tup []), (.tup []), (.tup []), (.tup []), (.tup []), (.tup []), (.tup []), (.tup []), (.tup []), (.tup []), (.tup []), (.tup []), (.tup []), (.tup []), (.tup []), (.tup []), (.tup []), (.tup []), (.tup []), (.tup []), (.tup []), (.tup []), (.tup []), (.tup []), (.tup []), (.tup []), (.tup []), (.tup []), (.tup []), (.tup []), (.tup []), (.tup []), (.tup []), (.tup []), (.tup []), (.tup []), (.tup []), (.tup []), (.tup []), (.tup []), (.tup []), (.tup []), (.tup []), (.tup []), (.tup []), (.tup []), (.tup []), (.tup []), (.tup []), (.tup []), (.tup []), (.tup []), (.tup []), (.tup []), (.tup []), (.tup []), (.tup []), (.tup []), (.tup [])] H (kk none (fun s H => retK (([8] : List Nat).map fun t => s.getD t (.tup [])) H) [] retK [8]) =
  purK (binA Tryd.prog H .eql 3 x3 (.int .i64 0)) fun x13 =>
  condK x13
  (
    retK [.nils] H)
  (
    purK (binA Tryd.prog H .eql 9 x1 (.str (ByteArray.mk #[]))) fun x15 =>
    condK x15
    (
      resK (call lim 65 [x0, x3] H) fun x18 H =>
      retK [x18] H)
    (
      purK (binA Tryd.prog H .lss 3 x3 (.int .i64 0)) fun x20 =>
      condK x20
      (
        resK (call lim 66 [x0, x1] H) fun x23 H =>
        purK (binA Tryd.prog H .add 3 x23 (.int .i64 1)) fun x24 =>
        J (Code.at [1, 1, 1, 1] c53) (sp 66 [(0, x0), (1, x1), (2, x2), (3, x24)]) H (kk none (fun s H => retK (([8] : List Nat).map fun t => s.getD t (.tup [])) H) [] retK [8]))
      (
        J (Code.at [1, 1, 1, 1] c53) (sp 66 [(0, x0), (1, x1), (2, x2), (3, x3)]) H (kk none (fun s H => retK (([8] : List Nat).map fun t => s.getD t (.tup [])) H) [] retK [8])))) := by
  kernel_rfl
theorem G53 (ρ : Addr → Option Value) (call : CallF) (yc : YieldF) (lim k : Nat) (x0 x1 x2 x3 : AV) (H : Heap) :
    evL (cx ρ) call yc false 53 lim k c53 [x0, x1, x2, x3, (.tup []), (.tup []), (.tup []), (.tup []), (.tup []), (.tup []), (.tup []), (.tup []), (.tup []), (.tup []), (.tup []), (.tup []), (.tup []), (.tup []), (.tup []), (.tup []), (.tup []), (.tup []), (.tup []), (.tup []), (.tup []), (.tup []), (.tup []), (.tup []), (.tup []), (.tup []), (.tup []), (.tup []), (.tup []), (.tup []), (.tup []), (.tup []), (.tup []), (.tup []), (.tup []), (.tup []), (.tup []), (.tup []), (.tup []), (.tup []), (.tup []), (.tup []), (.tup []), (.tup []), (.tup []), (.tup []), (.tup []), (.tup []), (.tup []), (.tup []), (.tup []), (.tup []), (.tup []), (.tup []), (.tup []), (.tup []), (.tup []), (.tup []), (.tup []), (.tup []), (.tup []), (.tup [])] H (kk none (fun s H => retK (([8] : List Nat).map fun t => s.getD t (.tup [])) H) [] retK [8]) = L53 ρ call yc lim k x0 x1 x2 x3 H := by
  rw [evL_X, L53_x]
  simp only [← evL_X, L53, N53_1_eq]
theorem E53 (ρ : Addr → Option Value) (k lim : Nat) (x0 x1 x2 x3 : AV) (H : Heap) : evCall (cx ρ) (k + 1) lim 53 [x0, x1, x2, x3] H = L53 ρ (evCall (cx ρ) k) (evCY (cx ρ) k).2 lim k x0 x1 x2 x3 H := by
  rw [evCall_body (cx ρ) k lim 53 _ H Tryd.f53 c53 [8] (by kernel_rfl) (by kernel_rfl) (by kernel_rfl) (by kernel_rfl) (by kernel_rfl)]
  exact G53 ρ (evCall (cx ρ) k) (evCY (cx ρ) k).2 lim k x0 x1 x2 x3 H
-- haycroft/script.number
noncomputable def c54 : Code := Code.of Tryd.prog 54
noncomputable def L54 (ρ : Addr → Option Value) (call : CallF) (yc : YieldF) (lim k : Nat) (x0 x1 : AV) (H : Heap) : Res :=
  resK (call lim 68 [x0, (.int .i64 10), (.int .i64 64)] H) fun x10 H =>
  purK (extA 0 x10) fun x11 =>
  purK (extA 1 x10) fun x12 =>
  purK (eqI .eql true x12 .nili) fun x15 =>
  purK (gPur (wantV x15 true) (some x11)) fun x17 =>
  purK (gPur (wantV x15 true) (some x1)) fun x18 =>
  purK (gPur (wantV x15 true) (binA Tryd.prog H .leq 38 x17 x18)) fun x19 =>
  purK (pickA x15 x19 (.bool false)) fun x20 =>
  purK (gPur (wantV x20 true) (some x11)) fun x22 =>
  resK (gRes (wantV x20 true) H (call lim 49 [x22, (.int .i64 10)] H)) fun x23 H =>
  purK (gPur (wantV x20 true) (some x0)) fun x24 =>
  purK (gPur (wantV x20 true) (binA Tryd.prog H .eql 9 x23 x24)) fun x25 =>
  purK (pickA x20 x25 (.bool false)) fun x26 =>
  retK [x11, x26] H
theorem G54 (ρ : Addr → Option Value) (call : CallF) (yc : YieldF) (lim k : Nat) (x0 x1 : AV) (H : Heap) :
    evL (cx ρ) call yc false 54 lim k c54 [x0, x1, (.tup []), (.tup []), (.tup []), (.tup []), (.tup []), (.tup []), (.tup []), (.tup []), (.tup []), (.tup []), (.tup []), (.tup []), (.tup []), (.tup []), (.tup []), (.tup []), (.tup []), (.tup []), (.tup []), (.tup []), (.tup []), (.tup []), (.tup []), (.tup []), (.tup [])] H (kk none (fun s H => retK (([4, 5] : List Nat).map fun t => s.getD t (.tup [])) H) [] retK [4, 5]) = L54 ρ call yc lim k x0 x1 H := by
  kernel_rfl
theorem E54 (ρ : Addr → Option Value) (k lim : Nat) (x0 x1 : AV) (H : Heap) : evCall (cx ρ) (k + 1) lim 54 [x0, x1] H = L54 ρ (evCall (cx ρ) k) (evCY (cx ρ) k).2 lim k x0 x1 H := by
  rw [evCall_body (cx ρ) k lim 54 _ H Tryd.f54 c54 [4, 5] (by kernel_rfl) (by kernel_rfl) (by kernel_rfl) (by kernel_rfl) (by kernel_rfl)]
  exact G54 ρ (evCall (cx ρ) k) (evCY (cx ρ) k).2 lim k x0 x1 H
-- (*haycroft/script.reader).text
noncomputable def c55 : Code := Code.of Tryd.prog 55
noncomputable def L55 (ρ : Addr → Option Value) (call : CallF) (yc : YieldF) (lim k : Nat) (x0 : AV) (H : Heap) : Res :=
  resK (call lim 39 [x0] H) fun x7 H =>
  resK (call lim 11 [x7] H) fun x8 H =>
  purK (extA 0 x8) fun x9 =>
  purK (extA 1 x8) fun x10 =>
  purK (nilChkA x0) fun x13 =>
  purK (addA 1 x13) fun x14 =>
  purK (ld1 ρ H x14) fun x15 =>
  purK (gPur (wantV x15 false) (some x10)) fun x17 =>
  purK (gPur (wantV x15 false) (binA Tryd.prog H .neq 24 x17 (.int .i64 0))) fun x18 =>
  purK (pickA x15 (.bool true) x18) fun x19 =>
  purK (nilChkA x0) fun x20 =>
  purK (addA 1 x20) fun x21 =>
  effK H (stA lim H 1 x21 x19) fun _ H =>
  retK [x9] H
theorem G55 (ρ : Addr → Option Value) (call : CallF) (yc : YieldF) (lim k : Nat) (x0 : AV) (H : Heap) :
    evL (cx ρ) call yc false 55 lim k c55 [x0, (.tup []), (.tup []), (.tup []), (.tup []), (.tup []), (.tup []), (.tup []), (.tup []), (.tup []), (.tup []), (.tup []), (.tup []), (.tup []), (.tup []), (.tup []), (.tup []), (.tup []), (.tup []), (.tup []), (.tup []), (.tup []), (.tup [])] H (kk none (fun s H => retK (([2] : List Nat).map fun t => s.getD t (.tup [])) H) [] retK [2]) = L55 ρ call yc lim k x0 H := by
  kernel_rfl
theorem E55 (ρ : Addr → Option Value) (k lim : Nat) (x0 : AV) (H : Heap) : evCall (cx ρ) (k + 1) lim 55 [x0] H = L55 ρ (evCall (cx ρ) k) (evCY (cx ρ) k).2 lim k x0 H := by
  rw [evCall_body (cx ρ) k lim 55 _ H Tryd.f55 c55 [2] (by kernel_rfl) (by kernel_rfl) (by kernel_rfl) (by kernel_rfl) (by kernel_rfl)]
  exact G55 ρ (evCall (cx ρ) k) (evCY (cx ρ) k).2 lim k x0 H
-- internal/stringslite.HasPrefix
noncomputable def c57 : Code := Code.of Tryd.prog 57
noncomputable def L57 (ρ : Addr → Option Value) (call : CallF) (yc : YieldF) (lim k : Nat) (x0 x1 : AV) (H : Heap) : Res :=
  purK (lenT x0) fun x6 =>
  purK (lenT x1) fun x8 =>
  purK (binA Tryd.prog H .geq 3 x6 x8) fun x9 =>
  purK (gPur (wantV x9 true) (some x0)) fun x11 =>
  purK (gPur (wantV x9 true) (some x1)) fun x12 =>
  purK (gPur (wantV x9 true) (lenT x12)) fun x13 =>
  purK (gPur (wantV x9 true) (slT x11 none (some x13))) fun x14 =>
  purK (gPur (wantV x9 true) (some x1)) fun x15 =>
  purK (gPur (wantV x9 true) (binA Tryd.prog H .eql 9 x14 x15)) fun x16 =>
  purK (pickA x9 x16 (.bool false)) fun x17 =>
  retK [x17] H
theorem G57 (ρ : Addr → Option Value) (call : CallF) (yc : YieldF) (lim k : Nat) (x0 x1 : AV) (H : Heap) :
    evL (cx ρ) call yc false 57 lim k c57 [x0, x1, (.tup []), (.tup []), (.tup []), (.tup []), (.tup []), (.tup []), (.tup []), (.tup []), (.tup []), (.tup []), (.tup []), (.tup []), (.tup []), (.tup []), (.tup []), (.tup [])] H (kk none (fun s H => retK (([4] : List Nat).map fun t => s.getD t (.tup [])) H) [] retK [4]) = L57 ρ call yc lim k x0 x1 H := by
  kernel_rfl
theorem E57 (ρ : Addr → Option Value) (k lim : Nat) (x0 x1 : AV) (H : Heap) : evCall (cx ρ) (k + 1) lim 57 [x0, x1] H = L57 ρ (evCall (cx ρ) k) (evCY (cx ρ) k).2 lim k x0 x1 H := by
  rw [evCall_body (cx ρ) k lim 57 _ H Tryd.f57 c57 [4] (by kernel_rfl) (by kernel_rfl) (by kernel_rfl) (by kernel_rfl) (by kernel_rfl)]
  exact G57 ρ (evCall (cx ρ) k) (evCY (cx ρ) k).2 lim k x0 x1 H
-- internal/strconv.Itoa
noncomputable def c59 : Code := Code.of Tryd.prog 59
noncomputable def L59 (ρ : Addr → Option Value) (call : CallF) (yc : YieldF) (lim k : Nat) (x0 : AV) (H : Heap) : Res :=
  resK (call lim 69 [x0, (.int .i64 10)] H) fun x4 H =>
  retK [x4] H
theorem G59 (ρ : Addr → Option Value) (call : CallF) (yc : YieldF) (lim k : Nat) (x0 : AV) (H : Heap) :
    evL (cx ρ) call yc false 59 lim k c59 [x0, (.tup []), (.tup []), (.tup []), (.tup [])] H (kk none (fun s H => retK (([2] : List Nat).map fun t => s.getD t (.tup [])) H) [] retK [2]) = L59 ρ call yc lim k x0 H := by
  kernel_rfl
theorem E59 (ρ : Addr → Option Value) (k lim : Nat) (x0 : AV) (H : Heap) : evCall (cx ρ) (k + 1) lim 59 [x0] H = L59 ρ (evCall (cx ρ) k) (evCY (cx ρ) k).2 lim k x0 H := by
  rw [evCall_body (cx ρ) k lim 59 _ H Tryd.f59 c59 [2] (by kernel_rfl) (by kernel_rfl) (by kernel_rfl) (by kernel_rfl) (by kernel_rfl)]
  exact G59 ρ (evCall (cx ρ) k) (evCY (cx ρ) k).2 lim k x0 H
-- internal/strconv.FormatUint
noncomputable def c60 : Code := Code.of Tryd.prog 60
noncomputable def N60_1 (ρ : Addr → Option Value) (call : CallF) (yc : YieldF) (lim k : Nat) (x8 : AV) (H : Heap) (R : List AV → Heap → Res) : Res :=
  R [x8] H
theorem N60_1_eq (ρ : Addr → Option Value) (call : CallF) (yc : YieldF) (lim k : Nat) (x8 : AV) (H : Heap) (R : List AV → Heap → Res) :
    evL (cx ρ) call yc false 60 lim k (Code.at [1, 1, 1] c60) (sp 32 [(8, x8)]) H (kk none (fun s H => R (([4] : List Nat).map fun t => s.getD t (.tup [])) H) [] R [4]) = N60_1 ρ call yc lim k x8 H R := by
  kernel_rfl
noncomputable def L60 (ρ : Addr → Option Value) (call : CallF) (yc : YieldF) (lim k : Nat) (x0 x1 : AV) (H : Heap) : Res :=
  purK (binA Tryd.prog H .eql 3 x1 (.int .i64 10)) fun x10 =>
  condK x10
  (
    purK (binA Tryd.prog H .lss 38 x0 (.int .u64 100)) fun x12 =>
    condK x12
    (
      purK (cvI .i64 x0) fun x14 =>
      resK (call lim 70 [x14] H) fun x15 H =>
      retK [x15] H)
    (
      effK H (some (.ptr H.sz 0 0, .new (newCells 99 false [.int .u8 0, .int .u8 0, .int .u8 0, .int .u8 0, .int .u8 0, .int .u8 0, .int .u8 0, .int .u8 0, .int .u8 0, .int .u8 0, .int .u8 0, .int .u8 0, .int .u8 0, .int .u8 0, .int .u8 0, .int .u8 0, .int .u8 0, .int .u8 0, .int .u8 0, .int .u8 0, .int .u8 0, .int .u8 0, .int .u8 0, .int .u8 0]))) fun x5 H =>
      resK (call lim 71 [x0] H) fun x17 H =>
      purK (slR 1 24 x5 none (some x17) none) fun x19 =>
      resK (call lim 72 [x19, x0] H) fun x21 H =>
      purK (slR 1 24 x5 none (some x17) none) fun x23 =>
      purK (b2s ρ H x23) fun x24 =>
      retK [x24] H))
  (
    resK (call lim 73 [.nils, x0, x1, (.bool false), (.bool false)] H) fun x28 H =>
    purK (extA 0 x28) fun x29 =>
    purK (extA 1 x28) fun x30 =>
    N60_1 ρ call yc lim k x30 H retK)
theorem L60_x (ρ : Addr → Option Value) (call : CallF) (yc : YieldF) (lim k : Nat) (J : CodeF) (x0 x1 : AV) (H : Heap) :
    evX (cx ρ) call yc false 60 lim k J c60 [x0, x1, (.tup []), (.tup []), (.tup []), (.tup []), (.tup []), (.tup []), (.tup []), (.tup []), (.tup []), (.tup []), (.tup []), (.tup []), (.tup []), (.tup []), (.tup []), (.tup []), (.tup []), (.tup []), (.tup []), (.tup []), (.tup []), (.tup []), (.tup []), (.tup []), (.tup []), (.tup []), (.tup []), (.tup []), (.tup []), (.tup [])] H (kk none (fun s H => retK (([4] : List Nat).map fun t => s.getD t (.tup [])) H) [] retK [4]) =
  purK (binA Tryd.prog H .eql 3 x1 (.int .i64 10)) fun x10 =>
  condK x10
  (
    purK (binA Tryd.prog H .lss 38 x0 (.int .u64 100)) fun x12 =>
    condK x12
    (
      purK (cvI .i64 x0) fun x14 =>
      resK (call lim 70 [x14] H) fun x15 H =>
      retK [x15] H)
    (
      effK H (some (.ptr H.sz 0 0, .new (newCells 99 false [.int .u8 0, .int .u8 0, .int .u8 0, .int .u8 0, .int .u8 0, .int .u8 0, .int .u8 0, .int .u8 0, .int .u8 0, .int .u8 0, .int .u8 0, .int .u8 0, .int .u8 0, .int .u8 0, .int .u8 0, .int .u8 0, .int .u8 0, .int .u8 0, .int .u8 0, .int .u8 0, .int .u8 0, .int .u8 0, .int .u8 0, .int .u8 0]))) fun x5 H =>
      resK (call lim 71 [x0] H) fun x17 H =>
      purK (slR 1 24 x5 none (some x17) none) fun x19 =>
      resK (call lim 72 [x19, x0] H) fun x21 H =>
      purK (slR 1 24 x5 none (some x17) none) fun x23 =>
      purK (b2s ρ H x23) fun x24 =>
      retK [x24] H))
  (
    resK (call lim 73 [.nils, x0, x1, (.bool false), (.bool false)] H) fun x28 H =>
    purK (extA 0 x28) fun x29 =>
    purK (extA 1 x28) fun x30 =>
    J (Code.at [1, 1, 1] c60) (sp 32 [(8, x30)]) H (kk none (fun s H => retK (([4] : List Nat).map fun t => s.getD t (.tup [])) H) [] retK [4])) := by
  kernel_rfl
theorem G60 (ρ : Addr → Option Value) (call : CallF) (yc : YieldF) (lim k : Nat) (x0 x1 : AV) (H : Heap) :
    evL (cx ρ) call yc false 60 lim k c60 [x0, x1, (.tup []), (.tup []), (.tup []), (.tup []), (.tup []), (.tup []), (.tup []), (.tup []), (.tup []), (.tup []), (.tup []), (.tup []), (.tup []), (.tup []), (.tup []), (.tup []), (.tup []), (.tup []), (.tup []), (.tup []), (.tup []), (.tup []), (.tup []), (.tup []), (.tup []), (.tup []), (.tup []), (.tup []), (.tup []), (.tup [])] H (kk none (fun s H => retK (([4] : List Nat).map fun t => s.getD t (.tup [])) H) [] retK [4]) = L60 ρ call yc lim k x0 x1 H := by
  rw [evL_X, L60_x]
  simp only [← evL_X, L60, N60_1_eq]
theorem E60 (ρ : Addr → Option Value) (k lim : Nat) (x0 x1 : AV) (H : Heap) : evCall (cx ρ) (k + 1) lim 60 [x0, x1] H = L60 ρ (evCall (cx ρ) k) (evCY (cx ρ) k).2 lim k x0 x1 H := by
  rw [evCall_body (cx ρ) k lim 60 _ H Tryd.f60 c60 [4] (by kernel_rfl) (by kernel_rfl) (by kernel_rfl) (by kernel_rfl) (by kernel_rfl)]
  exact G60 ρ (evCall (cx ρ) k) (evCY (cx ρ) k).2 lim k x0 x1 H
-- internal/bytealg.Cutover
noncomputable def c63 : Code := Code.of Tryd.prog 63
noncomputable def L63 (ρ : Addr → Option Value) (call : CallF) (yc : YieldF) (lim k : Nat) (x0 : AV) (H : Heap) : Res :=
  purK (binA Tryd.prog H .add 3 x0 (.int .i64 16)) fun x4 =>
  purK (binA Tryd.prog H .quo 3 x4 (.int .i64 8)) fun x5 =>
  retK [x5] H
theorem G63 (ρ : Addr → Option Value) (call : CallF) (yc : YieldF) (lim k : Nat) (x0 : AV) (H : Heap) :
    evL (cx ρ) call yc false 63 lim k c63 [x0, (.tup []), (.tup []), (.tup []), (.tup []), (.tup [])] H (kk none (fun s H => retK (([2] : List Nat).map fun t => s.getD t (.tup [])) H) [] retK [2]) = L63 ρ call yc lim k x0 H := by
  kernel_rfl
theorem E63 (ρ : Addr → Option Value) (k lim : Nat) (x0 : AV) (H : Heap) : evCall (cx ρ) (k + 1) lim 63 [x0] H = L63 ρ (evCall (cx ρ) k) (evCY (cx ρ) k).2 lim k x0 H := by
  rw [evCall_body (cx ρ) k lim 63 _ H Tryd.f63 c63 [2] (by kernel_rfl) (by kernel_rfl) (by kernel_rfl) (by kernel_rfl) (by kernel_rfl)]
  exact G63 ρ (evCall (cx ρ) k) (evCY (cx ρ) k).2 lim k x0 H
end Go.Proofs.YtnkeebchblfbgaaDoor

-- part Sw4
/- Functions, lifted. Printed by a program of this repo. -/
set_option linter.unusedVariables false
set_option linter.unusedSimpArgs false
set_option maxRecDepth 100000
set_option maxHeartbeats 4000000
namespace Go.Proofs.YtnkeebchblfbgaaDoor
open Go.Ev Go.RowKit
-- internal/bytealg.IndexRabinKarp[string]
noncomputable def c64 : Code := Code.of Tryd.prog 64
noncomputable def N64_2 (ρ : Addr → Option Value) (call : CallF) (yc : YieldF) (lim k : Nat) (H : Heap) (R : List AV → Heap → Res) : Res :=
  R [(.int .i64 (-1))] H
theorem N64_2_eq (ρ : Addr → Option Value) (call : CallF) (yc : YieldF) (lim k : Nat) (H : Heap) (R : List AV → Heap → Res) :
    evL (cx ρ) call yc false 64 lim k (Code.at [1, 1, 1, 1, 1, 1, 1] c64) (sp 81 []) H (kk none (fun s H => R (([4] : List Nat).map fun t => s.getD t (.tup [])) H) [] R [4]) = N64_2 ρ call yc lim k H R := by
  kernel_rfl
noncomputable def N64_5 (ρ : Addr → Option Value) (call : CallF) (yc : YieldF) (lim k : Nat) (x0 x1 x5 x6 x7 x8 x10 : AV) (H : Heap) (kn : AV → AV → Heap → Res) (R : List AV → Heap → Res) : Res :=
  purK (binA Tryd.prog H .add 3 x10 (.int .i64 1)) fun x64_1 =>
  purK (binA Tryd.prog H .eql 104 x8 x5) fun x67_1 =>
  purK (gPur (wantV x67_1 true) (some x0)) fun x69_1 =>
  purK (gPur (wantV x67_1 true) (some x64_1)) fun x70_1 =>
  purK (gPur (wantV x67_1 true) (some x7)) fun x71_1 =>
  purK (gPur (wantV x67_1 true) (binA Tryd.prog H .sub 3 x70_1 x71_1)) fun x72_1 =>
  purK (gPur (wantV x67_1 true) (some x64_1)) fun x73_1 =>
  purK (gPur (wantV x67_1 true) (slT x69_1 (some x72_1) (some x73_1))) fun x74_1 =>
  purK (gPur (wantV x67_1 true) (some x1)) fun x75_1 =>
  purK (gPur (wantV x67_1 true) (binA Tryd.prog H .eql 9 x74_1 x75_1)) fun x76_1 =>
  purK (pickA x67_1 x76_1 (.bool false)) fun x77_1 =>
  condK x77_1
  (
    purK (binA Tryd.prog H .sub 3 x64_1 x7) fun x80_1 =>
    R [x80_1] H)
  (
    kn x8 x64_1 H)
theorem N64_5_eq (ρ : Addr → Option Value) (call : CallF) (yc : YieldF) (lim k : Nat) (x0 x1 x5 x6 x7 x8 x10 : AV) (H : Heap) (kn : KS) (k3 : KS) (k2 : KS) (R : List AV → Heap → Res) :
    evL (cx ρ) call yc false 64 lim k (Code.at [1, 1, 1, 1, 1, 1, 0, 1, 0, 0, 1, 0, 1, 1, 1] c64) (sp 81 [(0, x0), (1, x1), (5, x5), (6, x6), (7, x7), (8, x8), (10, x10)]) H (kk (some [0, 1, 5, 6, 7, 8, 10]) kn [(3, (some [0, 1, 5, 6, 7, 8, 10]), k3), (2, (some []), k2)] R [4]) = N64_5 ρ call yc lim k x0 x1 x5 x6 x7 x8 x10 H (fun x8 x10 H => kn (sp 81 [(0, x0), (1, x1), (5, x5), (6, x6), (7, x7), (8, x8), (10, x10)]) H) R := by
  kernel_rfl
noncomputable def N64_4b (ρ : Addr → Option Value) (call : CallF) (yc : YieldF) (lim k : Nat) (x0 x1 x5 x6 x7 x8 x10 : AV) (H : Heap) (kn : AV → AV → Heap → Res) (k2 : Heap → Res) (R : List AV → Heap → Res) : Res :=
  purK (lenT x0) fun x43_1 =>
  purK (binA Tryd.prog H .lss 3 x10 x43_1) fun x44_1 =>
  condK x44_1
  (
    purK (binA Tryd.prog H .mul 104 x8 (.int .u32 16777619)) fun x46_1 =>
    purK (ixT x0 x10) fun x50_1 =>
    purK (cvI .u32 x50_1) fun x51_1 =>
    purK (binA Tryd.prog H .add 104 x46_1 x51_1) fun x52_1 =>
    purK (binA Tryd.prog H .sub 3 x10 x7) fun x58_1 =>
    purK (ixT x0 x58_1) fun x59_1 =>
    purK (cvI .u32 x59_1) fun x60_1 =>
    purK (binA Tryd.prog H .mul 104 x6 x60_1) fun x61_1 =>
    purK (binA Tryd.prog H .sub 104 x52_1 x61_1) fun x62_1 =>
    N64_5 ρ call yc lim k x0 x1 x5 x6 x7 x62_1 x10 H kn R)
  (
    k2 H)
theorem N64_4b_x (ρ : Addr → Option Value) (call : CallF) (yc : YieldF) (lim k : Nat) (J : CodeF) (x0 x1 x5 x6 x7 x8 x10 : AV) (H : Heap) (kn : KS) (k2 : KS) (R : List AV → Heap → Res) :
    evX (cx ρ) call yc false 64 lim k J (Code.at [1, 1, 1, 1, 1, 1, 0, 1, 0, 0] c64) (sp 81 [(0, x0), (1, x1), (5, x5), (6, x6), (7, x7), (8, x8), (10, x10)]) H (kk (some [0, 1, 5, 6, 7, 8, 10]) kn [(2, (some []), k2)] R [4]) =
  purK (lenT x0) fun x43_1 =>
  purK (binA Tryd.prog H .lss 3 x10 x43_1) fun x44_1 =>
  condK x44_1
  (
    purK (binA Tryd.prog H .mul 104 x8 (.int .u32 16777619)) fun x46_1 =>
    purK (ixT x0 x10) fun x50_1 =>
    purK (cvI .u32 x50_1) fun x51_1 =>
    purK (binA Tryd.prog H .add 104 x46_1 x51_1) fun x52_1 =>
    purK (binA Tryd.prog H .sub 3 x10 x7) fun x58_1 =>
    purK (ixT x0 x58_1) fun x59_1 =>
    purK (cvI .u32 x59_1) fun x60_1 =>
    purK (binA Tryd.prog H .mul 104 x6 x60_1) fun x61_1 =>
    purK (binA Tryd.prog H .sub 104 x52_1 x61_1) fun x62_1 =>
    J (Code.at [1, 1, 1, 1, 1, 1, 0, 1, 0, 0, 1, 0, 1, 1, 1] c64) (sp 81 [(0, x0), (1, x1), (5, x5), (6, x6), (7, x7), (8, x62_1), (10, x10)]) H (kk (some [0, 1, 5, 6, 7, 8, 10]) kn [(3, (some [0, 1, 5, 6, 7, 8, 10]), kn), (2, (some []), k2)] R [4]))
  (
    k2 (sp 81 []) H) := by
  kernel_rfl
theorem N64_4b_eq (ρ : Addr → Option Value) (call : CallF) (yc : YieldF) (lim k : Nat) (x0 x1 x5 x6 x7 x8 x10 : AV) (H : Heap) (kn : KS) (k2 : KS) (R : List AV → Heap → Res) :
    evL (cx ρ) call yc false 64 lim k (Code.at [1, 1, 1, 1, 1, 1, 0, 1, 0, 0] c64) (sp 81 [(0, x0), (1, x1), (5, x5), (6, x6), (7, x7), (8, x8), (10, x10)]) H (kk (some [0, 1, 5, 6, 7, 8, 10]) kn [(2, (some []), k2)] R [4]) = N64_4b ρ call yc lim k x0 x1 x5 x6 x7 x8 x10 H (fun x8 x10 H => kn (sp 81 [(0, x0), (1, x1), (5, x5), (6, x6), (7, x7), (8, x8), (10, x10)]) H) (fun H => k2 (sp 81 []) H) R := by
  rw [evL_X, N64_4b_x]
  simp only [← evL_X, N64_4b, N64_5_eq]
noncomputable def N64_4 (ρ : Addr → Option Value) (call : CallF) (yc : YieldF) (lim k : Nat) (x0 x1 x5 x6 x7 x8 x10 : AV) (H : Heap) (k2 : Heap → Res) (R : List AV → Heap → Res) : Res :=
  loopL (fun (x : AV × AV) H kn => N64_4b ρ call yc lim k x0 x1 x5 x6 x7 x.1 x.2 H (fun x8 x10 H => kn (x8, x10) H) k2 R) k (x8, x10) H
theorem N64_4_eq (ρ : Addr → Option Value) (call : CallF) (yc : YieldF) (lim k : Nat) (x0 x1 x5 x6 x7 x8 x10 : AV) (H : Heap) (kn : KS) (k2 : KS) (R : List AV → Heap → Res) :
    evL (cx ρ) call yc false 64 lim k (Code.at [1, 1, 1, 1, 1, 1, 0, 1, 0] c64) (sp 81 [(0, x0), (1, x1), (5, x5), (6, x6), (7, x7), (8, x8), (10, x10)]) H (kk (some []) kn [(2, (some []), k2)] R [4]) = N64_4 ρ call yc lim k x0 x1 x5 x6 x7 x8 x10 H (fun H => k2 (sp 81 []) H) R := by
  have e : Code.at [1, 1, 1, 1, 1, 1, 0, 1, 0] c64 = .loop (Code.at [1, 1, 1, 1, 1, 1, 0, 1, 0, 0] c64) := by kernel_rfl
  rw [e]
  unfold N64_4
  exact loop_node [0, 1, 5, 6, 7, 8, 10] (fun x : AV × AV => (sp 81 [(0, x0), (1, x1), (5, x5), (6, x6), (7, x7), (8, (x.1)), (10, (x.2))])) (fun (x : AV × AV) H kn => N64_4b ρ call yc lim k x0 x1 x5 x6 x7 x.1 x.2 H (fun x8 x10 H => kn (x8, x10) H) (fun H => k2 (sp 81 []) H) R) (by kernel_rfl) (fun x => by kernel_rfl) (fun x H kn => N64_4b_eq ρ call yc lim k x0 x1 x5 x6 x7 (x.1) (x.2) H kn k2 R) (x8, x10) (sp 81 [(0, x0), (1, x1), (5, x5), (6, x6), (7, x7), (8, x8), (10, x10)]) H (by kernel_rfl)
noncomputable def N64_3 (ρ : Addr → Option Value) (call : CallF) (yc : YieldF) (lim k : Nat) (x0 x1 x5 x6 x7 x8 x10 : AV) (H : Heap) (kn : Heap → Res) (R : List AV → Heap → Res) : Res :=
  N64_4 ρ call yc lim k x0 x1 x5 x6 x7 x8 x10 H kn R
theorem N64_3_x (ρ : Addr → Option Value) (call : CallF) (yc : YieldF) (lim k : Nat) (J : CodeF) (x0 x1 x5 x6 x7 x8 x10 : AV) (H : Heap) (kn : KS) (R : List AV → Heap → Res) :
    evX (cx ρ) call yc false 64 lim k J (Code.at [1, 1, 1, 1, 1, 1, 0, 1] c64) (sp 81 [(0, x0), (1, x1), (5, x5), (6, x6), (7, x7), (8, x8), (10, x10)]) H (kk (some []) kn [] R [4]) =
  J (Code.at [1, 1, 1, 1, 1, 1, 0, 1, 0] c64) (sp 81 [(0, x0), (1, x1), (5, x5), (6, x6), (7, x7), (8, x8), (10, x10)]) H (kk (some []) kn [(2, (some []), kn)] R [4]) := by
  kernel_rfl
theorem N64_3_eq (ρ : Addr → Option Value) (call : CallF) (yc : YieldF) (lim k : Nat) (x0 x1 x5 x6 x7 x8 x10 : AV) (H : Heap) (kn : KS) (R : List AV → Heap → Res) :
    evL (cx ρ) call yc false 64 lim k (Code.at [1, 1, 1, 1, 1, 1, 0, 1] c64) (sp 81 [(0, x0), (1, x1), (5, x5), (6, x6), (7, x7), (8, x8), (10, x10)]) H (kk (some []) kn [] R [4]) = N64_3 ρ call yc lim k x0 x1 x5 x6 x7 x8 x10 H (fun H => kn (sp 81 []) H) R := by
  rw [evL_X, N64_3_x]
  simp only [← evL_X, N64_3, N64_4_eq]
noncomputable def N64_1 (ρ : Addr → Option Value) (call : CallF) (yc : YieldF) (lim k : Nat) (x0 x1 x5 x6 x7 x8 : AV) (H : Heap) (R : List AV → Heap → Res) : Res :=
  purK (binA Tryd.prog H .eql 104 x8 x5) fun x32_1 =>
  purK (gPur (wantV x32_1 true) (some x0)) fun x34_1 =>
  purK (gPur (wantV x32_1 true) (some x7)) fun x35_1 =>
  purK (gPur (wantV x32_1 true) (slT x34_1 none (some x35_1))) fun x36_1 =>
  purK (gPur (wantV x32_1 true) (some x1)) fun x37_1 =>
  purK (gPur (wantV x32_1 true) (binA Tryd.prog H .eql 9 x36_1 x37_1)) fun x38_1 =>
  purK (pickA x32_1 x38_1 (.bool false)) fun x39_1 =>
  condK x39_1
  (
    R [(.int .i64 0)] H)
  (
    N64_3 ρ call yc lim k x0 x1 x5 x6 x7 x8 x7 H (fun H =>
      N64_2 ρ call yc lim k H R) R)
theorem N64_1_x (ρ : Addr → Option Value) (call : CallF) (yc : YieldF) (lim k : Nat) (J : CodeF) (x0 x1 x5 x6 x7 x8 : AV) (H : Heap) (R : List AV → Heap → Res) :
    evX (cx ρ) call yc false 64 lim k J (Code.at [1, 1, 1, 1, 1] c64) (sp 81 [(0, x0), (1, x1), (5, x5), (6, x6), (7, x7), (8, x8)]) H (kk none (fun s H => R (([4] : List Nat).map fun t => s.getD t (.tup [])) H) [] R [4]) =
  purK (binA Tryd.prog H .eql 104 x8 x5) fun x32_1 =>
  purK (gPur (wantV x32_1 true) (some x0)) fun x34_1 =>
  purK (gPur (wantV x32_1 true) (some x7)) fun x35_1 =>
  purK (gPur (wantV x32_1 true) (slT x34_1 none (some x35_1))) fun x36_1 =>
  purK (gPur (wantV x32_1 true) (some x1)) fun x37_1 =>
  purK (gPur (wantV x32_1 true) (binA Tryd.prog H .eql 9 x36_1 x37_1)) fun x38_1 =>
  purK (pickA x32_1 x38_1 (.bool false)) fun x39_1 =>
  condK x39_1
  (
    R [(.int .i64 0)] H)
  (
    J (Code.at [1, 1, 1, 1, 1, 1, 0, 1] c64) (sp 81 [(0, x0), (1, x1), (5, x5), (6, x6), (7, x7), (8, x8), (10, x7)]) H (kk (some []) (fun s H => J (Code.at [1, 1, 1, 1, 1, 1, 1] c64) s H (kk none (fun s H => R (([4] : List Nat).map fun t => s.getD t (.tup [])) H) [] R [4])) [] R [4])) := by
  kernel_rfl
theorem N64_1_eq (ρ : Addr → Option Value) (call : CallF) (yc : YieldF) (lim k : Nat) (x0 x1 x5 x6 x7 x8 : AV) (H : Heap) (R : List AV → Heap → Res) :
    evL (cx ρ) call yc false 64 lim k (Code.at [1, 1, 1, 1, 1] c64) (sp 81 [(0, x0), (1, x1), (5, x5), (6, x6), (7, x7), (8, x8)]) H (kk none (fun s H => R (([4] : List Nat).map fun t => s.getD t (.tup [])) H) [] R [4]) = N64_1 ρ call yc lim k x0 x1 x5 x6 x7 x8 H R := by
  rw [evL_X, N64_1_x]
  simp only [← evL_X, N64_1, N64_2_eq, N64_3_eq]
noncomputable def N64_7b (ρ : Addr → Option Value) (call : CallF) (yc : YieldF) (lim k : Nat) (x0 x1 x5 x6 x7 x8 x9 : AV) (H : Heap) (kn : AV → AV → Heap → Res) (k0 : AV → AV → AV → AV → AV → AV → Heap → Res) : Res :=
  purK (binA Tryd.prog H .lss 3 x9 x7) fun x20_1 =>
  condK x20_1
  (
    purK (binA Tryd.prog H .mul 104 x8 (.int .u32 16777619)) fun x24_1 =>
    purK (ixT x0 x9) fun x27_1 =>
    purK (cvI .u32 x27_1) fun x28_1 =>
    purK (binA Tryd.prog H .add 104 x24_1 x28_1) fun x29_1 =>
    purK (binA Tryd.prog H .add 3 x9 (.int .i64 1)) fun x22_1 =>
    kn x29_1 x22_1 H)
  (
    k0 x0 x1 x5 x6 x7 x8 H)
theorem N64_7b_eq (ρ : Addr → Option Value) (call : CallF) (yc : YieldF) (lim k : Nat) (x0 x1 x5 x6 x7 x8 x9 : AV) (H : Heap) (kn : KS) (k0 : KS) (R : List AV → Heap → Res) :
    evL (cx ρ) call yc false 64 lim k (Code.at [1, 1, 1, 1, 0, 1, 0, 0] c64) (sp 81 [(0, x0), (1, x1), (5, x5), (6, x6), (7, x7), (8, x8), (9, x9)]) H (kk (some [0, 1, 5, 6, 7, 8, 9]) kn [(0, (some [0, 1, 5, 6, 7, 8]), k0)] R [4]) = N64_7b ρ call yc lim k x0 x1 x5 x6 x7 x8 x9 H (fun x8 x9 H => kn (sp 81 [(0, x0), (1, x1), (5, x5), (6, x6), (7, x7), (8, x8), (9, x9)]) H) (fun x0 x1 x5 x6 x7 x8 H => k0 (sp 81 [(0, x0), (1, x1), (5, x5), (6, x6), (7, x7), (8, x8)]) H) := by
  kernel_rfl
noncomputable def N64_7 (ρ : Addr → Option Value) (call : CallF) (yc : YieldF) (lim k : Nat) (x0 x1 x5 x6 x7 x8 x9 : AV) (H : Heap) (k0 : AV → AV → AV → AV → AV → AV → Heap → Res) : Res :=
  loopL (fun (x : AV × AV) H kn => N64_7b ρ call yc lim k x0 x1 x5 x6 x7 x.1 x.2 H (fun x8 x9 H => kn (x8, x9) H) k0) k (x8, x9) H
theorem N64_7_eq (ρ : Addr → Option Value) (call : CallF) (yc : YieldF) (lim k : Nat) (x0 x1 x5 x6 x7 x8 x9 : AV) (H : Heap) (kn : KS) (k0 : KS) (R : List AV → Heap → Res) :
    evL (cx ρ) call yc false 64 lim k (Code.at [1, 1, 1, 1, 0, 1, 0] c64) (sp 81 [(0, x0), (1, x1), (5, x5), (6, x6), (7, x7), (8, x8), (9, x9)]) H (kk (some [0, 1, 5, 6, 7, 8]) kn [(0, (some [0, 1, 5, 6, 7, 8]), k0)] R [4]) = N64_7 ρ call yc lim k x0 x1 x5 x6 x7 x8 x9 H (fun x0 x1 x5 x6 x7 x8 H => k0 (sp 81 [(0, x0), (1, x1), (5, x5), (6, x6), (7, x7), (8, x8)]) H) := by
  have e : Code.at [1, 1, 1, 1, 0, 1, 0] c64 = .loop (Code.at [1, 1, 1, 1, 0, 1, 0, 0] c64) := by kernel_rfl
  rw [e]
  unfold N64_7
  exact loop_node [0, 1, 5, 6, 7, 8, 9] (fun x : AV × AV => (sp 81 [(0, x0), (1, x1), (5, x5), (6, x6), (7, x7), (8, (x.1)), (9, (x.2))])) (fun (x : AV × AV) H kn => N64_7b ρ call yc lim k x0 x1 x5 x6 x7 x.1 x.2 H (fun x8 x9 H => kn (x8, x9) H) (fun x0 x1 x5 x6 x7 x8 H => k0 (sp 81 [(0, x0), (1, x1), (5, x5), (6, x6), (7, x7), (8, x8)]) H)) (by kernel_rfl) (fun x => by kernel_rfl) (fun x H kn => N64_7b_eq ρ call yc lim k x0 x1 x5 x6 x7 (x.1) (x.2) H kn k0 R) (x8, x9) (sp 81 [(0, x0), (1, x1), (5, x5), (6, x6), (7, x7), (8, x8), (9, x9)]) H (by kernel_rfl)
noncomputable def N64_6 (ρ : Addr → Option Value) (call : CallF) (yc : YieldF) (lim k : Nat) (x0 x1 x5 x6 x7 x8 x9 : AV) (H : Heap) (kn : AV → AV → AV → AV → AV → AV → Heap → Res) : Res :=
  N64_7 ρ call yc lim k x0 x1 x5 x6 x7 x8 x9 H kn
theorem N64_6_x (ρ : Addr → Option Value) (call : CallF) (yc : YieldF) (lim k : Nat) (J : CodeF) (x0 x1 x5 x6 x7 x8 x9 : AV) (H : Heap) (kn : KS) (R : List AV → Heap → Res) :
    evX (cx ρ) call yc false 64 lim k J (Code.at [1, 1, 1, 1, 0, 1] c64) (sp 81 [(0, x0), (1, x1), (5, x5), (6, x6), (7, x7), (8, x8), (9, x9)]) H (kk (some [0, 1, 5, 6, 7, 8]) kn [] R [4]) =
  J (Code.at [1, 1, 1, 1, 0, 1, 0] c64) (sp 81 [(0, x0), (1, x1), (5, x5), (6, x6), (7, x7), (8, x8), (9, x9)]) H (kk (some [0, 1, 5, 6, 7, 8]) kn [(0, (some [0, 1, 5, 6, 7, 8]), kn)] R [4]) := by
  kernel_rfl
theorem N64_6_eq (ρ : Addr → Option Value) (call : CallF) (yc : YieldF) (lim k : Nat) (x0 x1 x5 x6 x7 x8 x9 : AV) (H : Heap) (kn : KS) (R : List AV → Heap → Res) :
    evL (cx ρ) call yc false 64 lim k (Code.at [1, 1, 1, 1, 0, 1] c64) (sp 81 [(0, x0), (1, x1), (5, x5), (6, x6), (7, x7), (8, x8), (9, x9)]) H (kk (some [0, 1, 5, 6, 7, 8]) kn [] R [4]) = N64_6 ρ call yc lim k x0 x1 x5 x6 x7 x8 x9 H (fun x0 x1 x5 x6 x7 x8 H => kn (sp 81 [(0, x0), (1, x1), (5, x5), (6, x6), (7, x7), (8, x8)]) H) := by
  rw [evL_X, N64_6_x]
  simp only [← evL_X, N64_6, N64_7_eq]
noncomputable def L64 (ρ : Addr → Option Value) (call : CallF) (yc : YieldF) (lim k : Nat) (x0 x1 : AV) (H : Heap) : Res :=
  resK (call lim 75 [x1] H) fun x13 H =>
  purK (extA 0 x13) fun x14 =>
  purK (extA 1 x13) fun x15 =>
  purK (lenT x1) fun x17 =>
  N64_6 ρ call yc lim k x0 x1 x14 x15 x17 (.int .u32 0) (.int .i64 0) H (fun x0_1 x1_1 x5 x6 x7 x8 H =>
    N64_1 ρ call yc lim k x0_1 x1_1 x5 x6 x7 x8 H retK)
theorem L64_x (ρ : Addr → Option Value) (call : CallF) (yc : YieldF) (lim k : Nat) (J : CodeF) (x0 x1 : AV) (H : Heap) :
    evX (cx ρ) call yc false 64 lim k J c64 [x0, x1, (.tup []), (.tup []), (.tup []), (.tup []), (.tup []), (.tup []), (.tup []), (.tup []), (.tup []), (.tup []), (.tup []), (.tup []), (.tup []), (.tup []), (.tup []), (.tup []), (.tup []), (.tup []), (.tup []), (.tup []), (.tup []), (.tup []), (.tup []), (.tup []), (.tup []), (.tup []), (.tup []), (.tup []), (.tup []), (.tup []), (.tup []), (.tup []), (.tup []), (.tup []), (.tup []), (.tup []), (.tup []), (.tup []), (.tup []), (.tup []), (.tup []), (.tup []), (.tup []), (.tup []), (.tup []), (.tup []), (.tup []), (.tup []), (.tup []), (.tup []), (.tup []), (.tup []), (.tup []), (.tup []), (.tup []), (.tup []), (.tup []), (.tup []), (.tup []), (.tup []), (.tup []), (.tup []), (.tup []), (.tup []), (.tup []), (.tup []), (.tup []), (.tup []), (.tup []), (.tup []), (.tup []), (.tup []), (.tup []), (.tup []), (.tup []), (.tup []), (.tup []), (.tup []), (.tup [])] H (kk none (fun s H => retK (([4] : List Nat).map fun t => s.getD t (.tup [])) H) [] retK [4]) =
  resK (call lim 75 [x1] H) fun x13 H =>
  purK (extA 0 x13) fun x14 =>
  purK (extA 1 x13) fun x15 =>
  purK (lenT x1) fun x17 =>
  J (Code.at [1, 1, 1, 1, 0, 1] c64) (sp 81 [(0, x0), (1, x1), (5, x14), (6, x15), (7, x17), (8, (.int .u32 0)), (9, (.int .i64 0))]) H (kk (some [0, 1, 5, 6, 7, 8]) (fun s H => J (Code.at [1, 1, 1, 1, 1] c64) s H (kk none (fun s H => retK (([4] : List Nat).map fun t => s.getD t (.tup [])) H) [] retK [4])) [] retK [4]) := by
  kernel_rfl
theorem G64 (ρ : Addr → Option Value) (call : CallF) (yc : YieldF) (lim k : Nat) (x0 x1 : AV) (H : Heap) :
    evL (cx ρ) call yc false 64 lim k c64 [x0, x1, (.tup []), (.tup []), (.tup []), (.tup []), (.tup []), (.tup []), (.tup []), (.tup []), (.tup []), (.tup []), (.tup []), (.tup []), (.tup []), (.tup []), (.tup []), (.tup []), (.tup []), (.tup []), (.tup []), (.tup []), (.tup []), (.tup []), (.tup []), (.tup []), (.tup []), (.tup []), (.tup []), (.tup []), (.tup []), (.tup []), (.tup []), (.tup []), (.tup []), (.tup []), (.tup []), (.tup []), (.tup []), (.tup []), (.tup []), (.tup []), (.tup []), (.tup []), (.tup []), (.tup []), (.tup []), (.tup []), (.tup []), (.tup []), (.tup []), (.tup []), (.tup []), (.tup []), (.tup []), (.tup []), (.tup []), (.tup []), (.tup []), (.tup []), (.tup []), (.tup []), (.tup []), (.tup []), (.tup []), (.tup []), (.tup []), (.tup []), (.tup []), (.tup []), (.tup []), (.tup []), (.tup []), (.tup []), (.tup []), (.tup []), (.tup []), (.tup []), (.tup []), (.tup []), (.tup [])] H (kk none (fun s H => retK (([4] : List Nat).map fun t => s.getD t (.tup [])) H) [] retK [4]) = L64 ρ call yc lim k x0 x1 H := by
  rw [evL_X, L64_x]
  simp only [← evL_X, L64, N64_1_eq, N64_6_eq]
theorem E64 (ρ : Addr → Option Value) (k lim : Nat) (x0 x1 : AV) (H : Heap) : evCall (cx ρ) (k + 1) lim 64 [x0, x1] H = L64 ρ (evCall (cx ρ) k) (evCY (cx ρ) k).2 lim k x0 x1 H := by
  rw [evCall_body (cx ρ) k lim 64 _ H Tryd.f64 c64 [4] (by kernel_rfl) (by kernel_rfl) (by kernel_rfl) (by kernel_rfl) (by kernel_rfl)]
  exact G64 ρ (evCall (cx ρ) k) (evCY (cx ρ) k).2 lim k x0 x1 H
-- strings.explode
noncomputable def c65 : Code := Code.of Tryd.prog 65
noncomputable def N65_3 (ρ : Addr → Option Value) (call : CallF) (yc : YieldF) (lim k : Nat) (x6 : AV) (H : Heap) (R : List AV → Heap → Res) : Res :=
  R [x6] H
theorem N65_3_eq (ρ : Addr → Option Value) (call : CallF) (yc : YieldF) (lim k : Nat) (x6 : AV) (H : Heap) (R : List AV → Heap → Res) :
    evL (cx ρ) call yc false 65 lim k (Code.at [1, 1, 1, 1, 1, 1] c65) (sp 50 [(6, x6)]) H (kk none (fun s H => R (([4] : List Nat).map fun t => s.getD t (.tup [])) H) [] R [4]) = N65_3 ρ call yc lim k x6 H R := by
  kernel_rfl
noncomputable def N65_2 (ρ : Addr → Option Value) (call : CallF) (yc : YieldF) (lim k : Nat) (x0 x1 x6 : AV) (H : Heap) (R : List AV → Heap → Res) : Res :=
  purK (binA Tryd.prog H .gtr 3 x1 (.int .i64 0)) fun x43_1 =>
  condK x43_1
  (
    purK (binA Tryd.prog H .sub 3 x1 (.int .i64 1)) fun x46_1 =>
    purK (ixS 1 x6 x46_1) fun x48_1 =>
    effK H (stA lim H 1 x48_1 x0) fun _ H =>
    N65_3 ρ call yc lim k x6 H R)
  (
    N65_3 ρ call yc lim k x6 H R)
theorem N65_2_x (ρ : Addr → Option Value) (call : CallF) (yc : YieldF) (lim k : Nat) (J : CodeF) (x0 x1 x6 : AV) (H : Heap) (R : List AV → Heap → Res) :
    evX (cx ρ) call yc false 65 lim k J (Code.at [1, 1, 1, 1, 1] c65) (sp 50 [(0, x0), (1, x1), (6, x6)]) H (kk none (fun s H => R (([4] : List Nat).map fun t => s.getD t (.tup [])) H) [] R [4]) =
  purK (binA Tryd.prog H .gtr 3 x1 (.int .i64 0)) fun x43_1 =>
  condK x43_1
  (
    purK (binA Tryd.prog H .sub 3 x1 (.int .i64 1)) fun x46_1 =>
    purK (ixS 1 x6 x46_1) fun x48_1 =>
    effK H (stA lim H 1 x48_1 x0) fun _ H =>
    J (Code.at [1, 1, 1, 1, 1, 1] c65) (sp 50 [(6, x6)]) H (kk none (fun s H => R (([4] : List Nat).map fun t => s.getD t (.tup [])) H) [] R [4]))
  (
    J (Code.at [1, 1, 1, 1, 1, 1] c65) (sp 50 [(6, x6)]) H (kk none (fun s H => R (([4] : List Nat).map fun t => s.getD t (.tup [])) H) [] R [4])) := by
  kernel_rfl
theorem N65_2_eq (ρ : Addr → Option Value) (call : CallF) (yc : YieldF) (lim k : Nat) (x0 x1 x6 : AV) (H : Heap) (R : List AV → Heap → Res) :
    evL (cx ρ) call yc false 65 lim k (Code.at [1, 1, 1, 1, 1] c65) (sp 50 [(0, x0), (1, x1), (6, x6)]) H (kk none (fun s H => R (([4] : List Nat).map fun t => s.getD t (.tup [])) H) [] R [4]) = N65_2 ρ call yc lim k x0 x1 x6 H R := by
  rw [evL_X, N65_2_x]
  simp only [← evL_X, N65_2, N65_3_eq]
noncomputable def N65_5b (ρ : Addr → Option Value) (call : CallF) (yc : YieldF) (lim k : Nat) (x0 x1 x6 x7 : AV) (H : Heap) (kn : AV → AV → Heap → Res) (k0 : AV → AV → AV → Heap → Res) : Res :=
  purK (binA Tryd.prog H .sub 3 x1 (.int .i64 1)) fun x24_1 =>
  purK (binA Tryd.prog H .lss 3 x7 x24_1) fun x25_1 =>
  condK x25_1
  (
    resK (call lim 77 [x0] H) fun x30_1 H =>
    purK (extA 0 x30_1) fun x31_1 =>
    purK (extA 1 x30_1) fun x32_1 =>
    purK (slT x0 none (some x32_1)) fun x37_1 =>
    purK (ixS 1 x6 x7) fun x38_1 =>
    effK H (stA lim H 1 x38_1 x37_1) fun _ H =>
    purK (slT x0 (some x32_1) none) fun x41_1 =>
    purK (binA Tryd.prog H .add 3 x7 (.int .i64 1)) fun x27_1 =>
    kn x41_1 x27_1 H)
  (
    k0 x0 x1 x6 H)
theorem N65_5b_eq (ρ : Addr → Option Value) (call : CallF) (yc : YieldF) (lim k : Nat) (x0 x1 x6 x7 : AV) (H : Heap) (kn : KS) (k0 : KS) (R : List AV → Heap → Res) :
    evL (cx ρ) call yc false 65 lim k (Code.at [1, 1, 1, 1, 0, 1, 0, 0] c65) (sp 50 [(0, x0), (1, x1), (6, x6), (7, x7)]) H (kk (some [0, 1, 6, 7]) kn [(0, (some [0, 1, 6]), k0)] R [4]) = N65_5b ρ call yc lim k x0 x1 x6 x7 H (fun x0 x7 H => kn (sp 50 [(0, x0), (1, x1), (6, x6), (7, x7)]) H) (fun x0 x1 x6 H => k0 (sp 50 [(0, x0), (1, x1), (6, x6)]) H) := by
  kernel_rfl
noncomputable def N65_5 (ρ : Addr → Option Value) (call : CallF) (yc : YieldF) (lim k : Nat) (x0 x1 x6 x7 : AV) (H : Heap) (k0 : AV → AV → AV → Heap → Res) : Res :=
  loopL (fun (x : AV × AV) H kn => N65_5b ρ call yc lim k x.1 x1 x6 x.2 H (fun x0 x7 H => kn (x0, x7) H) k0) k (x0, x7) H
theorem N65_5_eq (ρ : Addr → Option Value) (call : CallF) (yc : YieldF) (lim k : Nat) (x0 x1 x6 x7 : AV) (H : Heap) (kn : KS) (k0 : KS) (R : List AV → Heap → Res) :
    evL (cx ρ) call yc false 65 lim k (Code.at [1, 1, 1, 1, 0, 1, 0] c65) (sp 50 [(0, x0), (1, x1), (6, x6), (7, x7)]) H (kk (some [0, 1, 6]) kn [(0, (some [0, 1, 6]), k0)] R [4]) = N65_5 ρ call yc lim k x0 x1 x6 x7 H (fun x0 x1 x6 H => k0 (sp 50 [(0, x0), (1, x1), (6, x6)]) H) := by
  have e : Code.at [1, 1, 1, 1, 0, 1, 0] c65 = .loop (Code.at [1, 1, 1, 1, 0, 1, 0, 0] c65) := by kernel_rfl
  rw [e]
  unfold N65_5
  exact loop_node [0, 1, 6, 7] (fun x : AV × AV => (sp 50 [(0, (x.1)), (1, x1), (6, x6), (7, (x.2))])) (fun (x : AV × AV) H kn => N65_5b ρ call yc lim k x.1 x1 x6 x.2 H (fun x0 x7 H => kn (x0, x7) H) (fun x0 x1 x6 H => k0 (sp 50 [(0, x0), (1, x1), (6, x6)]) H)) (by kernel_rfl) (fun x => by kernel_rfl) (fun x H kn => N65_5b_eq ρ call yc lim k (x.1) x1 x6 (x.2) H kn k0 R) (x0, x7) (sp 50 [(0, x0), (1, x1), (6, x6), (7, x7)]) H (by kernel_rfl)
noncomputable def N65_4 (ρ : Addr → Option Value) (call : CallF) (yc : YieldF) (lim k : Nat) (x0 x1 x6 x7 : AV) (H : Heap) (kn : AV → AV → AV → Heap → Res) : Res :=
  N65_5 ρ call yc lim k x0 x1 x6 x7 H kn
theorem N65_4_x (ρ : Addr → Option Value) (call : CallF) (yc : YieldF) (lim k : Nat) (J : CodeF) (x0 x1 x6 x7 : AV) (H : Heap) (kn : KS) (R : List AV → Heap → Res) :
    evX (cx ρ) call yc false 65 lim k J (Code.at [1, 1, 1, 1, 0, 1] c65) (sp 50 [(0, x0), (1, x1), (6, x6), (7, x7)]) H (kk (some [0, 1, 6]) kn [] R [4]) =
  J (Code.at [1, 1, 1, 1, 0, 1, 0] c65) (sp 50 [(0, x0), (1, x1), (6, x6), (7, x7)]) H (kk (some [0, 1, 6]) kn [(0, (some [0, 1, 6]), kn)] R [4]) := by
  kernel_rfl
theorem N65_4_eq (ρ : Addr → Option Value) (call : CallF) (yc : YieldF) (lim k : Nat) (x0 x1 x6 x7 : AV) (H : Heap) (kn : KS) (R : List AV → Heap → Res) :
    evL (cx ρ) call yc false 65 lim k (Code.at [1, 1, 1, 1, 0, 1] c65) (sp 50 [(0, x0), (1, x1), (6, x6), (7, x7)]) H (kk (some [0, 1, 6]) kn [] R [4]) = N65_4 ρ call yc lim k x0 x1 x6 x7 H (fun x0 x1 x6 H => kn (sp 50 [(0, x0), (1, x1), (6, x6)]) H) := by
  rw [evL_X, N65_4_x]
  simp only [← evL_X, N65_4, N65_5_eq]
noncomputable def N65_1 (ρ : Addr → Option Value) (call : CallF) (yc : YieldF) (lim k : Nat) (x0 x1 : AV) (H : Heap) (R : List AV → Heap → Res) : Res :=
  effK H (mkS H 9 1 16 [.str ByteArray.empty] x1 x1) fun x21_1 H =>
  N65_4 ρ call yc lim k x0 x1 x21_1 (.int .i64 0) H (fun x0_1 x1_1 x6_1 H =>
    N65_2 ρ call yc lim k x0_1 x1_1 x6_1 H R)
theorem N65_1_x (ρ : Addr → Option Value) (call : CallF) (yc : YieldF) (lim k : Nat) (J : CodeF) (x0 x1 : AV) (H : Heap) (R : List AV → Heap → Res) :
    evX (cx ρ) call yc false 65 lim k J (Code.at [1, 1, 1] c65) (sp 50 [(0, x0), (1, x1)]) H (kk none (fun s H => R (([4] : List Nat).map fun t => s.getD t (.tup [])) H) [] R [4]) =
  effK H (mkS H 9 1 16 [.str ByteArray.empty] x1 x1) fun x21_1 H =>
  J (Code.at [1, 1, 1, 1, 0, 1] c65) (sp 50 [(0, x0), (1, x1), (6, x21_1), (7, (.int .i64 0))]) H (kk (some [0, 1, 6]) (fun s H => J (Code.at [1, 1, 1, 1, 1] c65) s H (kk none (fun s H => R (([4] : List Nat).map fun t => s.getD t (.tup [])) H) [] R [4])) [] R [4]) := by
  kernel_rfl
theorem N65_1_eq (ρ : Addr → Option Value) (call : CallF) (yc : YieldF) (lim k : Nat) (x0 x1 : AV) (H : Heap) (R : List AV → Heap → Res) :
    evL (cx ρ) call yc false 65 lim k (Code.at [1, 1, 1] c65) (sp 50 [(0, x0), (1, x1)]) H (kk none (fun s H => R (([4] : List Nat).map fun t => s.getD t (.tup [])) H) [] R [4]) = N65_1 ρ call yc lim k x0 x1 H R := by
  rw [evL_X, N65_1_x]
  simp only [← evL_X, N65_1, N65_2_eq, N65_4_eq]
noncomputable def L65 (ρ : Addr → Option Value) (call : CallF) (yc : YieldF) (lim k : Nat) (x0 x1 : AV) (H : Heap) : Res :=
  resK (call lim 76 [x0] H) fun x11 H =>
  purK (binA Tryd.prog H .lss 3 x1 (.int .i64 0)) fun x13 =>
  purK (gPur (wantV x13 false) (some x1)) fun x15 =>
  purK (gPur (wantV x13 false) (some x11)) fun x16 =>
  purK (gPur (wantV x13 false) (binA Tryd.prog H .gtr 3 x15 x16)) fun x17 =>
  purK (pickA x13 (.bool true) x17) fun x18 =>
  condK x18
  (
    N65_1 ρ call yc lim k x0 x11 H retK)
  (
    N65_1 ρ call yc lim k x0 x1 H retK)
theorem L65_x (ρ : Addr → Option Value) (call : CallF) (yc : YieldF) (lim k : Nat) (J : CodeF) (x0 x1 : AV) (H : Heap) :
    evX (cx ρ) call yc false 65 lim k J c65 [x0, x1, (.tup []), (.tup []), (.tup []), (.tup []), (.tup []), (.tup []), (.tup []), (.tup []), (.tup []), (.tup []), (.tup []), (.tup []), (.tup []), (.tup []), (.tup []), (.tup []), (.tup []), (.tup []), (.tup []), (.tup []), (.tup []), (.tup []), (.tup []), (.tup []), (.tup []), (.tup []), (.tup []), (.tup []), (.tup []), (.tup []), (.tup []), (.tup []), (.tup []), (.tup []), (.tup []), (.tup []), (.tup []), (.tup []), (.tup []), (.tup []), (.tup []), (.tup []), (.tup []), (.tup []), (.tup []), (.tup []), (.tup []), (.tup [])] H (kk none (fun s H => retK (([4] : List Nat).map fun t => s.getD t (.tup [])) H) [] retK [4]) =
  resK (call lim 76 [x0] H) fun x11 H =>
  purK (binA Tryd.prog H .lss 3 x1 (.int .i64 0)) fun x13 =>
  purK (gPur (wantV x13 false) (some x1)) fun x15 =>
  purK (gPur (wantV x13 false) (some x11)) fun x16 =>
  purK (gPur (wantV x13 false) (binA Tryd.prog H .gtr 3 x15 x16)) fun x17 =>
  purK (pickA x13 (.bool true) x17) fun x18 =>
  condK x18
  (
    J (Code.at [1, 1, 1] c65) (sp 50 [(0, x0), (1, x11)]) H (kk none (fun s H => retK (([4] : List Nat).map fun t => s.getD t (.tup [])) H) [] retK [4]))
  (
    J (Code.at [1, 1, 1] c65) (sp 50 [(0, x0), (1, x1)]) H (kk none (fun s H => retK (([4] : List Nat).map fun t => s.getD t (.tup [])) H) [] retK [4])) := by
  kernel_rfl
theorem G65 (ρ : Addr → Option Value) (call : CallF) (yc : YieldF) (lim k : Nat) (x0 x1 : AV) (H : Heap) :
    evL (cx ρ) call yc false 65 lim k c65 [x0, x1, (.tup []), (.tup []), (.tup []), (.tup []), (.tup []), (.tup []), (.tup []), (.tup []), (.tup []), (.tup []), (.tup []), (.tup []), (.tup []), (.tup []), (.tup []), (.tup []), (.tup []), (.tup []), (.tup []), (.tup []), (.tup []), (.tup []), (.tup []), (.tup []), (.tup []), (.tup []), (.tup []), (.tup []), (.tup []), (.tup []), (.tup []), (.tup []), (.tup []), (.tup []), (.tup []), (.tup []), (.tup []), (.tup []), (.tup []), (.tup []), (.tup []), (.tup []), (.tup []), (.tup []), (.tup []), (.tup []), (.tup []), (.tup [])] H (kk none (fun s H => retK (([4] : List Nat).map fun t => s.getD t (.tup [])) H) [] retK [4]) = L65 ρ call yc lim k x0 x1 H := by
  rw [evL_X, L65_x]
  simp only [← evL_X, L65, N65_1_eq]
theorem E65 (ρ : Addr → Option Value) (k lim : Nat) (x0 x1 : AV) (H : Heap) : evCall (cx ρ) (k + 1) lim 65 [x0, x1] H = L65 ρ (evCall (cx ρ) k) (evCY (cx ρ) k).2 lim k x0 x1 H := by
  rw [evCall_body (cx ρ) k lim 65 _ H Tryd.f65 c65 [4] (by kernel_rfl) (by kernel_rfl) (by kernel_rfl) (by kernel_rfl) (by kernel_rfl)]
  exact G65 ρ (evCall (cx ρ) k) (evCY (cx ρ) k).2 lim k x0 x1 H
-- strings.Count
noncomputable def c66 : Code := Code.of Tryd.prog 66
noncomputable def N66_2b (ρ : Addr → Option Value) (call : CallF) (yc : YieldF) (lim k : Nat) (x0 x1 x5 : AV) (H : Heap) (kn : AV → AV → Heap → Res) (R : List AV → Heap → Res) : Res :=
  resK (call lim 67 [x0, x1] H) fun x22_1 H =>
  purK (binA Tryd.prog H .eql 3 x22_1 (.int .i64 (-1))) fun x24_1 =>
  condK x24_1
  (
    R [x5] H)
  (
    purK (binA Tryd.prog H .add 3 x5 (.int .i64 1)) fun x27_1 =>
    purK (lenT x1) fun x31_1 =>
    purK (binA Tryd.prog H .add 3 x22_1 x31_1) fun x32_1 =>
    purK (slT x0 (some x32_1) none) fun x33_1 =>
    kn x33_1 x27_1 H)
theorem N66_2b_eq (ρ : Addr → Option Value) (call : CallF) (yc : YieldF) (lim k : Nat) (x0 x1 x5 : AV) (H : Heap) (kn : KS) (R : List AV → Heap → Res) :
    evL (cx ρ) call yc false 66 lim k (Code.at [1, 1, 1, 1, 0, 0] c66) (sp 34 [(0, x0), (1, x1), (5, x5)]) H (kk (some [0, 1, 5]) kn [(0, none, (fun s H => R (([4] : List Nat).map fun t => s.getD t (.tup [])) H))] R [4]) = N66_2b ρ call yc lim k x0 x1 x5 H (fun x0 x5 H => kn (sp 34 [(0, x0), (1, x1), (5, x5)]) H) R := by
  kernel_rfl
noncomputable def N66_2 (ρ : Addr → Option Value) (call : CallF) (yc : YieldF) (lim k : Nat) (x0 x1 x5 : AV) (H : Heap) (R : List AV → Heap → Res) : Res :=
  loopL (fun (x : AV × AV) H kn => N66_2b ρ call yc lim k x.1 x1 x.2 H (fun x0 x5 H => kn (x0, x5) H) R) k (x0, x5) H
theorem N66_2_eq (ρ : Addr → Option Value) (call : CallF) (yc : YieldF) (lim k : Nat) (x0 x1 x5 : AV) (H : Heap) (R : List AV → Heap → Res) :
    evL (cx ρ) call yc false 66 lim k (Code.at [1, 1, 1, 1, 0] c66) (sp 34 [(0, x0), (1, x1), (5, x5)]) H (kk none (fun s H => R (([4] : List Nat).map fun t => s.getD t (.tup [])) H) [(0, none, (fun s H => R (([4] : List Nat).map fun t => s.getD t (.tup [])) H))] R [4]) = N66_2 ρ call yc lim k x0 x1 x5 H R := by
  have e : Code.at [1, 1, 1, 1, 0] c66 = .loop (Code.at [1, 1, 1, 1, 0, 0] c66) := by kernel_rfl
  rw [e]
  unfold N66_2
  exact loop_node [0, 1, 5] (fun x : AV × AV => (sp 34 [(0, (x.1)), (1, x1), (5, (x.2))])) (fun (x : AV × AV) H kn => N66_2b ρ call yc lim k x.1 x1 x.2 H (fun x0 x5 H => kn (x0, x5) H) R) (by kernel_rfl) (fun x => by kernel_rfl) (fun x H kn => N66_2b_eq ρ call yc lim k (x.1) x1 (x.2) H kn R) (x0, x5) (sp 34 [(0, x0), (1, x1), (5, x5)]) H (by kernel_rfl)
noncomputable def N66_1 (ρ : Addr → Option Value) (call : CallF) (yc : YieldF) (lim k : Nat) (x0 x1 x5 : AV) (H : Heap) (R : List AV → Heap → Res) : Res :=
  N66_2 ρ call yc lim k x0 x1 x5 H R
theorem N66_1_x (ρ : Addr → Option Value) (call : CallF) (yc : YieldF) (lim k : Nat) (J : CodeF) (x0 x1 x5 : AV) (H : Heap) (R : List AV → Heap → Res) :
    evX (cx ρ) call yc false 66 lim k J (Code.at [1, 1, 1, 1] c66) (sp 34 [(0, x0), (1, x1), (5, x5)]) H (kk none (fun s H => R (([4] : List Nat).map fun t => s.getD t (.tup [])) H) [] R [4]) =
  J (Code.at [1, 1, 1, 1, 0] c66) (sp 34 [(0, x0), (1, x1), (5, x5)]) H (kk none (fun s H => R (([4] : List Nat).map fun t => s.getD t (.tup [])) H) [(0, none, (fun s H => R (([4] : List Nat).map fun t => s.getD t (.tup [])) H))] R [4]) := by
  kernel_rfl
theorem N66_1_eq (ρ : Addr → Option Value) (call : CallF) (yc : YieldF) (lim k : Nat) (x0 x1 x5 : AV) (H : Heap) (R : List AV → Heap → Res) :
    evL (cx ρ) call yc false 66 lim k (Code.at [1, 1, 1, 1] c66) (sp 34 [(0, x0), (1, x1), (5, x5)]) H (kk none (fun s H => R (([4] : List Nat).map fun t => s.getD t (.tup [])) H) [] R [4]) = N66_1 ρ call yc lim k x0 x1 x5 H R := by
  rw [evL_X, N66_1_x]
  simp only [← evL_X, N66_1, N66_2_eq]
noncomputable def L66 (ρ : Addr → Option Value) (call : CallF) (yc : YieldF) (lim k : Nat) (x0 x1 : AV) (H : Heap) : Res :=
  purK (lenT x1) fun x8 =>
  purK (binA Tryd.prog H .eql 3 x8 (.int .i64 0)) fun x9 =>
  condK x9
  (
    resK (call lim 76 [x0] H) fun x11 H =>
    purK (binA Tryd.prog H .add 3 x11 (.int .i64 1)) fun x12 =>
    retK [x12] H)
  (
    purK (lenT x1) fun x14 =>
    purK (binA Tryd.prog H .eql 3 x14 (.int .i64 1)) fun x15 =>
    condK x15
    (
      purK (ixT x1 (.int .i64 0)) fun x18 =>
      resK (call lim 78 [x0, x18] H) fun x19 H =>
      retK [x19] H)
    (
      N66_1 ρ call yc lim k x0 x1 (.int .i64 0) H retK))
theorem L66_x (ρ : Addr → Option Value) (call : CallF) (yc : YieldF) (lim k : Nat) (J : CodeF) (x0 x1 : AV) (H : Heap) :
    evX (cx ρ) call yc false 66 lim k J c66 [x0, x1, (.tup []), (.tup []), (.tup []), (.tup []), (.tup []), (.tup []), (.tup []), (.tup []), (.tup []), (.tup []), (.tup []), (.tup []), (.tup []), (.tup []), (.tup []), (.tup []), (.tup []), (.tup []), (.tup []), (.tup []), (.tup []), (.tup []), (.tup []), (.tup []), (.tup []), (.tup []), (.tup []), (.tup []), (.tup []), (.tup []), (.tup []), (.tup [])] H (kk none (fun s H => retK (([4] : List Nat).map fun t => s.getD t (.tup [])) H) [] retK [4]) =
  purK (lenT x1) fun x8 =>
  purK (binA Tryd.prog H .eql 3 x8 (.int .i64 0)) fun x9 =>
  condK x9
  (
    resK (call lim 76 [x0] H) fun x11 H =>
    purK (binA Tryd.prog H .add 3 x11 (.int .i64 1)) fun x12 =>
    retK [x12] H)
  (
    purK (lenT x1) fun x14 =>
    purK (binA Tryd.prog H .eql 3 x14 (.int .i64 1)) fun x15 =>
    condK x15
    (
      purK (ixT x1 (.int .i64 0)) fun x18 =>
      resK (call lim 78 [x0, x18] H) fun x19 H =>
      retK [x19] H)
    (
      J (Code.at [1, 1, 1, 1] c66) (sp 34 [(0, x0), (1, x1), (5, (.int .i64 0))]) H (kk none (fun s H => retK (([4] : List Nat).map fun t => s.getD t (.tup [])) H) [] retK [4]))) := by
  kernel_rfl
theorem G66 (ρ : Addr → Option Value) (call : CallF) (yc : YieldF) (lim k : Nat) (x0 x1 : AV) (H : Heap) :
    evL (cx ρ) call yc false 66 lim k c66 [x0, x1, (.tup []), (.tup []), (.tup []), (.tup []), (.tup []), (.tup []), (.tup []), (.tup []), (.tup []), (.tup []), (.tup []), (.tup []), (.tup []), (.tup []), (.tup []), (.tup []), (.tup []), (.tup []), (.tup []), (.tup []), (.tup []), (.tup []), (.tup []), (.tup []), (.tup []), (.tup []), (.tup []), (.tup []), (.tup []), (.tup []), (.tup []), (.tup [])] H (kk none (fun s H => retK (([4] : List Nat).map fun t => s.getD t (.tup [])) H) [] retK [4]) = L66 ρ call yc lim k x0 x1 H := by
  rw [evL_X, L66_x]
  simp only [← evL_X, L66, N66_1_eq]
theorem E66 (ρ : Addr → Option Value) (k lim : Nat) (x0 x1 : AV) (H : Heap) : evCall (cx ρ) (k + 1) lim 66 [x0, x1] H = L66 ρ (evCall (cx ρ) k) (evCY (cx ρ) k).2 lim k x0 x1 H := by
  rw [evCall_body (cx ρ) k lim 66 _ H Tryd.f66 c66 [4] (by kernel_rfl) (by kernel_rfl) (by kernel_rfl) (by kernel_rfl) (by kernel_rfl)]
  exact G66 ρ (evCall (cx ρ) k) (evCY (cx ρ) k).2 lim k x0 x1 H
-- strings.Index
noncomputable def c67 : Code := Code.of Tryd.prog 67
noncomputable def L67 (ρ : Addr → Option Value) (call : CallF) (yc : YieldF) (lim k : Nat) (x0 x1 : AV) (H : Heap) : Res :=
  resK (call lim 52 [x0, x1] H) fun x7 H =>
  retK [x7] H
theorem G67 (ρ : Addr → Option Value) (call : CallF) (yc : YieldF) (lim k : Nat) (x0 x1 : AV) (H : Heap) :
    evL (cx ρ) call yc false 67 lim k c67 [x0, x1, (.tup []), (.tup []), (.tup []), (.tup []), (.tup []), (.tup [])] H (kk none (fun s H => retK (([4] : List Nat).map fun t => s.getD t (.tup [])) H) [] retK [4]) = L67 ρ call yc lim k x0 x1 H := by
  kernel_rfl
theorem E67 (ρ : Addr → Option Value) (k lim : Nat) (x0 x1 : AV) (H : Heap) : evCall (cx ρ) (k + 1) lim 67 [x0, x1] H = L67 ρ (evCall (cx ρ) k) (evCY (cx ρ) k).2 lim k x0 x1 H := by
  rw [evCall_body (cx ρ) k lim 67 _ H Tryd.f67 c67 [4] (by kernel_rfl) (by kernel_rfl) (by kernel_rfl) (by kernel_rfl) (by kernel_rfl)]
  exact G67 ρ (evCall (cx ρ) k) (evCY (cx ρ) k).2 lim k x0 x1 H
-- strconv.ParseUint
noncomputable def c68 : Code := Code.of Tryd.prog 68
noncomputable def L68 (ρ : Addr → Option Value) (call : CallF) (yc : YieldF) (lim k : Nat) (x0 x1 x2 : AV) (H : Heap) : Res :=
  resK (call lim 79 [x0, x1, x2] H) fun x14 H =>
  purK (extA 0 x14) fun x15 =>
  purK (extA 1 x14) fun x16 =>
  purK (eqI .neq true x16 .nili) fun x18 =>
  condK x18
  (
    resK (call lim 80 [(.str (ByteArray.mk #[80, 97, 114, 115, 101, 85, 105, 110, 116])), x0, x1, x2, x16] H) fun x24 H =>
    retK [x15, x24] H)
  (
    retK [x15, .nili] H)
theorem G68 (ρ : Addr → Option Value) (call : CallF) (yc : YieldF) (lim k : Nat) (x0 x1 x2 : AV) (H : Heap) :
    evL (cx ρ) call yc false 68 lim k c68 [x0, x1, x2, (.tup []), (.tup []), (.tup []), (.tup []), (.tup []), (.tup []), (.tup []), (.tup []), (.tup []), (.tup []), (.tup []), (.tup []), (.tup []), (.tup []), (.tup []), (.tup []), (.tup []), (.tup []), (.tup []), (.tup []), (.tup []), (.tup []), (.tup [])] H (kk none (fun s H => retK (([6, 7] : List Nat).map fun t => s.getD t (.tup [])) H) [] retK [6, 7]) = L68 ρ call yc lim k x0 x1 x2 H := by
  kernel_rfl
theorem E68 (ρ : Addr → Option Value) (k lim : Nat) (x0 x1 x2 : AV) (H : Heap) : evCall (cx ρ) (k + 1) lim 68 [x0, x1, x2] H = L68 ρ (evCall (cx ρ) k) (evCY (cx ρ) k).2 lim k x0 x1 x2 H := by
  rw [evCall_body (cx ρ) k lim 68 _ H Tryd.f68 c68 [6, 7] (by kernel_rfl) (by kernel_rfl) (by kernel_rfl) (by kernel_rfl) (by kernel_rfl)]
  exact G68 ρ (evCall (cx ρ) k) (evCY (cx ρ) k).2 lim k x0 x1 x2 H
-- internal/strconv.FormatInt
noncomputable def c69 : Code := Code.of Tryd.prog 69
noncomputable def N69_2 (ρ : Addr → Option Value) (call : CallF) (yc : YieldF) (lim k : Nat) (x9 : AV) (H : Heap) (R : List AV → Heap → Res) : Res :=
  R [x9] H
theorem N69_2_eq (ρ : Addr → Option Value) (call : CallF) (yc : YieldF) (lim k : Nat) (x9 : AV) (H : Heap) (R : List AV → Heap → Res) :
    evL (cx ρ) call yc false 69 lim k (Code.at [1, 1, 1] c69) (sp 54 [(9, x9)]) H (kk none (fun s H => R (([4] : List Nat).map fun t => s.getD t (.tup [])) H) [] R [4]) = N69_2 ρ call yc lim k x9 H R := by
  kernel_rfl
noncomputable def N69_1 (ρ : Addr → Option Value) (call : CallF) (yc : YieldF) (lim k : Nat) (x0 x1 : AV) (H : Heap) (R : List AV → Heap → Res) : Res :=
  purK (cvI .u64 x0) fun x46_1 =>
  purK (binA Tryd.prog H .lss 2 x0 (.int .i64 0)) fun x49_1 =>
  resK (call lim 73 [.nils, x46_1, x1, x49_1, (.bool false)] H) fun x50_1 H =>
  purK (extA 0 x50_1) fun x51_1 =>
  purK (extA 1 x50_1) fun x52_1 =>
  N69_2 ρ call yc lim k x52_1 H R
theorem N69_1_x (ρ : Addr → Option Value) (call : CallF) (yc : YieldF) (lim k : Nat) (J : CodeF) (x0 x1 : AV) (H : Heap) (R : List AV → Heap → Res) :
    evX (cx ρ) call yc false 69 lim k J (Code.at [1, 1] c69) (sp 54 [(0, x0), (1, x1)]) H (kk none (fun s H => R (([4] : List Nat).map fun t => s.getD t (.tup [])) H) [] R [4]) =
  purK (cvI .u64 x0) fun x46_1 =>
  purK (binA Tryd.prog H .lss 2 x0 (.int .i64 0)) fun x49_1 =>
  resK (call lim 73 [.nils, x46_1, x1, x49_1, (.bool false)] H) fun x50_1 H =>
  purK (extA 0 x50_1) fun x51_1 =>
  purK (extA 1 x50_1) fun x52_1 =>
  J (Code.at [1, 1, 1] c69) (sp 54 [(9, x52_1)]) H (kk none (fun s H => R (([4] : List Nat).map fun t => s.getD t (.tup [])) H) [] R [4]) := by
  kernel_rfl
theorem N69_1_eq (ρ : Addr → Option Value) (call : CallF) (yc : YieldF) (lim k : Nat) (x0 x1 : AV) (H : Heap) (R : List AV → Heap → Res) :
    evL (cx ρ) call yc false 69 lim k (Code.at [1, 1] c69) (sp 54 [(0, x0), (1, x1)]) H (kk none (fun s H => R (([4] : List Nat).map fun t => s.getD t (.tup [])) H) [] R [4]) = N69_1 ρ call yc lim k x0 x1 H R := by
  rw [evL_X, N69_1_x]
  simp only [← evL_X, N69_1, N69_2_eq]
noncomputable def N69_4 (ρ : Addr → Option Value) (call : CallF) (yc : YieldF) (lim k : Nat) (x0 x5 x7 : AV) (H : Heap) (R : List AV → Heap → Res) : Res :=
  purK (binA Tryd.prog H .lss 2 x0 (.int .i64 0)) fun x34_1 =>
  condK x34_1
  (
    purK (ixR 1 24 x5 (.int .i64 0)) fun x35_1 =>
    effK H (stA lim H 1 x35_1 (.int .u8 45)) fun _ H =>
    purK (binA Tryd.prog H .add 3 (.int .i64 1) x7) fun x37_1 =>
    purK (slR 1 24 x5 none (some x37_1) none) fun x38_1 =>
    purK (b2s ρ H x38_1) fun x39_1 =>
    R [x39_1] H)
  (
    purK (binA Tryd.prog H .add 3 (.int .i64 1) x7) fun x41_1 =>
    purK (slR 1 24 x5 (some (.int .i64 1)) (some x41_1) none) fun x42_1 =>
    purK (b2s ρ H x42_1) fun x43_1 =>
    R [x43_1] H)
theorem N69_4_eq (ρ : Addr → Option Value) (call : CallF) (yc : YieldF) (lim k : Nat) (x0 x5 x7 : AV) (H : Heap) (kn : KS) (R : List AV → Heap → Res) :
    evL (cx ρ) call yc false 69 lim k (Code.at [1, 0, 1, 0, 1, 1, 1, 1, 1, 1] c69) (sp 54 [(0, x0), (5, x5), (7, x7)]) H (kk (some [0, 1]) kn [] R [4]) = N69_4 ρ call yc lim k x0 x5 x7 H R := by
  kernel_rfl
noncomputable def N69_3 (ρ : Addr → Option Value) (call : CallF) (yc : YieldF) (lim k : Nat) (x0 x5 x6 : AV) (H : Heap) (R : List AV → Heap → Res) : Res :=
  resK (call lim 71 [x6] H) fun x27_1 H =>
  purK (binA Tryd.prog H .add 3 (.int .i64 1) x27_1) fun x29_1 =>
  purK (slR 1 24 x5 (some (.int .i64 1)) (some x29_1) none) fun x30_1 =>
  resK (call lim 72 [x30_1, x6] H) fun x32_1 H =>
  N69_4 ρ call yc lim k x0 x5 x27_1 H R
theorem N69_3_x (ρ : Addr → Option Value) (call : CallF) (yc : YieldF) (lim k : Nat) (J : CodeF) (x0 x5 x6 : AV) (H : Heap) (kn : KS) (R : List AV → Heap → Res) :
    evX (cx ρ) call yc false 69 lim k J (Code.at [1, 0, 1, 0, 1, 1, 1, 1] c69) (sp 54 [(0, x0), (5, x5), (6, x6)]) H (kk (some [0, 1]) kn [] R [4]) =
  resK (call lim 71 [x6] H) fun x27_1 H =>
  purK (binA Tryd.prog H .add 3 (.int .i64 1) x27_1) fun x29_1 =>
  purK (slR 1 24 x5 (some (.int .i64 1)) (some x29_1) none) fun x30_1 =>
  resK (call lim 72 [x30_1, x6] H) fun x32_1 H =>
  J (Code.at [1, 0, 1, 0, 1, 1, 1, 1, 1, 1] c69) (sp 54 [(0, x0), (5, x5), (7, x27_1)]) H (kk (some [0, 1]) kn [] R [4]) := by
  kernel_rfl
theorem N69_3_eq (ρ : Addr → Option Value) (call : CallF) (yc : YieldF) (lim k : Nat) (x0 x5 x6 : AV) (H : Heap) (kn : KS) (R : List AV → Heap → Res) :
    evL (cx ρ) call yc false 69 lim k (Code.at [1, 0, 1, 0, 1, 1, 1, 1] c69) (sp 54 [(0, x0), (5, x5), (6, x6)]) H (kk (some [0, 1]) kn [] R [4]) = N69_3 ρ call yc lim k x0 x5 x6 H R := by
  rw [evL_X, N69_3_x]
  simp only [← evL_X, N69_3, N69_4_eq]
noncomputable def L69 (ρ : Addr → Option Value) (call : CallF) (yc : YieldF) (lim k : Nat) (x0 x1 : AV) (H : Heap) : Res :=
  purK (binA Tryd.prog H .eql 3 x1 (.int .i64 10)) fun x11 =>
  condK x11
  (
    purK (binA Tryd.prog H .leq 2 (.int .i64 0) x0) fun x13 =>
    purK (gPur (wantV x13 true) (some x0)) fun x15 =>
    purK (gPur (wantV x13 true) (binA Tryd.prog H .lss 2 x15 (.int .i64 100))) fun x16 =>
    purK (pickA x13 x16 (.bool false)) fun x17 =>
    condK x17
    (
      resK (call lim 70 [x0] H) fun x19 H =>
      retK [x19] H)
    (
      effK H (some (.ptr H.sz 0 0, .new (newCells 99 false [.int .u8 0, .int .u8 0, .int .u8 0, .int .u8 0, .int .u8 0, .int .u8 0, .int .u8 0, .int .u8 0, .int .u8 0, .int .u8 0, .int .u8 0, .int .u8 0, .int .u8 0, .int .u8 0, .int .u8 0, .int .u8 0, .int .u8 0, .int .u8 0, .int .u8 0, .int .u8 0, .int .u8 0, .int .u8 0, .int .u8 0, .int .u8 0]))) fun x5 H =>
      purK (cvI .u64 x0) fun x21 =>
      purK (binA Tryd.prog H .lss 2 x0 (.int .i64 0)) fun x23 =>
      condK x23
      (
        purK (unA .neg x21) fun x25 =>
        N69_3 ρ call yc lim k x0 x5 x25 H retK)
      (
        N69_3 ρ call yc lim k x0 x5 x21 H retK)))
  (
    N69_1 ρ call yc lim k x0 x1 H retK)
theorem L69_x (ρ : Addr → Option Value) (call : CallF) (yc : YieldF) (lim k : Nat) (J : CodeF) (x0 x1 : AV) (H : Heap) :
    evX (cx ρ) call yc false 69 lim k J c69 [x0, x1, (.tup []), (.tup []), (.tup []), (.tup []), (.tup []), (.tup []), (.tup []), (.tup []), (.tup []), (.tup []), (.tup []), (.tup []), (.tup []), (.tup []), (.tup []), (.tup []), (.tup []), (.tup []), (.tup []), (.tup []), (.tup []), (.tup []), (.tup []), (.tup []), (.tup []), (.tup []), (.tup []), (.tup []), (.tup []), (.tup []), (.tup []), (.tup []), (.tup []), (.tup []), (.tup []), (.tup []), (.tup []), (.tup []), (.tup []), (.tup []), (.tup []), (.tup []), (.tup []), (.tup []), (.tup []), (.tup []), (.tup []), (.tup []), (.tup []), (.tup []), (.tup []), (.tup [])] H (kk none (fun s H => retK (([4] : List Nat).map fun t => s.getD t (.tup [])) H) [] retK [4]) =
  purK (binA Tryd.prog H .eql 3 x1 (.int .i64 10)) fun x11 =>
  condK x11
  (
    purK (binA Tryd.prog H .leq 2 (.int .i64 0) x0) fun x13 =>
    purK (gPur (wantV x13 true) (some x0)) fun x15 =>
    purK (gPur (wantV x13 true) (binA Tryd.prog H .lss 2 x15 (.int .i64 100))) fun x16 =>
    purK (pickA x13 x16 (.bool false)) fun x17 =>
    condK x17
    (
      resK (call lim 70 [x0] H) fun x19 H =>
      retK [x19] H)
    (
      effK H (some (.ptr H.sz 0 0, .new (newCells 99 false [.int .u8 0, .int .u8 0, .int .u8 0, .int .u8 0, .int .u8 0, .int .u8 0, .int .u8 0, .int .u8 0, .int .u8 0, .int .u8 0, .int .u8 0, .int .u8 0, .int .u8 0, .int .u8 0, .int .u8 0, .int .u8 0, .int .u8 0, .int .u8 0, .int .u8 0, .int .u8 0, .int .u8 0, .int .u8 0, .int .u8 0, .int .u8 0]))) fun x5 H =>
      purK (cvI .u64 x0) fun x21 =>
      purK (binA Tryd.prog H .lss 2 x0 (.int .i64 0)) fun x23 =>
      condK x23
      (
        purK (unA .neg x21) fun x25 =>
        J (Code.at [1, 0, 1, 0, 1, 1, 1, 1] c69) (sp 54 [(0, x0), (5, x5), (6, x25)]) H (kk (some [0, 1]) (fun s H => J (Code.at [1, 1] c69) s H (kk none (fun s H => retK (([4] : List Nat).map fun t => s.getD t (.tup [])) H) [] retK [4])) [] retK [4]))
      (
        J (Code.at [1, 0, 1, 0, 1, 1, 1, 1] c69) (sp 54 [(0, x0), (5, x5), (6, x21)]) H (kk (some [0, 1]) (fun s H => J (Code.at [1, 1] c69) s H (kk none (fun s H => retK (([4] : List Nat).map fun t => s.getD t (.tup [])) H) [] retK [4])) [] retK [4]))))
  (
    J (Code.at [1, 1] c69) (sp 54 [(0, x0), (1, x1)]) H (kk none (fun s H => retK (([4] : List Nat).map fun t => s.getD t (.tup [])) H) [] retK [4])) := by
  kernel_rfl
theorem G69 (ρ : Addr → Option Value) (call : CallF) (yc : YieldF) (lim k : Nat) (x0 x1 : AV) (H : Heap) :
    evL (cx ρ) call yc false 69 lim k c69 [x0, x1, (.tup []), (.tup []), (.tup []), (.tup []), (.tup []), (.tup []), (.tup []), (.tup []), (.tup []), (.tup []), (.tup []), (.tup []), (.tup []), (.tup []), (.tup []), (.tup []), (.tup []), (.tup []), (.tup []), (.tup []), (.tup []), (.tup []), (.tup []), (.tup []), (.tup []), (.tup []), (.tup []), (.tup []), (.tup []), (.tup []), (.tup []), (.tup []), (.tup []), (.tup []), (.tup []), (.tup []), (.tup []), (.tup []), (.tup []), (.tup []), (.tup []), (.tup []), (.tup []), (.tup []), (.tup []), (.tup []), (.tup []), (.tup []), (.tup []), (.tup []), (.tup []), (.tup [])] H (kk none (fun s H => retK (([4] : List Nat).map fun t => s.getD t (.tup [])) H) [] retK [4]) = L69 ρ call yc lim k x0 x1 H := by
  rw [evL_X, L69_x]
  simp only [← evL_X, L69, N69_1_eq, N69_3_eq]
theorem E69 (ρ : Addr → Option Value) (k lim : Nat) (x0 x1 : AV) (H : Heap) : evCall (cx ρ) (k + 1) lim 69 [x0, x1] H = L69 ρ (evCall (cx ρ) k) (evCY (cx ρ) k).2 lim k x0 x1 H := by
  rw [evCall_body (cx ρ) k lim 69 _ H Tryd.f69 c69 [4] (by kernel_rfl) (by kernel_rfl) (by kernel_rfl) (by kernel_rfl) (by kernel_rfl)]
  exact G69 ρ (evCall (cx ρ) k) (evCY (cx ρ) k).2 lim k x0 x1 H
-- internal/strconv.small
noncomputable def c70 : Code := Code.of Tryd.prog 70
noncomputable def L70 (ρ : Addr → Option Value) (call : CallF) (yc : YieldF) (lim k : Nat) (x0 : AV) (H : Heap) : Res :=
  purK (binA Tryd.prog H .lss 3 x0 (.int .i64 10)) fun x4 =>
  condK x4
  (
    purK (binA Tryd.prog H .add 3 x0 (.int .i64 1)) fun x7 =>
    purK (slT (.str (ByteArray.mk #[48, 49, 50, 51, 52, 53, 54, 55, 56, 57, 97, 98, 99, 100, 101, 102, 103, 104, 105, 106, 107, 108, 109, 110, 111, 112, 113, 114, 115, 116, 117, 118, 119, 120, 121, 122])) (some x0) (some x7)) fun x8 =>
    retK [x8] H)
  (
    purK (binA Tryd.prog H .mul 3 x0 (.int .i64 2)) fun x10 =>
    purK (binA Tryd.prog H .mul 3 x0 (.int .i64 2)) fun x12 =>
    purK (binA Tryd.prog H .add 3 x12 (.int .i64 2)) fun x13 =>
    purK (slT (.str (ByteArray.mk #[48, 48, 48, 49, 48, 50, 48, 51, 48, 52, 48, 53, 48, 54, 48, 55, 48, 56, 48, 57, 49, 48, 49, 49, 49, 50, 49, 51, 49, 52, 49, 53, 49, 54, 49, 55, 49, 56, 49, 57, 50, 48, 50, 49, 50, 50, 50, 51, 50, 52, 50, 53, 50, 54, 50, 55, 50, 56, 50, 57, 51, 48, 51, 49, 51, 50, 51, 51, 51, 52, 51, 53, 51, 54, 51, 55, 51, 56, 51, 57, 52, 48, 52, 49, 52, 50, 52, 51, 52, 52, 52, 53, 52, 54, 52, 55, 52, 56, 52, 57, 53, 48, 53, 49, 53, 50, 53, 51, 53, 52, 53, 53, 53, 54, 53, 55, 53, 56, 53, 57, 54, 48, 54, 49, 54, 50, 54, 51, 54, 52, 54, 53, 54, 54, 54, 55, 54, 56, 54, 57, 55, 48, 55, 49, 55, 50, 55, 51, 55, 52, 55, 53, 55, 54, 55, 55, 55, 56, 55, 57, 56, 48, 56, 49, 56, 50, 56, 51, 56, 52, 56, 53, 56, 54, 56, 55, 56, 56, 56, 57, 57, 48, 57, 49, 57, 50, 57, 51, 57, 52, 57, 53, 57, 54, 57, 55, 57, 56, 57, 57])) (some x10) (some x13)) fun x14 =>
    retK [x14] H)
theorem G70 (ρ : Addr → Option Value) (call : CallF) (yc : YieldF) (lim k : Nat) (x0 : AV) (H : Heap) :
    evL (cx ρ) call yc false 70 lim k c70 [x0, (.tup []), (.tup []), (.tup []), (.tup []), (.tup []), (.tup []), (.tup []), (.tup []), (.tup []), (.tup []), (.tup []), (.tup []), (.tup []), (.tup [])] H (kk none (fun s H => retK (([2] : List Nat).map fun t => s.getD t (.tup [])) H) [] retK [2]) = L70 ρ call yc lim k x0 H := by
  kernel_rfl
theorem E70 (ρ : Addr → Option Value) (k lim : Nat) (x0 : AV) (H : Heap) : evCall (cx ρ) (k + 1) lim 70 [x0] H = L70 ρ (evCall (cx ρ) k) (evCY (cx ρ) k).2 lim k x0 H := by
  rw [evCall_body (cx ρ) k lim 70 _ H Tryd.f70 c70 [2] (by kernel_rfl) (by kernel_rfl) (by kernel_rfl) (by kernel_rfl) (by kernel_rfl)]
  exact G70 ρ (evCall (cx ρ) k) (evCY (cx ρ) k).2 lim k x0 H
-- internal/strconv.numDigits
noncomputable def c71 : Code := Code.of Tryd.prog 71
noncomputable def L71 (ρ : Addr → Option Value) (call : CallF) (yc : YieldF) (lim k : Nat) (x0 : AV) (H : Heap) : Res :=
  resK (call lim 82 [x0] H) fun x5 H =>
  resK (call lim 81 [x5] H) fun x6 H =>
  purK (ixR 1 20 (.xp ⟨3, 0, none⟩) x6) fun x10 =>
  purK (ld1 ρ H x10) fun x11 =>
  purK (binA Tryd.prog H .geq 38 x0 x11) fun x12 =>
  resK (call lim 83 [x12] H) fun x13 H =>
  purK (binA Tryd.prog H .add 3 x6 x13) fun x14 =>
  retK [x14] H
theorem G71 (ρ : Addr → Option Value) (call : CallF) (yc : YieldF) (lim k : Nat) (x0 : AV) (H : Heap) :
    evL (cx ρ) call yc false 71 lim k c71 [x0, (.tup []), (.tup []), (.tup []), (.tup []), (.tup []), (.tup []), (.tup []), (.tup []), (.tup []), (.tup []), (.tup []), (.tup []), (.tup []), (.tup [])] H (kk none (fun s H => retK (([2] : List Nat).map fun t => s.getD t (.tup [])) H) [] retK [2]) = L71 ρ call yc lim k x0 H := by
  kernel_rfl
theorem E71 (ρ : Addr → Option Value) (k lim : Nat) (x0 : AV) (H : Heap) : evCall (cx ρ) (k + 1) lim 71 [x0] H = L71 ρ (evCall (cx ρ) k) (evCY (cx ρ) k).2 lim k x0 H := by
  rw [evCall_body (cx ρ) k lim 71 _ H Tryd.f71 c71 [2] (by kernel_rfl) (by kernel_rfl) (by kernel_rfl) (by kernel_rfl) (by kernel_rfl)]
  exact G71 ρ (evCall (cx ρ) k) (evCY (cx ρ) k).2 lim k x0 H
end Go.Proofs.YtnkeebchblfbgaaDoor
