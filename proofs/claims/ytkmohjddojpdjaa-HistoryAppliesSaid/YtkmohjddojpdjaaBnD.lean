/- Part 4: HaTab Ha0 Ha1 Ha2 Ha3. -/
import Derived.Test.YtkmohjddojpdjaaBnB
import Derived.Test.YtkmohjddojpdjaaProg
import Derived.KernelRfl
-- part HaTab
/- The tables of the program: what is live, how draws go. Printed by a program of this repo. -/
set_option linter.unusedVariables false
namespace Go.Proofs.Ytkmohjddojpdjaa
open Go.Ev Go.RowKit
def dr : FuncId → Nat → Option (List (Nat × Bool))
  | 5, 32 => some [(0, true), (1, true), (2, true), (3, true), (4, true), (5, true), (6, true), (7, true), (8, true), (9, true), (10, true), (11, true), (12, true), (13, true), (14, false)]
  | 7, 19 => some [(0, true), (1, true), (2, true), (3, true), (4, true), (5, true), (6, true), (7, true), (8, true), (9, true), (10, true), (11, true), (12, true), (13, false)]
  | 7, 29 => some [(0, true), (1, true), (2, true), (3, true), (4, true), (5, true), (6, true), (7, true), (8, true), (9, true), (10, true), (11, true), (12, true), (13, true), (14, true), (15, true), (16, true), (17, true), (18, true), (19, true), (20, false)]
  | 8, 17 => some [(0, true), (1, true), (2, true), (3, true), (4, true), (5, true), (6, true), (7, true), (8, true), (9, true), (10, true), (11, true), (12, true), (13, true), (14, true), (15, true), (16, true), (17, true), (18, true), (19, true), (20, true), (21, true), (22, false), (23, false)]
  | 8, 25 => some [(0, true), (1, true), (2, true), (3, true), (4, true), (5, true), (6, true), (7, true), (8, true), (9, true), (10, true), (11, true), (12, true), (13, true), (14, false)]
  | 12, 7 => some [(0, true), (1, true), (2, true), (3, true), (4, true), (5, true), (6, true), (7, true), (8, true), (9, true), (10, true), (11, true), (12, true), (13, true), (14, true), (15, true), (16, false), (17, false)]
  | 17, 17 => some [(0, true), (1, true), (2, true), (3, true), (4, true), (5, true), (6, true), (7, true), (8, true), (9, true), (10, true), (11, true), (12, true), (13, true), (14, true), (15, true), (16, true), (17, true), (18, true), (19, false), (20, false)]
  | 27, 20 => some [(10, true), (11, true), (0, true), (1, true), (2, true), (3, true), (4, true), (5, true), (6, false), (7, true), (8, true), (9, true), (12, false), (13, false)]
  | 28, 15 => some [(10, true), (11, true), (0, true), (1, true), (2, true), (3, true), (4, true), (5, true), (6, false), (7, true), (8, true), (9, true), (12, false), (13, false)]
  | 35, 1 => some [(0, true), (1, true), (2, true), (3, true), (5, true), (6, true), (7, true), (8, true), (9, true), (4, false), (10, false), (11, true)]
  | 40, 4 => some [(0, true), (1, true), (2, true), (5, true), (6, true), (7, true), (3, false), (4, false), (8, true), (9, true)]
  | 49, 8 => some [(0, true), (1, true), (2, true), (3, true), (4, true), (5, true), (6, true), (7, true), (9, true), (10, true), (11, true), (12, true), (13, true), (14, true), (8, false), (15, false), (16, true), (17, true), (18, false), (19, true), (20, true), (21, false)]
  | 51, 3 => some [(0, true), (1, true), (2, true), (3, true), (4, true), (5, true), (6, true), (7, true), (8, true), (9, true), (10, true), (11, true), (12, true), (13, true), (14, false), (15, false)]
  | 60, 4 => some [(0, true), (1, true), (2, true), (3, true), (4, true), (5, true), (7, true), (8, true), (9, true), (10, true), (11, true), (6, false), (12, false), (13, true)]
  | 101, 0 => some [(0, true), (1, true), (2, true), (3, true), (4, true), (5, true), (6, true), (7, true), (9, true), (10, true), (11, true), (12, true), (13, true), (8, false), (14, true), (15, true)]
  | _, _ => none
def xk : FuncId → Option XK
  | 76 => some (.same)
  | 108 => some (.nozero #[3] 65)
  | _ => none
def lv6 : Nat → Option (List Nat)
  | 6 => some [0, 1, 5, 7, 8, 9]
  | 7 => some [7, 8, 9, 10, 11]
  | 1000005 => some [0, 1, 5, 7, 8, 9, 29]
  | _ => none
def lv19 : Nat → Option (List Nat)
  | 4 => some [2, 3, 4, 5]
  | _ => none
def lv22 : Nat → Option (List Nat)
  | 5 => some [0, 4, 14, 15, 16]
  | 12 => some [4]
  | _ => none
def lv23 : Nat → Option (List Nat)
  | 3 => some [3, 6, 7, 8]
  | 7 => some [3]
  | _ => none
def lv25 : Nat → Option (List Nat)
  | 7 => some [7, 9]
  | _ => none
def lv29 : Nat → Option (List Nat)
  | 3 => some [0, 1, 5, 8]
  | _ => none
def lv30 : Nat → Option (List Nat)
  | 7 => some [3, 4, 5, 6]
  | 8 => some [2, 3, 4, 5]
  | _ => none
def lv46 : Nat → Option (List Nat)
  | 4 => some [0, 3]
  | 5 => some [0, 3]
  | 9 => some [0, 3, 4, 5]
  | 10 => some [0, 3, 4, 5]
  | 14 => some [0, 3]
  | 16 => some [0]
  | _ => none
def lv49 : Nat → Option (List Nat)
  | 5 => some [1, 6, 21, 22, 23]
  | 9 => some [1, 6, 21, 22, 23]
  | 10 => some [6]
  | 13 => some [6, 63, 64, 65]
  | 17 => some [6, 9, 10, 11, 63, 64, 65, 73, 74, 75]
  | 21 => some [6, 9, 10, 11, 63, 64, 65, 73, 74, 75]
  | 22 => some [6, 9, 10, 11, 63, 64, 65]
  | 25 => some [6, 63, 64, 65]
  | 26 => some [6]
  | _ => none
def lv51 : Nat → Option (List Nat)
  | 2 => some [0, 3, 5]
  | 5 => some [5]
  | _ => none
def lv53 : Nat → Option (List Nat)
  | 5 => some [0, 3, 4]
  | 8 => some [3]
  | _ => none
def lv54 : Nat → Option (List Nat)
  | 3 => some [0, 3, 4]
  | 7 => some [3]
  | _ => none
def lv65 : Nat → Option (List Nat)
  | 2 => some [0, 1, 2, 3, 8, 9]
  | 10 => some [0, 1, 2, 3, 8, 9, 10]
  | 15 => some [0, 1, 2, 3, 8, 9, 10, 11, 12]
  | 17 => some [0, 1, 2, 3, 8, 9, 10, 11]
  | 19 => some [0, 2, 3, 8, 9, 13]
  | 20 => some [0, 1, 2, 3, 10, 11]
  | 21 => some [0, 1, 2, 3, 10, 14, 15]
  | 27 => some [0, 2, 3, 8, 9, 14]
  | 30 => some [0, 1, 3, 8, 9, 14]
  | 1000016 => some [0, 1, 2, 3, 8, 9, 10, 11, 68]
  | _ => none
def lv67 : Nat → Option (List Nat)
  | 2 => some [0, 1, 7, 8]
  | 7 => some []
  | _ => none
def lv68 : Nat → Option (List Nat)
  | 5 => some [0, 1, 5, 6]
  | 6 => some [0, 1, 5, 6]
  | 11 => some [0, 5]
  | _ => none
def lv69 : Nat → Option (List Nat)
  | 4 => some [0, 3, 4, 5]
  | 5 => some [0, 3, 4, 5]
  | 7 => some [0, 3, 4, 5, 24, 25]
  | 12 => some [0, 3, 4, 5, 6, 7, 24, 25]
  | 14 => some [0, 3, 4, 5, 24, 25]
  | 15 => some [3]
  | _ => none
def lv71 : Nat → Option (List Nat)
  | 1 => some [0, 2, 3]
  | _ => none
def lv77 : Nat → Option (List Nat)
  | 7 => some [0, 1, 6, 24, 25]
  | 11 => some [0, 1, 6]
  | 14 => some [1, 6, 51, 52, 53]
  | 19 => some [1, 6]
  | _ => none
def lv83 : Nat → Option (List Nat)
  | 1 => some [0, 1, 2, 6]
  | 2 => some [0, 1, 2, 6]
  | 4 => some [0, 1, 2, 6, 7]
  | 5 => some [0, 1, 2, 6, 7]
  | _ => none
def lv84 : Nat → Option (List Nat)
  | 4 => some [0, 6, 7, 8, 9]
  | 7 => some [0, 6, 7, 8]
  | 8 => some [0, 6, 7, 10]
  | 9 => some [0, 6, 7, 10]
  | _ => none
def lv85 : Nat → Option (List Nat)
  | 5 => some [0, 1, 6, 7, 8, 9]
  | 6 => some [0, 1, 6, 7, 8, 9]
  | 10 => some [0, 1, 6, 7, 8, 9, 10]
  | _ => none
def lv86 : Nat → Option (List Nat)
  | 6 => some [0, 8, 9, 10, 11, 12]
  | 11 => some [0, 9, 10, 11, 12]
  | 12 => some [9, 11]
  | 1000015 => some [11, 49, 51]
  | _ => none
def lv87 : Nat → Option (List Nat)
  | 2 => some [0, 6, 7]
  | _ => none
def lv88 : Nat → Option (List Nat)
  | 3 => some [0, 1, 2, 7, 8]
  | 4 => some [0, 1, 2, 7, 8]
  | 5 => some [0, 1, 2, 7, 8]
  | 7 => some [0, 1, 2, 7, 8]
  | 12 => some [0, 1, 2, 7, 8]
  | 14 => some [0, 1, 2, 7, 8, 9]
  | 15 => some [0, 1, 2, 7, 8, 9]
  | 18 => some [0, 1, 2, 7, 8]
  | 20 => some [0, 1, 2, 7, 8, 10]
  | 21 => some [0, 1, 2, 7, 8, 10]
  | 24 => some []
  | _ => none
def lv90 : Nat → Option (List Nat)
  | 3 => some [0, 1, 9, 10]
  | 5 => some [0, 1, 9, 10]
  | 7 => some [0, 1, 9, 10]
  | 11 => some [9]
  | _ => none
def lv91 : Nat → Option (List Nat)
  | 3 => some [0, 1, 10, 11]
  | 5 => some [0, 1, 10, 11]
  | 7 => some [0, 1, 10, 11]
  | 11 => some [0, 1, 10, 11]
  | 13 => some [0, 1, 10, 11]
  | 15 => some [0, 1, 10, 11]
  | 17 => some [0, 1, 10, 11]
  | 21 => some [0, 1, 11]
  | _ => none
def lv92 : Nat → Option (List Nat)
  | 4 => some [0, 2]
  | 7 => some [0, 2]
  | _ => none
def lv93 : Nat → Option (List Nat)
  | 4 => some [0, 2]
  | 7 => some [0, 2]
  | 10 => some [0, 2]
  | _ => none
def lv94 : Nat → Option (List Nat)
  | 2 => some [0, 1, 7, 8]
  | 7 => some []
  | _ => none
def lv95 : Nat → Option (List Nat)
  | 5 => some [2, 4, 6, 8]
  | 8 => some [2, 4, 6, 10, 11]
  | 1000004 => some [2, 4, 6, 8, 50]
  | 1000007 => some [2, 4, 6, 10, 11, 73]
  | _ => none
def lv96 : Nat → Option (List Nat)
  | 3 => some [0, 3, 12, 13]
  | 7 => some [3]
  | _ => none
def lv102 : Nat → Option (List Nat)
  | 1 => some [0, 2, 3, 8]
  | 5 => some [0, 2, 3, 8, 9]
  | 7 => some [0, 2, 3, 9]
  | 1000004 => some [0, 2, 3, 8, 9, 36]
  | _ => none
def lv104 : Nat → Option (List Nat)
  | 4 => some [0]
  | _ => none
def lv106 : Nat → Option (List Nat)
  | 4 => some [2]
  | _ => none
def lv : FuncId → Nat → Option (List Nat)
  | 6 => lv6
  | 19 => lv19
  | 22 => lv22
  | 23 => lv23
  | 25 => lv25
  | 29 => lv29
  | 30 => lv30
  | 46 => lv46
  | 49 => lv49
  | 51 => lv51
  | 53 => lv53
  | 54 => lv54
  | 65 => lv65
  | 67 => lv67
  | 68 => lv68
  | 69 => lv69
  | 71 => lv71
  | 77 => lv77
  | 83 => lv83
  | 84 => lv84
  | 85 => lv85
  | 86 => lv86
  | 87 => lv87
  | 88 => lv88
  | 90 => lv90
  | 91 => lv91
  | 92 => lv92
  | 93 => lv93
  | 94 => lv94
  | 95 => lv95
  | 96 => lv96
  | 102 => lv102
  | 104 => lv104
  | 106 => lv106
  | _ => fun _ => none
noncomputable def cx (ρ : Addr → Option Value) : Ctx := { P := Try.prog, ext := xk, ρ := ρ, live := lv, draw := dr, pur := fun _ => false, strict := false }
end Go.Proofs.Ytkmohjddojpdjaa

-- part Ha0
/- Functions, lifted. Printed by a program of this repo. -/
set_option linter.unusedVariables false
set_option linter.unusedSimpArgs false
set_option maxRecDepth 100000
set_option maxHeartbeats 4000000
namespace Go.Proofs.Ytkmohjddojpdjaa
open Go.Ev Go.RowKit
-- haycroft/haycroftlaw20.HistoryApplies
noncomputable def c6 : Code := Code.of Try.prog 6
noncomputable def N6_2 (ρ : Addr → Option Value) (call : CallF) (yc : YieldF) (lim k : Nat) (x7 x8 x9 x10 x11 : AV) (H : Heap) (R : List AV → Heap → Res) : Res :=
  purK (addA 1 x10) fun x56_1 =>
  purK (ld1 ρ H x56_1) fun x57_1 =>
  purK (binA Try.prog H .eql 4 x8 x57_1) fun x58_1 =>
  purK (gPur (wantV x58_1 true) (some x8)) fun x60_1 =>
  purK (gPur (wantV x58_1 true) (unA .not x60_1)) fun x61_1 =>
  purK (gPur (wantV x58_1 true) (some x61_1)) fun x62_1 =>
  purK (gPur (wantV x62_1 false) (some x7)) fun x63_1 =>
  purK (gPur (wantV x62_1 false) (addA 0 x10)) fun x64_1 =>
  purK (gPur (wantV x62_1 false) (ld1 ρ H x64_1)) fun x65_1 =>
  purK (gPur (wantV x62_1 false) (binA Try.prog H .eql 9 x63_1 x65_1)) fun x66_1 =>
  purK (gPur (wantV x58_1 true) (pickA x62_1 (.bool true) x66_1)) fun x67_1 =>
  purK (pickA x58_1 x67_1 (.bool false)) fun x68_1 =>
  purK (gPur (wantV x68_1 true) (ldN ρ H 2 x9)) fun x70_1 =>
  purK (gPur (wantV x68_1 true) (ldN ρ H 2 x11)) fun x71_1 =>
  purK (gPur (wantV x68_1 true) (binA Try.prog H .eql 53 x70_1 x71_1)) fun x72_1 =>
  purK (pickA x68_1 x72_1 (.bool false)) fun x73_1 =>
  R [x73_1] H
theorem N6_2_eq (ρ : Addr → Option Value) (call : CallF) (yc : YieldF) (lim k : Nat) (x7 x8 x9 x10 x11 : AV) (H : Heap) (R : List AV → Heap → Res) :
    evL (cx ρ) call yc false 6 lim k (Code.at [1, 1, 1, 1, 1] c6) (sp 74 [(7, x7), (8, x8), (9, x9), (10, x10), (11, x11)]) H (kk none (fun s H => R (([6] : List Nat).map fun t => s.getD t (.tup [])) H) [] R [6]) = N6_2 ρ call yc lim k x7 x8 x9 x10 x11 H R := by
  kernel_rfl
noncomputable def N6_1 (ρ : Addr → Option Value) (call : CallF) (yc : YieldF) (lim k : Nat) (x0 x1 x5 x7 x8 x9 : AV) (H : Heap) (R : List AV → Heap → Res) : Res :=
  purK (bldA [.str ByteArray.empty, .bool false] [(0, 1, x0), (1, 1, x1)]) fun x50_1 =>
  purK (ldN ρ H 4 x5) fun x51_1 =>
  resK (call lim 30 [x50_1, x51_1] H) fun x52_1 H =>
  purK (extA 0 x52_1) fun x53_1 =>
  purK (extA 1 x52_1) fun x54_1 =>
  effK H (some (.ptr H.sz 0 0, .new (newCells 47 false [.str ByteArray.empty, .bool false]))) fun x10_1 H =>
  effK H (some (.ptr H.sz 0 0, .new (newCells 53 false [.int .i64 0, .str ByteArray.empty]))) fun x11_1 H =>
  effK H (stA lim H 2 x10_1 x53_1) fun _ H =>
  effK H (stA lim H 2 x11_1 x54_1) fun _ H =>
  N6_2 ρ call yc lim k x7 x8 x9 x10_1 x11_1 H R
theorem N6_1_x (ρ : Addr → Option Value) (call : CallF) (yc : YieldF) (lim k : Nat) (J : CodeF) (x0 x1 x5 x7 x8 x9 : AV) (H : Heap) (R : List AV → Heap → Res) :
    evX (cx ρ) call yc false 6 lim k J (Code.at [1, 1, 1, 1] c6) (sp 74 [(0, x0), (1, x1), (5, x5), (7, x7), (8, x8), (9, x9)]) H (kk none (fun s H => R (([6] : List Nat).map fun t => s.getD t (.tup [])) H) [] R [6]) =
  purK (bldA [.str ByteArray.empty, .bool false] [(0, 1, x0), (1, 1, x1)]) fun x50_1 =>
  purK (ldN ρ H 4 x5) fun x51_1 =>
  resK (call lim 30 [x50_1, x51_1] H) fun x52_1 H =>
  purK (extA 0 x52_1) fun x53_1 =>
  purK (extA 1 x52_1) fun x54_1 =>
  effK H (some (.ptr H.sz 0 0, .new (newCells 47 false [.str ByteArray.empty, .bool false]))) fun x10_1 H =>
  effK H (some (.ptr H.sz 0 0, .new (newCells 53 false [.int .i64 0, .str ByteArray.empty]))) fun x11_1 H =>
  effK H (stA lim H 2 x10_1 x53_1) fun _ H =>
  effK H (stA lim H 2 x11_1 x54_1) fun _ H =>
  J (Code.at [1, 1, 1, 1, 1] c6) (sp 74 [(7, x7), (8, x8), (9, x9), (10, x10_1), (11, x11_1)]) H (kk none (fun s H => R (([6] : List Nat).map fun t => s.getD t (.tup [])) H) [] R [6]) := by
  kernel_rfl
theorem N6_1_eq (ρ : Addr → Option Value) (call : CallF) (yc : YieldF) (lim k : Nat) (x0 x1 x5 x7 x8 x9 : AV) (H : Heap) (R : List AV → Heap → Res) :
    evL (cx ρ) call yc false 6 lim k (Code.at [1, 1, 1, 1] c6) (sp 74 [(0, x0), (1, x1), (5, x5), (7, x7), (8, x8), (9, x9)]) H (kk none (fun s H => R (([6] : List Nat).map fun t => s.getD t (.tup [])) H) [] R [6]) = N6_1 ρ call yc lim k x0 x1 x5 x7 x8 x9 H R := by
  rw [evL_X, N6_1_x]
  simp only [← evL_X, N6_1, N6_2_eq]
noncomputable def N6_3 (ρ : Addr → Option Value) (call : CallF) (yc : YieldF) (lim k : Nat) (x0 x1 x5 x7 x8 x9 x29 : AV) (H : Heap) (kn : AV → AV → AV → AV → AV → AV → Heap → Res) (R : List AV → Heap → Res) : Res :=
  condK x29
  (
    purK (binA Try.prog H .eql 4 x8 x1) fun x32_1 =>
    purK (gPur (wantV x32_1 true) (some x1)) fun x34_1 =>
    purK (gPur (wantV x32_1 true) (unA .not x34_1)) fun x35_1 =>
    purK (gPur (wantV x32_1 true) (some x35_1)) fun x36_1 =>
    purK (gPur (wantV x36_1 false) (some x7)) fun x37_1 =>
    purK (gPur (wantV x36_1 false) (some x0)) fun x38_1 =>
    purK (gPur (wantV x36_1 false) (binA Try.prog H .eql 9 x37_1 x38_1)) fun x39_1 =>
    purK (gPur (wantV x32_1 true) (pickA x36_1 (.bool true) x39_1)) fun x40_1 =>
    purK (pickA x32_1 x40_1 (.bool false)) fun x41_1 =>
    purK (gPur (wantV x41_1 true) (ldN ρ H 2 x9)) fun x43_1 =>
    purK (gPur (wantV x41_1 true) (bldA [.int .i64 0, .str ByteArray.empty] [(0, 1, (.int .i64 1))])) fun x44_1 =>
    purK (gPur (wantV x41_1 true) (binA Try.prog H .eql 53 x43_1 x44_1)) fun x45_1 =>
    purK (pickA x41_1 x45_1 (.bool false)) fun x46_1 =>
    R [x46_1] H)
  (
    kn x0 x1 x5 x7 x8 x9 H)
theorem N6_3_eq (ρ : Addr → Option Value) (call : CallF) (yc : YieldF) (lim k : Nat) (x0 x1 x5 x7 x8 x9 x29 : AV) (H : Heap) (kn : KS) (R : List AV → Heap → Res) :
    evL (cx ρ) call yc false 6 lim k (Code.at [1, 1, 1, 0, 1] c6) (sp 74 [(0, x0), (1, x1), (5, x5), (7, x7), (8, x8), (9, x9), (29, x29)]) H (kk (some [0, 1, 5, 7, 8, 9]) kn [] R [6]) = N6_3 ρ call yc lim k x0 x1 x5 x7 x8 x9 x29 H (fun x0 x1 x5 x7 x8 x9 H => kn (sp 74 [(0, x0), (1, x1), (5, x5), (7, x7), (8, x8), (9, x9)]) H) R := by
  kernel_rfl
noncomputable def L6 (ρ : Addr → Option Value) (call : CallF) (yc : YieldF) (lim k : Nat) (x0 x1 x2 : AV) (H : Heap) : Res :=
  effK H (boxA H 51 x2) fun x5 H =>
  resK (call lim 19 [] H) fun x12 H =>
  purK (unA .not x12) fun x13 =>
  condK x13
  (
    retK [(.bool false)] H)
  (
    purK (ldN ρ H 4 x5) fun x17 =>
    resK (call lim 29 [x0, x1, x17] H) fun x18 H =>
    purK (extA 0 x18) fun x19 =>
    purK (extA 1 x18) fun x20 =>
    purK (extA 2 x18) fun x21 =>
    effK H (some (.ptr H.sz 0 0, .new (newCells 53 false [.int .i64 0, .str ByteArray.empty]))) fun x9 H =>
    effK H (stA lim H 2 x9 x21) fun _ H =>
    purK (addA 0 x5) fun x22 =>
    purK (ld1 ρ H x22) fun x23 =>
    purK (binA Try.prog H .lss 3 x23 (.int .i64 1)) fun x24 =>
    purK (gPur (wantV x24 false) (addA 0 x5)) fun x26 =>
    purK (gPur (wantV x24 false) (ld1 ρ H x26)) fun x27 =>
    purK (gPur (wantV x24 false) (binA Try.prog H .gtr 3 x27 (.int .i64 4))) fun x28 =>
    purK (pickA x24 (.bool true) x28) fun x29 =>
    N6_3 ρ call yc lim k x0 x1 x5 x19 x20 x9 x29 H (fun x0_1 x1_1 x5_1 x7 x8 x9_1 H =>
      N6_1 ρ call yc lim k x0_1 x1_1 x5_1 x7 x8 x9_1 H retK) retK)
theorem L6_x (ρ : Addr → Option Value) (call : CallF) (yc : YieldF) (lim k : Nat) (J : CodeF) (x0 x1 x2 : AV) (H : Heap) :
    evX (cx ρ) call yc false 6 lim k J c6 [x0, x1, x2, (.tup []), (.tup []), (.tup []), (.tup []), (.tup []), (.tup []), (.tup []), (.tup []), (.tup []), (.tup []), (.tup []), (.tup []), (.tup []), (.tup []), (.tup []), (.tup []), (.tup []), (.tup []), (.tup []), (.tup []), (.tup []), (.tup []), (.tup []), (.tup []), (.tup []), (.tup []), (.tup []), (.tup []), (.tup []), (.tup []), (.tup []), (.tup []), (.tup []), (.tup []), (.tup []), (.tup []), (.tup []), (.tup []), (.tup []), (.tup []), (.tup []), (.tup []), (.tup []), (.tup []), (.tup []), (.tup []), (.tup []), (.tup []), (.tup []), (.tup []), (.tup []), (.tup []), (.tup []), (.tup []), (.tup []), (.tup []), (.tup []), (.tup []), (.tup []), (.tup []), (.tup []), (.tup []), (.tup []), (.tup []), (.tup []), (.tup []), (.tup []), (.tup []), (.tup []), (.tup []), (.tup [])] H (kk none (fun s H => retK (([6] : List Nat).map fun t => s.getD t (.tup [])) H) [] retK [6]) =
  effK H (boxA H 51 x2) fun x5 H =>
  resK (call lim 19 [] H) fun x12 H =>
  purK (unA .not x12) fun x13 =>
  condK x13
  (
    retK [(.bool false)] H)
  (
    purK (ldN ρ H 4 x5) fun x17 =>
    resK (call lim 29 [x0, x1, x17] H) fun x18 H =>
    purK (extA 0 x18) fun x19 =>
    purK (extA 1 x18) fun x20 =>
    purK (extA 2 x18) fun x21 =>
    effK H (some (.ptr H.sz 0 0, .new (newCells 53 false [.int .i64 0, .str ByteArray.empty]))) fun x9 H =>
    effK H (stA lim H 2 x9 x21) fun _ H =>
    purK (addA 0 x5) fun x22 =>
    purK (ld1 ρ H x22) fun x23 =>
    purK (binA Try.prog H .lss 3 x23 (.int .i64 1)) fun x24 =>
    purK (gPur (wantV x24 false) (addA 0 x5)) fun x26 =>
    purK (gPur (wantV x24 false) (ld1 ρ H x26)) fun x27 =>
    purK (gPur (wantV x24 false) (binA Try.prog H .gtr 3 x27 (.int .i64 4))) fun x28 =>
    purK (pickA x24 (.bool true) x28) fun x29 =>
    J (Code.at [1, 1, 1, 0, 1] c6) (sp 74 [(0, x0), (1, x1), (5, x5), (7, x19), (8, x20), (9, x9), (29, x29)]) H (kk (some [0, 1, 5, 7, 8, 9]) (fun s H => J (Code.at [1, 1, 1, 1] c6) s H (kk none (fun s H => retK (([6] : List Nat).map fun t => s.getD t (.tup [])) H) [] retK [6])) [] retK [6])) := by
  kernel_rfl
theorem G6 (ρ : Addr → Option Value) (call : CallF) (yc : YieldF) (lim k : Nat) (x0 x1 x2 : AV) (H : Heap) :
    evL (cx ρ) call yc false 6 lim k c6 [x0, x1, x2, (.tup []), (.tup []), (.tup []), (.tup []), (.tup []), (.tup []), (.tup []), (.tup []), (.tup []), (.tup []), (.tup []), (.tup []), (.tup []), (.tup []), (.tup []), (.tup []), (.tup []), (.tup []), (.tup []), (.tup []), (.tup []), (.tup []), (.tup []), (.tup []), (.tup []), (.tup []), (.tup []), (.tup []), (.tup []), (.tup []), (.tup []), (.tup []), (.tup []), (.tup []), (.tup []), (.tup []), (.tup []), (.tup []), (.tup []), (.tup []), (.tup []), (.tup []), (.tup []), (.tup []), (.tup []), (.tup []), (.tup []), (.tup []), (.tup []), (.tup []), (.tup []), (.tup []), (.tup []), (.tup []), (.tup []), (.tup []), (.tup []), (.tup []), (.tup []), (.tup []), (.tup []), (.tup []), (.tup []), (.tup []), (.tup []), (.tup []), (.tup []), (.tup []), (.tup []), (.tup []), (.tup [])] H (kk none (fun s H => retK (([6] : List Nat).map fun t => s.getD t (.tup [])) H) [] retK [6]) = L6 ρ call yc lim k x0 x1 x2 H := by
  rw [evL_X, L6_x]
  simp only [← evL_X, L6, N6_1_eq, N6_3_eq]
theorem E6 (ρ : Addr → Option Value) (k lim : Nat) (x0 x1 x2 : AV) (H : Heap) : evCall (cx ρ) (k + 1) lim 6 [x0, x1, x2] H = L6 ρ (evCall (cx ρ) k) (evCY (cx ρ) k).2 lim k x0 x1 x2 H := by
  rw [evCall_body (cx ρ) k lim 6 _ H Try.f6 c6 [6] (by kernel_rfl) (by kernel_rfl) (by kernel_rfl) (by kernel_rfl) (by kernel_rfl)]
  exact G6 ρ (evCall (cx ρ) k) (evCY (cx ρ) k).2 lim k x0 x1 x2 H
-- haycroft/haycroftlaw20.awake
noncomputable def c19 : Code := Code.of Try.prog 19
noncomputable def N19_1 (ρ : Addr → Option Value) (call : CallF) (yc : YieldF) (lim k : Nat) (x2 x3 x4 x5 : AV) (H : Heap) (R : List AV → Heap → Res) : Res :=
  purK (gPur (wantV x2 true) (some x3)) fun x27_1 =>
  purK (gPur (wantV x2 true) (binA Try.prog H .eql 25 x27_1 (.int .i64 0))) fun x28_1 =>
  purK (pickA x2 x28_1 (.bool false)) fun x29_1 =>
  purK (gPur (wantV x29_1 true) (some x4)) fun x31_1 =>
  purK (gPur (wantV x29_1 true) (unA .not x31_1)) fun x32_1 =>
  purK (pickA x29_1 x32_1 (.bool false)) fun x33_1 =>
  purK (gPur (wantV x33_1 true) (some x5)) fun x35_1 =>
  purK (gPur (wantV x33_1 true) (binA Try.prog H .eql 25 x35_1 (.int .i64 0))) fun x36_1 =>
  purK (pickA x33_1 x36_1 (.bool false)) fun x37_1 =>
  R [x37_1] H
theorem N19_1_eq (ρ : Addr → Option Value) (call : CallF) (yc : YieldF) (lim k : Nat) (x2 x3 x4 x5 : AV) (H : Heap) (R : List AV → Heap → Res) :
    evL (cx ρ) call yc false 19 lim k (Code.at [1, 1, 1, 1] c19) (sp 38 [(2, x2), (3, x3), (4, x4), (5, x5)]) H (kk none (fun s H => R (([0] : List Nat).map fun t => s.getD t (.tup [])) H) [] R [0]) = N19_1 ρ call yc lim k x2 x3 x4 x5 H R := by
  kernel_rfl
noncomputable def L19 (ρ : Addr → Option Value) (call : CallF) (yc : YieldF) (lim k : Nat) (H : Heap) : Res :=
  purK (bldA [.int .i64 0, .str ByteArray.empty, .str ByteArray.empty, .int .u64 0] [(0, 1, (.int .i64 1)), (1, 1, (.str (ByteArray.mk #[107])))]) fun x6 =>
  purK (bldA [.int .i64 0, .str ByteArray.empty] [(1, 1, (.str (ByteArray.mk #[49])))]) fun x7 =>
  purK (bldA [.int .i64 0, .str ByteArray.empty, .str ByteArray.empty, .int .u64 0, .int .i64 0, .str ByteArray.empty, .int .i64 0, .int .i64 0] [(0, 4, x6), (4, 2, x7), (6, 1, (.int .i64 1)), (7, 1, (.int .i64 4))]) fun x8 =>
  effK H (some (.ptr H.sz 0 0, .new (newCells 55 false [.int .i64 0, .str ByteArray.empty, .str ByteArray.empty, .int .u64 0, .int .i64 0, .str ByteArray.empty, .int .i64 0, .int .i64 0]))) fun x1 H =>
  effK H (stA lim H 8 x1 x8) fun _ H =>
  purK (ldN ρ H 8 x1) fun x10 =>
  purK (bldA [.int .i64 0, .str ByteArray.empty, .str ByteArray.empty, .int .u64 0] [(0, 1, (.int .i64 2)), (1, 1, (.str (ByteArray.mk #[107]))), (2, 1, (.str (ByteArray.mk #[49])))]) fun x11 =>
  purK (bldA [.int .i64 0, .str ByteArray.empty, .str ByteArray.empty, .int .u64 0, .int .i64 0, .str ByteArray.empty, .int .i64 0, .int .i64 0] [(0, 4, x11), (6, 1, (.int .i64 2))]) fun x12 =>
  effK H (bldS H 55 8 [.int .i64 0, .str ByteArray.empty, .str ByteArray.empty, .int .u64 0, .int .i64 0, .str ByteArray.empty, .int .i64 0, .int .i64 0] 2 [(0, 8, x10), (8, 8, x12)]) fun x13 H =>
  resK (call lim 22 [x13] H) fun x14 H =>
  purK (extA 0 x14) fun x15 =>
  purK (extA 1 x14) fun x16 =>
  purK (ldN ρ H 8 x1) fun x18 =>
  purK (bldA [.int .i64 0, .str ByteArray.empty, .str ByteArray.empty, .int .u64 0] [(0, 1, (.int .i64 2)), (1, 1, (.str (ByteArray.mk #[107]))), (2, 1, (.str (ByteArray.mk #[49])))]) fun x19 =>
  purK (bldA [.int .i64 0, .str ByteArray.empty, .str ByteArray.empty, .int .u64 0, .int .i64 0, .str ByteArray.empty, .int .i64 0, .int .i64 0] [(0, 4, x19), (6, 1, (.int .i64 5))]) fun x20 =>
  effK H (bldS H 55 8 [.int .i64 0, .str ByteArray.empty, .str ByteArray.empty, .int .u64 0, .int .i64 0, .str ByteArray.empty, .int .i64 0, .int .i64 0] 2 [(0, 8, x18), (8, 8, x20)]) fun x21 H =>
  resK (call lim 22 [x21] H) fun x22 H =>
  purK (extA 0 x22) fun x23 =>
  purK (extA 1 x22) fun x24 =>
  N19_1 ρ call yc lim k x15 x16 x23 x24 H retK
theorem L19_x (ρ : Addr → Option Value) (call : CallF) (yc : YieldF) (lim k : Nat) (J : CodeF) (H : Heap) :
    evX (cx ρ) call yc false 19 lim k J c19 [(.tup []), (.tup []), (.tup []), (.tup []), (.tup []), (.tup []), (.tup []), (.tup []), (.tup []), (.tup []), (.tup []), (.tup []), (.tup []), (.tup []), (.tup []), (.tup []), (.tup []), (.tup []), (.tup []), (.tup []), (.tup []), (.tup []), (.tup []), (.tup []), (.tup []), (.tup []), (.tup []), (.tup []), (.tup []), (.tup []), (.tup []), (.tup []), (.tup []), (.tup []), (.tup []), (.tup []), (.tup []), (.tup [])] H (kk none (fun s H => retK (([0] : List Nat).map fun t => s.getD t (.tup [])) H) [] retK [0]) =
  purK (bldA [.int .i64 0, .str ByteArray.empty, .str ByteArray.empty, .int .u64 0] [(0, 1, (.int .i64 1)), (1, 1, (.str (ByteArray.mk #[107])))]) fun x6 =>
  purK (bldA [.int .i64 0, .str ByteArray.empty] [(1, 1, (.str (ByteArray.mk #[49])))]) fun x7 =>
  purK (bldA [.int .i64 0, .str ByteArray.empty, .str ByteArray.empty, .int .u64 0, .int .i64 0, .str ByteArray.empty, .int .i64 0, .int .i64 0] [(0, 4, x6), (4, 2, x7), (6, 1, (.int .i64 1)), (7, 1, (.int .i64 4))]) fun x8 =>
  effK H (some (.ptr H.sz 0 0, .new (newCells 55 false [.int .i64 0, .str ByteArray.empty, .str ByteArray.empty, .int .u64 0, .int .i64 0, .str ByteArray.empty, .int .i64 0, .int .i64 0]))) fun x1 H =>
  effK H (stA lim H 8 x1 x8) fun _ H =>
  purK (ldN ρ H 8 x1) fun x10 =>
  purK (bldA [.int .i64 0, .str ByteArray.empty, .str ByteArray.empty, .int .u64 0] [(0, 1, (.int .i64 2)), (1, 1, (.str (ByteArray.mk #[107]))), (2, 1, (.str (ByteArray.mk #[49])))]) fun x11 =>
  purK (bldA [.int .i64 0, .str ByteArray.empty, .str ByteArray.empty, .int .u64 0, .int .i64 0, .str ByteArray.empty, .int .i64 0, .int .i64 0] [(0, 4, x11), (6, 1, (.int .i64 2))]) fun x12 =>
  effK H (bldS H 55 8 [.int .i64 0, .str ByteArray.empty, .str ByteArray.empty, .int .u64 0, .int .i64 0, .str ByteArray.empty, .int .i64 0, .int .i64 0] 2 [(0, 8, x10), (8, 8, x12)]) fun x13 H =>
  resK (call lim 22 [x13] H) fun x14 H =>
  purK (extA 0 x14) fun x15 =>
  purK (extA 1 x14) fun x16 =>
  purK (ldN ρ H 8 x1) fun x18 =>
  purK (bldA [.int .i64 0, .str ByteArray.empty, .str ByteArray.empty, .int .u64 0] [(0, 1, (.int .i64 2)), (1, 1, (.str (ByteArray.mk #[107]))), (2, 1, (.str (ByteArray.mk #[49])))]) fun x19 =>
  purK (bldA [.int .i64 0, .str ByteArray.empty, .str ByteArray.empty, .int .u64 0, .int .i64 0, .str ByteArray.empty, .int .i64 0, .int .i64 0] [(0, 4, x19), (6, 1, (.int .i64 5))]) fun x20 =>
  effK H (bldS H 55 8 [.int .i64 0, .str ByteArray.empty, .str ByteArray.empty, .int .u64 0, .int .i64 0, .str ByteArray.empty, .int .i64 0, .int .i64 0] 2 [(0, 8, x18), (8, 8, x20)]) fun x21 H =>
  resK (call lim 22 [x21] H) fun x22 H =>
  purK (extA 0 x22) fun x23 =>
  purK (extA 1 x22) fun x24 =>
  J (Code.at [1, 1, 1, 1] c19) (sp 38 [(2, x15), (3, x16), (4, x23), (5, x24)]) H (kk none (fun s H => retK (([0] : List Nat).map fun t => s.getD t (.tup [])) H) [] retK [0]) := by
  kernel_rfl
theorem G19 (ρ : Addr → Option Value) (call : CallF) (yc : YieldF) (lim k : Nat) (H : Heap) :
    evL (cx ρ) call yc false 19 lim k c19 [(.tup []), (.tup []), (.tup []), (.tup []), (.tup []), (.tup []), (.tup []), (.tup []), (.tup []), (.tup []), (.tup []), (.tup []), (.tup []), (.tup []), (.tup []), (.tup []), (.tup []), (.tup []), (.tup []), (.tup []), (.tup []), (.tup []), (.tup []), (.tup []), (.tup []), (.tup []), (.tup []), (.tup []), (.tup []), (.tup []), (.tup []), (.tup []), (.tup []), (.tup []), (.tup []), (.tup []), (.tup []), (.tup [])] H (kk none (fun s H => retK (([0] : List Nat).map fun t => s.getD t (.tup [])) H) [] retK [0]) = L19 ρ call yc lim k H := by
  rw [evL_X, L19_x]
  simp only [← evL_X, L19, N19_1_eq]
theorem E19 (ρ : Addr → Option Value) (k lim : Nat) (H : Heap) : evCall (cx ρ) (k + 1) lim 19 [] H = L19 ρ (evCall (cx ρ) k) (evCY (cx ρ) k).2 lim k H := by
  rw [evCall_body (cx ρ) k lim 19 _ H Try.f19 c19 [0] (by kernel_rfl) (by kernel_rfl) (by kernel_rfl) (by kernel_rfl) (by kernel_rfl)]
  exact G19 ρ (evCall (cx ρ) k) (evCY (cx ρ) k).2 lim k H
-- haycroft/history.Check
noncomputable def c22 : Code := Code.of Try.prog 22
noncomputable def N22_1 (ρ : Addr → Option Value) (call : CallF) (yc : YieldF) (lim k : Nat) (x4 : AV) (H : Heap) (R : List AV → Heap → Res) : Res :=
  R [x4, (.int .i64 0)] H
theorem N22_1_eq (ρ : Addr → Option Value) (call : CallF) (yc : YieldF) (lim k : Nat) (x4 : AV) (H : Heap) (R : List AV → Heap → Res) :
    evL (cx ρ) call yc false 22 lim k (Code.at [1, 1, 1, 1] c22) (sp 36 [(4, x4)]) H (kk none (fun s H => R (([2, 3] : List Nat).map fun t => s.getD t (.tup [])) H) [] R [2, 3]) = N22_1 ρ call yc lim k x4 H R := by
  kernel_rfl
noncomputable def N22_3b (ρ : Addr → Option Value) (call : CallF) (yc : YieldF) (lim k : Nat) (x0 x4 x14 x15 x16 : AV) (H : Heap) (kn : AV → AV → Heap → Res) (k0 : AV → Heap → Res) (R : List AV → Heap → Res) : Res :=
  purK (binA Try.prog H .lss 3 x16 x15) fun x17_1 =>
  condK x17_1
  (
    purK (ixS 1 x14 x16) fun x18_1 =>
    purK (ld1 ρ H x18_1) fun x19_1 =>
    resK (call lim 25 [x0, x19_1] H) fun x23_1 H =>
    purK (extA 0 x23_1) fun x24_1 =>
    purK (extA 1 x23_1) fun x25_1 =>
    purK (extA 2 x23_1) fun x26_1 =>
    purK (binA Try.prog H .neq 25 x26_1 (.int .i64 0)) fun x28_1 =>
    condK x28_1
    (
      R [(.bool false), x26_1] H)
    (
      purK (gPur (wantV x4 true) (some x25_1)) fun x32_1 =>
      purK (pickA x4 x32_1 (.bool false)) fun x33_1 =>
      purK (binA Try.prog H .add 3 x16 (.int .i64 1)) fun x34_1 =>
      kn x33_1 x34_1 H))
  (
    k0 x4 H)
theorem N22_3b_eq (ρ : Addr → Option Value) (call : CallF) (yc : YieldF) (lim k : Nat) (x0 x4 x14 x15 x16 : AV) (H : Heap) (kn : KS) (k0 : KS) (R : List AV → Heap → Res) :
    evL (cx ρ) call yc false 22 lim k (Code.at [1, 1, 1, 0, 1, 0, 0] c22) (sp 36 [(0, x0), (4, x4), (14, x14), (15, x15), (16, x16)]) H (kk (some [0, 4, 14, 15, 16]) kn [(0, (some [4]), k0)] R [2, 3]) = N22_3b ρ call yc lim k x0 x4 x14 x15 x16 H (fun x4 x16 H => kn (sp 36 [(0, x0), (4, x4), (14, x14), (15, x15), (16, x16)]) H) (fun x4 H => k0 (sp 36 [(4, x4)]) H) R := by
  kernel_rfl
noncomputable def N22_3 (ρ : Addr → Option Value) (call : CallF) (yc : YieldF) (lim k : Nat) (x0 x4 x14 x15 x16 : AV) (H : Heap) (k0 : AV → Heap → Res) (R : List AV → Heap → Res) : Res :=
  loopL (fun (x : AV × AV) H kn => N22_3b ρ call yc lim k x0 x.1 x14 x15 x.2 H (fun x4 x16 H => kn (x4, x16) H) k0 R) k (x4, x16) H
theorem N22_3_eq (ρ : Addr → Option Value) (call : CallF) (yc : YieldF) (lim k : Nat) (x0 x4 x14 x15 x16 : AV) (H : Heap) (kn : KS) (k0 : KS) (R : List AV → Heap → Res) :
    evL (cx ρ) call yc false 22 lim k (Code.at [1, 1, 1, 0, 1, 0] c22) (sp 36 [(0, x0), (4, x4), (14, x14), (15, x15), (16, x16)]) H (kk (some [4]) kn [(0, (some [4]), k0)] R [2, 3]) = N22_3 ρ call yc lim k x0 x4 x14 x15 x16 H (fun x4 H => k0 (sp 36 [(4, x4)]) H) R := by
  have e : Code.at [1, 1, 1, 0, 1, 0] c22 = .loop (Code.at [1, 1, 1, 0, 1, 0, 0] c22) := by kernel_rfl
  rw [e]
  unfold N22_3
  exact loop_node [0, 4, 14, 15, 16] (fun x : AV × AV => (sp 36 [(0, x0), (4, (x.1)), (14, x14), (15, x15), (16, (x.2))])) (fun (x : AV × AV) H kn => N22_3b ρ call yc lim k x0 x.1 x14 x15 x.2 H (fun x4 x16 H => kn (x4, x16) H) (fun x4 H => k0 (sp 36 [(4, x4)]) H) R) (by kernel_rfl) (fun x => by kernel_rfl) (fun x H kn => N22_3b_eq ρ call yc lim k x0 (x.1) x14 x15 (x.2) H kn k0 R) (x4, x16) (sp 36 [(0, x0), (4, x4), (14, x14), (15, x15), (16, x16)]) H (by kernel_rfl)
noncomputable def N22_2 (ρ : Addr → Option Value) (call : CallF) (yc : YieldF) (lim k : Nat) (x0 x4 x14 x15 x16 : AV) (H : Heap) (kn : AV → Heap → Res) (R : List AV → Heap → Res) : Res :=
  N22_3 ρ call yc lim k x0 x4 x14 x15 x16 H kn R
theorem N22_2_x (ρ : Addr → Option Value) (call : CallF) (yc : YieldF) (lim k : Nat) (J : CodeF) (x0 x4 x14 x15 x16 : AV) (H : Heap) (kn : KS) (R : List AV → Heap → Res) :
    evX (cx ρ) call yc false 22 lim k J (Code.at [1, 1, 1, 0, 1] c22) (sp 36 [(0, x0), (4, x4), (14, x14), (15, x15), (16, x16)]) H (kk (some [4]) kn [] R [2, 3]) =
  J (Code.at [1, 1, 1, 0, 1, 0] c22) (sp 36 [(0, x0), (4, x4), (14, x14), (15, x15), (16, x16)]) H (kk (some [4]) kn [(0, (some [4]), kn)] R [2, 3]) := by
  kernel_rfl
theorem N22_2_eq (ρ : Addr → Option Value) (call : CallF) (yc : YieldF) (lim k : Nat) (x0 x4 x14 x15 x16 : AV) (H : Heap) (kn : KS) (R : List AV → Heap → Res) :
    evL (cx ρ) call yc false 22 lim k (Code.at [1, 1, 1, 0, 1] c22) (sp 36 [(0, x0), (4, x4), (14, x14), (15, x15), (16, x16)]) H (kk (some [4]) kn [] R [2, 3]) = N22_2 ρ call yc lim k x0 x4 x14 x15 x16 H (fun x4 H => kn (sp 36 [(4, x4)]) H) R := by
  rw [evL_X, N22_2_x]
  simp only [← evL_X, N22_2, N22_3_eq]
noncomputable def L22 (ρ : Addr → Option Value) (call : CallF) (yc : YieldF) (lim k : Nat) (x0 : AV) (H : Heap) : Res :=
  resK (call lim 24 [x0] H) fun x11 H =>
  purK (unA .not x11) fun x12 =>
  condK x12
  (
    retK [(.bool false), (.int .i64 1)] H)
  (
    resK (call lim 23 [x0] H) fun x14 H =>
    purK (lenS x14) fun x15 =>
    N22_2 ρ call yc lim k x0 (.bool true) x14 x15 (.int .i64 0) H (fun x4 H =>
      N22_1 ρ call yc lim k x4 H retK) retK)
theorem L22_x (ρ : Addr → Option Value) (call : CallF) (yc : YieldF) (lim k : Nat) (J : CodeF) (x0 : AV) (H : Heap) :
    evX (cx ρ) call yc false 22 lim k J c22 [x0, (.tup []), (.tup []), (.tup []), (.tup []), (.tup []), (.tup []), (.tup []), (.tup []), (.tup []), (.tup []), (.tup []), (.tup []), (.tup []), (.tup []), (.tup []), (.tup []), (.tup []), (.tup []), (.tup []), (.tup []), (.tup []), (.tup []), (.tup []), (.tup []), (.tup []), (.tup []), (.tup []), (.tup []), (.tup []), (.tup []), (.tup []), (.tup []), (.tup []), (.tup []), (.tup [])] H (kk none (fun s H => retK (([2, 3] : List Nat).map fun t => s.getD t (.tup [])) H) [] retK [2, 3]) =
  resK (call lim 24 [x0] H) fun x11 H =>
  purK (unA .not x11) fun x12 =>
  condK x12
  (
    retK [(.bool false), (.int .i64 1)] H)
  (
    resK (call lim 23 [x0] H) fun x14 H =>
    purK (lenS x14) fun x15 =>
    J (Code.at [1, 1, 1, 0, 1] c22) (sp 36 [(0, x0), (4, (.bool true)), (14, x14), (15, x15), (16, (.int .i64 0))]) H (kk (some [4]) (fun s H => J (Code.at [1, 1, 1, 1] c22) s H (kk none (fun s H => retK (([2, 3] : List Nat).map fun t => s.getD t (.tup [])) H) [] retK [2, 3])) [] retK [2, 3])) := by
  kernel_rfl
theorem G22 (ρ : Addr → Option Value) (call : CallF) (yc : YieldF) (lim k : Nat) (x0 : AV) (H : Heap) :
    evL (cx ρ) call yc false 22 lim k c22 [x0, (.tup []), (.tup []), (.tup []), (.tup []), (.tup []), (.tup []), (.tup []), (.tup []), (.tup []), (.tup []), (.tup []), (.tup []), (.tup []), (.tup []), (.tup []), (.tup []), (.tup []), (.tup []), (.tup []), (.tup []), (.tup []), (.tup []), (.tup []), (.tup []), (.tup []), (.tup []), (.tup []), (.tup []), (.tup []), (.tup []), (.tup []), (.tup []), (.tup []), (.tup []), (.tup [])] H (kk none (fun s H => retK (([2, 3] : List Nat).map fun t => s.getD t (.tup [])) H) [] retK [2, 3]) = L22 ρ call yc lim k x0 H := by
  rw [evL_X, L22_x]
  simp only [← evL_X, L22, N22_1_eq, N22_2_eq]
theorem E22 (ρ : Addr → Option Value) (k lim : Nat) (x0 : AV) (H : Heap) : evCall (cx ρ) (k + 1) lim 22 [x0] H = L22 ρ (evCall (cx ρ) k) (evCY (cx ρ) k).2 lim k x0 H := by
  rw [evCall_body (cx ρ) k lim 22 _ H Try.f22 c22 [2, 3] (by kernel_rfl) (by kernel_rfl) (by kernel_rfl) (by kernel_rfl) (by kernel_rfl)]
  exact G22 ρ (evCall (cx ρ) k) (evCY (cx ρ) k).2 lim k x0 H
-- haycroft/history.Keys
noncomputable def c23 : Code := Code.of Try.prog 23
noncomputable def N23_1 (ρ : Addr → Option Value) (call : CallF) (yc : YieldF) (lim k : Nat) (x3 : AV) (H : Heap) (R : List AV → Heap → Res) : Res :=
  resK (call lim 45 [x3] H) fun x20_1 H =>
  resK (call lim 46 [x3] H) fun x22_1 H =>
  R [x22_1] H
theorem N23_1_eq (ρ : Addr → Option Value) (call : CallF) (yc : YieldF) (lim k : Nat) (x3 : AV) (H : Heap) (R : List AV → Heap → Res) :
    evL (cx ρ) call yc false 23 lim k (Code.at [1, 1, 1] c23) (sp 23 [(3, x3)]) H (kk none (fun s H => R (([2] : List Nat).map fun t => s.getD t (.tup [])) H) [] R [2]) = N23_1 ρ call yc lim k x3 H R := by
  kernel_rfl
noncomputable def N23_3b (ρ : Addr → Option Value) (call : CallF) (yc : YieldF) (lim k : Nat) (x3 x6 x7 x8 : AV) (H : Heap) (kn : AV → AV → Heap → Res) (k0 : AV → Heap → Res) : Res :=
  purK (binA Try.prog H .lss 3 x8 x7) fun x9_1 =>
  condK x9_1
  (
    purK (ixS 8 x6 x8) fun x10_1 =>
    purK (ldN ρ H 8 x10_1) fun x11_1 =>
    effK H (some (.ptr H.sz 0 0, .new (newCells 55 false [.int .i64 0, .str ByteArray.empty, .str ByteArray.empty, .int .u64 0, .int .i64 0, .str ByteArray.empty, .int .i64 0, .int .i64 0]))) fun x5_1 H =>
    effK H (stA lim H 8 x5_1 x11_1) fun _ H =>
    purK (addA 0 x5_1) fun x13_1 =>
    purK (addA 1 x13_1) fun x14_1 =>
    purK (ld1 ρ H x14_1) fun x15_1 =>
    effK H (bldS H 9 1 [.str ByteArray.empty] 1 [(0, 1, x15_1)]) fun x16_1 H =>
    effK H (apA ρ lim H 9 1 16 x3 x16_1) fun x17_1 H =>
    purK (binA Try.prog H .add 3 x8 (.int .i64 1)) fun x18_1 =>
    kn x17_1 x18_1 H)
  (
    k0 x3 H)
theorem N23_3b_eq (ρ : Addr → Option Value) (call : CallF) (yc : YieldF) (lim k : Nat) (x3 x6 x7 x8 : AV) (H : Heap) (kn : KS) (k0 : KS) (R : List AV → Heap → Res) :
    evL (cx ρ) call yc false 23 lim k (Code.at [1, 1, 0, 1, 0, 0] c23) (sp 23 [(3, x3), (6, x6), (7, x7), (8, x8)]) H (kk (some [3, 6, 7, 8]) kn [(0, (some [3]), k0)] R [2]) = N23_3b ρ call yc lim k x3 x6 x7 x8 H (fun x3 x8 H => kn (sp 23 [(3, x3), (6, x6), (7, x7), (8, x8)]) H) (fun x3 H => k0 (sp 23 [(3, x3)]) H) := by
  kernel_rfl
noncomputable def N23_3 (ρ : Addr → Option Value) (call : CallF) (yc : YieldF) (lim k : Nat) (x3 x6 x7 x8 : AV) (H : Heap) (k0 : AV → Heap → Res) : Res :=
  loopL (fun (x : AV × AV) H kn => N23_3b ρ call yc lim k x.1 x6 x7 x.2 H (fun x3 x8 H => kn (x3, x8) H) k0) k (x3, x8) H
theorem N23_3_eq (ρ : Addr → Option Value) (call : CallF) (yc : YieldF) (lim k : Nat) (x3 x6 x7 x8 : AV) (H : Heap) (kn : KS) (k0 : KS) (R : List AV → Heap → Res) :
    evL (cx ρ) call yc false 23 lim k (Code.at [1, 1, 0, 1, 0] c23) (sp 23 [(3, x3), (6, x6), (7, x7), (8, x8)]) H (kk (some [3]) kn [(0, (some [3]), k0)] R [2]) = N23_3 ρ call yc lim k x3 x6 x7 x8 H (fun x3 H => k0 (sp 23 [(3, x3)]) H) := by
  have e : Code.at [1, 1, 0, 1, 0] c23 = .loop (Code.at [1, 1, 0, 1, 0, 0] c23) := by kernel_rfl
  rw [e]
  unfold N23_3
  exact loop_node [3, 6, 7, 8] (fun x : AV × AV => (sp 23 [(3, (x.1)), (6, x6), (7, x7), (8, (x.2))])) (fun (x : AV × AV) H kn => N23_3b ρ call yc lim k x.1 x6 x7 x.2 H (fun x3 x8 H => kn (x3, x8) H) (fun x3 H => k0 (sp 23 [(3, x3)]) H)) (by kernel_rfl) (fun x => by kernel_rfl) (fun x H kn => N23_3b_eq ρ call yc lim k (x.1) x6 x7 (x.2) H kn k0 R) (x3, x8) (sp 23 [(3, x3), (6, x6), (7, x7), (8, x8)]) H (by kernel_rfl)
noncomputable def N23_2 (ρ : Addr → Option Value) (call : CallF) (yc : YieldF) (lim k : Nat) (x3 x6 x7 x8 : AV) (H : Heap) (kn : AV → Heap → Res) : Res :=
  N23_3 ρ call yc lim k x3 x6 x7 x8 H kn
theorem N23_2_x (ρ : Addr → Option Value) (call : CallF) (yc : YieldF) (lim k : Nat) (J : CodeF) (x3 x6 x7 x8 : AV) (H : Heap) (kn : KS) (R : List AV → Heap → Res) :
    evX (cx ρ) call yc false 23 lim k J (Code.at [1, 1, 0, 1] c23) (sp 23 [(3, x3), (6, x6), (7, x7), (8, x8)]) H (kk (some [3]) kn [] R [2]) =
  J (Code.at [1, 1, 0, 1, 0] c23) (sp 23 [(3, x3), (6, x6), (7, x7), (8, x8)]) H (kk (some [3]) kn [(0, (some [3]), kn)] R [2]) := by
  kernel_rfl
theorem N23_2_eq (ρ : Addr → Option Value) (call : CallF) (yc : YieldF) (lim k : Nat) (x3 x6 x7 x8 : AV) (H : Heap) (kn : KS) (R : List AV → Heap → Res) :
    evL (cx ρ) call yc false 23 lim k (Code.at [1, 1, 0, 1] c23) (sp 23 [(3, x3), (6, x6), (7, x7), (8, x8)]) H (kk (some [3]) kn [] R [2]) = N23_2 ρ call yc lim k x3 x6 x7 x8 H (fun x3 H => kn (sp 23 [(3, x3)]) H) := by
  rw [evL_X, N23_2_x]
  simp only [← evL_X, N23_2, N23_3_eq]
noncomputable def L23 (ρ : Addr → Option Value) (call : CallF) (yc : YieldF) (lim k : Nat) (x0 : AV) (H : Heap) : Res :=
  purK (lenS x0) fun x7 =>
  N23_2 ρ call yc lim k .nils x0 x7 (.int .i64 0) H (fun x3 H =>
    N23_1 ρ call yc lim k x3 H retK)
theorem L23_x (ρ : Addr → Option Value) (call : CallF) (yc : YieldF) (lim k : Nat) (J : CodeF) (x0 : AV) (H : Heap) :
    evX (cx ρ) call yc false 23 lim k J c23 [x0, (.tup []), (.tup []), (.tup []), (.tup []), (.tup []), (.tup []), (.tup []), (.tup []), (.tup []), (.tup []), (.tup []), (.tup []), (.tup []), (.tup []), (.tup []), (.tup []), (.tup []), (.tup []), (.tup []), (.tup []), (.tup []), (.tup [])] H (kk none (fun s H => retK (([2] : List Nat).map fun t => s.getD t (.tup [])) H) [] retK [2]) =
  purK (lenS x0) fun x7 =>
  J (Code.at [1, 1, 0, 1] c23) (sp 23 [(3, .nils), (6, x0), (7, x7), (8, (.int .i64 0))]) H (kk (some [3]) (fun s H => J (Code.at [1, 1, 1] c23) s H (kk none (fun s H => retK (([2] : List Nat).map fun t => s.getD t (.tup [])) H) [] retK [2])) [] retK [2]) := by
  kernel_rfl
theorem G23 (ρ : Addr → Option Value) (call : CallF) (yc : YieldF) (lim k : Nat) (x0 : AV) (H : Heap) :
    evL (cx ρ) call yc false 23 lim k c23 [x0, (.tup []), (.tup []), (.tup []), (.tup []), (.tup []), (.tup []), (.tup []), (.tup []), (.tup []), (.tup []), (.tup []), (.tup []), (.tup []), (.tup []), (.tup []), (.tup []), (.tup []), (.tup []), (.tup []), (.tup []), (.tup []), (.tup [])] H (kk none (fun s H => retK (([2] : List Nat).map fun t => s.getD t (.tup [])) H) [] retK [2]) = L23 ρ call yc lim k x0 H := by
  rw [evL_X, L23_x]
  simp only [← evL_X, L23, N23_1_eq, N23_2_eq]
theorem E23 (ρ : Addr → Option Value) (k lim : Nat) (x0 : AV) (H : Heap) : evCall (cx ρ) (k + 1) lim 23 [x0] H = L23 ρ (evCall (cx ρ) k) (evCY (cx ρ) k).2 lim k x0 H := by
  rw [evCall_body (cx ρ) k lim 23 _ H Try.f23 c23 [2] (by kernel_rfl) (by kernel_rfl) (by kernel_rfl) (by kernel_rfl) (by kernel_rfl)]
  exact G23 ρ (evCall (cx ρ) k) (evCY (cx ρ) k).2 lim k x0 H
-- haycroft/history.Right
noncomputable def c24 : Code := Code.of Try.prog 24
noncomputable def L24 (ρ : Addr → Option Value) (call : CallF) (yc : YieldF) (lim k : Nat) (x0 : AV) (H : Heap) : Res :=
  resK (call lim 47 [x0, (.fn (.func 48) [] [])] H) fun x4 H =>
  purK (unA .not x4) fun x5 =>
  retK [x5] H
theorem G24 (ρ : Addr → Option Value) (call : CallF) (yc : YieldF) (lim k : Nat) (x0 : AV) (H : Heap) :
    evL (cx ρ) call yc false 24 lim k c24 [x0, (.tup []), (.tup []), (.tup []), (.tup []), (.tup [])] H (kk none (fun s H => retK (([2] : List Nat).map fun t => s.getD t (.tup [])) H) [] retK [2]) = L24 ρ call yc lim k x0 H := by
  kernel_rfl
theorem E24 (ρ : Addr → Option Value) (k lim : Nat) (x0 : AV) (H : Heap) : evCall (cx ρ) (k + 1) lim 24 [x0] H = L24 ρ (evCall (cx ρ) k) (evCY (cx ρ) k).2 lim k x0 H := by
  rw [evCall_body (cx ρ) k lim 24 _ H Try.f24 c24 [2] (by kernel_rfl) (by kernel_rfl) (by kernel_rfl) (by kernel_rfl) (by kernel_rfl)]
  exact G24 ρ (evCall (cx ρ) k) (evCY (cx ρ) k).2 lim k x0 H
-- haycroft/history.Order
noncomputable def c25 : Code := Code.of Try.prog 25
noncomputable def N25_1 (ρ : Addr → Option Value) (call : CallF) (yc : YieldF) (lim k : Nat) (x7 x9 : AV) (H : Heap) (R : List AV → Heap → Res) : Res :=
  purK (ixS 3 x9 (.int .i64 0)) fun x26_1 =>
  purK (ldN ρ H 3 x26_1) fun x27_1 =>
  resK (call lim 51 [x7, x27_1] H) fun x28_1 H =>
  R [x28_1, (.bool true), (.int .i64 0)] H
theorem N25_1_eq (ρ : Addr → Option Value) (call : CallF) (yc : YieldF) (lim k : Nat) (x7 x9 : AV) (H : Heap) (R : List AV → Heap → Res) :
    evL (cx ρ) call yc false 25 lim k (Code.at [1, 1, 1, 1, 1] c25) (sp 29 [(7, x7), (9, x9)]) H (kk none (fun s H => R (([4, 5, 6] : List Nat).map fun t => s.getD t (.tup [])) H) [] R [4, 5, 6]) = N25_1 ρ call yc lim k x7 x9 H R := by
  kernel_rfl
noncomputable def L25 (ρ : Addr → Option Value) (call : CallF) (yc : YieldF) (lim k : Nat) (x0 x1 : AV) (H : Heap) : Res :=
  resK (call lim 49 [x0, x1] H) fun x13 H =>
  purK (extA 0 x13) fun x14 =>
  purK (extA 1 x13) fun x15 =>
  purK (binA Try.prog H .neq 25 x15 (.int .i64 0)) fun x17 =>
  condK x17
  (
    retK [.nils, (.bool false), x15] H)
  (
    resK (call lim 50 [x14] H) fun x20 H =>
    purK (lenS x20) fun x22 =>
    purK (binA Try.prog H .eql 3 x22 (.int .i64 0)) fun x23 =>
    condK x23
    (
      retK [.nils, (.bool false), (.int .i64 0)] H)
    (
      N25_1 ρ call yc lim k x14 x20 H retK))
theorem L25_x (ρ : Addr → Option Value) (call : CallF) (yc : YieldF) (lim k : Nat) (J : CodeF) (x0 x1 : AV) (H : Heap) :
    evX (cx ρ) call yc false 25 lim k J c25 [x0, x1, (.tup []), (.tup []), (.tup []), (.tup []), (.tup []), (.tup []), (.tup []), (.tup []), (.tup []), (.tup []), (.tup []), (.tup []), (.tup []), (.tup []), (.tup []), (.tup []), (.tup []), (.tup []), (.tup []), (.tup []), (.tup []), (.tup []), (.tup []), (.tup []), (.tup []), (.tup []), (.tup [])] H (kk none (fun s H => retK (([4, 5, 6] : List Nat).map fun t => s.getD t (.tup [])) H) [] retK [4, 5, 6]) =
  resK (call lim 49 [x0, x1] H) fun x13 H =>
  purK (extA 0 x13) fun x14 =>
  purK (extA 1 x13) fun x15 =>
  purK (binA Try.prog H .neq 25 x15 (.int .i64 0)) fun x17 =>
  condK x17
  (
    retK [.nils, (.bool false), x15] H)
  (
    resK (call lim 50 [x14] H) fun x20 H =>
    purK (lenS x20) fun x22 =>
    purK (binA Try.prog H .eql 3 x22 (.int .i64 0)) fun x23 =>
    condK x23
    (
      retK [.nils, (.bool false), (.int .i64 0)] H)
    (
      J (Code.at [1, 1, 1, 1, 1] c25) (sp 29 [(7, x14), (9, x20)]) H (kk none (fun s H => retK (([4, 5, 6] : List Nat).map fun t => s.getD t (.tup [])) H) [] retK [4, 5, 6]))) := by
  kernel_rfl
theorem G25 (ρ : Addr → Option Value) (call : CallF) (yc : YieldF) (lim k : Nat) (x0 x1 : AV) (H : Heap) :
    evL (cx ρ) call yc false 25 lim k c25 [x0, x1, (.tup []), (.tup []), (.tup []), (.tup []), (.tup []), (.tup []), (.tup []), (.tup []), (.tup []), (.tup []), (.tup []), (.tup []), (.tup []), (.tup []), (.tup []), (.tup []), (.tup []), (.tup []), (.tup []), (.tup []), (.tup []), (.tup []), (.tup []), (.tup []), (.tup []), (.tup []), (.tup [])] H (kk none (fun s H => retK (([4, 5, 6] : List Nat).map fun t => s.getD t (.tup [])) H) [] retK [4, 5, 6]) = L25 ρ call yc lim k x0 x1 H := by
  rw [evL_X, L25_x]
  simp only [← evL_X, L25, N25_1_eq]
theorem E25 (ρ : Addr → Option Value) (k lim : Nat) (x0 x1 : AV) (H : Heap) : evCall (cx ρ) (k + 1) lim 25 [x0, x1] H = L25 ρ (evCall (cx ρ) k) (evCY (cx ρ) k).2 lim k x0 x1 H := by
  rw [evCall_body (cx ρ) k lim 25 _ H Try.f25 c25 [4, 5, 6] (by kernel_rfl) (by kernel_rfl) (by kernel_rfl) (by kernel_rfl) (by kernel_rfl)]
  exact G25 ρ (evCall (cx ρ) k) (evCY (cx ρ) k).2 lim k x0 x1 H
-- haycroft/history.Apply
noncomputable def c29 : Code := Code.of Try.prog 29
noncomputable def N29_1 (ρ : Addr → Option Value) (call : CallF) (yc : YieldF) (lim k : Nat) (x0 x1 x5 x8 : AV) (H : Heap) (R : List AV → Heap → Res) : Res :=
  purK (addA 0 x5) fun x11_1 =>
  purK (ld1 ρ H x11_1) fun x12_1 =>
  purK (binA Try.prog H .eql 3 x12_1 (.int .i64 1)) fun x14_1 =>
  condK x14_1
  (
    purK (unA .not x1) fun x16_1 =>
    condK x16_1
    (
      purK (bldA [.int .i64 0, .str ByteArray.empty] [(0, 1, (.int .i64 7))]) fun x17_1 =>
      effK H (stA lim H 2 x8 x17_1) fun _ H =>
      R [(.str (ByteArray.mk #[])), (.bool false), x8] H)
    (
      purK (bldA [.int .i64 0, .str ByteArray.empty] [(1, 1, x0)]) fun x20_1 =>
      effK H (stA lim H 2 x8 x20_1) fun _ H =>
      R [x0, (.bool true), x8] H))
  (
    purK (binA Try.prog H .eql 3 x12_1 (.int .i64 2)) fun x22_1 =>
    condK x22_1
    (
      purK (addA 2 x5) fun x23_1 =>
      purK (ld1 ρ H x23_1) fun x24_1 =>
      purK (bldA [.int .i64 0, .str ByteArray.empty] []) fun x25_1 =>
      effK H (stA lim H 2 x8 x25_1) fun _ H =>
      R [x24_1, (.bool true), x8] H)
    (
      purK (binA Try.prog H .eql 3 x12_1 (.int .i64 3)) fun x27_1 =>
      condK x27_1
      (
        purK (addA 3 x5) fun x29_1 =>
        purK (ld1 ρ H x29_1) fun x30_1 =>
        resK (call lim 52 [x0, x30_1] H) fun x31_1 H =>
        purK (bldA [.int .i64 0, .str ByteArray.empty] []) fun x32_1 =>
        effK H (stA lim H 2 x8 x32_1) fun _ H =>
        R [x31_1, (.bool true), x8] H)
      (
        purK (binA Try.prog H .eql 3 x12_1 (.int .i64 4)) fun x34_1 =>
        condK x34_1
        (
          purK (bldA [.int .i64 0, .str ByteArray.empty] []) fun x35_1 =>
          effK H (stA lim H 2 x8 x35_1) fun _ H =>
          R [(.str (ByteArray.mk #[])), (.bool false), x8] H)
        (
          purK (bldA [.int .i64 0, .str ByteArray.empty] [(0, 1, (.int .i64 1))]) fun x38_1 =>
          effK H (stA lim H 2 x8 x38_1) fun _ H =>
          R [x0, x1, x8] H))))
theorem N29_1_eq (ρ : Addr → Option Value) (call : CallF) (yc : YieldF) (lim k : Nat) (x0 x1 x5 x8 : AV) (H : Heap) (R : List AV → Heap → Res) :
    evL (cx ρ) call yc false 29 lim k (Code.at [1, 1] c29) (sp 39 [(0, x0), (1, x1), (5, x5), (8, x8)]) H (kk none (fun s H => R (([6, 7, 8] : List Nat).map fun t => s.getD t (.tup [])) H) [] R [6, 7, 8]) = N29_1 ρ call yc lim k x0 x1 x5 x8 H R := by
  kernel_rfl
noncomputable def L29 (ρ : Addr → Option Value) (call : CallF) (yc : YieldF) (lim k : Nat) (x0 x1 x2 : AV) (H : Heap) : Res :=
  effK H (boxA H 51 x2) fun x5 H =>
  effK H (some (.ptr H.sz 0 0, .new (newCells 53 false [.int .i64 0, .str ByteArray.empty]))) fun x8 H =>
  purK (unA .not x1) fun x10 =>
  condK x10
  (
    N29_1 ρ call yc lim k (.str (ByteArray.mk #[])) x1 x5 x8 H (retC (cx ρ) [none, none, some 53]))
  (
    N29_1 ρ call yc lim k x0 x1 x5 x8 H (retC (cx ρ) [none, none, some 53]))
theorem L29_x (ρ : Addr → Option Value) (call : CallF) (yc : YieldF) (lim k : Nat) (J : CodeF) (x0 x1 x2 : AV) (H : Heap) :
    evX (cx ρ) call yc false 29 lim k J c29 [x0, x1, x2, (.tup []), (.tup []), (.tup []), (.tup []), (.tup []), (.tup []), (.tup []), (.tup []), (.tup []), (.tup []), (.tup []), (.tup []), (.tup []), (.tup []), (.tup []), (.tup []), (.tup []), (.tup []), (.tup []), (.tup []), (.tup []), (.tup []), (.tup []), (.tup []), (.tup []), (.tup []), (.tup []), (.tup []), (.tup []), (.tup []), (.tup []), (.tup []), (.tup []), (.tup []), (.tup []), (.tup [])] H (kk none (fun s H => (retC (cx ρ) [none, none, some 53]) (([6, 7, 8] : List Nat).map fun t => s.getD t (.tup [])) H) [] (retC (cx ρ) [none, none, some 53]) [6, 7, 8]) =
  effK H (boxA H 51 x2) fun x5 H =>
  effK H (some (.ptr H.sz 0 0, .new (newCells 53 false [.int .i64 0, .str ByteArray.empty]))) fun x8 H =>
  purK (unA .not x1) fun x10 =>
  condK x10
  (
    J (Code.at [1, 1] c29) (sp 39 [(0, (.str (ByteArray.mk #[]))), (1, x1), (5, x5), (8, x8)]) H (kk none (fun s H => (retC (cx ρ) [none, none, some 53]) (([6, 7, 8] : List Nat).map fun t => s.getD t (.tup [])) H) [] (retC (cx ρ) [none, none, some 53]) [6, 7, 8]))
  (
    J (Code.at [1, 1] c29) (sp 39 [(0, x0), (1, x1), (5, x5), (8, x8)]) H (kk none (fun s H => (retC (cx ρ) [none, none, some 53]) (([6, 7, 8] : List Nat).map fun t => s.getD t (.tup [])) H) [] (retC (cx ρ) [none, none, some 53]) [6, 7, 8])) := by
  kernel_rfl
theorem G29 (ρ : Addr → Option Value) (call : CallF) (yc : YieldF) (lim k : Nat) (x0 x1 x2 : AV) (H : Heap) :
    evL (cx ρ) call yc false 29 lim k c29 [x0, x1, x2, (.tup []), (.tup []), (.tup []), (.tup []), (.tup []), (.tup []), (.tup []), (.tup []), (.tup []), (.tup []), (.tup []), (.tup []), (.tup []), (.tup []), (.tup []), (.tup []), (.tup []), (.tup []), (.tup []), (.tup []), (.tup []), (.tup []), (.tup []), (.tup []), (.tup []), (.tup []), (.tup []), (.tup []), (.tup []), (.tup []), (.tup []), (.tup []), (.tup []), (.tup []), (.tup []), (.tup [])] H (kk none (fun s H => (retC (cx ρ) [none, none, some 53]) (([6, 7, 8] : List Nat).map fun t => s.getD t (.tup [])) H) [] (retC (cx ρ) [none, none, some 53]) [6, 7, 8]) = L29 ρ call yc lim k x0 x1 x2 H := by
  rw [evL_X, L29_x]
  simp only [← evL_X, L29, N29_1_eq]
theorem E29 (ρ : Addr → Option Value) (k lim : Nat) (x0 x1 x2 : AV) (H : Heap) : evCall (cx ρ) (k + 1) lim 29 [x0, x1, x2] H = L29 ρ (evCall (cx ρ) k) (evCY (cx ρ) k).2 lim k x0 x1 x2 H := by
  rw [evCall_cells (cx ρ) k lim 29 _ H Try.f29 c29 [6, 7, 8] [none, none, some 53] (by kernel_rfl) (by kernel_rfl) (by kernel_rfl) (by kernel_rfl) (by kernel_rfl) (by kernel_rfl)]
  exact G29 ρ (evCall (cx ρ) k) (evCY (cx ρ) k).2 lim k x0 x1 x2 H
-- haycroft/haycroftref20.Apply
noncomputable def c30 : Code := Code.of Try.prog 30
noncomputable def N30_1 (ρ : Addr → Option Value) (call : CallF) (yc : YieldF) (lim k : Nat) (x2 x3 x4 x5 : AV) (H : Heap) (R : List AV → Heap → Res) : Res :=
  purK (addA 0 x3) fun x29_1 =>
  purK (ld1 ρ H x29_1) fun x30_1 =>
  purK (binA Try.prog H .eql 3 x30_1 (.int .i64 4)) fun x31_1 =>
  condK x31_1
  (
    purK (bldA [.str ByteArray.empty, .bool false] []) fun x32_1 =>
    purK (bldA [.int .i64 0, .str ByteArray.empty] []) fun x33_1 =>
    effK H (stA lim H 2 x4 x32_1) fun _ H =>
    effK H (stA lim H 2 x5 x33_1) fun _ H =>
    R [x4, x5] H)
  (
    purK (addA 1 x2) fun x34_1 =>
    purK (ld1 ρ H x34_1) fun x35_1 =>
    purK (unA .not x35_1) fun x36_1 =>
    condK x36_1
    (
      purK (bldA [.str ByteArray.empty, .bool false] []) fun x37_1 =>
      purK (bldA [.int .i64 0, .str ByteArray.empty] [(0, 1, (.int .i64 7))]) fun x38_1 =>
      effK H (stA lim H 2 x4 x37_1) fun _ H =>
      effK H (stA lim H 2 x5 x38_1) fun _ H =>
      R [x4, x5] H)
    (
      purK (ldN ρ H 2 x2) fun x39_1 =>
      purK (addA 0 x2) fun x40_1 =>
      purK (ld1 ρ H x40_1) fun x41_1 =>
      purK (bldA [.int .i64 0, .str ByteArray.empty] [(1, 1, x41_1)]) fun x42_1 =>
      effK H (stA lim H 2 x4 x39_1) fun _ H => bif (agn (ld1 ρ H x40_1) x41_1 && true) then
        effK H (stA lim H 2 x5 x42_1) fun _ H =>
        R [x4, x5] H
      else none))
theorem N30_1_eq (ρ : Addr → Option Value) (call : CallF) (yc : YieldF) (lim k : Nat) (x2 x3 x4 x5 : AV) (H : Heap) (R : List AV → Heap → Res) :
    evL (cx ρ) call yc false 30 lim k (Code.at [1, 1, 1] c30) (sp 43 [(2, x2), (3, x3), (4, x4), (5, x5)]) H (kk none (fun s H => R (([4, 5] : List Nat).map fun t => s.getD t (.tup [])) H) [] R [4, 5]) = N30_1 ρ call yc lim k x2 x3 x4 x5 H R := by
  kernel_rfl
noncomputable def N30_2 (ρ : Addr → Option Value) (call : CallF) (yc : YieldF) (lim k : Nat) (x3 x4 x5 x6 : AV) (H : Heap) (R : List AV → Heap → Res) : Res :=
  purK (addA 3 x3) fun x23_1 =>
  purK (ld1 ρ H x23_1) fun x24_1 =>
  purK (binA Try.prog H .add 49 x6 x24_1) fun x25_1 =>
  resK (call lim 54 [x25_1] H) fun x26_1 H =>
  purK (bldA [.str ByteArray.empty, .bool false] [(0, 1, x26_1), (1, 1, (.bool true))]) fun x27_1 =>
  purK (bldA [.int .i64 0, .str ByteArray.empty] []) fun x28_1 =>
  effK H (stA lim H 2 x4 x27_1) fun _ H =>
  effK H (stA lim H 2 x5 x28_1) fun _ H =>
  R [x4, x5] H
theorem N30_2_eq (ρ : Addr → Option Value) (call : CallF) (yc : YieldF) (lim k : Nat) (x3 x4 x5 x6 : AV) (H : Heap) (kn : KS) (R : List AV → Heap → Res) :
    evL (cx ρ) call yc false 30 lim k (Code.at [1, 1, 0, 1, 0, 1, 1] c30) (sp 43 [(3, x3), (4, x4), (5, x5), (6, x6)]) H (kk (some [2, 3, 4, 5]) kn [] R [4, 5]) = N30_2 ρ call yc lim k x3 x4 x5 x6 H R := by
  kernel_rfl
noncomputable def L30 (ρ : Addr → Option Value) (call : CallF) (yc : YieldF) (lim k : Nat) (x0 x1 : AV) (H : Heap) : Res :=
  effK H (boxA H 47 x0) fun x2 H =>
  effK H (boxA H 51 x1) fun x3 H =>
  effK H (some (.ptr H.sz 0 0, .new (newCells 47 false [.str ByteArray.empty, .bool false]))) fun x4 H =>
  effK H (some (.ptr H.sz 0 0, .new (newCells 53 false [.int .i64 0, .str ByteArray.empty]))) fun x5 H =>
  purK (addA 0 x3) fun x7 =>
  purK (ld1 ρ H x7) fun x8 =>
  purK (binA Try.prog H .eql 3 x8 (.int .i64 2)) fun x9 =>
  condK x9
  (
    purK (addA 2 x3) fun x10 =>
    purK (ld1 ρ H x10) fun x11 =>
    purK (bldA [.str ByteArray.empty, .bool false] [(0, 1, x11), (1, 1, (.bool true))]) fun x12 =>
    purK (bldA [.int .i64 0, .str ByteArray.empty] []) fun x13 =>
    effK H (stA lim H 2 x4 x12) fun _ H =>
    effK H (stA lim H 2 x5 x13) fun _ H =>
    (retC (cx ρ) [some 47, some 53]) [x4, x5] H)
  (
    purK (addA 0 x3) fun x14 =>
    purK (ld1 ρ H x14) fun x15 =>
    purK (binA Try.prog H .eql 3 x15 (.int .i64 3)) fun x16 =>
    condK x16
    (
      purK (addA 1 x2) fun x17 =>
      purK (ld1 ρ H x17) fun x18 =>
      condK x18
      (
        purK (addA 0 x2) fun x19 =>
        purK (ld1 ρ H x19) fun x20 =>
        resK (call lim 53 [x20] H) fun x21 H =>
        N30_2 ρ call yc lim k x3 x4 x5 x21 H (retC (cx ρ) [some 47, some 53]))
      (
        N30_2 ρ call yc lim k x3 x4 x5 (.int .u64 0) H (retC (cx ρ) [some 47, some 53])))
    (
      N30_1 ρ call yc lim k x2 x3 x4 x5 H (retC (cx ρ) [some 47, some 53])))
theorem L30_x (ρ : Addr → Option Value) (call : CallF) (yc : YieldF) (lim k : Nat) (J : CodeF) (x0 x1 : AV) (H : Heap) :
    evX (cx ρ) call yc false 30 lim k J c30 [x0, x1, (.tup []), (.tup []), (.tup []), (.tup []), (.tup []), (.tup []), (.tup []), (.tup []), (.tup []), (.tup []), (.tup []), (.tup []), (.tup []), (.tup []), (.tup []), (.tup []), (.tup []), (.tup []), (.tup []), (.tup []), (.tup []), (.tup []), (.tup []), (.tup []), (.tup []), (.tup []), (.tup []), (.tup []), (.tup []), (.tup []), (.tup []), (.tup []), (.tup []), (.tup []), (.tup []), (.tup []), (.tup []), (.tup []), (.tup []), (.tup []), (.tup [])] H (kk none (fun s H => (retC (cx ρ) [some 47, some 53]) (([4, 5] : List Nat).map fun t => s.getD t (.tup [])) H) [] (retC (cx ρ) [some 47, some 53]) [4, 5]) =
  effK H (boxA H 47 x0) fun x2 H =>
  effK H (boxA H 51 x1) fun x3 H =>
  effK H (some (.ptr H.sz 0 0, .new (newCells 47 false [.str ByteArray.empty, .bool false]))) fun x4 H =>
  effK H (some (.ptr H.sz 0 0, .new (newCells 53 false [.int .i64 0, .str ByteArray.empty]))) fun x5 H =>
  purK (addA 0 x3) fun x7 =>
  purK (ld1 ρ H x7) fun x8 =>
  purK (binA Try.prog H .eql 3 x8 (.int .i64 2)) fun x9 =>
  condK x9
  (
    purK (addA 2 x3) fun x10 =>
    purK (ld1 ρ H x10) fun x11 =>
    purK (bldA [.str ByteArray.empty, .bool false] [(0, 1, x11), (1, 1, (.bool true))]) fun x12 =>
    purK (bldA [.int .i64 0, .str ByteArray.empty] []) fun x13 =>
    effK H (stA lim H 2 x4 x12) fun _ H =>
    effK H (stA lim H 2 x5 x13) fun _ H =>
    (retC (cx ρ) [some 47, some 53]) [x4, x5] H)
  (
    purK (addA 0 x3) fun x14 =>
    purK (ld1 ρ H x14) fun x15 =>
    purK (binA Try.prog H .eql 3 x15 (.int .i64 3)) fun x16 =>
    condK x16
    (
      purK (addA 1 x2) fun x17 =>
      purK (ld1 ρ H x17) fun x18 =>
      condK x18
      (
        purK (addA 0 x2) fun x19 =>
        purK (ld1 ρ H x19) fun x20 =>
        resK (call lim 53 [x20] H) fun x21 H =>
        J (Code.at [1, 1, 0, 1, 0, 1, 1] c30) (sp 43 [(3, x3), (4, x4), (5, x5), (6, x21)]) H (kk (some [2, 3, 4, 5]) (fun s H => J (Code.at [1, 1, 1] c30) s H (kk none (fun s H => (retC (cx ρ) [some 47, some 53]) (([4, 5] : List Nat).map fun t => s.getD t (.tup [])) H) [] (retC (cx ρ) [some 47, some 53]) [4, 5])) [] (retC (cx ρ) [some 47, some 53]) [4, 5]))
      (
        J (Code.at [1, 1, 0, 1, 0, 1, 1] c30) (sp 43 [(3, x3), (4, x4), (5, x5), (6, (.int .u64 0))]) H (kk (some [2, 3, 4, 5]) (fun s H => J (Code.at [1, 1, 1] c30) s H (kk none (fun s H => (retC (cx ρ) [some 47, some 53]) (([4, 5] : List Nat).map fun t => s.getD t (.tup [])) H) [] (retC (cx ρ) [some 47, some 53]) [4, 5])) [] (retC (cx ρ) [some 47, some 53]) [4, 5])))
    (
      J (Code.at [1, 1, 1] c30) (sp 43 [(2, x2), (3, x3), (4, x4), (5, x5)]) H (kk none (fun s H => (retC (cx ρ) [some 47, some 53]) (([4, 5] : List Nat).map fun t => s.getD t (.tup [])) H) [] (retC (cx ρ) [some 47, some 53]) [4, 5]))) := by
  kernel_rfl
theorem G30 (ρ : Addr → Option Value) (call : CallF) (yc : YieldF) (lim k : Nat) (x0 x1 : AV) (H : Heap) :
    evL (cx ρ) call yc false 30 lim k c30 [x0, x1, (.tup []), (.tup []), (.tup []), (.tup []), (.tup []), (.tup []), (.tup []), (.tup []), (.tup []), (.tup []), (.tup []), (.tup []), (.tup []), (.tup []), (.tup []), (.tup []), (.tup []), (.tup []), (.tup []), (.tup []), (.tup []), (.tup []), (.tup []), (.tup []), (.tup []), (.tup []), (.tup []), (.tup []), (.tup []), (.tup []), (.tup []), (.tup []), (.tup []), (.tup []), (.tup []), (.tup []), (.tup []), (.tup []), (.tup []), (.tup []), (.tup [])] H (kk none (fun s H => (retC (cx ρ) [some 47, some 53]) (([4, 5] : List Nat).map fun t => s.getD t (.tup [])) H) [] (retC (cx ρ) [some 47, some 53]) [4, 5]) = L30 ρ call yc lim k x0 x1 H := by
  rw [evL_X, L30_x]
  simp only [← evL_X, L30, N30_1_eq, N30_2_eq]
theorem E30 (ρ : Addr → Option Value) (k lim : Nat) (x0 x1 : AV) (H : Heap) : evCall (cx ρ) (k + 1) lim 30 [x0, x1] H = L30 ρ (evCall (cx ρ) k) (evCY (cx ρ) k).2 lim k x0 x1 H := by
  rw [evCall_cells (cx ρ) k lim 30 _ H Try.f30 c30 [4, 5] [some 47, some 53] (by kernel_rfl) (by kernel_rfl) (by kernel_rfl) (by kernel_rfl) (by kernel_rfl) (by kernel_rfl)]
  exact G30 ρ (evCall (cx ρ) k) (evCY (cx ρ) k).2 lim k x0 x1 H
-- slices.Sort[[]string,string]
noncomputable def c45 : Code := Code.of Try.prog 45
noncomputable def L45 (ρ : Addr → Option Value) (call : CallF) (yc : YieldF) (lim k : Nat) (x0 : AV) (H : Heap) : Res :=
  purK (lenS x0) fun x4 =>
  purK (cvI .u64 x4) fun x8 =>
  resK (call lim 66 [x8] H) fun x9 H =>
  resK (call lim 65 [x0, (.int .i64 0), x4, x9] H) fun x10 H =>
  retK [] H
theorem G45 (ρ : Addr → Option Value) (call : CallF) (yc : YieldF) (lim k : Nat) (x0 : AV) (H : Heap) :
    evL (cx ρ) call yc false 45 lim k c45 [x0, (.tup []), (.tup []), (.tup []), (.tup []), (.tup []), (.tup []), (.tup []), (.tup []), (.tup []), (.tup [])] H (kk none (fun s H => retK (([] : List Nat).map fun t => s.getD t (.tup [])) H) [] retK []) = L45 ρ call yc lim k x0 H := by
  kernel_rfl
theorem E45 (ρ : Addr → Option Value) (k lim : Nat) (x0 : AV) (H : Heap) : evCall (cx ρ) (k + 1) lim 45 [x0] H = L45 ρ (evCall (cx ρ) k) (evCY (cx ρ) k).2 lim k x0 H := by
  rw [evCall_body (cx ρ) k lim 45 _ H Try.f45 c45 [] (by kernel_rfl) (by kernel_rfl) (by kernel_rfl) (by kernel_rfl) (by kernel_rfl)]
  exact G45 ρ (evCall (cx ρ) k) (evCY (cx ρ) k).2 lim k x0 H
end Go.Proofs.Ytkmohjddojpdjaa

-- part Ha1
/- Functions, lifted. Printed by a program of this repo. -/
set_option linter.unusedVariables false
set_option linter.unusedSimpArgs false
set_option maxRecDepth 100000
set_option maxHeartbeats 4000000
namespace Go.Proofs.Ytkmohjddojpdjaa
open Go.Ev Go.RowKit
-- slices.Compact[[]string,string]
noncomputable def c46 : Code := Code.of Try.prog 46
noncomputable def N46_1 (ρ : Addr → Option Value) (call : CallF) (yc : YieldF) (lim k : Nat) (x0 : AV) (H : Heap) (R : List AV → Heap → Res) : Res :=
  R [x0] H
theorem N46_1_eq (ρ : Addr → Option Value) (call : CallF) (yc : YieldF) (lim k : Nat) (x0 : AV) (H : Heap) (R : List AV → Heap → Res) :
    evL (cx ρ) call yc false 46 lim k (Code.at [1, 1, 1] c46) (sp 61 [(0, x0)]) H (kk none (fun s H => R (([2] : List Nat).map fun t => s.getD t (.tup [])) H) [] R [2]) = N46_1 ρ call yc lim k x0 H R := by
  kernel_rfl
noncomputable def N46_4 (ρ : Addr → Option Value) (call : CallF) (yc : YieldF) (lim k : Nat) (x0 x3 : AV) (H : Heap) (kn : AV → Heap → Res) : Res :=
  purK (binA Try.prog H .add 3 x3 (.int .i64 1)) fun x15_1 =>
  kn x15_1 H
theorem N46_4_eq (ρ : Addr → Option Value) (call : CallF) (yc : YieldF) (lim k : Nat) (x0 x3 : AV) (H : Heap) (kn : KS) (k0 : KS) (R : List AV → Heap → Res) :
    evL (cx ρ) call yc false 46 lim k (Code.at [1, 1, 0, 1, 0, 0, 1, 1] c46) (sp 61 [(0, x0), (3, x3)]) H (kk (some [0, 3]) kn [(0, (some [0]), k0)] R [2]) = N46_4 ρ call yc lim k x0 x3 H (fun x3 H => kn (sp 61 [(0, x0), (3, x3)]) H) := by
  kernel_rfl
noncomputable def N46_5 (ρ : Addr → Option Value) (call : CallF) (yc : YieldF) (lim k : Nat) (x0 x3 : AV) (H : Heap) (R : List AV → Heap → Res) : Res :=
  purK (slS 1 x0 (some x3) none none) fun x56_1 =>
  effK H (builtinA (cx ρ) lim H .clear #[37] [x56_1]) fun _ H =>
  purK (slS 1 x0 none (some x3) none) fun x59_1 =>
  R [x59_1] H
theorem N46_5_eq (ρ : Addr → Option Value) (call : CallF) (yc : YieldF) (lim k : Nat) (x0 x3 : AV) (H : Heap) (kn : KS) (k1 : KS) (k0 : KS) (R : List AV → Heap → Res) :
    evL (cx ρ) call yc false 46 lim k (Code.at [1, 1, 0, 1, 0, 0, 1, 0, 0, 1, 0, 1, 1] c46) (sp 61 [(0, x0), (3, x3)]) H (kk (some [0, 3]) kn [(1, (some [0, 3]), k1), (0, (some [0]), k0)] R [2]) = N46_5 ρ call yc lim k x0 x3 H R := by
  kernel_rfl
noncomputable def N46_8 (ρ : Addr → Option Value) (call : CallF) (yc : YieldF) (lim k : Nat) (x0 x3 x4 x5 : AV) (H : Heap) (kn : AV → AV → Heap → Res) : Res :=
  purK (binA Try.prog H .add 3 x5 (.int .i64 1)) fun x34_1 =>
  kn x3 x34_1 H
theorem N46_8_eq (ρ : Addr → Option Value) (call : CallF) (yc : YieldF) (lim k : Nat) (x0 x3 x4 x5 : AV) (H : Heap) (kn : KS) (k2 : KS) (k1 : KS) (k0 : KS) (R : List AV → Heap → Res) :
    evL (cx ρ) call yc false 46 lim k (Code.at [1, 1, 0, 1, 0, 0, 1, 0, 0, 1, 0, 1, 0, 1, 0, 0, 1, 1] c46) (sp 61 [(0, x0), (3, x3), (4, x4), (5, x5)]) H (kk (some [0, 3, 4, 5]) kn [(2, (some [0, 3]), k2), (1, (some [0, 3]), k1), (0, (some [0]), k0)] R [2]) = N46_8 ρ call yc lim k x0 x3 x4 x5 H (fun x3 x5 H => kn (sp 61 [(0, x0), (3, x3), (4, x4), (5, x5)]) H) := by
  kernel_rfl
noncomputable def N46_7b (ρ : Addr → Option Value) (call : CallF) (yc : YieldF) (lim k : Nat) (x0 x3 x4 x5 : AV) (H : Heap) (kn : AV → AV → Heap → Res) (k2 : AV → Heap → Res) : Res :=
  purK (lenS x4) fun x31_1 =>
  purK (binA Try.prog H .lss 3 x5 x31_1) fun x32_1 =>
  condK x32_1
  (
    purK (ixS 1 x4 x5) fun x37_1 =>
    purK (ld1 ρ H x37_1) fun x38_1 =>
    purK (binA Try.prog H .sub 3 x5 (.int .i64 1)) fun x41_1 =>
    purK (ixS 1 x4 x41_1) fun x42_1 =>
    purK (ld1 ρ H x42_1) fun x43_1 =>
    purK (binA Try.prog H .neq 9 x38_1 x43_1) fun x44_1 =>
    condK x44_1
    (
      purK (ixS 1 x4 x5) fun x49_1 =>
      purK (ld1 ρ H x49_1) fun x50_1 =>
      purK (ixS 1 x0 x3) fun x51_1 =>
      effK H (stA lim H 1 x51_1 x50_1) fun _ H =>
      purK (binA Try.prog H .add 3 x3 (.int .i64 1)) fun x53_1 =>
      N46_8 ρ call yc lim k x0 x53_1 x4 x5 H kn)
    (
      N46_8 ρ call yc lim k x0 x3 x4 x5 H kn))
  (
    k2 x3 H)
theorem N46_7b_x (ρ : Addr → Option Value) (call : CallF) (yc : YieldF) (lim k : Nat) (J : CodeF) (x0 x3 x4 x5 : AV) (H : Heap) (kn : KS) (k2 : KS) (k1 : KS) (k0 : KS) (R : List AV → Heap → Res) :
    evX (cx ρ) call yc false 46 lim k J (Code.at [1, 1, 0, 1, 0, 0, 1, 0, 0, 1, 0, 1, 0, 1, 0, 0] c46) (sp 61 [(0, x0), (3, x3), (4, x4), (5, x5)]) H (kk (some [0, 3, 4, 5]) kn [(2, (some [0, 3]), k2), (1, (some [0, 3]), k1), (0, (some [0]), k0)] R [2]) =
  purK (lenS x4) fun x31_1 =>
  purK (binA Try.prog H .lss 3 x5 x31_1) fun x32_1 =>
  condK x32_1
  (
    purK (ixS 1 x4 x5) fun x37_1 =>
    purK (ld1 ρ H x37_1) fun x38_1 =>
    purK (binA Try.prog H .sub 3 x5 (.int .i64 1)) fun x41_1 =>
    purK (ixS 1 x4 x41_1) fun x42_1 =>
    purK (ld1 ρ H x42_1) fun x43_1 =>
    purK (binA Try.prog H .neq 9 x38_1 x43_1) fun x44_1 =>
    condK x44_1
    (
      purK (ixS 1 x4 x5) fun x49_1 =>
      purK (ld1 ρ H x49_1) fun x50_1 =>
      purK (ixS 1 x0 x3) fun x51_1 =>
      effK H (stA lim H 1 x51_1 x50_1) fun _ H =>
      purK (binA Try.prog H .add 3 x3 (.int .i64 1)) fun x53_1 =>
      J (Code.at [1, 1, 0, 1, 0, 0, 1, 0, 0, 1, 0, 1, 0, 1, 0, 0, 1, 1] c46) (sp 61 [(0, x0), (3, x53_1), (4, x4), (5, x5)]) H (kk (some [0, 3, 4, 5]) kn [(2, (some [0, 3]), k2), (1, (some [0, 3]), k1), (0, (some [0]), k0)] R [2]))
    (
      J (Code.at [1, 1, 0, 1, 0, 0, 1, 0, 0, 1, 0, 1, 0, 1, 0, 0, 1, 1] c46) (sp 61 [(0, x0), (3, x3), (4, x4), (5, x5)]) H (kk (some [0, 3, 4, 5]) kn [(2, (some [0, 3]), k2), (1, (some [0, 3]), k1), (0, (some [0]), k0)] R [2])))
  (
    k2 (sp 61 [(0, x0), (3, x3)]) H) := by
  kernel_rfl
theorem N46_7b_eq (ρ : Addr → Option Value) (call : CallF) (yc : YieldF) (lim k : Nat) (x0 x3 x4 x5 : AV) (H : Heap) (kn : KS) (k2 : KS) (k1 : KS) (k0 : KS) (R : List AV → Heap → Res) :
    evL (cx ρ) call yc false 46 lim k (Code.at [1, 1, 0, 1, 0, 0, 1, 0, 0, 1, 0, 1, 0, 1, 0, 0] c46) (sp 61 [(0, x0), (3, x3), (4, x4), (5, x5)]) H (kk (some [0, 3, 4, 5]) kn [(2, (some [0, 3]), k2), (1, (some [0, 3]), k1), (0, (some [0]), k0)] R [2]) = N46_7b ρ call yc lim k x0 x3 x4 x5 H (fun x3 x5 H => kn (sp 61 [(0, x0), (3, x3), (4, x4), (5, x5)]) H) (fun x3 H => k2 (sp 61 [(0, x0), (3, x3)]) H) := by
  rw [evL_X, N46_7b_x]
  simp only [← evL_X, N46_7b, N46_8_eq]
noncomputable def N46_7 (ρ : Addr → Option Value) (call : CallF) (yc : YieldF) (lim k : Nat) (x0 x3 x4 x5 : AV) (H : Heap) (k2 : AV → Heap → Res) : Res :=
  loopL (fun (x : AV × AV) H kn => N46_7b ρ call yc lim k x0 x.1 x4 x.2 H (fun x3 x5 H => kn (x3, x5) H) k2) k (x3, x5) H
theorem N46_7_eq (ρ : Addr → Option Value) (call : CallF) (yc : YieldF) (lim k : Nat) (x0 x3 x4 x5 : AV) (H : Heap) (kn : KS) (k2 : KS) (k1 : KS) (k0 : KS) (R : List AV → Heap → Res) :
    evL (cx ρ) call yc false 46 lim k (Code.at [1, 1, 0, 1, 0, 0, 1, 0, 0, 1, 0, 1, 0, 1, 0] c46) (sp 61 [(0, x0), (3, x3), (4, x4), (5, x5)]) H (kk (some [0, 3]) kn [(2, (some [0, 3]), k2), (1, (some [0, 3]), k1), (0, (some [0]), k0)] R [2]) = N46_7 ρ call yc lim k x0 x3 x4 x5 H (fun x3 H => k2 (sp 61 [(0, x0), (3, x3)]) H) := by
  have e : Code.at [1, 1, 0, 1, 0, 0, 1, 0, 0, 1, 0, 1, 0, 1, 0] c46 = .loop (Code.at [1, 1, 0, 1, 0, 0, 1, 0, 0, 1, 0, 1, 0, 1, 0, 0] c46) := by kernel_rfl
  rw [e]
  unfold N46_7
  exact loop_node [0, 3, 4, 5] (fun x : AV × AV => (sp 61 [(0, x0), (3, (x.1)), (4, x4), (5, (x.2))])) (fun (x : AV × AV) H kn => N46_7b ρ call yc lim k x0 x.1 x4 x.2 H (fun x3 x5 H => kn (x3, x5) H) (fun x3 H => k2 (sp 61 [(0, x0), (3, x3)]) H)) (by kernel_rfl) (fun x => by kernel_rfl) (fun x H kn => N46_7b_eq ρ call yc lim k x0 (x.1) x4 (x.2) H kn k2 k1 k0 R) (x3, x5) (sp 61 [(0, x0), (3, x3), (4, x4), (5, x5)]) H (by kernel_rfl)
noncomputable def N46_6 (ρ : Addr → Option Value) (call : CallF) (yc : YieldF) (lim k : Nat) (x0 x3 x4 x5 : AV) (H : Heap) (kn : AV → Heap → Res) : Res :=
  N46_7 ρ call yc lim k x0 x3 x4 x5 H kn
theorem N46_6_x (ρ : Addr → Option Value) (call : CallF) (yc : YieldF) (lim k : Nat) (J : CodeF) (x0 x3 x4 x5 : AV) (H : Heap) (kn : KS) (k1 : KS) (k0 : KS) (R : List AV → Heap → Res) :
    evX (cx ρ) call yc false 46 lim k J (Code.at [1, 1, 0, 1, 0, 0, 1, 0, 0, 1, 0, 1, 0, 1] c46) (sp 61 [(0, x0), (3, x3), (4, x4), (5, x5)]) H (kk (some [0, 3]) kn [(1, (some [0, 3]), k1), (0, (some [0]), k0)] R [2]) =
  J (Code.at [1, 1, 0, 1, 0, 0, 1, 0, 0, 1, 0, 1, 0, 1, 0] c46) (sp 61 [(0, x0), (3, x3), (4, x4), (5, x5)]) H (kk (some [0, 3]) kn [(2, (some [0, 3]), kn), (1, (some [0, 3]), k1), (0, (some [0]), k0)] R [2]) := by
  kernel_rfl
theorem N46_6_eq (ρ : Addr → Option Value) (call : CallF) (yc : YieldF) (lim k : Nat) (x0 x3 x4 x5 : AV) (H : Heap) (kn : KS) (k1 : KS) (k0 : KS) (R : List AV → Heap → Res) :
    evL (cx ρ) call yc false 46 lim k (Code.at [1, 1, 0, 1, 0, 0, 1, 0, 0, 1, 0, 1, 0, 1] c46) (sp 61 [(0, x0), (3, x3), (4, x4), (5, x5)]) H (kk (some [0, 3]) kn [(1, (some [0, 3]), k1), (0, (some [0]), k0)] R [2]) = N46_6 ρ call yc lim k x0 x3 x4 x5 H (fun x3 H => kn (sp 61 [(0, x0), (3, x3)]) H) := by
  rw [evL_X, N46_6_x]
  simp only [← evL_X, N46_6, N46_7_eq]
noncomputable def N46_3b (ρ : Addr → Option Value) (call : CallF) (yc : YieldF) (lim k : Nat) (x0 x3 : AV) (H : Heap) (kn : AV → Heap → Res) (k0 : AV → Heap → Res) (R : List AV → Heap → Res) : Res :=
  purK (lenS x0) fun x12_1 =>
  purK (binA Try.prog H .lss 3 x3 x12_1) fun x13_1 =>
  condK x13_1
  (
    purK (ixS 1 x0 x3) fun x18_1 =>
    purK (ld1 ρ H x18_1) fun x19_1 =>
    purK (binA Try.prog H .sub 3 x3 (.int .i64 1)) fun x22_1 =>
    purK (ixS 1 x0 x22_1) fun x23_1 =>
    purK (ld1 ρ H x23_1) fun x24_1 =>
    purK (binA Try.prog H .eql 9 x19_1 x24_1) fun x25_1 =>
    condK x25_1
    (
      purK (slS 1 x0 (some x3) none none) fun x28_1 =>
      N46_6 ρ call yc lim k x0 x3 x28_1 (.int .i64 1) H (fun x3_1 H =>
        N46_5 ρ call yc lim k x0 x3_1 H R))
    (
      N46_4 ρ call yc lim k x0 x3 H kn))
  (
    k0 x0 H)
theorem N46_3b_x (ρ : Addr → Option Value) (call : CallF) (yc : YieldF) (lim k : Nat) (J : CodeF) (x0 x3 : AV) (H : Heap) (kn : KS) (k0 : KS) (R : List AV → Heap → Res) :
    evX (cx ρ) call yc false 46 lim k J (Code.at [1, 1, 0, 1, 0, 0] c46) (sp 61 [(0, x0), (3, x3)]) H (kk (some [0, 3]) kn [(0, (some [0]), k0)] R [2]) =
  purK (lenS x0) fun x12_1 =>
  purK (binA Try.prog H .lss 3 x3 x12_1) fun x13_1 =>
  condK x13_1
  (
    purK (ixS 1 x0 x3) fun x18_1 =>
    purK (ld1 ρ H x18_1) fun x19_1 =>
    purK (binA Try.prog H .sub 3 x3 (.int .i64 1)) fun x22_1 =>
    purK (ixS 1 x0 x22_1) fun x23_1 =>
    purK (ld1 ρ H x23_1) fun x24_1 =>
    purK (binA Try.prog H .eql 9 x19_1 x24_1) fun x25_1 =>
    condK x25_1
    (
      purK (slS 1 x0 (some x3) none none) fun x28_1 =>
      J (Code.at [1, 1, 0, 1, 0, 0, 1, 0, 0, 1, 0, 1, 0, 1] c46) (sp 61 [(0, x0), (3, x3), (4, x28_1), (5, (.int .i64 1))]) H (kk (some [0, 3]) (fun s H => J (Code.at [1, 1, 0, 1, 0, 0, 1, 0, 0, 1, 0, 1, 1] c46) s H (kk (some [0, 3]) (fun s H => J (Code.at [1, 1, 0, 1, 0, 0, 1, 1] c46) s H (kk (some [0, 3]) kn [(0, (some [0]), k0)] R [2])) [(1, (some [0, 3]), (fun s H => J (Code.at [1, 1, 0, 1, 0, 0, 1, 1] c46) s H (kk (some [0, 3]) kn [(0, (some [0]), k0)] R [2]))), (0, (some [0]), k0)] R [2])) [(1, (some [0, 3]), (fun s H => J (Code.at [1, 1, 0, 1, 0, 0, 1, 1] c46) s H (kk (some [0, 3]) kn [(0, (some [0]), k0)] R [2]))), (0, (some [0]), k0)] R [2]))
    (
      J (Code.at [1, 1, 0, 1, 0, 0, 1, 1] c46) (sp 61 [(0, x0), (3, x3)]) H (kk (some [0, 3]) kn [(0, (some [0]), k0)] R [2])))
  (
    k0 (sp 61 [(0, x0)]) H) := by
  kernel_rfl
theorem N46_3b_eq (ρ : Addr → Option Value) (call : CallF) (yc : YieldF) (lim k : Nat) (x0 x3 : AV) (H : Heap) (kn : KS) (k0 : KS) (R : List AV → Heap → Res) :
    evL (cx ρ) call yc false 46 lim k (Code.at [1, 1, 0, 1, 0, 0] c46) (sp 61 [(0, x0), (3, x3)]) H (kk (some [0, 3]) kn [(0, (some [0]), k0)] R [2]) = N46_3b ρ call yc lim k x0 x3 H (fun x3 H => kn (sp 61 [(0, x0), (3, x3)]) H) (fun x0 H => k0 (sp 61 [(0, x0)]) H) R := by
  rw [evL_X, N46_3b_x]
  simp only [← evL_X, N46_3b, N46_4_eq, N46_5_eq, N46_6_eq]
noncomputable def N46_3 (ρ : Addr → Option Value) (call : CallF) (yc : YieldF) (lim k : Nat) (x0 x3 : AV) (H : Heap) (k0 : AV → Heap → Res) (R : List AV → Heap → Res) : Res :=
  loopL (fun (x : AV) H kn => N46_3b ρ call yc lim k x0 x H (fun x3 H => kn x3 H) k0 R) k x3 H
theorem N46_3_eq (ρ : Addr → Option Value) (call : CallF) (yc : YieldF) (lim k : Nat) (x0 x3 : AV) (H : Heap) (kn : KS) (k0 : KS) (R : List AV → Heap → Res) :
    evL (cx ρ) call yc false 46 lim k (Code.at [1, 1, 0, 1, 0] c46) (sp 61 [(0, x0), (3, x3)]) H (kk (some [0]) kn [(0, (some [0]), k0)] R [2]) = N46_3 ρ call yc lim k x0 x3 H (fun x0 H => k0 (sp 61 [(0, x0)]) H) R := by
  have e : Code.at [1, 1, 0, 1, 0] c46 = .loop (Code.at [1, 1, 0, 1, 0, 0] c46) := by kernel_rfl
  rw [e]
  unfold N46_3
  exact loop_node [0, 3] (fun x : AV => (sp 61 [(0, x0), (3, (x))])) (fun (x : AV) H kn => N46_3b ρ call yc lim k x0 x H (fun x3 H => kn x3 H) (fun x0 H => k0 (sp 61 [(0, x0)]) H) R) (by kernel_rfl) (fun x => by kernel_rfl) (fun x H kn => N46_3b_eq ρ call yc lim k x0 (x) H kn k0 R) x3 (sp 61 [(0, x0), (3, x3)]) H (by kernel_rfl)
noncomputable def N46_2 (ρ : Addr → Option Value) (call : CallF) (yc : YieldF) (lim k : Nat) (x0 x3 : AV) (H : Heap) (kn : AV → Heap → Res) (R : List AV → Heap → Res) : Res :=
  N46_3 ρ call yc lim k x0 x3 H kn R
theorem N46_2_x (ρ : Addr → Option Value) (call : CallF) (yc : YieldF) (lim k : Nat) (J : CodeF) (x0 x3 : AV) (H : Heap) (kn : KS) (R : List AV → Heap → Res) :
    evX (cx ρ) call yc false 46 lim k J (Code.at [1, 1, 0, 1] c46) (sp 61 [(0, x0), (3, x3)]) H (kk (some [0]) kn [] R [2]) =
  J (Code.at [1, 1, 0, 1, 0] c46) (sp 61 [(0, x0), (3, x3)]) H (kk (some [0]) kn [(0, (some [0]), kn)] R [2]) := by
  kernel_rfl
theorem N46_2_eq (ρ : Addr → Option Value) (call : CallF) (yc : YieldF) (lim k : Nat) (x0 x3 : AV) (H : Heap) (kn : KS) (R : List AV → Heap → Res) :
    evL (cx ρ) call yc false 46 lim k (Code.at [1, 1, 0, 1] c46) (sp 61 [(0, x0), (3, x3)]) H (kk (some [0]) kn [] R [2]) = N46_2 ρ call yc lim k x0 x3 H (fun x0 H => kn (sp 61 [(0, x0)]) H) R := by
  rw [evL_X, N46_2_x]
  simp only [← evL_X, N46_2, N46_3_eq]
noncomputable def L46 (ρ : Addr → Option Value) (call : CallF) (yc : YieldF) (lim k : Nat) (x0 : AV) (H : Heap) : Res :=
  purK (lenS x0) fun x7 =>
  purK (binA Try.prog H .lss 3 x7 (.int .i64 2)) fun x8 =>
  condK x8
  (
    retK [x0] H)
  (
    N46_2 ρ call yc lim k x0 (.int .i64 1) H (fun x0_1 H =>
      N46_1 ρ call yc lim k x0_1 H retK) retK)
theorem L46_x (ρ : Addr → Option Value) (call : CallF) (yc : YieldF) (lim k : Nat) (J : CodeF) (x0 : AV) (H : Heap) :
    evX (cx ρ) call yc false 46 lim k J c46 [x0, (.tup []), (.tup []), (.tup []), (.tup []), (.tup []), (.tup []), (.tup []), (.tup []), (.tup []), (.tup []), (.tup []), (.tup []), (.tup []), (.tup []), (.tup []), (.tup []), (.tup []), (.tup []), (.tup []), (.tup []), (.tup []), (.tup []), (.tup []), (.tup []), (.tup []), (.tup []), (.tup []), (.tup []), (.tup []), (.tup []), (.tup []), (.tup []), (.tup []), (.tup []), (.tup []), (.tup []), (.tup []), (.tup []), (.tup []), (.tup []), (.tup []), (.tup []), (.tup []), (.tup []), (.tup []), (.tup []), (.tup []), (.tup []), (.tup []), (.tup []), (.tup []), (.tup []), (.tup []), (.tup []), (.tup []), (.tup []), (.tup []), (.tup []), (.tup []), (.tup [])] H (kk none (fun s H => retK (([2] : List Nat).map fun t => s.getD t (.tup [])) H) [] retK [2]) =
  purK (lenS x0) fun x7 =>
  purK (binA Try.prog H .lss 3 x7 (.int .i64 2)) fun x8 =>
  condK x8
  (
    retK [x0] H)
  (
    J (Code.at [1, 1, 0, 1] c46) (sp 61 [(0, x0), (3, (.int .i64 1))]) H (kk (some [0]) (fun s H => J (Code.at [1, 1, 1] c46) s H (kk none (fun s H => retK (([2] : List Nat).map fun t => s.getD t (.tup [])) H) [] retK [2])) [] retK [2])) := by
  kernel_rfl
theorem G46 (ρ : Addr → Option Value) (call : CallF) (yc : YieldF) (lim k : Nat) (x0 : AV) (H : Heap) :
    evL (cx ρ) call yc false 46 lim k c46 [x0, (.tup []), (.tup []), (.tup []), (.tup []), (.tup []), (.tup []), (.tup []), (.tup []), (.tup []), (.tup []), (.tup []), (.tup []), (.tup []), (.tup []), (.tup []), (.tup []), (.tup []), (.tup []), (.tup []), (.tup []), (.tup []), (.tup []), (.tup []), (.tup []), (.tup []), (.tup []), (.tup []), (.tup []), (.tup []), (.tup []), (.tup []), (.tup []), (.tup []), (.tup []), (.tup []), (.tup []), (.tup []), (.tup []), (.tup []), (.tup []), (.tup []), (.tup []), (.tup []), (.tup []), (.tup []), (.tup []), (.tup []), (.tup []), (.tup []), (.tup []), (.tup []), (.tup []), (.tup []), (.tup []), (.tup []), (.tup []), (.tup []), (.tup []), (.tup []), (.tup [])] H (kk none (fun s H => retK (([2] : List Nat).map fun t => s.getD t (.tup [])) H) [] retK [2]) = L46 ρ call yc lim k x0 H := by
  rw [evL_X, L46_x]
  simp only [← evL_X, L46, N46_1_eq, N46_2_eq]
theorem E46 (ρ : Addr → Option Value) (k lim : Nat) (x0 : AV) (H : Heap) : evCall (cx ρ) (k + 1) lim 46 [x0] H = L46 ρ (evCall (cx ρ) k) (evCY (cx ρ) k).2 lim k x0 H := by
  rw [evCall_body (cx ρ) k lim 46 _ H Try.f46 c46 [2] (by kernel_rfl) (by kernel_rfl) (by kernel_rfl) (by kernel_rfl) (by kernel_rfl)]
  exact G46 ρ (evCall (cx ρ) k) (evCY (cx ρ) k).2 lim k x0 H
-- slices.ContainsFunc[[]haycroft/api.Event,haycroft/api.Event]
noncomputable def c47 : Code := Code.of Try.prog 47
noncomputable def L47 (ρ : Addr → Option Value) (call : CallF) (yc : YieldF) (lim k : Nat) (x0 x1 : AV) (H : Heap) : Res :=
  resK (call lim 67 [x0, x1] H) fun x7 H =>
  purK (binA Try.prog H .geq 3 x7 (.int .i64 0)) fun x8 =>
  retK [x8] H
theorem G47 (ρ : Addr → Option Value) (call : CallF) (yc : YieldF) (lim k : Nat) (x0 x1 : AV) (H : Heap) :
    evL (cx ρ) call yc false 47 lim k c47 [x0, x1, (.tup []), (.tup []), (.tup []), (.tup []), (.tup []), (.tup []), (.tup [])] H (kk none (fun s H => retK (([4] : List Nat).map fun t => s.getD t (.tup [])) H) [] retK [4]) = L47 ρ call yc lim k x0 x1 H := by
  kernel_rfl
theorem E47 (ρ : Addr → Option Value) (k lim : Nat) (x0 x1 : AV) (H : Heap) : evCall (cx ρ) (k + 1) lim 47 [x0, x1] H = L47 ρ (evCall (cx ρ) k) (evCY (cx ρ) k).2 lim k x0 x1 H := by
  rw [evCall_body (cx ρ) k lim 47 _ H Try.f47 c47 [4] (by kernel_rfl) (by kernel_rfl) (by kernel_rfl) (by kernel_rfl) (by kernel_rfl)]
  exact G47 ρ (evCall (cx ρ) k) (evCY (cx ρ) k).2 lim k x0 x1 H
-- haycroft/history.Right$1
noncomputable def c48 : Code := Code.of Try.prog 48
noncomputable def L48 (ρ : Addr → Option Value) (call : CallF) (yc : YieldF) (lim k : Nat) (x0 : AV) (H : Heap) : Res :=
  effK H (boxA H 55 x0) fun x1 H =>
  purK (addA 0 x1) fun x3 =>
  purK (addA 0 x3) fun x4 =>
  purK (ld1 ρ H x4) fun x5 =>
  purK (binA Try.prog H .lss 3 x5 (.int .i64 1)) fun x6 =>
  purK (gPur (wantV x6 false) (addA 0 x1)) fun x8 =>
  purK (gPur (wantV x6 false) (addA 0 x8)) fun x9 =>
  purK (gPur (wantV x6 false) (ld1 ρ H x9)) fun x10 =>
  purK (gPur (wantV x6 false) (binA Try.prog H .gtr 3 x10 (.int .i64 4))) fun x11 =>
  purK (pickA x6 (.bool true) x11) fun x12 =>
  purK (gPur (wantV x12 false) (addA 6 x1)) fun x14 =>
  purK (gPur (wantV x12 false) (ld1 ρ H x14)) fun x15 =>
  purK (gPur (wantV x12 false) (binA Try.prog H .lss 3 x15 (.int .i64 1))) fun x16 =>
  purK (pickA x12 (.bool true) x16) fun x17 =>
  purK (gPur (wantV x17 false) (addA 7 x1)) fun x19 =>
  purK (gPur (wantV x17 false) (ld1 ρ H x19)) fun x20 =>
  purK (gPur (wantV x17 false) (binA Try.prog H .neq 3 x20 (.int .i64 0))) fun x21 =>
  purK (gPur (wantV x17 false) (some x21)) fun x22 =>
  purK (gPur (wantV x22 true) (addA 7 x1)) fun x23 =>
  purK (gPur (wantV x22 true) (ld1 ρ H x23)) fun x24 =>
  purK (gPur (wantV x22 true) (addA 6 x1)) fun x25 =>
  purK (gPur (wantV x22 true) (ld1 ρ H x25)) fun x26 =>
  purK (gPur (wantV x22 true) (binA Try.prog H .leq 3 x24 x26)) fun x27 =>
  purK (gPur (wantV x17 false) (pickA x22 x27 (.bool false))) fun x28 =>
  purK (pickA x17 (.bool true) x28) fun x29 =>
  retK [x29] H
theorem G48 (ρ : Addr → Option Value) (call : CallF) (yc : YieldF) (lim k : Nat) (x0 : AV) (H : Heap) :
    evL (cx ρ) call yc false 48 lim k c48 [x0, (.tup []), (.tup []), (.tup []), (.tup []), (.tup []), (.tup []), (.tup []), (.tup []), (.tup []), (.tup []), (.tup []), (.tup []), (.tup []), (.tup []), (.tup []), (.tup []), (.tup []), (.tup []), (.tup []), (.tup []), (.tup []), (.tup []), (.tup []), (.tup []), (.tup []), (.tup []), (.tup []), (.tup []), (.tup [])] H (kk none (fun s H => retK (([2] : List Nat).map fun t => s.getD t (.tup [])) H) [] retK [2]) = L48 ρ call yc lim k x0 H := by
  kernel_rfl
theorem E48 (ρ : Addr → Option Value) (k lim : Nat) (x0 : AV) (H : Heap) : evCall (cx ρ) (k + 1) lim 48 [x0] H = L48 ρ (evCall (cx ρ) k) (evCY (cx ρ) k).2 lim k x0 H := by
  rw [evCall_body (cx ρ) k lim 48 _ H Try.f48 c48 [2] (by kernel_rfl) (by kernel_rfl) (by kernel_rfl) (by kernel_rfl) (by kernel_rfl)]
  exact G48 ρ (evCall (cx ρ) k) (evCY (cx ρ) k).2 lim k x0 H
-- haycroft/history.open
noncomputable def c49 : Code := Code.of Try.prog 49
noncomputable def N49_2 (ρ : Addr → Option Value) (call : CallF) (yc : YieldF) (lim k : Nat) (x6 : AV) (H : Heap) (R : List AV → Heap → Res) : Res :=
  R [x6, (.int .i64 0)] H
theorem N49_2_eq (ρ : Addr → Option Value) (call : CallF) (yc : YieldF) (lim k : Nat) (x6 : AV) (H : Heap) (R : List AV → Heap → Res) :
    evL (cx ρ) call yc false 49 lim k (Code.at [1, 1, 1, 1, 1, 1] c49) (sp 131 [(6, x6)]) H (kk none (fun s H => R (([4, 5] : List Nat).map fun t => s.getD t (.tup [])) H) [] R [4, 5]) = N49_2 ρ call yc lim k x6 H R := by
  kernel_rfl
noncomputable def N49_5 (ρ : Addr → Option Value) (call : CallF) (yc : YieldF) (lim k : Nat) (x6 x63 x64 x65 : AV) (H : Heap) (kn : AV → Heap → Res) : Res :=
  purK (binA Try.prog H .add 3 x65 (.int .i64 1)) fun x129_1 =>
  kn x129_1 H
theorem N49_5_eq (ρ : Addr → Option Value) (call : CallF) (yc : YieldF) (lim k : Nat) (x6 x63 x64 x65 : AV) (H : Heap) (kn : KS) (k2 : KS) (R : List AV → Heap → Res) :
    evL (cx ρ) call yc false 49 lim k (Code.at [1, 1, 1, 1, 1, 0, 1, 0, 0, 1, 1, 1] c49) (sp 131 [(6, x6), (63, x63), (64, x64), (65, x65)]) H (kk (some [6, 63, 64, 65]) kn [(2, (some [6]), k2)] R [4, 5]) = N49_5 ρ call yc lim k x6 x63 x64 x65 H (fun x65 H => kn (sp 131 [(6, x6), (63, x63), (64, x64), (65, x65)]) H) := by
  kernel_rfl
noncomputable def N49_6 (ρ : Addr → Option Value) (call : CallF) (yc : YieldF) (lim k : Nat) (x6 x9 x10 x11 x63 x64 x65 : AV) (H : Heap) (kn : AV → Heap → Res) : Res :=
  purK (nilChkA x6) fun x103_1 =>
  purK (addA 2 x103_1) fun x104_1 =>
  purK (ld1 ρ H x104_1) fun x105_1 =>
  effK H (bldS H 101 1 [.int .u32 0] 1 [(0, 1, x11)]) fun x107_1 H =>
  effK H (apA ρ lim H 101 1 4 x105_1 x107_1) fun x108_1 H =>
  purK (nilChkA x6) fun x109_1 =>
  purK (addA 2 x109_1) fun x110_1 =>
  effK H (stA lim H 1 x110_1 x108_1) fun _ H =>
  purK (addA 7 x10) fun x111_1 =>
  purK (ld1 ρ H x111_1) fun x112_1 =>
  purK (binA Try.prog H .gtr 3 x112_1 (.int .i64 0)) fun x113_1 =>
  purK (gPur (wantV x113_1 true) (addA 4 x10)) fun x115_1 =>
  purK (gPur (wantV x113_1 true) (addA 0 x115_1)) fun x116_1 =>
  purK (gPur (wantV x113_1 true) (ld1 ρ H x116_1)) fun x117_1 =>
  purK (gPur (wantV x113_1 true) (binA Try.prog H .neq 25 x117_1 (.int .i64 9))) fun x118_1 =>
  purK (pickA x113_1 x118_1 (.bool false)) fun x119_1 =>
  condK x119_1
  (
    purK (nilChkA x6) fun x121_1 =>
    purK (addA 3 x121_1) fun x122_1 =>
    purK (ld1 ρ H x122_1) fun x123_1 =>
    purK (binA Try.prog H .shl 101 (.int .u32 1) x9) fun x125_1 =>
    purK (binA Try.prog H .or 101 x123_1 x125_1) fun x126_1 =>
    purK (nilChkA x6) fun x127_1 =>
    purK (addA 3 x127_1) fun x128_1 =>
    effK H (stA lim H 1 x128_1 x126_1) fun _ H =>
    kn x65 H)
  (
    kn x65 H)
theorem N49_6_eq (ρ : Addr → Option Value) (call : CallF) (yc : YieldF) (lim k : Nat) (x6 x9 x10 x11 x63 x64 x65 : AV) (H : Heap) (kn : KS) (k3 : KS) (k2 : KS) (R : List AV → Heap → Res) :
    evL (cx ρ) call yc false 49 lim k (Code.at [1, 1, 1, 1, 1, 0, 1, 0, 0, 1, 1, 0, 0, 1, 1, 1] c49) (sp 131 [(6, x6), (9, x9), (10, x10), (11, x11), (63, x63), (64, x64), (65, x65)]) H (kk (some [6, 63, 64, 65]) kn [(3, (some [6, 63, 64, 65]), k3), (2, (some [6]), k2)] R [4, 5]) = N49_6 ρ call yc lim k x6 x9 x10 x11 x63 x64 x65 H (fun x65 H => kn (sp 131 [(6, x6), (63, x63), (64, x64), (65, x65)]) H) := by
  kernel_rfl
noncomputable def N49_9 (ρ : Addr → Option Value) (call : CallF) (yc : YieldF) (lim k : Nat) (x6 x9 x10 x11 x63 x64 x65 x73 x74 x75 : AV) (H : Heap) (kn : AV → AV → Heap → Res) : Res :=
  purK (binA Try.prog H .add 3 x75 (.int .i64 1)) fun x100_1 =>
  kn x11 x100_1 H
theorem N49_9_eq (ρ : Addr → Option Value) (call : CallF) (yc : YieldF) (lim k : Nat) (x6 x9 x10 x11 x63 x64 x65 x73 x74 x75 : AV) (H : Heap) (kn : KS) (k4 : KS) (k3 : KS) (k2 : KS) (R : List AV → Heap → Res) :
    evL (cx ρ) call yc false 49 lim k (Code.at [1, 1, 1, 1, 1, 0, 1, 0, 0, 1, 1, 0, 0, 1, 1, 0, 1, 0, 0, 1, 1, 1] c49) (sp 131 [(6, x6), (9, x9), (10, x10), (11, x11), (63, x63), (64, x64), (65, x65), (73, x73), (74, x74), (75, x75)]) H (kk (some [6, 9, 10, 11, 63, 64, 65, 73, 74, 75]) kn [(4, (some [6, 9, 10, 11, 63, 64, 65]), k4), (3, (some [6, 63, 64, 65]), k3), (2, (some [6]), k2)] R [4, 5]) = N49_9 ρ call yc lim k x6 x9 x10 x11 x63 x64 x65 x73 x74 x75 H (fun x11 x75 H => kn (sp 131 [(6, x6), (9, x9), (10, x10), (11, x11), (63, x63), (64, x64), (65, x65), (73, x73), (74, x74), (75, x75)]) H) := by
  kernel_rfl
noncomputable def N49_8b (ρ : Addr → Option Value) (call : CallF) (yc : YieldF) (lim k : Nat) (x6 x9 x10 x11 x63 x64 x65 x73 x74 x75 : AV) (H : Heap) (kn : AV → AV → Heap → Res) (k4 : AV → AV → AV → AV → Heap → Res) : Res :=
  purK (binA Try.prog H .lss 3 x75 x74) fun x76_1 =>
  condK x76_1
  (
    purK (ixS 8 x73 x75) fun x78_1 =>
    purK (ldN ρ H 8 x78_1) fun x79_1 =>
    effK H (some (.ptr H.sz 0 0, .new (newCells 55 false [.int .i64 0, .str ByteArray.empty, .str ByteArray.empty, .int .u64 0, .int .i64 0, .str ByteArray.empty, .int .i64 0, .int .i64 0]))) fun x13_1 H =>
    effK H (stA lim H 8 x13_1 x79_1) fun _ H =>
    purK (addA 7 x13_1) fun x80_1 =>
    purK (ld1 ρ H x80_1) fun x81_1 =>
    purK (binA Try.prog H .gtr 3 x81_1 (.int .i64 0)) fun x82_1 =>
    purK (gPur (wantV x82_1 true) (addA 7 x13_1)) fun x84_1 =>
    purK (gPur (wantV x82_1 true) (ld1 ρ H x84_1)) fun x85_1 =>
    purK (gPur (wantV x82_1 true) (addA 6 x10)) fun x86_1 =>
    purK (gPur (wantV x82_1 true) (ld1 ρ H x86_1)) fun x87_1 =>
    purK (gPur (wantV x82_1 true) (binA Try.prog H .lss 3 x85_1 x87_1)) fun x88_1 =>
    purK (pickA x82_1 x88_1 (.bool false)) fun x89_1 =>
    purK (gPur (wantV x89_1 true) (addA 4 x13_1)) fun x91_1 =>
    purK (gPur (wantV x89_1 true) (addA 0 x91_1)) fun x92_1 =>
    purK (gPur (wantV x89_1 true) (ld1 ρ H x92_1)) fun x93_1 =>
    purK (gPur (wantV x89_1 true) (binA Try.prog H .neq 25 x93_1 (.int .i64 9))) fun x94_1 =>
    purK (pickA x89_1 x94_1 (.bool false)) fun x95_1 =>
    condK x95_1
    (
      purK (binA Try.prog H .shl 101 (.int .u32 1) x75) fun x98_1 =>
      purK (binA Try.prog H .or 101 x11 x98_1) fun x99_1 =>
      N49_9 ρ call yc lim k x6 x9 x10 x99_1 x63 x64 x65 x73 x74 x75 H kn)
    (
      N49_9 ρ call yc lim k x6 x9 x10 x11 x63 x64 x65 x73 x74 x75 H kn))
  (
    k4 x9 x10 x11 x65 H)
theorem N49_8b_x (ρ : Addr → Option Value) (call : CallF) (yc : YieldF) (lim k : Nat) (J : CodeF) (x6 x9 x10 x11 x63 x64 x65 x73 x74 x75 : AV) (H : Heap) (kn : KS) (k4 : KS) (k3 : KS) (k2 : KS) (R : List AV → Heap → Res) :
    evX (cx ρ) call yc false 49 lim k J (Code.at [1, 1, 1, 1, 1, 0, 1, 0, 0, 1, 1, 0, 0, 1, 1, 0, 1, 0, 0] c49) (sp 131 [(6, x6), (9, x9), (10, x10), (11, x11), (63, x63), (64, x64), (65, x65), (73, x73), (74, x74), (75, x75)]) H (kk (some [6, 9, 10, 11, 63, 64, 65, 73, 74, 75]) kn [(4, (some [6, 9, 10, 11, 63, 64, 65]), k4), (3, (some [6, 63, 64, 65]), k3), (2, (some [6]), k2)] R [4, 5]) =
  purK (binA Try.prog H .lss 3 x75 x74) fun x76_1 =>
  condK x76_1
  (
    purK (ixS 8 x73 x75) fun x78_1 =>
    purK (ldN ρ H 8 x78_1) fun x79_1 =>
    effK H (some (.ptr H.sz 0 0, .new (newCells 55 false [.int .i64 0, .str ByteArray.empty, .str ByteArray.empty, .int .u64 0, .int .i64 0, .str ByteArray.empty, .int .i64 0, .int .i64 0]))) fun x13_1 H =>
    effK H (stA lim H 8 x13_1 x79_1) fun _ H =>
    purK (addA 7 x13_1) fun x80_1 =>
    purK (ld1 ρ H x80_1) fun x81_1 =>
    purK (binA Try.prog H .gtr 3 x81_1 (.int .i64 0)) fun x82_1 =>
    purK (gPur (wantV x82_1 true) (addA 7 x13_1)) fun x84_1 =>
    purK (gPur (wantV x82_1 true) (ld1 ρ H x84_1)) fun x85_1 =>
    purK (gPur (wantV x82_1 true) (addA 6 x10)) fun x86_1 =>
    purK (gPur (wantV x82_1 true) (ld1 ρ H x86_1)) fun x87_1 =>
    purK (gPur (wantV x82_1 true) (binA Try.prog H .lss 3 x85_1 x87_1)) fun x88_1 =>
    purK (pickA x82_1 x88_1 (.bool false)) fun x89_1 =>
    purK (gPur (wantV x89_1 true) (addA 4 x13_1)) fun x91_1 =>
    purK (gPur (wantV x89_1 true) (addA 0 x91_1)) fun x92_1 =>
    purK (gPur (wantV x89_1 true) (ld1 ρ H x92_1)) fun x93_1 =>
    purK (gPur (wantV x89_1 true) (binA Try.prog H .neq 25 x93_1 (.int .i64 9))) fun x94_1 =>
    purK (pickA x89_1 x94_1 (.bool false)) fun x95_1 =>
    condK x95_1
    (
      purK (binA Try.prog H .shl 101 (.int .u32 1) x75) fun x98_1 =>
      purK (binA Try.prog H .or 101 x11 x98_1) fun x99_1 =>
      J (Code.at [1, 1, 1, 1, 1, 0, 1, 0, 0, 1, 1, 0, 0, 1, 1, 0, 1, 0, 0, 1, 1, 1] c49) (sp 131 [(6, x6), (9, x9), (10, x10), (11, x99_1), (63, x63), (64, x64), (65, x65), (73, x73), (74, x74), (75, x75)]) H (kk (some [6, 9, 10, 11, 63, 64, 65, 73, 74, 75]) kn [(4, (some [6, 9, 10, 11, 63, 64, 65]), k4), (3, (some [6, 63, 64, 65]), k3), (2, (some [6]), k2)] R [4, 5]))
    (
      J (Code.at [1, 1, 1, 1, 1, 0, 1, 0, 0, 1, 1, 0, 0, 1, 1, 0, 1, 0, 0, 1, 1, 1] c49) (sp 131 [(6, x6), (9, x9), (10, x10), (11, x11), (63, x63), (64, x64), (65, x65), (73, x73), (74, x74), (75, x75)]) H (kk (some [6, 9, 10, 11, 63, 64, 65, 73, 74, 75]) kn [(4, (some [6, 9, 10, 11, 63, 64, 65]), k4), (3, (some [6, 63, 64, 65]), k3), (2, (some [6]), k2)] R [4, 5])))
  (
    k4 (sp 131 [(6, x6), (9, x9), (10, x10), (11, x11), (63, x63), (64, x64), (65, x65)]) H) := by
  kernel_rfl
theorem N49_8b_eq (ρ : Addr → Option Value) (call : CallF) (yc : YieldF) (lim k : Nat) (x6 x9 x10 x11 x63 x64 x65 x73 x74 x75 : AV) (H : Heap) (kn : KS) (k4 : KS) (k3 : KS) (k2 : KS) (R : List AV → Heap → Res) :
    evL (cx ρ) call yc false 49 lim k (Code.at [1, 1, 1, 1, 1, 0, 1, 0, 0, 1, 1, 0, 0, 1, 1, 0, 1, 0, 0] c49) (sp 131 [(6, x6), (9, x9), (10, x10), (11, x11), (63, x63), (64, x64), (65, x65), (73, x73), (74, x74), (75, x75)]) H (kk (some [6, 9, 10, 11, 63, 64, 65, 73, 74, 75]) kn [(4, (some [6, 9, 10, 11, 63, 64, 65]), k4), (3, (some [6, 63, 64, 65]), k3), (2, (some [6]), k2)] R [4, 5]) = N49_8b ρ call yc lim k x6 x9 x10 x11 x63 x64 x65 x73 x74 x75 H (fun x11 x75 H => kn (sp 131 [(6, x6), (9, x9), (10, x10), (11, x11), (63, x63), (64, x64), (65, x65), (73, x73), (74, x74), (75, x75)]) H) (fun x9 x10 x11 x65 H => k4 (sp 131 [(6, x6), (9, x9), (10, x10), (11, x11), (63, x63), (64, x64), (65, x65)]) H) := by
  rw [evL_X, N49_8b_x]
  simp only [← evL_X, N49_8b, N49_9_eq]
noncomputable def N49_8 (ρ : Addr → Option Value) (call : CallF) (yc : YieldF) (lim k : Nat) (x6 x9 x10 x11 x63 x64 x65 x73 x74 x75 : AV) (H : Heap) (k4 : AV → AV → AV → AV → Heap → Res) : Res :=
  loopL (fun (x : AV × AV) H kn => N49_8b ρ call yc lim k x6 x9 x10 x.1 x63 x64 x65 x73 x74 x.2 H (fun x11 x75 H => kn (x11, x75) H) k4) k (x11, x75) H
theorem N49_8_eq (ρ : Addr → Option Value) (call : CallF) (yc : YieldF) (lim k : Nat) (x6 x9 x10 x11 x63 x64 x65 x73 x74 x75 : AV) (H : Heap) (kn : KS) (k4 : KS) (k3 : KS) (k2 : KS) (R : List AV → Heap → Res) :
    evL (cx ρ) call yc false 49 lim k (Code.at [1, 1, 1, 1, 1, 0, 1, 0, 0, 1, 1, 0, 0, 1, 1, 0, 1, 0] c49) (sp 131 [(6, x6), (9, x9), (10, x10), (11, x11), (63, x63), (64, x64), (65, x65), (73, x73), (74, x74), (75, x75)]) H (kk (some [6, 9, 10, 11, 63, 64, 65]) kn [(4, (some [6, 9, 10, 11, 63, 64, 65]), k4), (3, (some [6, 63, 64, 65]), k3), (2, (some [6]), k2)] R [4, 5]) = N49_8 ρ call yc lim k x6 x9 x10 x11 x63 x64 x65 x73 x74 x75 H (fun x9 x10 x11 x65 H => k4 (sp 131 [(6, x6), (9, x9), (10, x10), (11, x11), (63, x63), (64, x64), (65, x65)]) H) := by
  have e : Code.at [1, 1, 1, 1, 1, 0, 1, 0, 0, 1, 1, 0, 0, 1, 1, 0, 1, 0] c49 = .loop (Code.at [1, 1, 1, 1, 1, 0, 1, 0, 0, 1, 1, 0, 0, 1, 1, 0, 1, 0, 0] c49) := by kernel_rfl
  rw [e]
  unfold N49_8
  exact loop_node [6, 9, 10, 11, 63, 64, 65, 73, 74, 75] (fun x : AV × AV => (sp 131 [(6, x6), (9, x9), (10, x10), (11, (x.1)), (63, x63), (64, x64), (65, x65), (73, x73), (74, x74), (75, (x.2))])) (fun (x : AV × AV) H kn => N49_8b ρ call yc lim k x6 x9 x10 x.1 x63 x64 x65 x73 x74 x.2 H (fun x11 x75 H => kn (x11, x75) H) (fun x9 x10 x11 x65 H => k4 (sp 131 [(6, x6), (9, x9), (10, x10), (11, x11), (63, x63), (64, x64), (65, x65)]) H)) (by kernel_rfl) (fun x => by kernel_rfl) (fun x H kn => N49_8b_eq ρ call yc lim k x6 x9 x10 (x.1) x63 x64 x65 x73 x74 (x.2) H kn k4 k3 k2 R) (x11, x75) (sp 131 [(6, x6), (9, x9), (10, x10), (11, x11), (63, x63), (64, x64), (65, x65), (73, x73), (74, x74), (75, x75)]) H (by kernel_rfl)
noncomputable def N49_7 (ρ : Addr → Option Value) (call : CallF) (yc : YieldF) (lim k : Nat) (x6 x9 x10 x11 x63 x64 x65 x73 x74 x75 : AV) (H : Heap) (kn : AV → AV → AV → AV → Heap → Res) : Res :=
  N49_8 ρ call yc lim k x6 x9 x10 x11 x63 x64 x65 x73 x74 x75 H kn
theorem N49_7_x (ρ : Addr → Option Value) (call : CallF) (yc : YieldF) (lim k : Nat) (J : CodeF) (x6 x9 x10 x11 x63 x64 x65 x73 x74 x75 : AV) (H : Heap) (kn : KS) (k3 : KS) (k2 : KS) (R : List AV → Heap → Res) :
    evX (cx ρ) call yc false 49 lim k J (Code.at [1, 1, 1, 1, 1, 0, 1, 0, 0, 1, 1, 0, 0, 1, 1, 0, 1] c49) (sp 131 [(6, x6), (9, x9), (10, x10), (11, x11), (63, x63), (64, x64), (65, x65), (73, x73), (74, x74), (75, x75)]) H (kk (some [6, 9, 10, 11, 63, 64, 65]) kn [(3, (some [6, 63, 64, 65]), k3), (2, (some [6]), k2)] R [4, 5]) =
  J (Code.at [1, 1, 1, 1, 1, 0, 1, 0, 0, 1, 1, 0, 0, 1, 1, 0, 1, 0] c49) (sp 131 [(6, x6), (9, x9), (10, x10), (11, x11), (63, x63), (64, x64), (65, x65), (73, x73), (74, x74), (75, x75)]) H (kk (some [6, 9, 10, 11, 63, 64, 65]) kn [(4, (some [6, 9, 10, 11, 63, 64, 65]), kn), (3, (some [6, 63, 64, 65]), k3), (2, (some [6]), k2)] R [4, 5]) := by
  kernel_rfl
theorem N49_7_eq (ρ : Addr → Option Value) (call : CallF) (yc : YieldF) (lim k : Nat) (x6 x9 x10 x11 x63 x64 x65 x73 x74 x75 : AV) (H : Heap) (kn : KS) (k3 : KS) (k2 : KS) (R : List AV → Heap → Res) :
    evL (cx ρ) call yc false 49 lim k (Code.at [1, 1, 1, 1, 1, 0, 1, 0, 0, 1, 1, 0, 0, 1, 1, 0, 1] c49) (sp 131 [(6, x6), (9, x9), (10, x10), (11, x11), (63, x63), (64, x64), (65, x65), (73, x73), (74, x74), (75, x75)]) H (kk (some [6, 9, 10, 11, 63, 64, 65]) kn [(3, (some [6, 63, 64, 65]), k3), (2, (some [6]), k2)] R [4, 5]) = N49_7 ρ call yc lim k x6 x9 x10 x11 x63 x64 x65 x73 x74 x75 H (fun x9 x10 x11 x65 H => kn (sp 131 [(6, x6), (9, x9), (10, x10), (11, x11), (63, x63), (64, x64), (65, x65)]) H) := by
  rw [evL_X, N49_7_x]
  simp only [← evL_X, N49_7, N49_8_eq]
noncomputable def N49_4b (ρ : Addr → Option Value) (call : CallF) (yc : YieldF) (lim k : Nat) (x6 x63 x64 x65 : AV) (H : Heap) (kn : AV → Heap → Res) (k2 : AV → Heap → Res) : Res :=
  purK (binA Try.prog H .lss 3 x65 x64) fun x66_1 =>
  condK x66_1
  (
    purK (ixS 8 x63 x65) fun x68_1 =>
    purK (ldN ρ H 8 x68_1) fun x69_1 =>
    effK H (some (.ptr H.sz 0 0, .new (newCells 55 false [.int .i64 0, .str ByteArray.empty, .str ByteArray.empty, .int .u64 0, .int .i64 0, .str ByteArray.empty, .int .i64 0, .int .i64 0]))) fun x10_1 H =>
    effK H (stA lim H 8 x10_1 x69_1) fun _ H =>
    purK (nilChkA x6) fun x71_1 =>
    purK (addA 0 x71_1) fun x72_1 =>
    purK (ld1 ρ H x72_1) fun x73_1 =>
    purK (lenS x73_1) fun x74_1 =>
    N49_7 ρ call yc lim k x6 x65 x10_1 (.int .u32 0) x63 x64 x65 x73_1 x74_1 (.int .i64 0) H (fun x9_1 x10_2 x11_1 x65_1 H =>
      N49_6 ρ call yc lim k x6 x9_1 x10_2 x11_1 x63 x64 x65_1 H (fun x65_2 H =>
        N49_5 ρ call yc lim k x6 x63 x64 x65_2 H kn)))
  (
    k2 x6 H)
theorem N49_4b_x (ρ : Addr → Option Value) (call : CallF) (yc : YieldF) (lim k : Nat) (J : CodeF) (x6 x63 x64 x65 : AV) (H : Heap) (kn : KS) (k2 : KS) (R : List AV → Heap → Res) :
    evX (cx ρ) call yc false 49 lim k J (Code.at [1, 1, 1, 1, 1, 0, 1, 0, 0] c49) (sp 131 [(6, x6), (63, x63), (64, x64), (65, x65)]) H (kk (some [6, 63, 64, 65]) kn [(2, (some [6]), k2)] R [4, 5]) =
  purK (binA Try.prog H .lss 3 x65 x64) fun x66_1 =>
  condK x66_1
  (
    purK (ixS 8 x63 x65) fun x68_1 =>
    purK (ldN ρ H 8 x68_1) fun x69_1 =>
    effK H (some (.ptr H.sz 0 0, .new (newCells 55 false [.int .i64 0, .str ByteArray.empty, .str ByteArray.empty, .int .u64 0, .int .i64 0, .str ByteArray.empty, .int .i64 0, .int .i64 0]))) fun x10_1 H =>
    effK H (stA lim H 8 x10_1 x69_1) fun _ H =>
    purK (nilChkA x6) fun x71_1 =>
    purK (addA 0 x71_1) fun x72_1 =>
    purK (ld1 ρ H x72_1) fun x73_1 =>
    purK (lenS x73_1) fun x74_1 =>
    J (Code.at [1, 1, 1, 1, 1, 0, 1, 0, 0, 1, 1, 0, 0, 1, 1, 0, 1] c49) (sp 131 [(6, x6), (9, x65), (10, x10_1), (11, (.int .u32 0)), (63, x63), (64, x64), (65, x65), (73, x73_1), (74, x74_1), (75, (.int .i64 0))]) H (kk (some [6, 9, 10, 11, 63, 64, 65]) (fun s H => J (Code.at [1, 1, 1, 1, 1, 0, 1, 0, 0, 1, 1, 0, 0, 1, 1, 1] c49) s H (kk (some [6, 63, 64, 65]) (fun s H => J (Code.at [1, 1, 1, 1, 1, 0, 1, 0, 0, 1, 1, 1] c49) s H (kk (some [6, 63, 64, 65]) kn [(2, (some [6]), k2)] R [4, 5])) [(3, (some [6, 63, 64, 65]), (fun s H => J (Code.at [1, 1, 1, 1, 1, 0, 1, 0, 0, 1, 1, 1] c49) s H (kk (some [6, 63, 64, 65]) kn [(2, (some [6]), k2)] R [4, 5]))), (2, (some [6]), k2)] R [4, 5])) [(3, (some [6, 63, 64, 65]), (fun s H => J (Code.at [1, 1, 1, 1, 1, 0, 1, 0, 0, 1, 1, 1] c49) s H (kk (some [6, 63, 64, 65]) kn [(2, (some [6]), k2)] R [4, 5]))), (2, (some [6]), k2)] R [4, 5]))
  (
    k2 (sp 131 [(6, x6)]) H) := by
  kernel_rfl
theorem N49_4b_eq (ρ : Addr → Option Value) (call : CallF) (yc : YieldF) (lim k : Nat) (x6 x63 x64 x65 : AV) (H : Heap) (kn : KS) (k2 : KS) (R : List AV → Heap → Res) :
    evL (cx ρ) call yc false 49 lim k (Code.at [1, 1, 1, 1, 1, 0, 1, 0, 0] c49) (sp 131 [(6, x6), (63, x63), (64, x64), (65, x65)]) H (kk (some [6, 63, 64, 65]) kn [(2, (some [6]), k2)] R [4, 5]) = N49_4b ρ call yc lim k x6 x63 x64 x65 H (fun x65 H => kn (sp 131 [(6, x6), (63, x63), (64, x64), (65, x65)]) H) (fun x6 H => k2 (sp 131 [(6, x6)]) H) := by
  rw [evL_X, N49_4b_x]
  simp only [← evL_X, N49_4b, N49_5_eq, N49_6_eq, N49_7_eq]
noncomputable def N49_4 (ρ : Addr → Option Value) (call : CallF) (yc : YieldF) (lim k : Nat) (x6 x63 x64 x65 : AV) (H : Heap) (k2 : AV → Heap → Res) : Res :=
  loopL (fun (x : AV) H kn => N49_4b ρ call yc lim k x6 x63 x64 x H (fun x65 H => kn x65 H) k2) k x65 H
theorem N49_4_eq (ρ : Addr → Option Value) (call : CallF) (yc : YieldF) (lim k : Nat) (x6 x63 x64 x65 : AV) (H : Heap) (kn : KS) (k2 : KS) (R : List AV → Heap → Res) :
    evL (cx ρ) call yc false 49 lim k (Code.at [1, 1, 1, 1, 1, 0, 1, 0] c49) (sp 131 [(6, x6), (63, x63), (64, x64), (65, x65)]) H (kk (some [6]) kn [(2, (some [6]), k2)] R [4, 5]) = N49_4 ρ call yc lim k x6 x63 x64 x65 H (fun x6 H => k2 (sp 131 [(6, x6)]) H) := by
  have e : Code.at [1, 1, 1, 1, 1, 0, 1, 0] c49 = .loop (Code.at [1, 1, 1, 1, 1, 0, 1, 0, 0] c49) := by kernel_rfl
  rw [e]
  unfold N49_4
  exact loop_node [6, 63, 64, 65] (fun x : AV => (sp 131 [(6, x6), (63, x63), (64, x64), (65, (x))])) (fun (x : AV) H kn => N49_4b ρ call yc lim k x6 x63 x64 x H (fun x65 H => kn x65 H) (fun x6 H => k2 (sp 131 [(6, x6)]) H)) (by kernel_rfl) (fun x => by kernel_rfl) (fun x H kn => N49_4b_eq ρ call yc lim k x6 x63 x64 (x) H kn k2 R) x65 (sp 131 [(6, x6), (63, x63), (64, x64), (65, x65)]) H (by kernel_rfl)
noncomputable def N49_3 (ρ : Addr → Option Value) (call : CallF) (yc : YieldF) (lim k : Nat) (x6 x63 x64 x65 : AV) (H : Heap) (kn : AV → Heap → Res) : Res :=
  N49_4 ρ call yc lim k x6 x63 x64 x65 H kn
theorem N49_3_x (ρ : Addr → Option Value) (call : CallF) (yc : YieldF) (lim k : Nat) (J : CodeF) (x6 x63 x64 x65 : AV) (H : Heap) (kn : KS) (R : List AV → Heap → Res) :
    evX (cx ρ) call yc false 49 lim k J (Code.at [1, 1, 1, 1, 1, 0, 1] c49) (sp 131 [(6, x6), (63, x63), (64, x64), (65, x65)]) H (kk (some [6]) kn [] R [4, 5]) =
  J (Code.at [1, 1, 1, 1, 1, 0, 1, 0] c49) (sp 131 [(6, x6), (63, x63), (64, x64), (65, x65)]) H (kk (some [6]) kn [(2, (some [6]), kn)] R [4, 5]) := by
  kernel_rfl
theorem N49_3_eq (ρ : Addr → Option Value) (call : CallF) (yc : YieldF) (lim k : Nat) (x6 x63 x64 x65 : AV) (H : Heap) (kn : KS) (R : List AV → Heap → Res) :
    evL (cx ρ) call yc false 49 lim k (Code.at [1, 1, 1, 1, 1, 0, 1] c49) (sp 131 [(6, x6), (63, x63), (64, x64), (65, x65)]) H (kk (some [6]) kn [] R [4, 5]) = N49_3 ρ call yc lim k x6 x63 x64 x65 H (fun x6 H => kn (sp 131 [(6, x6)]) H) := by
  rw [evL_X, N49_3_x]
  simp only [← evL_X, N49_3, N49_4_eq]
noncomputable def N49_1 (ρ : Addr → Option Value) (call : CallF) (yc : YieldF) (lim k : Nat) (x6 : AV) (H : Heap) (R : List AV → Heap → Res) : Res :=
  purK (nilChkA x6) fun x55_1 =>
  purK (addA 0 x55_1) fun x56_1 =>
  purK (ld1 ρ H x56_1) fun x57_1 =>
  purK (lenS x57_1) fun x58_1 =>
  purK (binA Try.prog H .gtr 3 x58_1 (.int .i64 16)) fun x59_1 =>
  condK x59_1
  (
    R [.nilp, (.int .i64 5)] H)
  (
    purK (nilChkA x6) fun x61_1 =>
    purK (addA 0 x61_1) fun x62_1 =>
    purK (ld1 ρ H x62_1) fun x63_1 =>
    purK (lenS x63_1) fun x64_1 =>
    N49_3 ρ call yc lim k x6 x63_1 x64_1 (.int .i64 0) H (fun x6_1 H =>
      N49_2 ρ call yc lim k x6_1 H R))
theorem N49_1_x (ρ : Addr → Option Value) (call : CallF) (yc : YieldF) (lim k : Nat) (J : CodeF) (x6 : AV) (H : Heap) (R : List AV → Heap → Res) :
    evX (cx ρ) call yc false 49 lim k J (Code.at [1, 1, 1, 1] c49) (sp 131 [(6, x6)]) H (kk none (fun s H => R (([4, 5] : List Nat).map fun t => s.getD t (.tup [])) H) [] R [4, 5]) =
  purK (nilChkA x6) fun x55_1 =>
  purK (addA 0 x55_1) fun x56_1 =>
  purK (ld1 ρ H x56_1) fun x57_1 =>
  purK (lenS x57_1) fun x58_1 =>
  purK (binA Try.prog H .gtr 3 x58_1 (.int .i64 16)) fun x59_1 =>
  condK x59_1
  (
    R [.nilp, (.int .i64 5)] H)
  (
    purK (nilChkA x6) fun x61_1 =>
    purK (addA 0 x61_1) fun x62_1 =>
    purK (ld1 ρ H x62_1) fun x63_1 =>
    purK (lenS x63_1) fun x64_1 =>
    J (Code.at [1, 1, 1, 1, 1, 0, 1] c49) (sp 131 [(6, x6), (63, x63_1), (64, x64_1), (65, (.int .i64 0))]) H (kk (some [6]) (fun s H => J (Code.at [1, 1, 1, 1, 1, 1] c49) s H (kk none (fun s H => R (([4, 5] : List Nat).map fun t => s.getD t (.tup [])) H) [] R [4, 5])) [] R [4, 5])) := by
  kernel_rfl
theorem N49_1_eq (ρ : Addr → Option Value) (call : CallF) (yc : YieldF) (lim k : Nat) (x6 : AV) (H : Heap) (R : List AV → Heap → Res) :
    evL (cx ρ) call yc false 49 lim k (Code.at [1, 1, 1, 1] c49) (sp 131 [(6, x6)]) H (kk none (fun s H => R (([4, 5] : List Nat).map fun t => s.getD t (.tup [])) H) [] R [4, 5]) = N49_1 ρ call yc lim k x6 H R := by
  rw [evL_X, N49_1_x]
  simp only [← evL_X, N49_1, N49_2_eq, N49_3_eq]
noncomputable def N49_12 (ρ : Addr → Option Value) (call : CallF) (yc : YieldF) (lim k : Nat) (x1 x6 x21 x22 x23 : AV) (H : Heap) (kn : AV → Heap → Res) : Res :=
  purK (binA Try.prog H .add 3 x23 (.int .i64 1)) fun x53_1 =>
  kn x53_1 H
theorem N49_12_eq (ρ : Addr → Option Value) (call : CallF) (yc : YieldF) (lim k : Nat) (x1 x6 x21 x22 x23 : AV) (H : Heap) (kn : KS) (k0 : KS) (R : List AV → Heap → Res) :
    evL (cx ρ) call yc false 49 lim k (Code.at [1, 1, 1, 0, 1, 0, 0, 1, 1, 1] c49) (sp 131 [(1, x1), (6, x6), (21, x21), (22, x22), (23, x23)]) H (kk (some [1, 6, 21, 22, 23]) kn [(0, (some [6]), k0)] R [4, 5]) = N49_12 ρ call yc lim k x1 x6 x21 x22 x23 H (fun x23 H => kn (sp 131 [(1, x1), (6, x6), (21, x21), (22, x22), (23, x23)]) H) := by
  kernel_rfl
noncomputable def N49_11b (ρ : Addr → Option Value) (call : CallF) (yc : YieldF) (lim k : Nat) (x1 x6 x21 x22 x23 : AV) (H : Heap) (kn : AV → Heap → Res) (k0 : AV → Heap → Res) : Res :=
  purK (binA Try.prog H .lss 3 x23 x22) fun x24_1 =>
  condK x24_1
  (
    purK (ixS 8 x21 x23) fun x26_1 =>
    purK (ldN ρ H 8 x26_1) fun x27_1 =>
    effK H (some (.ptr H.sz 0 0, .new (newCells 55 false [.int .i64 0, .str ByteArray.empty, .str ByteArray.empty, .int .u64 0, .int .i64 0, .str ByteArray.empty, .int .i64 0, .int .i64 0]))) fun x8_1 H =>
    effK H (stA lim H 8 x8_1 x27_1) fun _ H =>
    purK (addA 0 x8_1) fun x28_1 =>
    purK (addA 1 x28_1) fun x29_1 =>
    purK (ld1 ρ H x29_1) fun x30_1 =>
    purK (binA Try.prog H .eql 9 x30_1 x1) fun x32_1 =>
    condK x32_1
    (
      purK (nilChkA x6) fun x36_1 =>
      purK (addA 0 x36_1) fun x37_1 =>
      purK (ld1 ρ H x37_1) fun x38_1 =>
      purK (ldN ρ H 8 x8_1) fun x39_1 =>
      mkK H (bldS H 55 8 [.int .i64 0, .str ByteArray.empty, .str ByteArray.empty, .int .u64 0, .int .i64 0, .str ByteArray.empty, .int .i64 0, .int .i64 0] 1 [(0, 8, x39_1)]) true fun x40_1 H => bif (agn (ldN ρ H 8 x8_1) x39_1 && (agn (ld1 ρ H x37_1) x38_1 && true)) then
        purK (nilChkA x6) fun x43_1 =>
        purK (addA 1 x43_1) fun x44_1 =>
        purK (ld1 ρ H x44_1) fun x45_1 =>
        mkK H (bldS H 3 1 [.int .i64 0] 1 [(0, 1, x23)]) true fun x47_1 H => bif (agn (ld1 ρ H x44_1) x45_1 && (agn (ldN ρ H 8 x8_1) x39_1 && (agn (ld1 ρ H x37_1) x38_1 && true))) then
          effK H (apA ρ lim H 55 8 88 x38_1 x40_1) fun x41_1 H => bif (agn (ld1 ρ H x44_1) x45_1 && true) then
            effK H (apA ρ lim H 3 1 8 x45_1 x47_1) fun x48_1 H =>
            purK (nilChkA x6) fun x49_1 =>
            purK (addA 0 x49_1) fun x50_1 =>
            effK H (stA lim H 1 x50_1 x41_1) fun _ H =>
            purK (nilChkA x6) fun x51_1 =>
            purK (addA 1 x51_1) fun x52_1 =>
            effK H (stA lim H 1 x52_1 x48_1) fun _ H =>
            N49_12 ρ call yc lim k x1 x6 x21 x22 x23 H kn
          else none
        else none
      else none)
    (
      N49_12 ρ call yc lim k x1 x6 x21 x22 x23 H kn))
  (
    k0 x6 H)
theorem N49_11b_x (ρ : Addr → Option Value) (call : CallF) (yc : YieldF) (lim k : Nat) (J : CodeF) (x1 x6 x21 x22 x23 : AV) (H : Heap) (kn : KS) (k0 : KS) (R : List AV → Heap → Res) :
    evX (cx ρ) call yc false 49 lim k J (Code.at [1, 1, 1, 0, 1, 0, 0] c49) (sp 131 [(1, x1), (6, x6), (21, x21), (22, x22), (23, x23)]) H (kk (some [1, 6, 21, 22, 23]) kn [(0, (some [6]), k0)] R [4, 5]) =
  purK (binA Try.prog H .lss 3 x23 x22) fun x24_1 =>
  condK x24_1
  (
    purK (ixS 8 x21 x23) fun x26_1 =>
    purK (ldN ρ H 8 x26_1) fun x27_1 =>
    effK H (some (.ptr H.sz 0 0, .new (newCells 55 false [.int .i64 0, .str ByteArray.empty, .str ByteArray.empty, .int .u64 0, .int .i64 0, .str ByteArray.empty, .int .i64 0, .int .i64 0]))) fun x8_1 H =>
    effK H (stA lim H 8 x8_1 x27_1) fun _ H =>
    purK (addA 0 x8_1) fun x28_1 =>
    purK (addA 1 x28_1) fun x29_1 =>
    purK (ld1 ρ H x29_1) fun x30_1 =>
    purK (binA Try.prog H .eql 9 x30_1 x1) fun x32_1 =>
    condK x32_1
    (
      purK (nilChkA x6) fun x36_1 =>
      purK (addA 0 x36_1) fun x37_1 =>
      purK (ld1 ρ H x37_1) fun x38_1 =>
      purK (ldN ρ H 8 x8_1) fun x39_1 =>
      mkK H (bldS H 55 8 [.int .i64 0, .str ByteArray.empty, .str ByteArray.empty, .int .u64 0, .int .i64 0, .str ByteArray.empty, .int .i64 0, .int .i64 0] 1 [(0, 8, x39_1)]) true fun x40_1 H => bif (agn (ldN ρ H 8 x8_1) x39_1 && (agn (ld1 ρ H x37_1) x38_1 && true)) then
        purK (nilChkA x6) fun x43_1 =>
        purK (addA 1 x43_1) fun x44_1 =>
        purK (ld1 ρ H x44_1) fun x45_1 =>
        mkK H (bldS H 3 1 [.int .i64 0] 1 [(0, 1, x23)]) true fun x47_1 H => bif (agn (ld1 ρ H x44_1) x45_1 && (agn (ldN ρ H 8 x8_1) x39_1 && (agn (ld1 ρ H x37_1) x38_1 && true))) then
          effK H (apA ρ lim H 55 8 88 x38_1 x40_1) fun x41_1 H => bif (agn (ld1 ρ H x44_1) x45_1 && true) then
            effK H (apA ρ lim H 3 1 8 x45_1 x47_1) fun x48_1 H =>
            purK (nilChkA x6) fun x49_1 =>
            purK (addA 0 x49_1) fun x50_1 =>
            effK H (stA lim H 1 x50_1 x41_1) fun _ H =>
            purK (nilChkA x6) fun x51_1 =>
            purK (addA 1 x51_1) fun x52_1 =>
            effK H (stA lim H 1 x52_1 x48_1) fun _ H =>
            J (Code.at [1, 1, 1, 0, 1, 0, 0, 1, 1, 1] c49) (sp 131 [(1, x1), (6, x6), (21, x21), (22, x22), (23, x23)]) H (kk (some [1, 6, 21, 22, 23]) kn [(0, (some [6]), k0)] R [4, 5])
          else none
        else none
      else none)
    (
      J (Code.at [1, 1, 1, 0, 1, 0, 0, 1, 1, 1] c49) (sp 131 [(1, x1), (6, x6), (21, x21), (22, x22), (23, x23)]) H (kk (some [1, 6, 21, 22, 23]) kn [(0, (some [6]), k0)] R [4, 5])))
  (
    k0 (sp 131 [(6, x6)]) H) := by
  kernel_rfl
theorem N49_11b_eq (ρ : Addr → Option Value) (call : CallF) (yc : YieldF) (lim k : Nat) (x1 x6 x21 x22 x23 : AV) (H : Heap) (kn : KS) (k0 : KS) (R : List AV → Heap → Res) :
    evL (cx ρ) call yc false 49 lim k (Code.at [1, 1, 1, 0, 1, 0, 0] c49) (sp 131 [(1, x1), (6, x6), (21, x21), (22, x22), (23, x23)]) H (kk (some [1, 6, 21, 22, 23]) kn [(0, (some [6]), k0)] R [4, 5]) = N49_11b ρ call yc lim k x1 x6 x21 x22 x23 H (fun x23 H => kn (sp 131 [(1, x1), (6, x6), (21, x21), (22, x22), (23, x23)]) H) (fun x6 H => k0 (sp 131 [(6, x6)]) H) := by
  rw [evL_X, N49_11b_x]
  simp only [← evL_X, N49_11b, N49_12_eq]
noncomputable def N49_11 (ρ : Addr → Option Value) (call : CallF) (yc : YieldF) (lim k : Nat) (x1 x6 x21 x22 x23 : AV) (H : Heap) (k0 : AV → Heap → Res) : Res :=
  loopL (fun (x : AV) H kn => N49_11b ρ call yc lim k x1 x6 x21 x22 x H (fun x23 H => kn x23 H) k0) k x23 H
theorem N49_11_eq (ρ : Addr → Option Value) (call : CallF) (yc : YieldF) (lim k : Nat) (x1 x6 x21 x22 x23 : AV) (H : Heap) (kn : KS) (k0 : KS) (R : List AV → Heap → Res) :
    evL (cx ρ) call yc false 49 lim k (Code.at [1, 1, 1, 0, 1, 0] c49) (sp 131 [(1, x1), (6, x6), (21, x21), (22, x22), (23, x23)]) H (kk (some [6]) kn [(0, (some [6]), k0)] R [4, 5]) = N49_11 ρ call yc lim k x1 x6 x21 x22 x23 H (fun x6 H => k0 (sp 131 [(6, x6)]) H) := by
  have e : Code.at [1, 1, 1, 0, 1, 0] c49 = .loop (Code.at [1, 1, 1, 0, 1, 0, 0] c49) := by kernel_rfl
  rw [e]
  unfold N49_11
  exact loop_node [1, 6, 21, 22, 23] (fun x : AV => (sp 131 [(1, x1), (6, x6), (21, x21), (22, x22), (23, (x))])) (fun (x : AV) H kn => N49_11b ρ call yc lim k x1 x6 x21 x22 x H (fun x23 H => kn x23 H) (fun x6 H => k0 (sp 131 [(6, x6)]) H)) (by kernel_rfl) (fun x => by kernel_rfl) (fun x H kn => N49_11b_eq ρ call yc lim k x1 x6 x21 x22 (x) H kn k0 R) x23 (sp 131 [(1, x1), (6, x6), (21, x21), (22, x22), (23, x23)]) H (by kernel_rfl)
noncomputable def N49_10 (ρ : Addr → Option Value) (call : CallF) (yc : YieldF) (lim k : Nat) (x1 x6 x21 x22 x23 : AV) (H : Heap) (kn : AV → Heap → Res) : Res :=
  N49_11 ρ call yc lim k x1 x6 x21 x22 x23 H kn
theorem N49_10_x (ρ : Addr → Option Value) (call : CallF) (yc : YieldF) (lim k : Nat) (J : CodeF) (x1 x6 x21 x22 x23 : AV) (H : Heap) (kn : KS) (R : List AV → Heap → Res) :
    evX (cx ρ) call yc false 49 lim k J (Code.at [1, 1, 1, 0, 1] c49) (sp 131 [(1, x1), (6, x6), (21, x21), (22, x22), (23, x23)]) H (kk (some [6]) kn [] R [4, 5]) =
  J (Code.at [1, 1, 1, 0, 1, 0] c49) (sp 131 [(1, x1), (6, x6), (21, x21), (22, x22), (23, x23)]) H (kk (some [6]) kn [(0, (some [6]), kn)] R [4, 5]) := by
  kernel_rfl
theorem N49_10_eq (ρ : Addr → Option Value) (call : CallF) (yc : YieldF) (lim k : Nat) (x1 x6 x21 x22 x23 : AV) (H : Heap) (kn : KS) (R : List AV → Heap → Res) :
    evL (cx ρ) call yc false 49 lim k (Code.at [1, 1, 1, 0, 1] c49) (sp 131 [(1, x1), (6, x6), (21, x21), (22, x22), (23, x23)]) H (kk (some [6]) kn [] R [4, 5]) = N49_10 ρ call yc lim k x1 x6 x21 x22 x23 H (fun x6 H => kn (sp 131 [(6, x6)]) H) := by
  rw [evL_X, N49_10_x]
  simp only [← evL_X, N49_10, N49_11_eq]
noncomputable def L49 (ρ : Addr → Option Value) (call : CallF) (yc : YieldF) (lim k : Nat) (x0 x1 : AV) (H : Heap) : Res :=
  resK (call lim 24 [x0] H) fun x15 H =>
  purK (unA .not x15) fun x16 =>
  condK x16
  (
    retK [.nilp, (.int .i64 1)] H)
  (
    effK H (some (makeMapA H)) fun x17 H =>
    effK H (some (makeMapA H)) fun x18 H =>
    purK (bldA [.nils, .nils, .nils, .int .u32 0, .nilm, .nilm] [(4, 1, x17), (5, 1, x18)]) fun x19 =>
    effK H (boxA H 127 x19) fun x20 H =>
    purK (lenS x0) fun x22 =>
    N49_10 ρ call yc lim k x1 x20 x0 x22 (.int .i64 0) H (fun x6 H =>
      N49_1 ρ call yc lim k x6 H retK))
theorem L49_x (ρ : Addr → Option Value) (call : CallF) (yc : YieldF) (lim k : Nat) (J : CodeF) (x0 x1 : AV) (H : Heap) :
    evX (cx ρ) call yc false 49 lim k J c49 [x0, x1, (.tup []), (.tup []), (.tup []), (.tup []), (.tup []), (.tup []), (.tup []), (.tup []), (.tup []), (.tup []), (.tup []), (.tup []), (.tup []), (.tup []), (.tup []), (.tup []), (.tup []), (.tup []), (.tup []), (.tup []), (.tup []), (.tup []), (.tup []), (.tup []), (.tup []), (.tup []), (.tup []), (.tup []), (.tup []), (.tup []), (.tup []), (.tup []), (.tup []), (.tup []), (.tup []), (.tup []), (.tup []), (.tup []), (.tup []), (.tup []), (.tup []), (.tup []), (.tup []), (.tup []), (.tup []), (.tup []), (.tup []), (.tup []), (.tup []), (.tup []), (.tup []), (.tup []), (.tup []), (.tup []), (.tup []), (.tup []), (.tup []), (.tup []), (.tup []), (.tup []), (.tup []), (.tup []), (.tup []), (.tup []), (.tup []), (.tup []), (.tup []), (.tup []), (.tup []), (.tup []), (.tup []), (.tup []), (.tup []), (.tup []), (.tup []), (.tup []), (.tup []), (.tup []), (.tup []), (.tup []), (.tup []), (.tup []), (.tup []), (.tup []), (.tup []), (.tup []), (.tup []), (.tup []), (.tup []), (.tup []), (.tup []), (.tup []), (.tup []), (.tup []), (.tup []), (.tup []), (.tup []), (.tup []), (.tup []), (.tup []), (.tup []), (.tup []), (.tup []), (.tup []), (.tup []), (.tup []), (.tup []), (.tup []), (.tup []), (.tup []), (.tup []), (.tup []), (.tup []), (.tup []), (.tup []), (.tup []), (.tup []), (.tup []), (.tup []), (.tup []), (.tup []), (.tup []), (.tup []), (.tup []), (.tup []), (.tup []), (.tup []), (.tup []), (.tup [])] H (kk none (fun s H => retK (([4, 5] : List Nat).map fun t => s.getD t (.tup [])) H) [] retK [4, 5]) =
  resK (call lim 24 [x0] H) fun x15 H =>
  purK (unA .not x15) fun x16 =>
  condK x16
  (
    retK [.nilp, (.int .i64 1)] H)
  (
    effK H (some (makeMapA H)) fun x17 H =>
    effK H (some (makeMapA H)) fun x18 H =>
    purK (bldA [.nils, .nils, .nils, .int .u32 0, .nilm, .nilm] [(4, 1, x17), (5, 1, x18)]) fun x19 =>
    effK H (boxA H 127 x19) fun x20 H =>
    purK (lenS x0) fun x22 =>
    J (Code.at [1, 1, 1, 0, 1] c49) (sp 131 [(1, x1), (6, x20), (21, x0), (22, x22), (23, (.int .i64 0))]) H (kk (some [6]) (fun s H => J (Code.at [1, 1, 1, 1] c49) s H (kk none (fun s H => retK (([4, 5] : List Nat).map fun t => s.getD t (.tup [])) H) [] retK [4, 5])) [] retK [4, 5])) := by
  kernel_rfl
theorem G49 (ρ : Addr → Option Value) (call : CallF) (yc : YieldF) (lim k : Nat) (x0 x1 : AV) (H : Heap) :
    evL (cx ρ) call yc false 49 lim k c49 [x0, x1, (.tup []), (.tup []), (.tup []), (.tup []), (.tup []), (.tup []), (.tup []), (.tup []), (.tup []), (.tup []), (.tup []), (.tup []), (.tup []), (.tup []), (.tup []), (.tup []), (.tup []), (.tup []), (.tup []), (.tup []), (.tup []), (.tup []), (.tup []), (.tup []), (.tup []), (.tup []), (.tup []), (.tup []), (.tup []), (.tup []), (.tup []), (.tup []), (.tup []), (.tup []), (.tup []), (.tup []), (.tup []), (.tup []), (.tup []), (.tup []), (.tup []), (.tup []), (.tup []), (.tup []), (.tup []), (.tup []), (.tup []), (.tup []), (.tup []), (.tup []), (.tup []), (.tup []), (.tup []), (.tup []), (.tup []), (.tup []), (.tup []), (.tup []), (.tup []), (.tup []), (.tup []), (.tup []), (.tup []), (.tup []), (.tup []), (.tup []), (.tup []), (.tup []), (.tup []), (.tup []), (.tup []), (.tup []), (.tup []), (.tup []), (.tup []), (.tup []), (.tup []), (.tup []), (.tup []), (.tup []), (.tup []), (.tup []), (.tup []), (.tup []), (.tup []), (.tup []), (.tup []), (.tup []), (.tup []), (.tup []), (.tup []), (.tup []), (.tup []), (.tup []), (.tup []), (.tup []), (.tup []), (.tup []), (.tup []), (.tup []), (.tup []), (.tup []), (.tup []), (.tup []), (.tup []), (.tup []), (.tup []), (.tup []), (.tup []), (.tup []), (.tup []), (.tup []), (.tup []), (.tup []), (.tup []), (.tup []), (.tup []), (.tup []), (.tup []), (.tup []), (.tup []), (.tup []), (.tup []), (.tup []), (.tup []), (.tup []), (.tup []), (.tup []), (.tup [])] H (kk none (fun s H => retK (([4, 5] : List Nat).map fun t => s.getD t (.tup [])) H) [] retK [4, 5]) = L49 ρ call yc lim k x0 x1 H := by
  rw [evL_X, L49_x]
  simp only [← evL_X, L49, N49_10_eq, N49_1_eq]
theorem E49 (ρ : Addr → Option Value) (k lim : Nat) (x0 x1 : AV) (H : Heap) : evCall (cx ρ) (k + 1) lim 49 [x0, x1] H = L49 ρ (evCall (cx ρ) k) (evCY (cx ρ) k).2 lim k x0 x1 H := by
  rw [evCall_body (cx ρ) k lim 49 _ H Try.f49 c49 [4, 5] (by kernel_rfl) (by kernel_rfl) (by kernel_rfl) (by kernel_rfl) (by kernel_rfl)]
  exact G49 ρ (evCall (cx ρ) k) (evCY (cx ρ) k).2 lim k x0 x1 H
-- (*haycroft/history.search).whole
noncomputable def c50 : Code := Code.of Try.prog 50
noncomputable def L50 (ρ : Addr → Option Value) (call : CallF) (yc : YieldF) (lim k : Nat) (x0 : AV) (H : Heap) : Res :=
  effK H (boxA H 94 x0) fun x1 H =>
  purK (ld1 ρ H x1) fun x3 =>
  resK (call lim 69 [x3] H) fun x4 H =>
  resK (call lim 68 [x4, (.fn (.func 70) [] [x1])] H) fun x6 H =>
  retK [x6] H
theorem G50 (ρ : Addr → Option Value) (call : CallF) (yc : YieldF) (lim k : Nat) (x0 : AV) (H : Heap) :
    evL (cx ρ) call yc false 50 lim k c50 [x0, (.tup []), (.tup []), (.tup []), (.tup []), (.tup []), (.tup [])] H (kk none (fun s H => retK (([2] : List Nat).map fun t => s.getD t (.tup [])) H) [] retK [2]) = L50 ρ call yc lim k x0 H := by
  kernel_rfl
theorem E50 (ρ : Addr → Option Value) (k lim : Nat) (x0 : AV) (H : Heap) : evCall (cx ρ) (k + 1) lim 50 [x0] H = L50 ρ (evCall (cx ρ) k) (evCY (cx ρ) k).2 lim k x0 H := by
  rw [evCall_body (cx ρ) k lim 50 _ H Try.f50 c50 [2] (by kernel_rfl) (by kernel_rfl) (by kernel_rfl) (by kernel_rfl) (by kernel_rfl)]
  exact G50 ρ (evCall (cx ρ) k) (evCY (cx ρ) k).2 lim k x0 H
end Go.Proofs.Ytkmohjddojpdjaa

-- part Ha2
/- Functions, lifted. Printed by a program of this repo. -/
set_option linter.unusedVariables false
set_option linter.unusedSimpArgs false
set_option maxRecDepth 100000
set_option maxHeartbeats 4000000
namespace Go.Proofs.Ytkmohjddojpdjaa
open Go.Ev Go.RowKit
-- (*haycroft/history.search).way
noncomputable def c51 : Code := Code.of Try.prog 51
noncomputable def N51_2 (ρ : Addr → Option Value) (call : CallF) (yc : YieldF) (lim k : Nat) (x5 : AV) (H : Heap) (R : List AV → Heap → Res) : Res :=
  resK (call lim 71 [x5] H) fun x31_1 H =>
  R [x5] H
theorem N51_2_eq (ρ : Addr → Option Value) (call : CallF) (yc : YieldF) (lim k : Nat) (x5 : AV) (H : Heap) (R : List AV → Heap → Res) :
    evL (cx ρ) call yc false 51 lim k (Code.at [1, 1, 1] c51) (sp 33 [(5, x5)]) H (kk none (fun s H => R (([4] : List Nat).map fun t => s.getD t (.tup [])) H) [] R [4]) = N51_2 ρ call yc lim k x5 H R := by
  kernel_rfl
noncomputable def N51_3b (ρ : Addr → Option Value) (call : CallF) (yc : YieldF) (lim k : Nat) (x0 x3 x5 : AV) (H : Heap) (kn : AV → Heap → Res) (k0 : AV → Heap → Res) : Res :=
  purK (ldN ρ H 3 x3) fun x6_1 =>
  purK (bldA [.int .u32 0, .str ByteArray.empty, .bool false] []) fun x7_1 =>
  purK (binA Try.prog H .neq 105 x6_1 x7_1) fun x8_1 =>
  condK x8_1
  (
    purK (nilChkA x0) fun x11_1 =>
    purK (addA 1 x11_1) fun x12_1 =>
    purK (ld1 ρ H x12_1) fun x13_1 =>
    purK (nilChkA x0) fun x15_1 =>
    purK (addA 5 x15_1) fun x16_1 =>
    purK (ld1 ρ H x16_1) fun x17_1 =>
    purK (ldN ρ H 3 x3) fun x18_1 =>
    purK (lookupA (cx ρ) H 124 x17_1 x18_1 false) fun x19_1 =>
    purK (ixS 1 x13_1 x19_1) fun x20_1 =>
    purK (ld1 ρ H x20_1) fun x21_1 =>
    mkK H (bldS H 3 1 [.int .i64 0] 1 [(0, 1, x21_1)]) true fun x22_1 H => bif (agn (ld1 ρ H x20_1) x21_1 && (agn (lookupA (cx ρ) H 124 x17_1 x18_1 false) x19_1 && (agn (ldN ρ H 3 x3) x18_1 && (agn (ld1 ρ H x16_1) x17_1 && (agn (ld1 ρ H x12_1) x13_1 && true))))) then
      effK H (apA ρ lim H 3 1 8 x5 x22_1) fun x23_1 H =>
      purK (nilChkA x0) fun x25_1 =>
      purK (addA 4 x25_1) fun x26_1 =>
      purK (ld1 ρ H x26_1) fun x27_1 =>
      purK (ldN ρ H 3 x3) fun x28_1 =>
      purK (lookupA (cx ρ) H 123 x27_1 x28_1 false) fun x29_1 =>
      effK H (stA lim H 3 x3 x29_1) fun _ H =>
      kn x23_1 H
    else none)
  (
    k0 x5 H)
theorem N51_3b_eq (ρ : Addr → Option Value) (call : CallF) (yc : YieldF) (lim k : Nat) (x0 x3 x5 : AV) (H : Heap) (kn : KS) (k0 : KS) (R : List AV → Heap → Res) :
    evL (cx ρ) call yc false 51 lim k (Code.at [1, 1, 0, 0, 0] c51) (sp 33 [(0, x0), (3, x3), (5, x5)]) H (kk (some [0, 3, 5]) kn [(0, (some [5]), k0)] R [4]) = N51_3b ρ call yc lim k x0 x3 x5 H (fun x5 H => kn (sp 33 [(0, x0), (3, x3), (5, x5)]) H) (fun x5 H => k0 (sp 33 [(5, x5)]) H) := by
  kernel_rfl
noncomputable def N51_3 (ρ : Addr → Option Value) (call : CallF) (yc : YieldF) (lim k : Nat) (x0 x3 x5 : AV) (H : Heap) (k0 : AV → Heap → Res) : Res :=
  loopL (fun (x : AV) H kn => N51_3b ρ call yc lim k x0 x3 x H (fun x5 H => kn x5 H) k0) k x5 H
theorem N51_3_eq (ρ : Addr → Option Value) (call : CallF) (yc : YieldF) (lim k : Nat) (x0 x3 x5 : AV) (H : Heap) (kn : KS) (k0 : KS) (R : List AV → Heap → Res) :
    evL (cx ρ) call yc false 51 lim k (Code.at [1, 1, 0, 0] c51) (sp 33 [(0, x0), (3, x3), (5, x5)]) H (kk (some [5]) kn [(0, (some [5]), k0)] R [4]) = N51_3 ρ call yc lim k x0 x3 x5 H (fun x5 H => k0 (sp 33 [(5, x5)]) H) := by
  have e : Code.at [1, 1, 0, 0] c51 = .loop (Code.at [1, 1, 0, 0, 0] c51) := by kernel_rfl
  rw [e]
  unfold N51_3
  exact loop_node [0, 3, 5] (fun x : AV => (sp 33 [(0, x0), (3, x3), (5, (x))])) (fun (x : AV) H kn => N51_3b ρ call yc lim k x0 x3 x H (fun x5 H => kn x5 H) (fun x5 H => k0 (sp 33 [(5, x5)]) H)) (by kernel_rfl) (fun x => by kernel_rfl) (fun x H kn => N51_3b_eq ρ call yc lim k x0 x3 (x) H kn k0 R) x5 (sp 33 [(0, x0), (3, x3), (5, x5)]) H (by kernel_rfl)
noncomputable def N51_1 (ρ : Addr → Option Value) (call : CallF) (yc : YieldF) (lim k : Nat) (x0 x3 x5 : AV) (H : Heap) (R : List AV → Heap → Res) : Res :=
  N51_3 ρ call yc lim k x0 x3 x5 H (fun x5_1 H =>
    N51_2 ρ call yc lim k x5_1 H R)
theorem N51_1_x (ρ : Addr → Option Value) (call : CallF) (yc : YieldF) (lim k : Nat) (J : CodeF) (x0 x3 x5 : AV) (H : Heap) (R : List AV → Heap → Res) :
    evX (cx ρ) call yc false 51 lim k J (Code.at [1, 1] c51) (sp 33 [(0, x0), (3, x3), (5, x5)]) H (kk none (fun s H => R (([4] : List Nat).map fun t => s.getD t (.tup [])) H) [] R [4]) =
  J (Code.at [1, 1, 0, 0] c51) (sp 33 [(0, x0), (3, x3), (5, x5)]) H (kk (some [5]) (fun s H => J (Code.at [1, 1, 1] c51) s H (kk none (fun s H => R (([4] : List Nat).map fun t => s.getD t (.tup [])) H) [] R [4])) [(0, (some [5]), (fun s H => J (Code.at [1, 1, 1] c51) s H (kk none (fun s H => R (([4] : List Nat).map fun t => s.getD t (.tup [])) H) [] R [4])))] R [4]) := by
  kernel_rfl
theorem N51_1_eq (ρ : Addr → Option Value) (call : CallF) (yc : YieldF) (lim k : Nat) (x0 x3 x5 : AV) (H : Heap) (R : List AV → Heap → Res) :
    evL (cx ρ) call yc false 51 lim k (Code.at [1, 1] c51) (sp 33 [(0, x0), (3, x3), (5, x5)]) H (kk none (fun s H => R (([4] : List Nat).map fun t => s.getD t (.tup [])) H) [] R [4]) = N51_1 ρ call yc lim k x0 x3 x5 H R := by
  rw [evL_X, N51_1_x]
  simp only [← evL_X, N51_1, N51_2_eq, N51_3_eq]
noncomputable def L51 (ρ : Addr → Option Value) (call : CallF) (yc : YieldF) (lim k : Nat) (x0 x1 : AV) (H : Heap) : Res :=
  effK H (boxA H 105 x1) fun x3 H =>
  N51_1 ρ call yc lim k x0 x3 .nils H retK
theorem L51_x (ρ : Addr → Option Value) (call : CallF) (yc : YieldF) (lim k : Nat) (J : CodeF) (x0 x1 : AV) (H : Heap) :
    evX (cx ρ) call yc false 51 lim k J c51 [x0, x1, (.tup []), (.tup []), (.tup []), (.tup []), (.tup []), (.tup []), (.tup []), (.tup []), (.tup []), (.tup []), (.tup []), (.tup []), (.tup []), (.tup []), (.tup []), (.tup []), (.tup []), (.tup []), (.tup []), (.tup []), (.tup []), (.tup []), (.tup []), (.tup []), (.tup []), (.tup []), (.tup []), (.tup []), (.tup []), (.tup []), (.tup [])] H (kk none (fun s H => retK (([4] : List Nat).map fun t => s.getD t (.tup [])) H) [] retK [4]) =
  effK H (boxA H 105 x1) fun x3 H =>
  J (Code.at [1, 1] c51) (sp 33 [(0, x0), (3, x3), (5, .nils)]) H (kk none (fun s H => retK (([4] : List Nat).map fun t => s.getD t (.tup [])) H) [] retK [4]) := by
  kernel_rfl
theorem G51 (ρ : Addr → Option Value) (call : CallF) (yc : YieldF) (lim k : Nat) (x0 x1 : AV) (H : Heap) :
    evL (cx ρ) call yc false 51 lim k c51 [x0, x1, (.tup []), (.tup []), (.tup []), (.tup []), (.tup []), (.tup []), (.tup []), (.tup []), (.tup []), (.tup []), (.tup []), (.tup []), (.tup []), (.tup []), (.tup []), (.tup []), (.tup []), (.tup []), (.tup []), (.tup []), (.tup []), (.tup []), (.tup []), (.tup []), (.tup []), (.tup []), (.tup []), (.tup []), (.tup []), (.tup []), (.tup [])] H (kk none (fun s H => retK (([4] : List Nat).map fun t => s.getD t (.tup [])) H) [] retK [4]) = L51 ρ call yc lim k x0 x1 H := by
  rw [evL_X, L51_x]
  simp only [← evL_X, L51, N51_1_eq]
theorem E51 (ρ : Addr → Option Value) (k lim : Nat) (x0 x1 : AV) (H : Heap) : evCall (cx ρ) (k + 1) lim 51 [x0, x1] H = L51 ρ (evCall (cx ρ) k) (evCY (cx ρ) k).2 lim k x0 x1 H := by
  rw [evCall_body (cx ρ) k lim 51 _ H Try.f51 c51 [4] (by kernel_rfl) (by kernel_rfl) (by kernel_rfl) (by kernel_rfl) (by kernel_rfl)]
  exact G51 ρ (evCall (cx ρ) k) (evCY (cx ρ) k).2 lim k x0 x1 H
-- haycroft/record.Adds
noncomputable def c52 : Code := Code.of Try.prog 52
noncomputable def L52 (ρ : Addr → Option Value) (call : CallF) (yc : YieldF) (lim k : Nat) (x0 x1 : AV) (H : Heap) : Res :=
  resK (call lim 73 [x0] H) fun x6 H =>
  purK (binA Try.prog H .add 49 x6 x1) fun x8 =>
  resK (call lim 72 [x8] H) fun x9 H =>
  retK [x9] H
theorem G52 (ρ : Addr → Option Value) (call : CallF) (yc : YieldF) (lim k : Nat) (x0 x1 : AV) (H : Heap) :
    evL (cx ρ) call yc false 52 lim k c52 [x0, x1, (.tup []), (.tup []), (.tup []), (.tup []), (.tup []), (.tup []), (.tup []), (.tup [])] H (kk none (fun s H => retK (([4] : List Nat).map fun t => s.getD t (.tup [])) H) [] retK [4]) = L52 ρ call yc lim k x0 x1 H := by
  kernel_rfl
theorem E52 (ρ : Addr → Option Value) (k lim : Nat) (x0 x1 : AV) (H : Heap) : evCall (cx ρ) (k + 1) lim 52 [x0, x1] H = L52 ρ (evCall (cx ρ) k) (evCY (cx ρ) k).2 lim k x0 x1 H := by
  rw [evCall_body (cx ρ) k lim 52 _ H Try.f52 c52 [4] (by kernel_rfl) (by kernel_rfl) (by kernel_rfl) (by kernel_rfl) (by kernel_rfl)]
  exact G52 ρ (evCall (cx ρ) k) (evCY (cx ρ) k).2 lim k x0 x1 H
-- haycroft/haycroftref09.Number
noncomputable def c53 : Code := Code.of Try.prog 53
noncomputable def N53_1 (ρ : Addr → Option Value) (call : CallF) (yc : YieldF) (lim k : Nat) (x3 : AV) (H : Heap) (R : List AV → Heap → Res) : Res :=
  R [x3] H
theorem N53_1_eq (ρ : Addr → Option Value) (call : CallF) (yc : YieldF) (lim k : Nat) (x3 : AV) (H : Heap) (R : List AV → Heap → Res) :
    evL (cx ρ) call yc false 53 lim k (Code.at [1, 1, 1, 1] c53) (sp 20 [(3, x3)]) H (kk none (fun s H => R (([2] : List Nat).map fun t => s.getD t (.tup [])) H) [] R [2]) = N53_1 ρ call yc lim k x3 H R := by
  kernel_rfl
noncomputable def N53_3b (ρ : Addr → Option Value) (call : CallF) (yc : YieldF) (lim k : Nat) (x0 x3 x4 : AV) (H : Heap) (kn : AV → AV → Heap → Res) (k0 : AV → Heap → Res) : Res :=
  purK (binA Try.prog H .geq 3 x4 (.int .i64 0)) fun x9_1 =>
  condK x9_1
  (
    purK (binA Try.prog H .mul 49 x3 (.int .u64 256)) fun x13_1 =>
    purK (ixT x0 x4) fun x16_1 =>
    purK (cvI .u64 x16_1) fun x17_1 =>
    purK (binA Try.prog H .add 49 x13_1 x17_1) fun x18_1 =>
    purK (binA Try.prog H .sub 3 x4 (.int .i64 1)) fun x11_1 =>
    kn x18_1 x11_1 H)
  (
    k0 x3 H)
theorem N53_3b_eq (ρ : Addr → Option Value) (call : CallF) (yc : YieldF) (lim k : Nat) (x0 x3 x4 : AV) (H : Heap) (kn : KS) (k0 : KS) (R : List AV → Heap → Res) :
    evL (cx ρ) call yc false 53 lim k (Code.at [1, 1, 1, 0, 1, 0, 0] c53) (sp 20 [(0, x0), (3, x3), (4, x4)]) H (kk (some [0, 3, 4]) kn [(0, (some [3]), k0)] R [2]) = N53_3b ρ call yc lim k x0 x3 x4 H (fun x3 x4 H => kn (sp 20 [(0, x0), (3, x3), (4, x4)]) H) (fun x3 H => k0 (sp 20 [(3, x3)]) H) := by
  kernel_rfl
noncomputable def N53_3 (ρ : Addr → Option Value) (call : CallF) (yc : YieldF) (lim k : Nat) (x0 x3 x4 : AV) (H : Heap) (k0 : AV → Heap → Res) : Res :=
  loopL (fun (x : AV × AV) H kn => N53_3b ρ call yc lim k x0 x.1 x.2 H (fun x3 x4 H => kn (x3, x4) H) k0) k (x3, x4) H
theorem N53_3_eq (ρ : Addr → Option Value) (call : CallF) (yc : YieldF) (lim k : Nat) (x0 x3 x4 : AV) (H : Heap) (kn : KS) (k0 : KS) (R : List AV → Heap → Res) :
    evL (cx ρ) call yc false 53 lim k (Code.at [1, 1, 1, 0, 1, 0] c53) (sp 20 [(0, x0), (3, x3), (4, x4)]) H (kk (some [3]) kn [(0, (some [3]), k0)] R [2]) = N53_3 ρ call yc lim k x0 x3 x4 H (fun x3 H => k0 (sp 20 [(3, x3)]) H) := by
  have e : Code.at [1, 1, 1, 0, 1, 0] c53 = .loop (Code.at [1, 1, 1, 0, 1, 0, 0] c53) := by kernel_rfl
  rw [e]
  unfold N53_3
  exact loop_node [0, 3, 4] (fun x : AV × AV => (sp 20 [(0, x0), (3, (x.1)), (4, (x.2))])) (fun (x : AV × AV) H kn => N53_3b ρ call yc lim k x0 x.1 x.2 H (fun x3 x4 H => kn (x3, x4) H) (fun x3 H => k0 (sp 20 [(3, x3)]) H)) (by kernel_rfl) (fun x => by kernel_rfl) (fun x H kn => N53_3b_eq ρ call yc lim k x0 (x.1) (x.2) H kn k0 R) (x3, x4) (sp 20 [(0, x0), (3, x3), (4, x4)]) H (by kernel_rfl)
noncomputable def N53_2 (ρ : Addr → Option Value) (call : CallF) (yc : YieldF) (lim k : Nat) (x0 x3 x4 : AV) (H : Heap) (kn : AV → Heap → Res) : Res :=
  N53_3 ρ call yc lim k x0 x3 x4 H kn
theorem N53_2_x (ρ : Addr → Option Value) (call : CallF) (yc : YieldF) (lim k : Nat) (J : CodeF) (x0 x3 x4 : AV) (H : Heap) (kn : KS) (R : List AV → Heap → Res) :
    evX (cx ρ) call yc false 53 lim k J (Code.at [1, 1, 1, 0, 1] c53) (sp 20 [(0, x0), (3, x3), (4, x4)]) H (kk (some [3]) kn [] R [2]) =
  J (Code.at [1, 1, 1, 0, 1, 0] c53) (sp 20 [(0, x0), (3, x3), (4, x4)]) H (kk (some [3]) kn [(0, (some [3]), kn)] R [2]) := by
  kernel_rfl
theorem N53_2_eq (ρ : Addr → Option Value) (call : CallF) (yc : YieldF) (lim k : Nat) (x0 x3 x4 : AV) (H : Heap) (kn : KS) (R : List AV → Heap → Res) :
    evL (cx ρ) call yc false 53 lim k (Code.at [1, 1, 1, 0, 1] c53) (sp 20 [(0, x0), (3, x3), (4, x4)]) H (kk (some [3]) kn [] R [2]) = N53_2 ρ call yc lim k x0 x3 x4 H (fun x3 H => kn (sp 20 [(3, x3)]) H) := by
  rw [evL_X, N53_2_x]
  simp only [← evL_X, N53_2, N53_3_eq]
noncomputable def L53 (ρ : Addr → Option Value) (call : CallF) (yc : YieldF) (lim k : Nat) (x0 : AV) (H : Heap) : Res :=
  purK (lenT x0) fun x6 =>
  purK (binA Try.prog H .neq 3 x6 (.int .i64 8)) fun x7 =>
  condK x7
  (
    retK [(.int .u64 0)] H)
  (
    N53_2 ρ call yc lim k x0 (.int .u64 0) (.int .i64 7) H (fun x3 H =>
      N53_1 ρ call yc lim k x3 H retK))
theorem L53_x (ρ : Addr → Option Value) (call : CallF) (yc : YieldF) (lim k : Nat) (J : CodeF) (x0 : AV) (H : Heap) :
    evX (cx ρ) call yc false 53 lim k J c53 [x0, (.tup []), (.tup []), (.tup []), (.tup []), (.tup []), (.tup []), (.tup []), (.tup []), (.tup []), (.tup []), (.tup []), (.tup []), (.tup []), (.tup []), (.tup []), (.tup []), (.tup []), (.tup []), (.tup [])] H (kk none (fun s H => retK (([2] : List Nat).map fun t => s.getD t (.tup [])) H) [] retK [2]) =
  purK (lenT x0) fun x6 =>
  purK (binA Try.prog H .neq 3 x6 (.int .i64 8)) fun x7 =>
  condK x7
  (
    retK [(.int .u64 0)] H)
  (
    J (Code.at [1, 1, 1, 0, 1] c53) (sp 20 [(0, x0), (3, (.int .u64 0)), (4, (.int .i64 7))]) H (kk (some [3]) (fun s H => J (Code.at [1, 1, 1, 1] c53) s H (kk none (fun s H => retK (([2] : List Nat).map fun t => s.getD t (.tup [])) H) [] retK [2])) [] retK [2])) := by
  kernel_rfl
theorem G53 (ρ : Addr → Option Value) (call : CallF) (yc : YieldF) (lim k : Nat) (x0 : AV) (H : Heap) :
    evL (cx ρ) call yc false 53 lim k c53 [x0, (.tup []), (.tup []), (.tup []), (.tup []), (.tup []), (.tup []), (.tup []), (.tup []), (.tup []), (.tup []), (.tup []), (.tup []), (.tup []), (.tup []), (.tup []), (.tup []), (.tup []), (.tup []), (.tup [])] H (kk none (fun s H => retK (([2] : List Nat).map fun t => s.getD t (.tup [])) H) [] retK [2]) = L53 ρ call yc lim k x0 H := by
  rw [evL_X, L53_x]
  simp only [← evL_X, L53, N53_1_eq, N53_2_eq]
theorem E53 (ρ : Addr → Option Value) (k lim : Nat) (x0 : AV) (H : Heap) : evCall (cx ρ) (k + 1) lim 53 [x0] H = L53 ρ (evCall (cx ρ) k) (evCY (cx ρ) k).2 lim k x0 H := by
  rw [evCall_body (cx ρ) k lim 53 _ H Try.f53 c53 [2] (by kernel_rfl) (by kernel_rfl) (by kernel_rfl) (by kernel_rfl) (by kernel_rfl)]
  exact G53 ρ (evCall (cx ρ) k) (evCY (cx ρ) k).2 lim k x0 H
-- haycroft/haycroftref09.Value
noncomputable def c54 : Code := Code.of Try.prog 54
noncomputable def N54_1 (ρ : Addr → Option Value) (call : CallF) (yc : YieldF) (lim k : Nat) (x3 : AV) (H : Heap) (R : List AV → Heap → Res) : Res :=
  purK (b2s ρ H x3) fun x19_1 =>
  R [x19_1] H
theorem N54_1_eq (ρ : Addr → Option Value) (call : CallF) (yc : YieldF) (lim k : Nat) (x3 : AV) (H : Heap) (R : List AV → Heap → Res) :
    evL (cx ρ) call yc false 54 lim k (Code.at [1, 1, 1] c54) (sp 20 [(3, x3)]) H (kk none (fun s H => R (([2] : List Nat).map fun t => s.getD t (.tup [])) H) [] R [2]) = N54_1 ρ call yc lim k x3 H R := by
  kernel_rfl
noncomputable def N54_3b (ρ : Addr → Option Value) (call : CallF) (yc : YieldF) (lim k : Nat) (x0 x3 x4 : AV) (H : Heap) (kn : AV → AV → AV → Heap → Res) (k0 : AV → Heap → Res) : Res :=
  purK (binA Try.prog H .lss 3 x4 (.int .i64 8)) fun x7_1 =>
  condK x7_1
  (
    purK (binA Try.prog H .rem 49 x0 (.int .u64 256)) fun x12_1 =>
    purK (cvI .u8 x12_1) fun x13_1 =>
    effK H (bldS H 5 1 [.int .u8 0] 1 [(0, 1, x13_1)]) fun x14_1 H =>
    effK H (apA ρ lim H 5 1 1 x3 x14_1) fun x15_1 H =>
    purK (binA Try.prog H .quo 49 x0 (.int .u64 256)) fun x17_1 =>
    purK (binA Try.prog H .add 3 x4 (.int .i64 1)) fun x9_1 =>
    kn x17_1 x15_1 x9_1 H)
  (
    k0 x3 H)
theorem N54_3b_eq (ρ : Addr → Option Value) (call : CallF) (yc : YieldF) (lim k : Nat) (x0 x3 x4 : AV) (H : Heap) (kn : KS) (k0 : KS) (R : List AV → Heap → Res) :
    evL (cx ρ) call yc false 54 lim k (Code.at [1, 1, 0, 1, 0, 0] c54) (sp 20 [(0, x0), (3, x3), (4, x4)]) H (kk (some [0, 3, 4]) kn [(0, (some [3]), k0)] R [2]) = N54_3b ρ call yc lim k x0 x3 x4 H (fun x0 x3 x4 H => kn (sp 20 [(0, x0), (3, x3), (4, x4)]) H) (fun x3 H => k0 (sp 20 [(3, x3)]) H) := by
  kernel_rfl
noncomputable def N54_3 (ρ : Addr → Option Value) (call : CallF) (yc : YieldF) (lim k : Nat) (x0 x3 x4 : AV) (H : Heap) (k0 : AV → Heap → Res) : Res :=
  loopL (fun (x : AV × AV × AV) H kn => N54_3b ρ call yc lim k x.1 x.2.1 x.2.2 H (fun x0 x3 x4 H => kn (x0, x3, x4) H) k0) k (x0, x3, x4) H
theorem N54_3_eq (ρ : Addr → Option Value) (call : CallF) (yc : YieldF) (lim k : Nat) (x0 x3 x4 : AV) (H : Heap) (kn : KS) (k0 : KS) (R : List AV → Heap → Res) :
    evL (cx ρ) call yc false 54 lim k (Code.at [1, 1, 0, 1, 0] c54) (sp 20 [(0, x0), (3, x3), (4, x4)]) H (kk (some [3]) kn [(0, (some [3]), k0)] R [2]) = N54_3 ρ call yc lim k x0 x3 x4 H (fun x3 H => k0 (sp 20 [(3, x3)]) H) := by
  have e : Code.at [1, 1, 0, 1, 0] c54 = .loop (Code.at [1, 1, 0, 1, 0, 0] c54) := by kernel_rfl
  rw [e]
  unfold N54_3
  exact loop_node [0, 3, 4] (fun x : AV × AV × AV => (sp 20 [(0, (x.1)), (3, (x.2.1)), (4, (x.2.2))])) (fun (x : AV × AV × AV) H kn => N54_3b ρ call yc lim k x.1 x.2.1 x.2.2 H (fun x0 x3 x4 H => kn (x0, x3, x4) H) (fun x3 H => k0 (sp 20 [(3, x3)]) H)) (by kernel_rfl) (fun x => by kernel_rfl) (fun x H kn => N54_3b_eq ρ call yc lim k (x.1) (x.2.1) (x.2.2) H kn k0 R) (x0, x3, x4) (sp 20 [(0, x0), (3, x3), (4, x4)]) H (by kernel_rfl)
noncomputable def N54_2 (ρ : Addr → Option Value) (call : CallF) (yc : YieldF) (lim k : Nat) (x0 x3 x4 : AV) (H : Heap) (kn : AV → Heap → Res) : Res :=
  N54_3 ρ call yc lim k x0 x3 x4 H kn
theorem N54_2_x (ρ : Addr → Option Value) (call : CallF) (yc : YieldF) (lim k : Nat) (J : CodeF) (x0 x3 x4 : AV) (H : Heap) (kn : KS) (R : List AV → Heap → Res) :
    evX (cx ρ) call yc false 54 lim k J (Code.at [1, 1, 0, 1] c54) (sp 20 [(0, x0), (3, x3), (4, x4)]) H (kk (some [3]) kn [] R [2]) =
  J (Code.at [1, 1, 0, 1, 0] c54) (sp 20 [(0, x0), (3, x3), (4, x4)]) H (kk (some [3]) kn [(0, (some [3]), kn)] R [2]) := by
  kernel_rfl
theorem N54_2_eq (ρ : Addr → Option Value) (call : CallF) (yc : YieldF) (lim k : Nat) (x0 x3 x4 : AV) (H : Heap) (kn : KS) (R : List AV → Heap → Res) :
    evL (cx ρ) call yc false 54 lim k (Code.at [1, 1, 0, 1] c54) (sp 20 [(0, x0), (3, x3), (4, x4)]) H (kk (some [3]) kn [] R [2]) = N54_2 ρ call yc lim k x0 x3 x4 H (fun x3 H => kn (sp 20 [(3, x3)]) H) := by
  rw [evL_X, N54_2_x]
  simp only [← evL_X, N54_2, N54_3_eq]
noncomputable def L54 (ρ : Addr → Option Value) (call : CallF) (yc : YieldF) (lim k : Nat) (x0 : AV) (H : Heap) : Res :=
  effK H (bldS H 5 1 [.int .u8 0] 0 []) fun x5 H =>
  N54_2 ρ call yc lim k x0 x5 (.int .i64 0) H (fun x3 H =>
    N54_1 ρ call yc lim k x3 H retK)
theorem L54_x (ρ : Addr → Option Value) (call : CallF) (yc : YieldF) (lim k : Nat) (J : CodeF) (x0 : AV) (H : Heap) :
    evX (cx ρ) call yc false 54 lim k J c54 [x0, (.tup []), (.tup []), (.tup []), (.tup []), (.tup []), (.tup []), (.tup []), (.tup []), (.tup []), (.tup []), (.tup []), (.tup []), (.tup []), (.tup []), (.tup []), (.tup []), (.tup []), (.tup []), (.tup [])] H (kk none (fun s H => retK (([2] : List Nat).map fun t => s.getD t (.tup [])) H) [] retK [2]) =
  effK H (bldS H 5 1 [.int .u8 0] 0 []) fun x5 H =>
  J (Code.at [1, 1, 0, 1] c54) (sp 20 [(0, x0), (3, x5), (4, (.int .i64 0))]) H (kk (some [3]) (fun s H => J (Code.at [1, 1, 1] c54) s H (kk none (fun s H => retK (([2] : List Nat).map fun t => s.getD t (.tup [])) H) [] retK [2])) [] retK [2]) := by
  kernel_rfl
theorem G54 (ρ : Addr → Option Value) (call : CallF) (yc : YieldF) (lim k : Nat) (x0 : AV) (H : Heap) :
    evL (cx ρ) call yc false 54 lim k c54 [x0, (.tup []), (.tup []), (.tup []), (.tup []), (.tup []), (.tup []), (.tup []), (.tup []), (.tup []), (.tup []), (.tup []), (.tup []), (.tup []), (.tup []), (.tup []), (.tup []), (.tup []), (.tup []), (.tup [])] H (kk none (fun s H => retK (([2] : List Nat).map fun t => s.getD t (.tup [])) H) [] retK [2]) = L54 ρ call yc lim k x0 H := by
  rw [evL_X, L54_x]
  simp only [← evL_X, L54, N54_1_eq, N54_2_eq]
theorem E54 (ρ : Addr → Option Value) (k lim : Nat) (x0 : AV) (H : Heap) : evCall (cx ρ) (k + 1) lim 54 [x0] H = L54 ρ (evCall (cx ρ) k) (evCY (cx ρ) k).2 lim k x0 H := by
  rw [evCall_body (cx ρ) k lim 54 _ H Try.f54 c54 [2] (by kernel_rfl) (by kernel_rfl) (by kernel_rfl) (by kernel_rfl) (by kernel_rfl)]
  exact G54 ρ (evCall (cx ρ) k) (evCY (cx ρ) k).2 lim k x0 H
-- slices.pdqsortOrdered[string]
noncomputable def c65 : Code := Code.of Try.prog 65
noncomputable def N65_8 (ρ : Addr → Option Value) (call : CallF) (yc : YieldF) (lim k : Nat) (x0 x2 x3 x8 x9 x14 : AV) (H : Heap) (kn : AV → AV → AV → AV → AV → Heap → Res) : Res :=
  purK (binA Try.prog H .add 3 x14 (.int .i64 1)) fun x123_1 =>
  kn x123_1 x2 x3 x8 x9 H
theorem N65_8_eq (ρ : Addr → Option Value) (call : CallF) (yc : YieldF) (lim k : Nat) (x0 x2 x3 x8 x9 x14 : AV) (H : Heap) (kn : KS) (k1 : KS) (R : List AV → Heap → Res) :
    evL (cx ρ) call yc false 65 lim k (Code.at [1, 1, 0, 0, 0, 1, 1, 1, 1, 1, 1, 1, 1, 1, 1, 1, 1, 1, 0, 1, 1] c65) (sp 134 [(0, x0), (2, x2), (3, x3), (8, x8), (9, x9), (14, x14)]) H (kk (some [0, 1, 2, 3, 8, 9]) kn [(1, (some [0, 1, 2, 3, 8, 9]), k1), (0, none, (fun s H => R (([] : List Nat).map fun t => s.getD t (.tup [])) H))] R []) = N65_8 ρ call yc lim k x0 x2 x3 x8 x9 x14 H (fun x1 x2 x3 x8 x9 H => kn (sp 134 [(0, x0), (1, x1), (2, x2), (3, x3), (8, x8), (9, x9)]) H) := by
  kernel_rfl
noncomputable def N65_9 (ρ : Addr → Option Value) (call : CallF) (yc : YieldF) (lim k : Nat) (x0 x1 x3 x8 x9 x14 : AV) (H : Heap) (kn : AV → AV → AV → AV → AV → Heap → Res) : Res :=
  kn x1 x14 x3 x8 x9 H
theorem N65_9_eq (ρ : Addr → Option Value) (call : CallF) (yc : YieldF) (lim k : Nat) (x0 x1 x3 x8 x9 x14 : AV) (H : Heap) (kn : KS) (k1 : KS) (R : List AV → Heap → Res) :
    evL (cx ρ) call yc false 65 lim k (Code.at [1, 1, 0, 0, 0, 1, 1, 1, 1, 1, 1, 1, 1, 1, 1, 1, 1, 1, 1, 1, 1] c65) (sp 134 [(0, x0), (1, x1), (3, x3), (8, x8), (9, x9), (14, x14)]) H (kk (some [0, 1, 2, 3, 8, 9]) kn [(1, (some [0, 1, 2, 3, 8, 9]), k1), (0, none, (fun s H => R (([] : List Nat).map fun t => s.getD t (.tup [])) H))] R []) = N65_9 ρ call yc lim k x0 x1 x3 x8 x9 x14 H (fun x1 x2 x3 x8 x9 H => kn (sp 134 [(0, x0), (1, x1), (2, x2), (3, x3), (8, x8), (9, x9)]) H) := by
  kernel_rfl
noncomputable def N65_7 (ρ : Addr → Option Value) (call : CallF) (yc : YieldF) (lim k : Nat) (x0 x1 x2 x3 x10 x14 x15 : AV) (H : Heap) (kn : AV → AV → AV → AV → AV → Heap → Res) : Res :=
  purK (binA Try.prog H .sub 3 x14 x1) fun x105_1 =>
  purK (binA Try.prog H .sub 3 x2 x14) fun x108_1 =>
  purK (binA Try.prog H .quo 3 x10 (.int .i64 8)) fun x110_1 =>
  purK (binA Try.prog H .lss 3 x105_1 x108_1) fun x113_1 =>
  condK x113_1
  (
    purK (binA Try.prog H .geq 3 x105_1 x110_1) fun x116_1 =>
    resK (call lim 65 [x0, x1, x14, x3] H) fun x121_1 H =>
    N65_8 ρ call yc lim k x0 x2 x3 x116_1 x15 x14 H kn)
  (
    purK (binA Try.prog H .geq 3 x108_1 x110_1) fun x126_1 =>
    purK (binA Try.prog H .add 3 x14 (.int .i64 1)) fun x129_1 =>
    resK (call lim 65 [x0, x129_1, x2, x3] H) fun x132_1 H =>
    N65_9 ρ call yc lim k x0 x1 x3 x126_1 x15 x14 H kn)
theorem N65_7_x (ρ : Addr → Option Value) (call : CallF) (yc : YieldF) (lim k : Nat) (J : CodeF) (x0 x1 x2 x3 x10 x14 x15 : AV) (H : Heap) (kn : KS) (k1 : KS) (R : List AV → Heap → Res) :
    evX (cx ρ) call yc false 65 lim k J (Code.at [1, 1, 0, 0, 0, 1, 1, 1, 1, 1, 1, 1, 1, 1] c65) (sp 134 [(0, x0), (1, x1), (2, x2), (3, x3), (10, x10), (14, x14), (15, x15)]) H (kk (some [0, 1, 2, 3, 8, 9]) kn [(1, (some [0, 1, 2, 3, 8, 9]), k1), (0, none, (fun s H => R (([] : List Nat).map fun t => s.getD t (.tup [])) H))] R []) =
  purK (binA Try.prog H .sub 3 x14 x1) fun x105_1 =>
  purK (binA Try.prog H .sub 3 x2 x14) fun x108_1 =>
  purK (binA Try.prog H .quo 3 x10 (.int .i64 8)) fun x110_1 =>
  purK (binA Try.prog H .lss 3 x105_1 x108_1) fun x113_1 =>
  condK x113_1
  (
    purK (binA Try.prog H .geq 3 x105_1 x110_1) fun x116_1 =>
    resK (call lim 65 [x0, x1, x14, x3] H) fun x121_1 H =>
    J (Code.at [1, 1, 0, 0, 0, 1, 1, 1, 1, 1, 1, 1, 1, 1, 1, 1, 1, 1, 0, 1, 1] c65) (sp 134 [(0, x0), (2, x2), (3, x3), (8, x116_1), (9, x15), (14, x14)]) H (kk (some [0, 1, 2, 3, 8, 9]) kn [(1, (some [0, 1, 2, 3, 8, 9]), k1), (0, none, (fun s H => R (([] : List Nat).map fun t => s.getD t (.tup [])) H))] R []))
  (
    purK (binA Try.prog H .geq 3 x108_1 x110_1) fun x126_1 =>
    purK (binA Try.prog H .add 3 x14 (.int .i64 1)) fun x129_1 =>
    resK (call lim 65 [x0, x129_1, x2, x3] H) fun x132_1 H =>
    J (Code.at [1, 1, 0, 0, 0, 1, 1, 1, 1, 1, 1, 1, 1, 1, 1, 1, 1, 1, 1, 1, 1] c65) (sp 134 [(0, x0), (1, x1), (3, x3), (8, x126_1), (9, x15), (14, x14)]) H (kk (some [0, 1, 2, 3, 8, 9]) kn [(1, (some [0, 1, 2, 3, 8, 9]), k1), (0, none, (fun s H => R (([] : List Nat).map fun t => s.getD t (.tup [])) H))] R [])) := by
  kernel_rfl
theorem N65_7_eq (ρ : Addr → Option Value) (call : CallF) (yc : YieldF) (lim k : Nat) (x0 x1 x2 x3 x10 x14 x15 : AV) (H : Heap) (kn : KS) (k1 : KS) (R : List AV → Heap → Res) :
    evL (cx ρ) call yc false 65 lim k (Code.at [1, 1, 0, 0, 0, 1, 1, 1, 1, 1, 1, 1, 1, 1] c65) (sp 134 [(0, x0), (1, x1), (2, x2), (3, x3), (10, x10), (14, x14), (15, x15)]) H (kk (some [0, 1, 2, 3, 8, 9]) kn [(1, (some [0, 1, 2, 3, 8, 9]), k1), (0, none, (fun s H => R (([] : List Nat).map fun t => s.getD t (.tup [])) H))] R []) = N65_7 ρ call yc lim k x0 x1 x2 x3 x10 x14 x15 H (fun x1 x2 x3 x8 x9 H => kn (sp 134 [(0, x0), (1, x1), (2, x2), (3, x3), (8, x8), (9, x9)]) H) := by
  rw [evL_X, N65_7_x]
  simp only [← evL_X, N65_7, N65_8_eq, N65_9_eq]
noncomputable def N65_6 (ρ : Addr → Option Value) (call : CallF) (yc : YieldF) (lim k : Nat) (x0 x1 x2 x3 x10 x11 : AV) (H : Heap) (kn : AV → AV → AV → AV → AV → Heap → Res) : Res :=
  resK (call lim 91 [x0, x1, x2, x11] H) fun x99_1 H =>
  purK (extA 0 x99_1) fun x100_1 =>
  purK (extA 1 x99_1) fun x101_1 =>
  N65_7 ρ call yc lim k x0 x1 x2 x3 x10 x100_1 x101_1 H kn
theorem N65_6_x (ρ : Addr → Option Value) (call : CallF) (yc : YieldF) (lim k : Nat) (J : CodeF) (x0 x1 x2 x3 x10 x11 : AV) (H : Heap) (kn : KS) (k1 : KS) (R : List AV → Heap → Res) :
    evX (cx ρ) call yc false 65 lim k J (Code.at [1, 1, 0, 0, 0, 1, 1, 1, 1, 1, 1, 1, 1] c65) (sp 134 [(0, x0), (1, x1), (2, x2), (3, x3), (10, x10), (11, x11)]) H (kk (some [0, 1, 2, 3, 8, 9]) kn [(1, (some [0, 1, 2, 3, 8, 9]), k1), (0, none, (fun s H => R (([] : List Nat).map fun t => s.getD t (.tup [])) H))] R []) =
  resK (call lim 91 [x0, x1, x2, x11] H) fun x99_1 H =>
  purK (extA 0 x99_1) fun x100_1 =>
  purK (extA 1 x99_1) fun x101_1 =>
  J (Code.at [1, 1, 0, 0, 0, 1, 1, 1, 1, 1, 1, 1, 1, 1] c65) (sp 134 [(0, x0), (1, x1), (2, x2), (3, x3), (10, x10), (14, x100_1), (15, x101_1)]) H (kk (some [0, 1, 2, 3, 8, 9]) kn [(1, (some [0, 1, 2, 3, 8, 9]), k1), (0, none, (fun s H => R (([] : List Nat).map fun t => s.getD t (.tup [])) H))] R []) := by
  kernel_rfl
theorem N65_6_eq (ρ : Addr → Option Value) (call : CallF) (yc : YieldF) (lim k : Nat) (x0 x1 x2 x3 x10 x11 : AV) (H : Heap) (kn : KS) (k1 : KS) (R : List AV → Heap → Res) :
    evL (cx ρ) call yc false 65 lim k (Code.at [1, 1, 0, 0, 0, 1, 1, 1, 1, 1, 1, 1, 1] c65) (sp 134 [(0, x0), (1, x1), (2, x2), (3, x3), (10, x10), (11, x11)]) H (kk (some [0, 1, 2, 3, 8, 9]) kn [(1, (some [0, 1, 2, 3, 8, 9]), k1), (0, none, (fun s H => R (([] : List Nat).map fun t => s.getD t (.tup [])) H))] R []) = N65_6 ρ call yc lim k x0 x1 x2 x3 x10 x11 H (fun x1 x2 x3 x8 x9 H => kn (sp 134 [(0, x0), (1, x1), (2, x2), (3, x3), (8, x8), (9, x9)]) H) := by
  rw [evL_X, N65_6_x]
  simp only [← evL_X, N65_6, N65_7_eq]
noncomputable def N65_10 (ρ : Addr → Option Value) (call : CallF) (yc : YieldF) (lim k : Nat) (x0 x2 x3 x8 x9 x13 : AV) (H : Heap) (k1 : AV → AV → AV → AV → AV → Heap → Res) : Res :=
  k1 x13 x2 x3 x8 x9 H
theorem N65_10_eq (ρ : Addr → Option Value) (call : CallF) (yc : YieldF) (lim k : Nat) (x0 x2 x3 x8 x9 x13 : AV) (H : Heap) (kn : KS) (k1 : KS) (R : List AV → Heap → Res) :
    evL (cx ρ) call yc false 65 lim k (Code.at [1, 1, 0, 0, 0, 1, 1, 1, 1, 1, 1, 1, 0, 1, 0, 1] c65) (sp 134 [(0, x0), (2, x2), (3, x3), (8, x8), (9, x9), (13, x13)]) H (kk (some [0, 1, 2, 3, 10, 11]) kn [(1, (some [0, 1, 2, 3, 8, 9]), k1), (0, none, (fun s H => R (([] : List Nat).map fun t => s.getD t (.tup [])) H))] R []) = N65_10 ρ call yc lim k x0 x2 x3 x8 x9 x13 H (fun x1 x2 x3 x8 x9 H => k1 (sp 134 [(0, x0), (1, x1), (2, x2), (3, x3), (8, x8), (9, x9)]) H) := by
  kernel_rfl
noncomputable def N65_5 (ρ : Addr → Option Value) (call : CallF) (yc : YieldF) (lim k : Nat) (x0 x1 x2 x3 x8 x9 x10 x11 : AV) (H : Heap) (kn : AV → AV → AV → AV → AV → Heap → Res) (k1 : AV → AV → AV → AV → AV → Heap → Res) : Res :=
  purK (binA Try.prog H .gtr 3 x1 (.int .i64 0)) fun x74_1 =>
  boolK (wantV x74_1 true) fun b1 => purK (bif b1 then some x0 else some (.tup [])) fun x76_1 =>
  boolK (wantV x74_1 true) fun b2 => purK (bif b2 then some x1 else some (.tup [])) fun x77_1 =>
  boolK (wantV x74_1 true) fun b3 => purK (bif b3 then binA Try.prog H .sub 3 x77_1 (.int .i64 1) else some (.tup [])) fun x78_1 =>
  boolK (wantV x74_1 true) fun b4 => purK (bif b4 then ixS 1 x76_1 x78_1 else some (.tup [])) fun x79_1 =>
  boolK (wantV x74_1 true) fun b5 => purK (bif b5 then ld1 ρ H x79_1 else some (.tup [])) fun x80_1 =>
  boolK (wantV x74_1 true) fun b6 => purK (bif b6 then some x0 else some (.tup [])) fun x81_1 =>
  boolK (wantV x74_1 true) fun b7 => purK (bif b7 then some x11 else some (.tup [])) fun x82_1 =>
  boolK (wantV x74_1 true) fun b8 => purK (bif b8 then ixS 1 x81_1 x82_1 else some (.tup [])) fun x83_1 =>
  boolK (wantV x74_1 true) fun b9 => purK (bif b9 then ld1 ρ H x83_1 else some (.tup [])) fun x84_1 =>
  boolK (wantV x74_1 true) fun b10 => resK (gRes (some b10) H (call lim 89 [x80_1, x84_1] H)) fun x85_1 H => bif !b10 || ((!b9 || true) && ((!b5 || true) && ((!b3 || true) && true))) then
    purK (gPur (wantV x74_1 true) (unA .not x85_1)) fun x86_1 =>
    purK (pickA x74_1 x86_1 (.bool false)) fun x87_1 =>
    condK x87_1
    (
      resK (call lim 90 [x0, x1, x2, x11] H) fun x92_1 H =>
      N65_10 ρ call yc lim k x0 x2 x3 x8 x9 x92_1 H k1)
    (
      N65_6 ρ call yc lim k x0 x1 x2 x3 x10 x11 H kn)
  else none
theorem N65_5_x (ρ : Addr → Option Value) (call : CallF) (yc : YieldF) (lim k : Nat) (J : CodeF) (x0 x1 x2 x3 x8 x9 x10 x11 : AV) (H : Heap) (kn : KS) (k1 : KS) (R : List AV → Heap → Res) :
    evX (cx ρ) call yc false 65 lim k J (Code.at [1, 1, 0, 0, 0, 1, 1, 1, 1, 1, 1, 1] c65) (sp 134 [(0, x0), (1, x1), (2, x2), (3, x3), (8, x8), (9, x9), (10, x10), (11, x11)]) H (kk (some [0, 1, 2, 3, 8, 9]) kn [(1, (some [0, 1, 2, 3, 8, 9]), k1), (0, none, (fun s H => R (([] : List Nat).map fun t => s.getD t (.tup [])) H))] R []) =
  purK (binA Try.prog H .gtr 3 x1 (.int .i64 0)) fun x74_1 =>
  boolK (wantV x74_1 true) fun b1 => purK (bif b1 then some x0 else some (.tup [])) fun x76_1 =>
  boolK (wantV x74_1 true) fun b2 => purK (bif b2 then some x1 else some (.tup [])) fun x77_1 =>
  boolK (wantV x74_1 true) fun b3 => purK (bif b3 then binA Try.prog H .sub 3 x77_1 (.int .i64 1) else some (.tup [])) fun x78_1 =>
  boolK (wantV x74_1 true) fun b4 => purK (bif b4 then ixS 1 x76_1 x78_1 else some (.tup [])) fun x79_1 =>
  boolK (wantV x74_1 true) fun b5 => purK (bif b5 then ld1 ρ H x79_1 else some (.tup [])) fun x80_1 =>
  boolK (wantV x74_1 true) fun b6 => purK (bif b6 then some x0 else some (.tup [])) fun x81_1 =>
  boolK (wantV x74_1 true) fun b7 => purK (bif b7 then some x11 else some (.tup [])) fun x82_1 =>
  boolK (wantV x74_1 true) fun b8 => purK (bif b8 then ixS 1 x81_1 x82_1 else some (.tup [])) fun x83_1 =>
  boolK (wantV x74_1 true) fun b9 => purK (bif b9 then ld1 ρ H x83_1 else some (.tup [])) fun x84_1 =>
  boolK (wantV x74_1 true) fun b10 => resK (gRes (some b10) H (call lim 89 [x80_1, x84_1] H)) fun x85_1 H => bif !b10 || ((!b9 || true) && ((!b5 || true) && ((!b3 || true) && true))) then
    purK (gPur (wantV x74_1 true) (unA .not x85_1)) fun x86_1 =>
    purK (pickA x74_1 x86_1 (.bool false)) fun x87_1 =>
    condK x87_1
    (
      resK (call lim 90 [x0, x1, x2, x11] H) fun x92_1 H =>
      J (Code.at [1, 1, 0, 0, 0, 1, 1, 1, 1, 1, 1, 1, 0, 1, 0, 1] c65) (sp 134 [(0, x0), (2, x2), (3, x3), (8, x8), (9, x9), (13, x92_1)]) H (kk (some [0, 1, 2, 3, 10, 11]) (fun s H => J (Code.at [1, 1, 0, 0, 0, 1, 1, 1, 1, 1, 1, 1, 1] c65) s H (kk (some [0, 1, 2, 3, 8, 9]) kn [(1, (some [0, 1, 2, 3, 8, 9]), k1), (0, none, (fun s H => R (([] : List Nat).map fun t => s.getD t (.tup [])) H))] R [])) [(1, (some [0, 1, 2, 3, 8, 9]), k1), (0, none, (fun s H => R (([] : List Nat).map fun t => s.getD t (.tup [])) H))] R []))
    (
      J (Code.at [1, 1, 0, 0, 0, 1, 1, 1, 1, 1, 1, 1, 1] c65) (sp 134 [(0, x0), (1, x1), (2, x2), (3, x3), (10, x10), (11, x11)]) H (kk (some [0, 1, 2, 3, 8, 9]) kn [(1, (some [0, 1, 2, 3, 8, 9]), k1), (0, none, (fun s H => R (([] : List Nat).map fun t => s.getD t (.tup [])) H))] R []))
  else none := by
  kernel_rfl
theorem N65_5_eq (ρ : Addr → Option Value) (call : CallF) (yc : YieldF) (lim k : Nat) (x0 x1 x2 x3 x8 x9 x10 x11 : AV) (H : Heap) (kn : KS) (k1 : KS) (R : List AV → Heap → Res) :
    evL (cx ρ) call yc false 65 lim k (Code.at [1, 1, 0, 0, 0, 1, 1, 1, 1, 1, 1, 1] c65) (sp 134 [(0, x0), (1, x1), (2, x2), (3, x3), (8, x8), (9, x9), (10, x10), (11, x11)]) H (kk (some [0, 1, 2, 3, 8, 9]) kn [(1, (some [0, 1, 2, 3, 8, 9]), k1), (0, none, (fun s H => R (([] : List Nat).map fun t => s.getD t (.tup [])) H))] R []) = N65_5 ρ call yc lim k x0 x1 x2 x3 x8 x9 x10 x11 H (fun x1 x2 x3 x8 x9 H => kn (sp 134 [(0, x0), (1, x1), (2, x2), (3, x3), (8, x8), (9, x9)]) H) (fun x1 x2 x3 x8 x9 H => k1 (sp 134 [(0, x0), (1, x1), (2, x2), (3, x3), (8, x8), (9, x9)]) H) := by
  rw [evL_X, N65_5_x]
  simp only [← evL_X, N65_5, N65_10_eq, N65_6_eq]
noncomputable def N65_11 (ρ : Addr → Option Value) (call : CallF) (yc : YieldF) (lim k : Nat) (x0 x1 x2 x3 x8 x9 x10 x11 x68 : AV) (H : Heap) (kn : AV → AV → AV → AV → AV → AV → AV → Heap → Res) (R : List AV → Heap → Res) : Res :=
  condK x68
  (
    resK (call lim 88 [x0, x1, x2] H) fun x72_1 H =>
    condK x72_1
    (
      R [] H)
    (
      kn x1 x2 x3 x8 x9 x10 x11 H))
  (
    kn x1 x2 x3 x8 x9 x10 x11 H)
theorem N65_11_eq (ρ : Addr → Option Value) (call : CallF) (yc : YieldF) (lim k : Nat) (x0 x1 x2 x3 x8 x9 x10 x11 x68 : AV) (H : Heap) (kn : KS) (k1 : KS) (R : List AV → Heap → Res) :
    evL (cx ρ) call yc false 65 lim k (Code.at [1, 1, 0, 0, 0, 1, 1, 1, 1, 1, 1, 0, 1] c65) (sp 134 [(0, x0), (1, x1), (2, x2), (3, x3), (8, x8), (9, x9), (10, x10), (11, x11), (68, x68)]) H (kk (some [0, 1, 2, 3, 8, 9, 10, 11]) kn [(1, (some [0, 1, 2, 3, 8, 9]), k1), (0, none, (fun s H => R (([] : List Nat).map fun t => s.getD t (.tup [])) H))] R []) = N65_11 ρ call yc lim k x0 x1 x2 x3 x8 x9 x10 x11 x68 H (fun x1 x2 x3 x8 x9 x10 x11 H => kn (sp 134 [(0, x0), (1, x1), (2, x2), (3, x3), (8, x8), (9, x9), (10, x10), (11, x11)]) H) R := by
  kernel_rfl
noncomputable def N65_4 (ρ : Addr → Option Value) (call : CallF) (yc : YieldF) (lim k : Nat) (x0 x1 x2 x3 x8 x9 x10 x11 x12 : AV) (H : Heap) (kn : AV → AV → AV → AV → AV → Heap → Res) (k1 : AV → AV → AV → AV → AV → Heap → Res) (R : List AV → Heap → Res) : Res :=
  purK (gPur (wantV x8 true) (some x9)) fun x63_1 =>
  purK (pickA x8 x63_1 (.bool false)) fun x64_1 =>
  purK (gPur (wantV x64_1 true) (some x12)) fun x66_1 =>
  purK (gPur (wantV x64_1 true) (binA Try.prog H .eql 141 x66_1 (.int .i64 1))) fun x67_1 =>
  purK (pickA x64_1 x67_1 (.bool false)) fun x68_1 =>
  N65_11 ρ call yc lim k x0 x1 x2 x3 x8 x9 x10 x11 x68_1 H (fun x1_1 x2_1 x3_1 x8_1 x9_1 x10_1 x11_1 H =>
    N65_5 ρ call yc lim k x0 x1_1 x2_1 x3_1 x8_1 x9_1 x10_1 x11_1 H kn k1) R
theorem N65_4_x (ρ : Addr → Option Value) (call : CallF) (yc : YieldF) (lim k : Nat) (J : CodeF) (x0 x1 x2 x3 x8 x9 x10 x11 x12 : AV) (H : Heap) (kn : KS) (k1 : KS) (R : List AV → Heap → Res) :
    evX (cx ρ) call yc false 65 lim k J (Code.at [1, 1, 0, 0, 0, 1, 1, 1, 1, 1, 1] c65) (sp 134 [(0, x0), (1, x1), (2, x2), (3, x3), (8, x8), (9, x9), (10, x10), (11, x11), (12, x12)]) H (kk (some [0, 1, 2, 3, 8, 9]) kn [(1, (some [0, 1, 2, 3, 8, 9]), k1), (0, none, (fun s H => R (([] : List Nat).map fun t => s.getD t (.tup [])) H))] R []) =
  purK (gPur (wantV x8 true) (some x9)) fun x63_1 =>
  purK (pickA x8 x63_1 (.bool false)) fun x64_1 =>
  purK (gPur (wantV x64_1 true) (some x12)) fun x66_1 =>
  purK (gPur (wantV x64_1 true) (binA Try.prog H .eql 141 x66_1 (.int .i64 1))) fun x67_1 =>
  purK (pickA x64_1 x67_1 (.bool false)) fun x68_1 =>
  J (Code.at [1, 1, 0, 0, 0, 1, 1, 1, 1, 1, 1, 0, 1] c65) (sp 134 [(0, x0), (1, x1), (2, x2), (3, x3), (8, x8), (9, x9), (10, x10), (11, x11), (68, x68_1)]) H (kk (some [0, 1, 2, 3, 8, 9, 10, 11]) (fun s H => J (Code.at [1, 1, 0, 0, 0, 1, 1, 1, 1, 1, 1, 1] c65) s H (kk (some [0, 1, 2, 3, 8, 9]) kn [(1, (some [0, 1, 2, 3, 8, 9]), k1), (0, none, (fun s H => R (([] : List Nat).map fun t => s.getD t (.tup [])) H))] R [])) [(1, (some [0, 1, 2, 3, 8, 9]), k1), (0, none, (fun s H => R (([] : List Nat).map fun t => s.getD t (.tup [])) H))] R []) := by
  kernel_rfl
theorem N65_4_eq (ρ : Addr → Option Value) (call : CallF) (yc : YieldF) (lim k : Nat) (x0 x1 x2 x3 x8 x9 x10 x11 x12 : AV) (H : Heap) (kn : KS) (k1 : KS) (R : List AV → Heap → Res) :
    evL (cx ρ) call yc false 65 lim k (Code.at [1, 1, 0, 0, 0, 1, 1, 1, 1, 1, 1] c65) (sp 134 [(0, x0), (1, x1), (2, x2), (3, x3), (8, x8), (9, x9), (10, x10), (11, x11), (12, x12)]) H (kk (some [0, 1, 2, 3, 8, 9]) kn [(1, (some [0, 1, 2, 3, 8, 9]), k1), (0, none, (fun s H => R (([] : List Nat).map fun t => s.getD t (.tup [])) H))] R []) = N65_4 ρ call yc lim k x0 x1 x2 x3 x8 x9 x10 x11 x12 H (fun x1 x2 x3 x8 x9 H => kn (sp 134 [(0, x0), (1, x1), (2, x2), (3, x3), (8, x8), (9, x9)]) H) (fun x1 x2 x3 x8 x9 H => k1 (sp 134 [(0, x0), (1, x1), (2, x2), (3, x3), (8, x8), (9, x9)]) H) R := by
  rw [evL_X, N65_4_x]
  simp only [← evL_X, N65_4, N65_11_eq, N65_5_eq]
noncomputable def N65_3 (ρ : Addr → Option Value) (call : CallF) (yc : YieldF) (lim k : Nat) (x0 x1 x2 x3 x8 x9 x10 : AV) (H : Heap) (kn : AV → AV → AV → AV → AV → Heap → Res) (k1 : AV → AV → AV → AV → AV → Heap → Res) (R : List AV → Heap → Res) : Res :=
  resK (call lim 86 [x0, x1, x2] H) fun x46_1 H =>
  purK (extA 0 x46_1) fun x47_1 =>
  purK (extA 1 x46_1) fun x48_1 =>
  purK (binA Try.prog H .eql 141 x48_1 (.int .i64 2)) fun x50_1 =>
  condK x50_1
  (
    resK (call lim 87 [x0, x1, x2] H) fun x54_1 H =>
    purK (binA Try.prog H .sub 3 x2 (.int .i64 1)) fun x56_1 =>
    purK (binA Try.prog H .sub 3 x47_1 x1) fun x59_1 =>
    purK (binA Try.prog H .sub 3 x56_1 x59_1) fun x60_1 =>
    N65_4 ρ call yc lim k x0 x1 x2 x3 x8 x9 x10 x60_1 (.int .i64 1) H kn k1 R)
  (
    N65_4 ρ call yc lim k x0 x1 x2 x3 x8 x9 x10 x47_1 x48_1 H kn k1 R)
theorem N65_3_x (ρ : Addr → Option Value) (call : CallF) (yc : YieldF) (lim k : Nat) (J : CodeF) (x0 x1 x2 x3 x8 x9 x10 : AV) (H : Heap) (kn : KS) (k1 : KS) (R : List AV → Heap → Res) :
    evX (cx ρ) call yc false 65 lim k J (Code.at [1, 1, 0, 0, 0, 1, 1, 1, 1] c65) (sp 134 [(0, x0), (1, x1), (2, x2), (3, x3), (8, x8), (9, x9), (10, x10)]) H (kk (some [0, 1, 2, 3, 8, 9]) kn [(1, (some [0, 1, 2, 3, 8, 9]), k1), (0, none, (fun s H => R (([] : List Nat).map fun t => s.getD t (.tup [])) H))] R []) =
  resK (call lim 86 [x0, x1, x2] H) fun x46_1 H =>
  purK (extA 0 x46_1) fun x47_1 =>
  purK (extA 1 x46_1) fun x48_1 =>
  purK (binA Try.prog H .eql 141 x48_1 (.int .i64 2)) fun x50_1 =>
  condK x50_1
  (
    resK (call lim 87 [x0, x1, x2] H) fun x54_1 H =>
    purK (binA Try.prog H .sub 3 x2 (.int .i64 1)) fun x56_1 =>
    purK (binA Try.prog H .sub 3 x47_1 x1) fun x59_1 =>
    purK (binA Try.prog H .sub 3 x56_1 x59_1) fun x60_1 =>
    J (Code.at [1, 1, 0, 0, 0, 1, 1, 1, 1, 1, 1] c65) (sp 134 [(0, x0), (1, x1), (2, x2), (3, x3), (8, x8), (9, x9), (10, x10), (11, x60_1), (12, (.int .i64 1))]) H (kk (some [0, 1, 2, 3, 8, 9]) kn [(1, (some [0, 1, 2, 3, 8, 9]), k1), (0, none, (fun s H => R (([] : List Nat).map fun t => s.getD t (.tup [])) H))] R []))
  (
    J (Code.at [1, 1, 0, 0, 0, 1, 1, 1, 1, 1, 1] c65) (sp 134 [(0, x0), (1, x1), (2, x2), (3, x3), (8, x8), (9, x9), (10, x10), (11, x47_1), (12, x48_1)]) H (kk (some [0, 1, 2, 3, 8, 9]) kn [(1, (some [0, 1, 2, 3, 8, 9]), k1), (0, none, (fun s H => R (([] : List Nat).map fun t => s.getD t (.tup [])) H))] R [])) := by
  kernel_rfl
theorem N65_3_eq (ρ : Addr → Option Value) (call : CallF) (yc : YieldF) (lim k : Nat) (x0 x1 x2 x3 x8 x9 x10 : AV) (H : Heap) (kn : KS) (k1 : KS) (R : List AV → Heap → Res) :
    evL (cx ρ) call yc false 65 lim k (Code.at [1, 1, 0, 0, 0, 1, 1, 1, 1] c65) (sp 134 [(0, x0), (1, x1), (2, x2), (3, x3), (8, x8), (9, x9), (10, x10)]) H (kk (some [0, 1, 2, 3, 8, 9]) kn [(1, (some [0, 1, 2, 3, 8, 9]), k1), (0, none, (fun s H => R (([] : List Nat).map fun t => s.getD t (.tup [])) H))] R []) = N65_3 ρ call yc lim k x0 x1 x2 x3 x8 x9 x10 H (fun x1 x2 x3 x8 x9 H => kn (sp 134 [(0, x0), (1, x1), (2, x2), (3, x3), (8, x8), (9, x9)]) H) (fun x1 x2 x3 x8 x9 H => k1 (sp 134 [(0, x0), (1, x1), (2, x2), (3, x3), (8, x8), (9, x9)]) H) R := by
  rw [evL_X, N65_3_x]
  simp only [← evL_X, N65_3, N65_4_eq]
noncomputable def N65_2b (ρ : Addr → Option Value) (call : CallF) (yc : YieldF) (lim k : Nat) (x0 x1 x2 x3 x8 x9 : AV) (H : Heap) (kn : AV → AV → AV → AV → AV → Heap → Res) (R : List AV → Heap → Res) : Res :=
  purK (binA Try.prog H .sub 3 x2 x1) fun x21_1 =>
  purK (binA Try.prog H .leq 3 x21_1 (.int .i64 12)) fun x23_1 =>
  condK x23_1
  (
    resK (call lim 83 [x0, x1, x2] H) fun x27_1 H =>
    R [] H)
  (
    purK (binA Try.prog H .eql 3 x3 (.int .i64 0)) fun x29_1 =>
    condK x29_1
    (
      resK (call lim 84 [x0, x1, x2] H) fun x33_1 H =>
      R [] H)
    (
      purK (unA .not x8) fun x35_1 =>
      condK x35_1
      (
        resK (call lim 85 [x0, x1, x2] H) fun x39_1 H =>
        purK (binA Try.prog H .sub 3 x3 (.int .i64 1)) fun x41_1 =>
        N65_3 ρ call yc lim k x0 x1 x2 x41_1 x8 x9 x21_1 H kn kn R)
      (
        N65_3 ρ call yc lim k x0 x1 x2 x3 x8 x9 x21_1 H kn kn R)))
theorem N65_2b_x (ρ : Addr → Option Value) (call : CallF) (yc : YieldF) (lim k : Nat) (J : CodeF) (x0 x1 x2 x3 x8 x9 : AV) (H : Heap) (kn : KS) (R : List AV → Heap → Res) :
    evX (cx ρ) call yc false 65 lim k J (Code.at [1, 1, 0, 0] c65) (sp 134 [(0, x0), (1, x1), (2, x2), (3, x3), (8, x8), (9, x9)]) H (kk (some [0, 1, 2, 3, 8, 9]) kn [(0, none, (fun s H => R (([] : List Nat).map fun t => s.getD t (.tup [])) H))] R []) =
  purK (binA Try.prog H .sub 3 x2 x1) fun x21_1 =>
  purK (binA Try.prog H .leq 3 x21_1 (.int .i64 12)) fun x23_1 =>
  condK x23_1
  (
    resK (call lim 83 [x0, x1, x2] H) fun x27_1 H =>
    R [] H)
  (
    purK (binA Try.prog H .eql 3 x3 (.int .i64 0)) fun x29_1 =>
    condK x29_1
    (
      resK (call lim 84 [x0, x1, x2] H) fun x33_1 H =>
      R [] H)
    (
      purK (unA .not x8) fun x35_1 =>
      condK x35_1
      (
        resK (call lim 85 [x0, x1, x2] H) fun x39_1 H =>
        purK (binA Try.prog H .sub 3 x3 (.int .i64 1)) fun x41_1 =>
        J (Code.at [1, 1, 0, 0, 0, 1, 1, 1, 1] c65) (sp 134 [(0, x0), (1, x1), (2, x2), (3, x41_1), (8, x8), (9, x9), (10, x21_1)]) H (kk (some [0, 1, 2, 3, 8, 9]) kn [(1, (some [0, 1, 2, 3, 8, 9]), kn), (0, none, (fun s H => R (([] : List Nat).map fun t => s.getD t (.tup [])) H))] R []))
      (
        J (Code.at [1, 1, 0, 0, 0, 1, 1, 1, 1] c65) (sp 134 [(0, x0), (1, x1), (2, x2), (3, x3), (8, x8), (9, x9), (10, x21_1)]) H (kk (some [0, 1, 2, 3, 8, 9]) kn [(1, (some [0, 1, 2, 3, 8, 9]), kn), (0, none, (fun s H => R (([] : List Nat).map fun t => s.getD t (.tup [])) H))] R [])))) := by
  kernel_rfl
theorem N65_2b_eq (ρ : Addr → Option Value) (call : CallF) (yc : YieldF) (lim k : Nat) (x0 x1 x2 x3 x8 x9 : AV) (H : Heap) (kn : KS) (R : List AV → Heap → Res) :
    evL (cx ρ) call yc false 65 lim k (Code.at [1, 1, 0, 0] c65) (sp 134 [(0, x0), (1, x1), (2, x2), (3, x3), (8, x8), (9, x9)]) H (kk (some [0, 1, 2, 3, 8, 9]) kn [(0, none, (fun s H => R (([] : List Nat).map fun t => s.getD t (.tup [])) H))] R []) = N65_2b ρ call yc lim k x0 x1 x2 x3 x8 x9 H (fun x1 x2 x3 x8 x9 H => kn (sp 134 [(0, x0), (1, x1), (2, x2), (3, x3), (8, x8), (9, x9)]) H) R := by
  rw [evL_X, N65_2b_x]
  simp only [← evL_X, N65_2b, N65_3_eq]
noncomputable def N65_2 (ρ : Addr → Option Value) (call : CallF) (yc : YieldF) (lim k : Nat) (x0 x1 x2 x3 x8 x9 : AV) (H : Heap) (R : List AV → Heap → Res) : Res :=
  loopL (fun (x : AV × AV × AV × AV × AV) H kn => N65_2b ρ call yc lim k x0 x.1 x.2.1 x.2.2.1 x.2.2.2.1 x.2.2.2.2 H (fun x1 x2 x3 x8 x9 H => kn (x1, x2, x3, x8, x9) H) R) k (x1, x2, x3, x8, x9) H
theorem N65_2_eq (ρ : Addr → Option Value) (call : CallF) (yc : YieldF) (lim k : Nat) (x0 x1 x2 x3 x8 x9 : AV) (H : Heap) (R : List AV → Heap → Res) :
    evL (cx ρ) call yc false 65 lim k (Code.at [1, 1, 0] c65) (sp 134 [(0, x0), (1, x1), (2, x2), (3, x3), (8, x8), (9, x9)]) H (kk none (fun s H => R (([] : List Nat).map fun t => s.getD t (.tup [])) H) [(0, none, (fun s H => R (([] : List Nat).map fun t => s.getD t (.tup [])) H))] R []) = N65_2 ρ call yc lim k x0 x1 x2 x3 x8 x9 H R := by
  have e : Code.at [1, 1, 0] c65 = .loop (Code.at [1, 1, 0, 0] c65) := by kernel_rfl
  rw [e]
  unfold N65_2
  exact loop_node [0, 1, 2, 3, 8, 9] (fun x : AV × AV × AV × AV × AV => (sp 134 [(0, x0), (1, (x.1)), (2, (x.2.1)), (3, (x.2.2.1)), (8, (x.2.2.2.1)), (9, (x.2.2.2.2))])) (fun (x : AV × AV × AV × AV × AV) H kn => N65_2b ρ call yc lim k x0 x.1 x.2.1 x.2.2.1 x.2.2.2.1 x.2.2.2.2 H (fun x1 x2 x3 x8 x9 H => kn (x1, x2, x3, x8, x9) H) R) (by kernel_rfl) (fun x => by kernel_rfl) (fun x H kn => N65_2b_eq ρ call yc lim k x0 (x.1) (x.2.1) (x.2.2.1) (x.2.2.2.1) (x.2.2.2.2) H kn R) (x1, x2, x3, x8, x9) (sp 134 [(0, x0), (1, x1), (2, x2), (3, x3), (8, x8), (9, x9)]) H (by kernel_rfl)
noncomputable def N65_1 (ρ : Addr → Option Value) (call : CallF) (yc : YieldF) (lim k : Nat) (x0 x1 x2 x3 x8 x9 : AV) (H : Heap) (R : List AV → Heap → Res) : Res :=
  N65_2 ρ call yc lim k x0 x1 x2 x3 x8 x9 H R
theorem N65_1_x (ρ : Addr → Option Value) (call : CallF) (yc : YieldF) (lim k : Nat) (J : CodeF) (x0 x1 x2 x3 x8 x9 : AV) (H : Heap) (R : List AV → Heap → Res) :
    evX (cx ρ) call yc false 65 lim k J (Code.at [1, 1] c65) (sp 134 [(0, x0), (1, x1), (2, x2), (3, x3), (8, x8), (9, x9)]) H (kk none (fun s H => R (([] : List Nat).map fun t => s.getD t (.tup [])) H) [] R []) =
  J (Code.at [1, 1, 0] c65) (sp 134 [(0, x0), (1, x1), (2, x2), (3, x3), (8, x8), (9, x9)]) H (kk none (fun s H => R (([] : List Nat).map fun t => s.getD t (.tup [])) H) [(0, none, (fun s H => R (([] : List Nat).map fun t => s.getD t (.tup [])) H))] R []) := by
  kernel_rfl
theorem N65_1_eq (ρ : Addr → Option Value) (call : CallF) (yc : YieldF) (lim k : Nat) (x0 x1 x2 x3 x8 x9 : AV) (H : Heap) (R : List AV → Heap → Res) :
    evL (cx ρ) call yc false 65 lim k (Code.at [1, 1] c65) (sp 134 [(0, x0), (1, x1), (2, x2), (3, x3), (8, x8), (9, x9)]) H (kk none (fun s H => R (([] : List Nat).map fun t => s.getD t (.tup [])) H) [] R []) = N65_1 ρ call yc lim k x0 x1 x2 x3 x8 x9 H R := by
  rw [evL_X, N65_1_x]
  simp only [← evL_X, N65_1, N65_2_eq]
noncomputable def L65 (ρ : Addr → Option Value) (call : CallF) (yc : YieldF) (lim k : Nat) (x0 x1 x2 x3 : AV) (H : Heap) : Res :=
  N65_1 ρ call yc lim k x0 x1 x2 x3 (.bool true) (.bool true) H retK
theorem L65_x (ρ : Addr → Option Value) (call : CallF) (yc : YieldF) (lim k : Nat) (J : CodeF) (x0 x1 x2 x3 : AV) (H : Heap) :
    evX (cx ρ) call yc false 65 lim k J c65 [x0, x1, x2, x3, (.tup []), (.tup []), (.tup []), (.tup []), (.tup []), (.tup []), (.tup []), (.tup []), (.tup []), (.tup []), (.tup []), (.tup []), (.tup []), (.tup []), (.tup []), (.tup []), (.tup []), (.tup []), (.tup []), (.tup []), (.tup []), (.tup []), (.tup []), (.tup []), (.tup []), (.tup []), (.tup []), (.tup []), (.tup []), (.tup []), (.tup []), (.tup []), (.tup []), (.tup []), (.tup []), (.tup []), (.tup []), (.tup []), (.tup []), (.tup []), (.tup []), (.tup []), (.tup []), (.tup []), (.tup []), (.tup []), (.tup []), (.tup []), (.tup []), (.tup []), (.tup []), (.tup []), (.tup []), (.tup []), (.tup []), (.tup []), (.tup []), (.tup []), (.tup []), (.tup []), (.tup []), (.tup []), (.tup []), (.tup []), (.tup []), (.tup []), (.tup []), (.tup []), (.tup []), (.tup []), (.tup []), (.tup []), (.tup []), (.tup []), (.tup []), (.tup []), (.tup []), (.tup []), (.tup []), (.tup []), (.tup []), (.tup []), (.tup []), (.tup []), (.tup []), (.tup []), (.tup []), (.tup []), (.tup []), (.tup []), (.tup []), (.tup []), (.tup []), (.tup []), (.tup []), (.tup []), (.tup []), (.tup []), (.tup []), (.tup []), (.tup []), (.tup []), (.tup []), (.tup []), (.tup []), (.tup []), (.tup []), (.tup []), (.tup []), (.tup []), (.tup []), (.tup []), (.tup []), (.tup []), (.tup []), (.tup []), (.tup []), (.tup []), (.tup []), (.tup []), (.tup []), (.tup []), (.tup []), (.tup []), (.tup []), (.tup []), (.tup []), (.tup []), (.tup []), (.tup [])] H (kk none (fun s H => retK (([] : List Nat).map fun t => s.getD t (.tup [])) H) [] retK []) =
  J (Code.at [1, 1] c65) (sp 134 [(0, x0), (1, x1), (2, x2), (3, x3), (8, (.bool true)), (9, (.bool true))]) H (kk none (fun s H => retK (([] : List Nat).map fun t => s.getD t (.tup [])) H) [] retK []) := by
  kernel_rfl
theorem G65 (ρ : Addr → Option Value) (call : CallF) (yc : YieldF) (lim k : Nat) (x0 x1 x2 x3 : AV) (H : Heap) :
    evL (cx ρ) call yc false 65 lim k c65 [x0, x1, x2, x3, (.tup []), (.tup []), (.tup []), (.tup []), (.tup []), (.tup []), (.tup []), (.tup []), (.tup []), (.tup []), (.tup []), (.tup []), (.tup []), (.tup []), (.tup []), (.tup []), (.tup []), (.tup []), (.tup []), (.tup []), (.tup []), (.tup []), (.tup []), (.tup []), (.tup []), (.tup []), (.tup []), (.tup []), (.tup []), (.tup []), (.tup []), (.tup []), (.tup []), (.tup []), (.tup []), (.tup []), (.tup []), (.tup []), (.tup []), (.tup []), (.tup []), (.tup []), (.tup []), (.tup []), (.tup []), (.tup []), (.tup []), (.tup []), (.tup []), (.tup []), (.tup []), (.tup []), (.tup []), (.tup []), (.tup []), (.tup []), (.tup []), (.tup []), (.tup []), (.tup []), (.tup []), (.tup []), (.tup []), (.tup []), (.tup []), (.tup []), (.tup []), (.tup []), (.tup []), (.tup []), (.tup []), (.tup []), (.tup []), (.tup []), (.tup []), (.tup []), (.tup []), (.tup []), (.tup []), (.tup []), (.tup []), (.tup []), (.tup []), (.tup []), (.tup []), (.tup []), (.tup []), (.tup []), (.tup []), (.tup []), (.tup []), (.tup []), (.tup []), (.tup []), (.tup []), (.tup []), (.tup []), (.tup []), (.tup []), (.tup []), (.tup []), (.tup []), (.tup []), (.tup []), (.tup []), (.tup []), (.tup []), (.tup []), (.tup []), (.tup []), (.tup []), (.tup []), (.tup []), (.tup []), (.tup []), (.tup []), (.tup []), (.tup []), (.tup []), (.tup []), (.tup []), (.tup []), (.tup []), (.tup []), (.tup []), (.tup []), (.tup []), (.tup []), (.tup []), (.tup [])] H (kk none (fun s H => retK (([] : List Nat).map fun t => s.getD t (.tup [])) H) [] retK []) = L65 ρ call yc lim k x0 x1 x2 x3 H := by
  rw [evL_X, L65_x]
  simp only [← evL_X, L65, N65_1_eq]
theorem E65 (ρ : Addr → Option Value) (k lim : Nat) (x0 x1 x2 x3 : AV) (H : Heap) : evCall (cx ρ) (k + 1) lim 65 [x0, x1, x2, x3] H = L65 ρ (evCall (cx ρ) k) (evCY (cx ρ) k).2 lim k x0 x1 x2 x3 H := by
  rw [evCall_body (cx ρ) k lim 65 _ H Try.f65 c65 [] (by kernel_rfl) (by kernel_rfl) (by kernel_rfl) (by kernel_rfl) (by kernel_rfl)]
  exact G65 ρ (evCall (cx ρ) k) (evCY (cx ρ) k).2 lim k x0 x1 x2 x3 H
-- math/bits.Len
noncomputable def c66 : Code := Code.of Try.prog 66
noncomputable def L66 (ρ : Addr → Option Value) (call : CallF) (yc : YieldF) (lim k : Nat) (x0 : AV) (H : Heap) : Res :=
  condK (.bool false)
  (
    purK (cvI .u32 x0) fun x4 =>
    resK (call lim 92 [x4] H) fun x5 H =>
    retK [x5] H)
  (
    resK (call lim 93 [x0] H) fun x7 H =>
    retK [x7] H)
theorem G66 (ρ : Addr → Option Value) (call : CallF) (yc : YieldF) (lim k : Nat) (x0 : AV) (H : Heap) :
    evL (cx ρ) call yc false 66 lim k c66 [x0, (.tup []), (.tup []), (.tup []), (.tup []), (.tup []), (.tup []), (.tup [])] H (kk none (fun s H => retK (([2] : List Nat).map fun t => s.getD t (.tup [])) H) [] retK [2]) = L66 ρ call yc lim k x0 H := by
  kernel_rfl
theorem E66 (ρ : Addr → Option Value) (k lim : Nat) (x0 : AV) (H : Heap) : evCall (cx ρ) (k + 1) lim 66 [x0] H = L66 ρ (evCall (cx ρ) k) (evCY (cx ρ) k).2 lim k x0 H := by
  rw [evCall_body (cx ρ) k lim 66 _ H Try.f66 c66 [2] (by kernel_rfl) (by kernel_rfl) (by kernel_rfl) (by kernel_rfl) (by kernel_rfl)]
  exact G66 ρ (evCall (cx ρ) k) (evCY (cx ρ) k).2 lim k x0 H
-- slices.IndexFunc[[]haycroft/api.Event,haycroft/api.Event]
noncomputable def c67 : Code := Code.of Try.prog 67
noncomputable def N67_1 (ρ : Addr → Option Value) (call : CallF) (yc : YieldF) (lim k : Nat) (H : Heap) (R : List AV → Heap → Res) : Res :=
  R [(.int .i64 (-1))] H
theorem N67_1_eq (ρ : Addr → Option Value) (call : CallF) (yc : YieldF) (lim k : Nat) (H : Heap) (R : List AV → Heap → Res) :
    evL (cx ρ) call yc false 67 lim k (Code.at [1, 1] c67) (sp 19 []) H (kk none (fun s H => R (([4] : List Nat).map fun t => s.getD t (.tup [])) H) [] R [4]) = N67_1 ρ call yc lim k H R := by
  kernel_rfl
noncomputable def N67_3b (ρ : Addr → Option Value) (call : CallF) (yc : YieldF) (lim k : Nat) (x0 x1 x7 x8 : AV) (H : Heap) (kn : AV → Heap → Res) (k0 : Heap → Res) (R : List AV → Heap → Res) : Res :=
  purK (binA Try.prog H .lss 3 x8 x7) fun x9_1 =>
  condK x9_1
  (
    purK (ixS 8 x0 x8) fun x14_1 =>
    purK (ldN ρ H 8 x14_1) fun x15_1 =>
    valK call yc lim x1 [x15_1] H fun x16_1 H =>
    condK x16_1
    (
      R [x8] H)
    (
      purK (binA Try.prog H .add 3 x8 (.int .i64 1)) fun x18_1 =>
      kn x18_1 H))
  (
    k0 H)
theorem N67_3b_eq (ρ : Addr → Option Value) (call : CallF) (yc : YieldF) (lim k : Nat) (x0 x1 x7 x8 : AV) (H : Heap) (kn : KS) (k0 : KS) (R : List AV → Heap → Res) :
    evL (cx ρ) call yc false 67 lim k (Code.at [1, 0, 1, 0, 0] c67) (sp 19 [(0, x0), (1, x1), (7, x7), (8, x8)]) H (kk (some [0, 1, 7, 8]) kn [(0, (some []), k0)] R [4]) = N67_3b ρ call yc lim k x0 x1 x7 x8 H (fun x8 H => kn (sp 19 [(0, x0), (1, x1), (7, x7), (8, x8)]) H) (fun H => k0 (sp 19 []) H) R := by
  kernel_rfl
noncomputable def N67_3 (ρ : Addr → Option Value) (call : CallF) (yc : YieldF) (lim k : Nat) (x0 x1 x7 x8 : AV) (H : Heap) (k0 : Heap → Res) (R : List AV → Heap → Res) : Res :=
  loopL (fun (x : AV) H kn => N67_3b ρ call yc lim k x0 x1 x7 x H (fun x8 H => kn x8 H) k0 R) k x8 H
theorem N67_3_eq (ρ : Addr → Option Value) (call : CallF) (yc : YieldF) (lim k : Nat) (x0 x1 x7 x8 : AV) (H : Heap) (kn : KS) (k0 : KS) (R : List AV → Heap → Res) :
    evL (cx ρ) call yc false 67 lim k (Code.at [1, 0, 1, 0] c67) (sp 19 [(0, x0), (1, x1), (7, x7), (8, x8)]) H (kk (some []) kn [(0, (some []), k0)] R [4]) = N67_3 ρ call yc lim k x0 x1 x7 x8 H (fun H => k0 (sp 19 []) H) R := by
  have e : Code.at [1, 0, 1, 0] c67 = .loop (Code.at [1, 0, 1, 0, 0] c67) := by kernel_rfl
  rw [e]
  unfold N67_3
  exact loop_node [0, 1, 7, 8] (fun x : AV => (sp 19 [(0, x0), (1, x1), (7, x7), (8, (x))])) (fun (x : AV) H kn => N67_3b ρ call yc lim k x0 x1 x7 x H (fun x8 H => kn x8 H) (fun H => k0 (sp 19 []) H) R) (by kernel_rfl) (fun x => by kernel_rfl) (fun x H kn => N67_3b_eq ρ call yc lim k x0 x1 x7 (x) H kn k0 R) x8 (sp 19 [(0, x0), (1, x1), (7, x7), (8, x8)]) H (by kernel_rfl)
noncomputable def N67_2 (ρ : Addr → Option Value) (call : CallF) (yc : YieldF) (lim k : Nat) (x0 x1 x7 x8 : AV) (H : Heap) (kn : Heap → Res) (R : List AV → Heap → Res) : Res :=
  N67_3 ρ call yc lim k x0 x1 x7 x8 H kn R
theorem N67_2_x (ρ : Addr → Option Value) (call : CallF) (yc : YieldF) (lim k : Nat) (J : CodeF) (x0 x1 x7 x8 : AV) (H : Heap) (kn : KS) (R : List AV → Heap → Res) :
    evX (cx ρ) call yc false 67 lim k J (Code.at [1, 0, 1] c67) (sp 19 [(0, x0), (1, x1), (7, x7), (8, x8)]) H (kk (some []) kn [] R [4]) =
  J (Code.at [1, 0, 1, 0] c67) (sp 19 [(0, x0), (1, x1), (7, x7), (8, x8)]) H (kk (some []) kn [(0, (some []), kn)] R [4]) := by
  kernel_rfl
theorem N67_2_eq (ρ : Addr → Option Value) (call : CallF) (yc : YieldF) (lim k : Nat) (x0 x1 x7 x8 : AV) (H : Heap) (kn : KS) (R : List AV → Heap → Res) :
    evL (cx ρ) call yc false 67 lim k (Code.at [1, 0, 1] c67) (sp 19 [(0, x0), (1, x1), (7, x7), (8, x8)]) H (kk (some []) kn [] R [4]) = N67_2 ρ call yc lim k x0 x1 x7 x8 H (fun H => kn (sp 19 []) H) R := by
  rw [evL_X, N67_2_x]
  simp only [← evL_X, N67_2, N67_3_eq]
noncomputable def L67 (ρ : Addr → Option Value) (call : CallF) (yc : YieldF) (lim k : Nat) (x0 x1 : AV) (H : Heap) : Res :=
  purK (lenS x0) fun x7 =>
  N67_2 ρ call yc lim k x0 x1 x7 (.int .i64 0) H (fun H =>
    N67_1 ρ call yc lim k H retK) retK
theorem L67_x (ρ : Addr → Option Value) (call : CallF) (yc : YieldF) (lim k : Nat) (J : CodeF) (x0 x1 : AV) (H : Heap) :
    evX (cx ρ) call yc false 67 lim k J c67 [x0, x1, (.tup []), (.tup []), (.tup []), (.tup []), (.tup []), (.tup []), (.tup []), (.tup []), (.tup []), (.tup []), (.tup []), (.tup []), (.tup []), (.tup []), (.tup []), (.tup []), (.tup [])] H (kk none (fun s H => retK (([4] : List Nat).map fun t => s.getD t (.tup [])) H) [] retK [4]) =
  purK (lenS x0) fun x7 =>
  J (Code.at [1, 0, 1] c67) (sp 19 [(0, x0), (1, x1), (7, x7), (8, (.int .i64 0))]) H (kk (some []) (fun s H => J (Code.at [1, 1] c67) s H (kk none (fun s H => retK (([4] : List Nat).map fun t => s.getD t (.tup [])) H) [] retK [4])) [] retK [4]) := by
  kernel_rfl
theorem G67 (ρ : Addr → Option Value) (call : CallF) (yc : YieldF) (lim k : Nat) (x0 x1 : AV) (H : Heap) :
    evL (cx ρ) call yc false 67 lim k c67 [x0, x1, (.tup []), (.tup []), (.tup []), (.tup []), (.tup []), (.tup []), (.tup []), (.tup []), (.tup []), (.tup []), (.tup []), (.tup []), (.tup []), (.tup []), (.tup []), (.tup []), (.tup [])] H (kk none (fun s H => retK (([4] : List Nat).map fun t => s.getD t (.tup [])) H) [] retK [4]) = L67 ρ call yc lim k x0 x1 H := by
  rw [evL_X, L67_x]
  simp only [← evL_X, L67, N67_1_eq, N67_2_eq]
theorem E67 (ρ : Addr → Option Value) (k lim : Nat) (x0 x1 : AV) (H : Heap) : evCall (cx ρ) (k + 1) lim 67 [x0, x1] H = L67 ρ (evCall (cx ρ) k) (evCY (cx ρ) k).2 lim k x0 x1 H := by
  rw [evCall_body (cx ρ) k lim 67 _ H Try.f67 c67 [4] (by kernel_rfl) (by kernel_rfl) (by kernel_rfl) (by kernel_rfl) (by kernel_rfl)]
  exact G67 ρ (evCall (cx ρ) k) (evCY (cx ρ) k).2 lim k x0 x1 H
end Go.Proofs.Ytkmohjddojpdjaa

-- part Ha3
/- Functions, lifted. Printed by a program of this repo. -/
set_option linter.unusedVariables false
set_option linter.unusedSimpArgs false
set_option maxRecDepth 100000
set_option maxHeartbeats 4000000
namespace Go.Proofs.Ytkmohjddojpdjaa
open Go.Ev Go.RowKit
-- slices.DeleteFunc[[]haycroft/history.node,haycroft/history.node]
noncomputable def c68 : Code := Code.of Try.prog 68
noncomputable def N68_1 (ρ : Addr → Option Value) (call : CallF) (yc : YieldF) (lim k : Nat) (x0 x5 : AV) (H : Heap) (R : List AV → Heap → Res) : Res :=
  purK (slS 3 x0 (some x5) none none) fun x38_1 =>
  effK H (builtinA (cx ρ) lim H .clear #[97] [x38_1]) fun _ H =>
  purK (slS 3 x0 none (some x5) none) fun x41_1 =>
  R [x41_1] H
theorem N68_1_eq (ρ : Addr → Option Value) (call : CallF) (yc : YieldF) (lim k : Nat) (x0 x5 : AV) (H : Heap) (R : List AV → Heap → Res) :
    evL (cx ρ) call yc false 68 lim k (Code.at [1, 1, 1, 1] c68) (sp 42 [(0, x0), (5, x5)]) H (kk none (fun s H => R (([4] : List Nat).map fun t => s.getD t (.tup [])) H) [] R [4]) = N68_1 ρ call yc lim k x0 x5 H R := by
  kernel_rfl
noncomputable def N68_4 (ρ : Addr → Option Value) (call : CallF) (yc : YieldF) (lim k : Nat) (x0 x1 x5 x6 : AV) (H : Heap) (kn : AV → AV → Heap → Res) : Res :=
  purK (binA Try.prog H .add 3 x6 (.int .i64 1)) fun x21_1 =>
  kn x5 x21_1 H
theorem N68_4_eq (ρ : Addr → Option Value) (call : CallF) (yc : YieldF) (lim k : Nat) (x0 x1 x5 x6 : AV) (H : Heap) (kn : KS) (k0 : KS) (R : List AV → Heap → Res) :
    evL (cx ρ) call yc false 68 lim k (Code.at [1, 1, 1, 0, 1, 0, 0, 1, 1] c68) (sp 42 [(0, x0), (1, x1), (5, x5), (6, x6)]) H (kk (some [0, 1, 5, 6]) kn [(0, (some [0, 5]), k0)] R [4]) = N68_4 ρ call yc lim k x0 x1 x5 x6 H (fun x5 x6 H => kn (sp 42 [(0, x0), (1, x1), (5, x5), (6, x6)]) H) := by
  kernel_rfl
noncomputable def N68_3b (ρ : Addr → Option Value) (call : CallF) (yc : YieldF) (lim k : Nat) (x0 x1 x5 x6 : AV) (H : Heap) (kn : AV → AV → Heap → Res) (k0 : AV → AV → Heap → Res) : Res :=
  purK (lenS x0) fun x18_1 =>
  purK (binA Try.prog H .lss 3 x6 x18_1) fun x19_1 =>
  condK x19_1
  (
    purK (ixS 3 x0 x6) fun x24_1 =>
    purK (ldN ρ H 3 x24_1) fun x25_1 =>
    effK H (some (.ptr H.sz 0 0, .new (newCells 105 false [.int .u32 0, .str ByteArray.empty, .bool false]))) fun x7_1 H =>
    effK H (stA lim H 3 x7_1 x25_1) fun _ H =>
    purK (ldN ρ H 3 x7_1) fun x27_1 =>
    valK call yc lim x1 [x27_1] H fun x28_1 H =>
    purK (unA .not x28_1) fun x29_1 =>
    condK x29_1
    (
      purK (ldN ρ H 3 x7_1) fun x32_1 =>
      purK (ixS 3 x0 x5) fun x33_1 =>
      effK H (stA lim H 3 x33_1 x32_1) fun _ H =>
      purK (binA Try.prog H .add 3 x5 (.int .i64 1)) fun x35_1 =>
      N68_4 ρ call yc lim k x0 x1 x35_1 x6 H kn)
    (
      N68_4 ρ call yc lim k x0 x1 x5 x6 H kn))
  (
    k0 x0 x5 H)
theorem N68_3b_x (ρ : Addr → Option Value) (call : CallF) (yc : YieldF) (lim k : Nat) (J : CodeF) (x0 x1 x5 x6 : AV) (H : Heap) (kn : KS) (k0 : KS) (R : List AV → Heap → Res) :
    evX (cx ρ) call yc false 68 lim k J (Code.at [1, 1, 1, 0, 1, 0, 0] c68) (sp 42 [(0, x0), (1, x1), (5, x5), (6, x6)]) H (kk (some [0, 1, 5, 6]) kn [(0, (some [0, 5]), k0)] R [4]) =
  purK (lenS x0) fun x18_1 =>
  purK (binA Try.prog H .lss 3 x6 x18_1) fun x19_1 =>
  condK x19_1
  (
    purK (ixS 3 x0 x6) fun x24_1 =>
    purK (ldN ρ H 3 x24_1) fun x25_1 =>
    effK H (some (.ptr H.sz 0 0, .new (newCells 105 false [.int .u32 0, .str ByteArray.empty, .bool false]))) fun x7_1 H =>
    effK H (stA lim H 3 x7_1 x25_1) fun _ H =>
    purK (ldN ρ H 3 x7_1) fun x27_1 =>
    valK call yc lim x1 [x27_1] H fun x28_1 H =>
    purK (unA .not x28_1) fun x29_1 =>
    condK x29_1
    (
      purK (ldN ρ H 3 x7_1) fun x32_1 =>
      purK (ixS 3 x0 x5) fun x33_1 =>
      effK H (stA lim H 3 x33_1 x32_1) fun _ H =>
      purK (binA Try.prog H .add 3 x5 (.int .i64 1)) fun x35_1 =>
      J (Code.at [1, 1, 1, 0, 1, 0, 0, 1, 1] c68) (sp 42 [(0, x0), (1, x1), (5, x35_1), (6, x6)]) H (kk (some [0, 1, 5, 6]) kn [(0, (some [0, 5]), k0)] R [4]))
    (
      J (Code.at [1, 1, 1, 0, 1, 0, 0, 1, 1] c68) (sp 42 [(0, x0), (1, x1), (5, x5), (6, x6)]) H (kk (some [0, 1, 5, 6]) kn [(0, (some [0, 5]), k0)] R [4])))
  (
    k0 (sp 42 [(0, x0), (5, x5)]) H) := by
  kernel_rfl
theorem N68_3b_eq (ρ : Addr → Option Value) (call : CallF) (yc : YieldF) (lim k : Nat) (x0 x1 x5 x6 : AV) (H : Heap) (kn : KS) (k0 : KS) (R : List AV → Heap → Res) :
    evL (cx ρ) call yc false 68 lim k (Code.at [1, 1, 1, 0, 1, 0, 0] c68) (sp 42 [(0, x0), (1, x1), (5, x5), (6, x6)]) H (kk (some [0, 1, 5, 6]) kn [(0, (some [0, 5]), k0)] R [4]) = N68_3b ρ call yc lim k x0 x1 x5 x6 H (fun x5 x6 H => kn (sp 42 [(0, x0), (1, x1), (5, x5), (6, x6)]) H) (fun x0 x5 H => k0 (sp 42 [(0, x0), (5, x5)]) H) := by
  rw [evL_X, N68_3b_x]
  simp only [← evL_X, N68_3b, N68_4_eq]
noncomputable def N68_3 (ρ : Addr → Option Value) (call : CallF) (yc : YieldF) (lim k : Nat) (x0 x1 x5 x6 : AV) (H : Heap) (k0 : AV → AV → Heap → Res) : Res :=
  loopL (fun (x : AV × AV) H kn => N68_3b ρ call yc lim k x0 x1 x.1 x.2 H (fun x5 x6 H => kn (x5, x6) H) k0) k (x5, x6) H
theorem N68_3_eq (ρ : Addr → Option Value) (call : CallF) (yc : YieldF) (lim k : Nat) (x0 x1 x5 x6 : AV) (H : Heap) (kn : KS) (k0 : KS) (R : List AV → Heap → Res) :
    evL (cx ρ) call yc false 68 lim k (Code.at [1, 1, 1, 0, 1, 0] c68) (sp 42 [(0, x0), (1, x1), (5, x5), (6, x6)]) H (kk (some [0, 5]) kn [(0, (some [0, 5]), k0)] R [4]) = N68_3 ρ call yc lim k x0 x1 x5 x6 H (fun x0 x5 H => k0 (sp 42 [(0, x0), (5, x5)]) H) := by
  have e : Code.at [1, 1, 1, 0, 1, 0] c68 = .loop (Code.at [1, 1, 1, 0, 1, 0, 0] c68) := by kernel_rfl
  rw [e]
  unfold N68_3
  exact loop_node [0, 1, 5, 6] (fun x : AV × AV => (sp 42 [(0, x0), (1, x1), (5, (x.1)), (6, (x.2))])) (fun (x : AV × AV) H kn => N68_3b ρ call yc lim k x0 x1 x.1 x.2 H (fun x5 x6 H => kn (x5, x6) H) (fun x0 x5 H => k0 (sp 42 [(0, x0), (5, x5)]) H)) (by kernel_rfl) (fun x => by kernel_rfl) (fun x H kn => N68_3b_eq ρ call yc lim k x0 x1 (x.1) (x.2) H kn k0 R) (x5, x6) (sp 42 [(0, x0), (1, x1), (5, x5), (6, x6)]) H (by kernel_rfl)
noncomputable def N68_2 (ρ : Addr → Option Value) (call : CallF) (yc : YieldF) (lim k : Nat) (x0 x1 x5 x6 : AV) (H : Heap) (kn : AV → AV → Heap → Res) : Res :=
  N68_3 ρ call yc lim k x0 x1 x5 x6 H kn
theorem N68_2_x (ρ : Addr → Option Value) (call : CallF) (yc : YieldF) (lim k : Nat) (J : CodeF) (x0 x1 x5 x6 : AV) (H : Heap) (kn : KS) (R : List AV → Heap → Res) :
    evX (cx ρ) call yc false 68 lim k J (Code.at [1, 1, 1, 0, 1] c68) (sp 42 [(0, x0), (1, x1), (5, x5), (6, x6)]) H (kk (some [0, 5]) kn [] R [4]) =
  J (Code.at [1, 1, 1, 0, 1, 0] c68) (sp 42 [(0, x0), (1, x1), (5, x5), (6, x6)]) H (kk (some [0, 5]) kn [(0, (some [0, 5]), kn)] R [4]) := by
  kernel_rfl
theorem N68_2_eq (ρ : Addr → Option Value) (call : CallF) (yc : YieldF) (lim k : Nat) (x0 x1 x5 x6 : AV) (H : Heap) (kn : KS) (R : List AV → Heap → Res) :
    evL (cx ρ) call yc false 68 lim k (Code.at [1, 1, 1, 0, 1] c68) (sp 42 [(0, x0), (1, x1), (5, x5), (6, x6)]) H (kk (some [0, 5]) kn [] R [4]) = N68_2 ρ call yc lim k x0 x1 x5 x6 H (fun x0 x5 H => kn (sp 42 [(0, x0), (5, x5)]) H) := by
  rw [evL_X, N68_2_x]
  simp only [← evL_X, N68_2, N68_3_eq]
noncomputable def L68 (ρ : Addr → Option Value) (call : CallF) (yc : YieldF) (lim k : Nat) (x0 x1 : AV) (H : Heap) : Res :=
  resK (call lim 94 [x0, x1] H) fun x10 H =>
  purK (binA Try.prog H .eql 3 x10 (.int .i64 (-1))) fun x12 =>
  condK x12
  (
    retK [x0] H)
  (
    purK (binA Try.prog H .add 3 x10 (.int .i64 1)) fun x15 =>
    N68_2 ρ call yc lim k x0 x1 x10 x15 H (fun x0_1 x5 H =>
      N68_1 ρ call yc lim k x0_1 x5 H retK))
theorem L68_x (ρ : Addr → Option Value) (call : CallF) (yc : YieldF) (lim k : Nat) (J : CodeF) (x0 x1 : AV) (H : Heap) :
    evX (cx ρ) call yc false 68 lim k J c68 [x0, x1, (.tup []), (.tup []), (.tup []), (.tup []), (.tup []), (.tup []), (.tup []), (.tup []), (.tup []), (.tup []), (.tup []), (.tup []), (.tup []), (.tup []), (.tup []), (.tup []), (.tup []), (.tup []), (.tup []), (.tup []), (.tup []), (.tup []), (.tup []), (.tup []), (.tup []), (.tup []), (.tup []), (.tup []), (.tup []), (.tup []), (.tup []), (.tup []), (.tup []), (.tup []), (.tup []), (.tup []), (.tup []), (.tup []), (.tup []), (.tup [])] H (kk none (fun s H => retK (([4] : List Nat).map fun t => s.getD t (.tup [])) H) [] retK [4]) =
  resK (call lim 94 [x0, x1] H) fun x10 H =>
  purK (binA Try.prog H .eql 3 x10 (.int .i64 (-1))) fun x12 =>
  condK x12
  (
    retK [x0] H)
  (
    purK (binA Try.prog H .add 3 x10 (.int .i64 1)) fun x15 =>
    J (Code.at [1, 1, 1, 0, 1] c68) (sp 42 [(0, x0), (1, x1), (5, x10), (6, x15)]) H (kk (some [0, 5]) (fun s H => J (Code.at [1, 1, 1, 1] c68) s H (kk none (fun s H => retK (([4] : List Nat).map fun t => s.getD t (.tup [])) H) [] retK [4])) [] retK [4])) := by
  kernel_rfl
theorem G68 (ρ : Addr → Option Value) (call : CallF) (yc : YieldF) (lim k : Nat) (x0 x1 : AV) (H : Heap) :
    evL (cx ρ) call yc false 68 lim k c68 [x0, x1, (.tup []), (.tup []), (.tup []), (.tup []), (.tup []), (.tup []), (.tup []), (.tup []), (.tup []), (.tup []), (.tup []), (.tup []), (.tup []), (.tup []), (.tup []), (.tup []), (.tup []), (.tup []), (.tup []), (.tup []), (.tup []), (.tup []), (.tup []), (.tup []), (.tup []), (.tup []), (.tup []), (.tup []), (.tup []), (.tup []), (.tup []), (.tup []), (.tup []), (.tup []), (.tup []), (.tup []), (.tup []), (.tup []), (.tup []), (.tup [])] H (kk none (fun s H => retK (([4] : List Nat).map fun t => s.getD t (.tup [])) H) [] retK [4]) = L68 ρ call yc lim k x0 x1 H := by
  rw [evL_X, L68_x]
  simp only [← evL_X, L68, N68_1_eq, N68_2_eq]
theorem E68 (ρ : Addr → Option Value) (k lim : Nat) (x0 x1 : AV) (H : Heap) : evCall (cx ρ) (k + 1) lim 68 [x0, x1] H = L68 ρ (evCall (cx ρ) k) (evCY (cx ρ) k).2 lim k x0 x1 H := by
  rw [evCall_body (cx ρ) k lim 68 _ H Try.f68 c68 [4] (by kernel_rfl) (by kernel_rfl) (by kernel_rfl) (by kernel_rfl) (by kernel_rfl)]
  exact G68 ρ (evCall (cx ρ) k) (evCY (cx ρ) k).2 lim k x0 x1 H
-- (*haycroft/history.search).reach
noncomputable def c69 : Code := Code.of Try.prog 69
noncomputable def N69_1 (ρ : Addr → Option Value) (call : CallF) (yc : YieldF) (lim k : Nat) (x3 : AV) (H : Heap) (R : List AV → Heap → Res) : Res :=
  R [x3] H
theorem N69_1_eq (ρ : Addr → Option Value) (call : CallF) (yc : YieldF) (lim k : Nat) (x3 : AV) (H : Heap) (R : List AV → Heap → Res) :
    evL (cx ρ) call yc false 69 lim k (Code.at [1, 1, 1, 1] c69) (sp 72 [(3, x3)]) H (kk none (fun s H => R (([2] : List Nat).map fun t => s.getD t (.tup [])) H) [] R [2]) = N69_1 ρ call yc lim k x3 H R := by
  kernel_rfl
noncomputable def N69_4 (ρ : Addr → Option Value) (call : CallF) (yc : YieldF) (lim k : Nat) (x0 x3 x4 x5 : AV) (H : Heap) (kn : AV → AV → Heap → Res) : Res :=
  purK (binA Try.prog H .add 3 x5 (.int .i64 1)) fun x19_1 =>
  kn x3 x19_1 H
theorem N69_4_eq (ρ : Addr → Option Value) (call : CallF) (yc : YieldF) (lim k : Nat) (x0 x3 x4 x5 : AV) (H : Heap) (kn : KS) (k0 : KS) (R : List AV → Heap → Res) :
    evL (cx ρ) call yc false 69 lim k (Code.at [1, 1, 1, 0, 1, 0, 0, 1, 1] c69) (sp 72 [(0, x0), (3, x3), (4, x4), (5, x5)]) H (kk (some [0, 3, 4, 5]) kn [(0, (some [3]), k0)] R [2]) = N69_4 ρ call yc lim k x0 x3 x4 x5 H (fun x3 x5 H => kn (sp 72 [(0, x0), (3, x3), (4, x4), (5, x5)]) H) := by
  kernel_rfl
noncomputable def N69_7 (ρ : Addr → Option Value) (call : CallF) (yc : YieldF) (lim k : Nat) (x0 x3 x4 x5 x24 x25 : AV) (H : Heap) (kn : AV → AV → Heap → Res) : Res :=
  purK (binA Try.prog H .add 3 x25 (.int .i64 1)) fun x70_1 =>
  kn x3 x70_1 H
theorem N69_7_eq (ρ : Addr → Option Value) (call : CallF) (yc : YieldF) (lim k : Nat) (x0 x3 x4 x5 x24 x25 : AV) (H : Heap) (kn : KS) (k2 : KS) (k1 : KS) (k0 : KS) (R : List AV → Heap → Res) :
    evL (cx ρ) call yc false 69 lim k (Code.at [1, 1, 1, 0, 1, 0, 0, 1, 0, 0, 1, 0, 0, 1, 1, 1] c69) (sp 72 [(0, x0), (3, x3), (4, x4), (5, x5), (24, x24), (25, x25)]) H (kk (some [0, 3, 4, 5, 24, 25]) kn [(2, (some [0, 3, 4, 5]), k2), (1, (some [0, 3, 4, 5]), k1), (0, (some [3]), k0)] R [2]) = N69_7 ρ call yc lim k x0 x3 x4 x5 x24 x25 H (fun x3 x25 H => kn (sp 72 [(0, x0), (3, x3), (4, x4), (5, x5), (24, x24), (25, x25)]) H) := by
  kernel_rfl
noncomputable def N69_8 (ρ : Addr → Option Value) (call : CallF) (yc : YieldF) (lim k : Nat) (x0 x3 x4 x5 x6 x7 x24 x25 : AV) (H : Heap) (kn : AV → AV → Heap → Res) : Res :=
  purK (nilChkA x0) fun x48_1 =>
  purK (addA 4 x48_1) fun x49_1 =>
  purK (ld1 ρ H x49_1) fun x50_1 =>
  purK (ldN ρ H 3 x7) fun x51_1 =>
  purK (nilChkA x0) fun x53_1 =>
  purK (addA 5 x53_1) fun x54_1 =>
  purK (ld1 ρ H x54_1) fun x55_1 =>
  purK (ldN ρ H 3 x7) fun x56_1 =>
  purK (ixS 3 x3 x5) fun x59_1 =>
  purK (ldN ρ H 3 x59_1) fun x60_1 =>
  effK H (mapEntryA (cx ρ) lim H 123 x50_1 x51_1) fun x62_1 H => bif (agn (ldN ρ H 3 x59_1) x60_1 && (agn (ldN ρ H 3 x7) x56_1 && true)) then
    purK (extA 1 x62_1) fun x63_1 =>
    effK H ((entryStoreA lim H x50_1 x63_1 x60_1).map skips) fun _ H => bif (agn (ldN ρ H 3 x7) x56_1 && true) then
      effK H (mapEntryA (cx ρ) lim H 124 x55_1 x56_1) fun x64_1 H =>
      purK (extA 1 x64_1) fun x65_1 =>
      effK H ((entryStoreA lim H x55_1 x65_1 x6).map skips) fun _ H =>
      purK (ldN ρ H 3 x7) fun x67_1 =>
      effK H (bldS H 105 3 [.int .u32 0, .str ByteArray.empty, .bool false] 1 [(0, 3, x67_1)]) fun x68_1 H =>
      effK H (apA ρ lim H 105 3 32 x3 x68_1) fun x69_1 H =>
      kn x69_1 x25 H
    else none
  else none
theorem N69_8_eq (ρ : Addr → Option Value) (call : CallF) (yc : YieldF) (lim k : Nat) (x0 x3 x4 x5 x6 x7 x24 x25 : AV) (H : Heap) (kn : KS) (k3 : KS) (k2 : KS) (k1 : KS) (k0 : KS) (R : List AV → Heap → Res) :
    evL (cx ρ) call yc false 69 lim k (Code.at [1, 1, 1, 0, 1, 0, 0, 1, 0, 0, 1, 0, 0, 1, 1, 0, 0, 1, 1, 1, 1] c69) (sp 72 [(0, x0), (3, x3), (4, x4), (5, x5), (6, x6), (7, x7), (24, x24), (25, x25)]) H (kk (some [0, 3, 4, 5, 24, 25]) kn [(3, (some [0, 3, 4, 5, 24, 25]), k3), (2, (some [0, 3, 4, 5]), k2), (1, (some [0, 3, 4, 5]), k1), (0, (some [3]), k0)] R [2]) = N69_8 ρ call yc lim k x0 x3 x4 x5 x6 x7 x24 x25 H (fun x3 x25 H => kn (sp 72 [(0, x0), (3, x3), (4, x4), (5, x5), (24, x24), (25, x25)]) H) := by
  kernel_rfl
noncomputable def N69_6b (ρ : Addr → Option Value) (call : CallF) (yc : YieldF) (lim k : Nat) (x0 x3 x4 x5 x24 x25 : AV) (H : Heap) (kn : AV → AV → Heap → Res) (k2 : AV → AV → Heap → Res) : Res :=
  purK (binA Try.prog H .lss 3 x25 x24) fun x26_1 =>
  condK x26_1
  (
    purK (ixS 3 x3 x5) fun x32_1 =>
    purK (ldN ρ H 3 x32_1) fun x33_1 =>
    resK (call lim 95 [x0, x33_1, x25] H) fun x35_1 H =>
    purK (extA 0 x35_1) fun x36_1 =>
    purK (extA 1 x35_1) fun x37_1 =>
    effK H (some (.ptr H.sz 0 0, .new (newCells 105 false [.int .u32 0, .str ByteArray.empty, .bool false]))) fun x7_1 H =>
    effK H (stA lim H 3 x7_1 x36_1) fun _ H =>
    purK (unA .not x37_1) fun x39_1 =>
    purK (gPur (wantV x39_1 false) (some x4)) fun x41_1 =>
    purK (gPur (wantV x39_1 false) (ldN ρ H 3 x7_1)) fun x42_1 =>
    purK (gPur (wantV x39_1 false) (lookupA (cx ρ) H 151 x41_1 x42_1 false)) fun x43_1 =>
    purK (pickA x39_1 (.bool true) x43_1) fun x44_1 =>
    condK x44_1
    (
      N69_7 ρ call yc lim k x0 x3 x4 x5 x24 x25 H kn)
    (
      purK (ldN ρ H 3 x7_1) fun x46_1 =>
      effK H ((mapPutA (cx ρ) lim H 151 x4 x46_1 (.bool true)).map skips) fun _ H =>
      N69_8 ρ call yc lim k x0 x3 x4 x5 x25 x7_1 x24 x25 H (fun x3_1 x25_1 H =>
        N69_7 ρ call yc lim k x0 x3_1 x4 x5 x24 x25_1 H kn)))
  (
    k2 x3 x5 H)
theorem N69_6b_x (ρ : Addr → Option Value) (call : CallF) (yc : YieldF) (lim k : Nat) (J : CodeF) (x0 x3 x4 x5 x24 x25 : AV) (H : Heap) (kn : KS) (k2 : KS) (k1 : KS) (k0 : KS) (R : List AV → Heap → Res) :
    evX (cx ρ) call yc false 69 lim k J (Code.at [1, 1, 1, 0, 1, 0, 0, 1, 0, 0, 1, 0, 0] c69) (sp 72 [(0, x0), (3, x3), (4, x4), (5, x5), (24, x24), (25, x25)]) H (kk (some [0, 3, 4, 5, 24, 25]) kn [(2, (some [0, 3, 4, 5]), k2), (1, (some [0, 3, 4, 5]), k1), (0, (some [3]), k0)] R [2]) =
  purK (binA Try.prog H .lss 3 x25 x24) fun x26_1 =>
  condK x26_1
  (
    purK (ixS 3 x3 x5) fun x32_1 =>
    purK (ldN ρ H 3 x32_1) fun x33_1 =>
    resK (call lim 95 [x0, x33_1, x25] H) fun x35_1 H =>
    purK (extA 0 x35_1) fun x36_1 =>
    purK (extA 1 x35_1) fun x37_1 =>
    effK H (some (.ptr H.sz 0 0, .new (newCells 105 false [.int .u32 0, .str ByteArray.empty, .bool false]))) fun x7_1 H =>
    effK H (stA lim H 3 x7_1 x36_1) fun _ H =>
    purK (unA .not x37_1) fun x39_1 =>
    purK (gPur (wantV x39_1 false) (some x4)) fun x41_1 =>
    purK (gPur (wantV x39_1 false) (ldN ρ H 3 x7_1)) fun x42_1 =>
    purK (gPur (wantV x39_1 false) (lookupA (cx ρ) H 151 x41_1 x42_1 false)) fun x43_1 =>
    purK (pickA x39_1 (.bool true) x43_1) fun x44_1 =>
    condK x44_1
    (
      J (Code.at [1, 1, 1, 0, 1, 0, 0, 1, 0, 0, 1, 0, 0, 1, 1, 1] c69) (sp 72 [(0, x0), (3, x3), (4, x4), (5, x5), (24, x24), (25, x25)]) H (kk (some [0, 3, 4, 5, 24, 25]) kn [(2, (some [0, 3, 4, 5]), k2), (1, (some [0, 3, 4, 5]), k1), (0, (some [3]), k0)] R [2]))
    (
      purK (ldN ρ H 3 x7_1) fun x46_1 =>
      effK H ((mapPutA (cx ρ) lim H 151 x4 x46_1 (.bool true)).map skips) fun _ H =>
      J (Code.at [1, 1, 1, 0, 1, 0, 0, 1, 0, 0, 1, 0, 0, 1, 1, 0, 0, 1, 1, 1, 1] c69) (sp 72 [(0, x0), (3, x3), (4, x4), (5, x5), (6, x25), (7, x7_1), (24, x24), (25, x25)]) H (kk (some [0, 3, 4, 5, 24, 25]) (fun s H => J (Code.at [1, 1, 1, 0, 1, 0, 0, 1, 0, 0, 1, 0, 0, 1, 1, 1] c69) s H (kk (some [0, 3, 4, 5, 24, 25]) kn [(2, (some [0, 3, 4, 5]), k2), (1, (some [0, 3, 4, 5]), k1), (0, (some [3]), k0)] R [2])) [(3, (some [0, 3, 4, 5, 24, 25]), (fun s H => J (Code.at [1, 1, 1, 0, 1, 0, 0, 1, 0, 0, 1, 0, 0, 1, 1, 1] c69) s H (kk (some [0, 3, 4, 5, 24, 25]) kn [(2, (some [0, 3, 4, 5]), k2), (1, (some [0, 3, 4, 5]), k1), (0, (some [3]), k0)] R [2]))), (2, (some [0, 3, 4, 5]), k2), (1, (some [0, 3, 4, 5]), k1), (0, (some [3]), k0)] R [2])))
  (
    k2 (sp 72 [(0, x0), (3, x3), (4, x4), (5, x5)]) H) := by
  kernel_rfl
theorem N69_6b_eq (ρ : Addr → Option Value) (call : CallF) (yc : YieldF) (lim k : Nat) (x0 x3 x4 x5 x24 x25 : AV) (H : Heap) (kn : KS) (k2 : KS) (k1 : KS) (k0 : KS) (R : List AV → Heap → Res) :
    evL (cx ρ) call yc false 69 lim k (Code.at [1, 1, 1, 0, 1, 0, 0, 1, 0, 0, 1, 0, 0] c69) (sp 72 [(0, x0), (3, x3), (4, x4), (5, x5), (24, x24), (25, x25)]) H (kk (some [0, 3, 4, 5, 24, 25]) kn [(2, (some [0, 3, 4, 5]), k2), (1, (some [0, 3, 4, 5]), k1), (0, (some [3]), k0)] R [2]) = N69_6b ρ call yc lim k x0 x3 x4 x5 x24 x25 H (fun x3 x25 H => kn (sp 72 [(0, x0), (3, x3), (4, x4), (5, x5), (24, x24), (25, x25)]) H) (fun x3 x5 H => k2 (sp 72 [(0, x0), (3, x3), (4, x4), (5, x5)]) H) := by
  rw [evL_X, N69_6b_x]
  simp only [← evL_X, N69_6b, N69_7_eq, N69_8_eq]
noncomputable def N69_6 (ρ : Addr → Option Value) (call : CallF) (yc : YieldF) (lim k : Nat) (x0 x3 x4 x5 x24 x25 : AV) (H : Heap) (k2 : AV → AV → Heap → Res) : Res :=
  loopL (fun (x : AV × AV) H kn => N69_6b ρ call yc lim k x0 x.1 x4 x5 x24 x.2 H (fun x3 x25 H => kn (x3, x25) H) k2) k (x3, x25) H
theorem N69_6_eq (ρ : Addr → Option Value) (call : CallF) (yc : YieldF) (lim k : Nat) (x0 x3 x4 x5 x24 x25 : AV) (H : Heap) (kn : KS) (k2 : KS) (k1 : KS) (k0 : KS) (R : List AV → Heap → Res) :
    evL (cx ρ) call yc false 69 lim k (Code.at [1, 1, 1, 0, 1, 0, 0, 1, 0, 0, 1, 0] c69) (sp 72 [(0, x0), (3, x3), (4, x4), (5, x5), (24, x24), (25, x25)]) H (kk (some [0, 3, 4, 5]) kn [(2, (some [0, 3, 4, 5]), k2), (1, (some [0, 3, 4, 5]), k1), (0, (some [3]), k0)] R [2]) = N69_6 ρ call yc lim k x0 x3 x4 x5 x24 x25 H (fun x3 x5 H => k2 (sp 72 [(0, x0), (3, x3), (4, x4), (5, x5)]) H) := by
  have e : Code.at [1, 1, 1, 0, 1, 0, 0, 1, 0, 0, 1, 0] c69 = .loop (Code.at [1, 1, 1, 0, 1, 0, 0, 1, 0, 0, 1, 0, 0] c69) := by kernel_rfl
  rw [e]
  unfold N69_6
  exact loop_node [0, 3, 4, 5, 24, 25] (fun x : AV × AV => (sp 72 [(0, x0), (3, (x.1)), (4, x4), (5, x5), (24, x24), (25, (x.2))])) (fun (x : AV × AV) H kn => N69_6b ρ call yc lim k x0 x.1 x4 x5 x24 x.2 H (fun x3 x25 H => kn (x3, x25) H) (fun x3 x5 H => k2 (sp 72 [(0, x0), (3, x3), (4, x4), (5, x5)]) H)) (by kernel_rfl) (fun x => by kernel_rfl) (fun x H kn => N69_6b_eq ρ call yc lim k x0 (x.1) x4 x5 x24 (x.2) H kn k2 k1 k0 R) (x3, x25) (sp 72 [(0, x0), (3, x3), (4, x4), (5, x5), (24, x24), (25, x25)]) H (by kernel_rfl)
noncomputable def N69_5 (ρ : Addr → Option Value) (call : CallF) (yc : YieldF) (lim k : Nat) (x0 x3 x4 x5 x24 x25 : AV) (H : Heap) (kn : AV → AV → Heap → Res) : Res :=
  N69_6 ρ call yc lim k x0 x3 x4 x5 x24 x25 H kn
theorem N69_5_x (ρ : Addr → Option Value) (call : CallF) (yc : YieldF) (lim k : Nat) (J : CodeF) (x0 x3 x4 x5 x24 x25 : AV) (H : Heap) (kn : KS) (k1 : KS) (k0 : KS) (R : List AV → Heap → Res) :
    evX (cx ρ) call yc false 69 lim k J (Code.at [1, 1, 1, 0, 1, 0, 0, 1, 0, 0, 1] c69) (sp 72 [(0, x0), (3, x3), (4, x4), (5, x5), (24, x24), (25, x25)]) H (kk (some [0, 3, 4, 5]) kn [(1, (some [0, 3, 4, 5]), k1), (0, (some [3]), k0)] R [2]) =
  J (Code.at [1, 1, 1, 0, 1, 0, 0, 1, 0, 0, 1, 0] c69) (sp 72 [(0, x0), (3, x3), (4, x4), (5, x5), (24, x24), (25, x25)]) H (kk (some [0, 3, 4, 5]) kn [(2, (some [0, 3, 4, 5]), kn), (1, (some [0, 3, 4, 5]), k1), (0, (some [3]), k0)] R [2]) := by
  kernel_rfl
theorem N69_5_eq (ρ : Addr → Option Value) (call : CallF) (yc : YieldF) (lim k : Nat) (x0 x3 x4 x5 x24 x25 : AV) (H : Heap) (kn : KS) (k1 : KS) (k0 : KS) (R : List AV → Heap → Res) :
    evL (cx ρ) call yc false 69 lim k (Code.at [1, 1, 1, 0, 1, 0, 0, 1, 0, 0, 1] c69) (sp 72 [(0, x0), (3, x3), (4, x4), (5, x5), (24, x24), (25, x25)]) H (kk (some [0, 3, 4, 5]) kn [(1, (some [0, 3, 4, 5]), k1), (0, (some [3]), k0)] R [2]) = N69_5 ρ call yc lim k x0 x3 x4 x5 x24 x25 H (fun x3 x5 H => kn (sp 72 [(0, x0), (3, x3), (4, x4), (5, x5)]) H) := by
  rw [evL_X, N69_5_x]
  simp only [← evL_X, N69_5, N69_6_eq]
noncomputable def N69_3b (ρ : Addr → Option Value) (call : CallF) (yc : YieldF) (lim k : Nat) (x0 x3 x4 x5 : AV) (H : Heap) (kn : AV → AV → Heap → Res) (k0 : AV → Heap → Res) : Res :=
  purK (lenS x3) fun x16_1 =>
  purK (binA Try.prog H .lss 3 x5 x16_1) fun x17_1 =>
  condK x17_1
  (
    purK (nilChkA x0) fun x21_1 =>
    purK (addA 0 x21_1) fun x22_1 =>
    purK (ld1 ρ H x22_1) fun x23_1 =>
    purK (lenS x23_1) fun x24_1 =>
    N69_5 ρ call yc lim k x0 x3 x4 x5 x24_1 (.int .i64 0) H (fun x3_1 x5_1 H =>
      N69_4 ρ call yc lim k x0 x3_1 x4 x5_1 H kn))
  (
    k0 x3 H)
theorem N69_3b_x (ρ : Addr → Option Value) (call : CallF) (yc : YieldF) (lim k : Nat) (J : CodeF) (x0 x3 x4 x5 : AV) (H : Heap) (kn : KS) (k0 : KS) (R : List AV → Heap → Res) :
    evX (cx ρ) call yc false 69 lim k J (Code.at [1, 1, 1, 0, 1, 0, 0] c69) (sp 72 [(0, x0), (3, x3), (4, x4), (5, x5)]) H (kk (some [0, 3, 4, 5]) kn [(0, (some [3]), k0)] R [2]) =
  purK (lenS x3) fun x16_1 =>
  purK (binA Try.prog H .lss 3 x5 x16_1) fun x17_1 =>
  condK x17_1
  (
    purK (nilChkA x0) fun x21_1 =>
    purK (addA 0 x21_1) fun x22_1 =>
    purK (ld1 ρ H x22_1) fun x23_1 =>
    purK (lenS x23_1) fun x24_1 =>
    J (Code.at [1, 1, 1, 0, 1, 0, 0, 1, 0, 0, 1] c69) (sp 72 [(0, x0), (3, x3), (4, x4), (5, x5), (24, x24_1), (25, (.int .i64 0))]) H (kk (some [0, 3, 4, 5]) (fun s H => J (Code.at [1, 1, 1, 0, 1, 0, 0, 1, 1] c69) s H (kk (some [0, 3, 4, 5]) kn [(0, (some [3]), k0)] R [2])) [(1, (some [0, 3, 4, 5]), (fun s H => J (Code.at [1, 1, 1, 0, 1, 0, 0, 1, 1] c69) s H (kk (some [0, 3, 4, 5]) kn [(0, (some [3]), k0)] R [2]))), (0, (some [3]), k0)] R [2]))
  (
    k0 (sp 72 [(3, x3)]) H) := by
  kernel_rfl
theorem N69_3b_eq (ρ : Addr → Option Value) (call : CallF) (yc : YieldF) (lim k : Nat) (x0 x3 x4 x5 : AV) (H : Heap) (kn : KS) (k0 : KS) (R : List AV → Heap → Res) :
    evL (cx ρ) call yc false 69 lim k (Code.at [1, 1, 1, 0, 1, 0, 0] c69) (sp 72 [(0, x0), (3, x3), (4, x4), (5, x5)]) H (kk (some [0, 3, 4, 5]) kn [(0, (some [3]), k0)] R [2]) = N69_3b ρ call yc lim k x0 x3 x4 x5 H (fun x3 x5 H => kn (sp 72 [(0, x0), (3, x3), (4, x4), (5, x5)]) H) (fun x3 H => k0 (sp 72 [(3, x3)]) H) := by
  rw [evL_X, N69_3b_x]
  simp only [← evL_X, N69_3b, N69_4_eq, N69_5_eq]
noncomputable def N69_3 (ρ : Addr → Option Value) (call : CallF) (yc : YieldF) (lim k : Nat) (x0 x3 x4 x5 : AV) (H : Heap) (k0 : AV → Heap → Res) : Res :=
  loopL (fun (x : AV × AV) H kn => N69_3b ρ call yc lim k x0 x.1 x4 x.2 H (fun x3 x5 H => kn (x3, x5) H) k0) k (x3, x5) H
theorem N69_3_eq (ρ : Addr → Option Value) (call : CallF) (yc : YieldF) (lim k : Nat) (x0 x3 x4 x5 : AV) (H : Heap) (kn : KS) (k0 : KS) (R : List AV → Heap → Res) :
    evL (cx ρ) call yc false 69 lim k (Code.at [1, 1, 1, 0, 1, 0] c69) (sp 72 [(0, x0), (3, x3), (4, x4), (5, x5)]) H (kk (some [3]) kn [(0, (some [3]), k0)] R [2]) = N69_3 ρ call yc lim k x0 x3 x4 x5 H (fun x3 H => k0 (sp 72 [(3, x3)]) H) := by
  have e : Code.at [1, 1, 1, 0, 1, 0] c69 = .loop (Code.at [1, 1, 1, 0, 1, 0, 0] c69) := by kernel_rfl
  rw [e]
  unfold N69_3
  exact loop_node [0, 3, 4, 5] (fun x : AV × AV => (sp 72 [(0, x0), (3, (x.1)), (4, x4), (5, (x.2))])) (fun (x : AV × AV) H kn => N69_3b ρ call yc lim k x0 x.1 x4 x.2 H (fun x3 x5 H => kn (x3, x5) H) (fun x3 H => k0 (sp 72 [(3, x3)]) H)) (by kernel_rfl) (fun x => by kernel_rfl) (fun x H kn => N69_3b_eq ρ call yc lim k x0 (x.1) x4 (x.2) H kn k0 R) (x3, x5) (sp 72 [(0, x0), (3, x3), (4, x4), (5, x5)]) H (by kernel_rfl)
noncomputable def N69_2 (ρ : Addr → Option Value) (call : CallF) (yc : YieldF) (lim k : Nat) (x0 x3 x4 x5 : AV) (H : Heap) (kn : AV → Heap → Res) : Res :=
  N69_3 ρ call yc lim k x0 x3 x4 x5 H kn
theorem N69_2_x (ρ : Addr → Option Value) (call : CallF) (yc : YieldF) (lim k : Nat) (J : CodeF) (x0 x3 x4 x5 : AV) (H : Heap) (kn : KS) (R : List AV → Heap → Res) :
    evX (cx ρ) call yc false 69 lim k J (Code.at [1, 1, 1, 0, 1] c69) (sp 72 [(0, x0), (3, x3), (4, x4), (5, x5)]) H (kk (some [3]) kn [] R [2]) =
  J (Code.at [1, 1, 1, 0, 1, 0] c69) (sp 72 [(0, x0), (3, x3), (4, x4), (5, x5)]) H (kk (some [3]) kn [(0, (some [3]), kn)] R [2]) := by
  kernel_rfl
theorem N69_2_eq (ρ : Addr → Option Value) (call : CallF) (yc : YieldF) (lim k : Nat) (x0 x3 x4 x5 : AV) (H : Heap) (kn : KS) (R : List AV → Heap → Res) :
    evL (cx ρ) call yc false 69 lim k (Code.at [1, 1, 1, 0, 1] c69) (sp 72 [(0, x0), (3, x3), (4, x4), (5, x5)]) H (kk (some [3]) kn [] R [2]) = N69_2 ρ call yc lim k x0 x3 x4 x5 H (fun x3 H => kn (sp 72 [(3, x3)]) H) := by
  rw [evL_X, N69_2_x]
  simp only [← evL_X, N69_2, N69_3_eq]
noncomputable def L69 (ρ : Addr → Option Value) (call : CallF) (yc : YieldF) (lim k : Nat) (x0 : AV) (H : Heap) : Res :=
  purK (bldA [.int .u32 0, .str ByteArray.empty, .bool false] []) fun x9 =>
  effK H (bldS H 105 3 [.int .u32 0, .str ByteArray.empty, .bool false] 1 [(0, 3, x9)]) fun x10 H =>
  effK H (some (makeMapA H)) fun x11 H =>
  purK (bldA [.int .u32 0, .str ByteArray.empty, .bool false] []) fun x12 =>
  effK H ((mapPutA (cx ρ) lim H 151 x11 x12 (.bool true)).map skips) fun _ H =>
  N69_2 ρ call yc lim k x0 x10 x11 (.int .i64 0) H (fun x3 H =>
    N69_1 ρ call yc lim k x3 H retK)
theorem L69_x (ρ : Addr → Option Value) (call : CallF) (yc : YieldF) (lim k : Nat) (J : CodeF) (x0 : AV) (H : Heap) :
    evX (cx ρ) call yc false 69 lim k J c69 [x0, (.tup []), (.tup []), (.tup []), (.tup []), (.tup []), (.tup []), (.tup []), (.tup []), (.tup []), (.tup []), (.tup []), (.tup []), (.tup []), (.tup []), (.tup []), (.tup []), (.tup []), (.tup []), (.tup []), (.tup []), (.tup []), (.tup []), (.tup []), (.tup []), (.tup []), (.tup []), (.tup []), (.tup []), (.tup []), (.tup []), (.tup []), (.tup []), (.tup []), (.tup []), (.tup []), (.tup []), (.tup []), (.tup []), (.tup []), (.tup []), (.tup []), (.tup []), (.tup []), (.tup []), (.tup []), (.tup []), (.tup []), (.tup []), (.tup []), (.tup []), (.tup []), (.tup []), (.tup []), (.tup []), (.tup []), (.tup []), (.tup []), (.tup []), (.tup []), (.tup []), (.tup []), (.tup []), (.tup []), (.tup []), (.tup []), (.tup []), (.tup []), (.tup []), (.tup []), (.tup []), (.tup [])] H (kk none (fun s H => retK (([2] : List Nat).map fun t => s.getD t (.tup [])) H) [] retK [2]) =
  purK (bldA [.int .u32 0, .str ByteArray.empty, .bool false] []) fun x9 =>
  effK H (bldS H 105 3 [.int .u32 0, .str ByteArray.empty, .bool false] 1 [(0, 3, x9)]) fun x10 H =>
  effK H (some (makeMapA H)) fun x11 H =>
  purK (bldA [.int .u32 0, .str ByteArray.empty, .bool false] []) fun x12 =>
  effK H ((mapPutA (cx ρ) lim H 151 x11 x12 (.bool true)).map skips) fun _ H =>
  J (Code.at [1, 1, 1, 0, 1] c69) (sp 72 [(0, x0), (3, x10), (4, x11), (5, (.int .i64 0))]) H (kk (some [3]) (fun s H => J (Code.at [1, 1, 1, 1] c69) s H (kk none (fun s H => retK (([2] : List Nat).map fun t => s.getD t (.tup [])) H) [] retK [2])) [] retK [2]) := by
  kernel_rfl
theorem G69 (ρ : Addr → Option Value) (call : CallF) (yc : YieldF) (lim k : Nat) (x0 : AV) (H : Heap) :
    evL (cx ρ) call yc false 69 lim k c69 [x0, (.tup []), (.tup []), (.tup []), (.tup []), (.tup []), (.tup []), (.tup []), (.tup []), (.tup []), (.tup []), (.tup []), (.tup []), (.tup []), (.tup []), (.tup []), (.tup []), (.tup []), (.tup []), (.tup []), (.tup []), (.tup []), (.tup []), (.tup []), (.tup []), (.tup []), (.tup []), (.tup []), (.tup []), (.tup []), (.tup []), (.tup []), (.tup []), (.tup []), (.tup []), (.tup []), (.tup []), (.tup []), (.tup []), (.tup []), (.tup []), (.tup []), (.tup []), (.tup []), (.tup []), (.tup []), (.tup []), (.tup []), (.tup []), (.tup []), (.tup []), (.tup []), (.tup []), (.tup []), (.tup []), (.tup []), (.tup []), (.tup []), (.tup []), (.tup []), (.tup []), (.tup []), (.tup []), (.tup []), (.tup []), (.tup []), (.tup []), (.tup []), (.tup []), (.tup []), (.tup []), (.tup [])] H (kk none (fun s H => retK (([2] : List Nat).map fun t => s.getD t (.tup [])) H) [] retK [2]) = L69 ρ call yc lim k x0 H := by
  rw [evL_X, L69_x]
  simp only [← evL_X, L69, N69_1_eq, N69_2_eq]
theorem E69 (ρ : Addr → Option Value) (k lim : Nat) (x0 : AV) (H : Heap) : evCall (cx ρ) (k + 1) lim 69 [x0] H = L69 ρ (evCall (cx ρ) k) (evCY (cx ρ) k).2 lim k x0 H := by
  rw [evCall_body (cx ρ) k lim 69 _ H Try.f69 c69 [2] (by kernel_rfl) (by kernel_rfl) (by kernel_rfl) (by kernel_rfl) (by kernel_rfl)]
  exact G69 ρ (evCall (cx ρ) k) (evCY (cx ρ) k).2 lim k x0 H
-- (*haycroft/history.search).whole$1
noncomputable def c70 : Code := Code.of Try.prog 70
noncomputable def L70 (ρ : Addr → Option Value) (call : CallF) (yc : YieldF) (lim k : Nat) (x0 x1 : AV) (H : Heap) : Res :=
  effK H (boxA H 105 x0) fun x2 H =>
  purK (ld1 ρ H x1) fun x4 =>
  purK (nilChkA x4) fun x5 =>
  purK (addA 3 x5) fun x6 =>
  purK (ld1 ρ H x6) fun x7 =>
  purK (addA 0 x2) fun x8 =>
  purK (ld1 ρ H x8) fun x9 =>
  purK (binA Try.prog H .andNot 101 x7 x9) fun x10 =>
  purK (binA Try.prog H .neq 101 x10 (.int .u32 0)) fun x11 =>
  retK [x11] H
theorem G70 (ρ : Addr → Option Value) (call : CallF) (yc : YieldF) (lim k : Nat) (x0 x1 : AV) (H : Heap) :
    evL (cx ρ) call yc false 70 lim k c70 [x0, x1, (.tup []), (.tup []), (.tup []), (.tup []), (.tup []), (.tup []), (.tup []), (.tup []), (.tup []), (.tup [])] H (kk none (fun s H => retK (([3] : List Nat).map fun t => s.getD t (.tup [])) H) [] retK [3]) = L70 ρ call yc lim k x0 x1 H := by
  kernel_rfl
theorem E70 (ρ : Addr → Option Value) (k lim : Nat) (x0 x1 : AV) (H : Heap) : evCall (cx ρ) (k + 1) lim 70 [x0, x1] H = L70 ρ (evCall (cx ρ) k) (evCY (cx ρ) k).2 lim k x0 x1 H := by
  rw [evCall_body (cx ρ) k lim 70 _ H Try.f70 c70 [3] (by kernel_rfl) (by kernel_rfl) (by kernel_rfl) (by kernel_rfl) (by kernel_rfl)]
  exact G70 ρ (evCall (cx ρ) k) (evCY (cx ρ) k).2 lim k x0 x1 H
-- slices.Reverse[[]int,int]
noncomputable def c71 : Code := Code.of Try.prog 71
noncomputable def N71_2b (ρ : Addr → Option Value) (call : CallF) (yc : YieldF) (lim k : Nat) (x0 x2 x3 : AV) (H : Heap) (kn : AV → AV → Heap → Res) (R : List AV → Heap → Res) : Res :=
  purK (binA Try.prog H .lss 3 x2 x3) fun x9_1 =>
  condK x9_1
  (
    purK (ixS 1 x0 x3) fun x20_1 =>
    purK (ld1 ρ H x20_1) fun x21_1 =>
    purK (ixS 1 x0 x2) fun x24_1 =>
    purK (ld1 ρ H x24_1) fun x25_1 =>
    purK (ixS 1 x0 x2) fun x26_1 =>
    effK H (stA lim H 1 x26_1 x21_1) fun _ H =>
    purK (ixS 1 x0 x3) fun x27_1 =>
    effK H (stA lim H 1 x27_1 x25_1) fun _ H =>
    purK (binA Try.prog H .add 3 x2 (.int .i64 1)) fun x11_1 =>
    purK (binA Try.prog H .sub 3 x3 (.int .i64 1)) fun x13_1 =>
    kn x11_1 x13_1 H)
  (
    R [] H)
theorem N71_2b_eq (ρ : Addr → Option Value) (call : CallF) (yc : YieldF) (lim k : Nat) (x0 x2 x3 : AV) (H : Heap) (kn : KS) (R : List AV → Heap → Res) :
    evL (cx ρ) call yc false 71 lim k (Code.at [1, 0, 0] c71) (sp 28 [(0, x0), (2, x2), (3, x3)]) H (kk (some [0, 2, 3]) kn [(0, none, (fun s H => R (([] : List Nat).map fun t => s.getD t (.tup [])) H))] R []) = N71_2b ρ call yc lim k x0 x2 x3 H (fun x2 x3 H => kn (sp 28 [(0, x0), (2, x2), (3, x3)]) H) R := by
  kernel_rfl
noncomputable def N71_2 (ρ : Addr → Option Value) (call : CallF) (yc : YieldF) (lim k : Nat) (x0 x2 x3 : AV) (H : Heap) (R : List AV → Heap → Res) : Res :=
  loopL (fun (x : AV × AV) H kn => N71_2b ρ call yc lim k x0 x.1 x.2 H (fun x2 x3 H => kn (x2, x3) H) R) k (x2, x3) H
theorem N71_2_eq (ρ : Addr → Option Value) (call : CallF) (yc : YieldF) (lim k : Nat) (x0 x2 x3 : AV) (H : Heap) (R : List AV → Heap → Res) :
    evL (cx ρ) call yc false 71 lim k (Code.at [1, 0] c71) (sp 28 [(0, x0), (2, x2), (3, x3)]) H (kk none (fun s H => R (([] : List Nat).map fun t => s.getD t (.tup [])) H) [(0, none, (fun s H => R (([] : List Nat).map fun t => s.getD t (.tup [])) H))] R []) = N71_2 ρ call yc lim k x0 x2 x3 H R := by
  have e : Code.at [1, 0] c71 = .loop (Code.at [1, 0, 0] c71) := by kernel_rfl
  rw [e]
  unfold N71_2
  exact loop_node [0, 2, 3] (fun x : AV × AV => (sp 28 [(0, x0), (2, (x.1)), (3, (x.2))])) (fun (x : AV × AV) H kn => N71_2b ρ call yc lim k x0 x.1 x.2 H (fun x2 x3 H => kn (x2, x3) H) R) (by kernel_rfl) (fun x => by kernel_rfl) (fun x H kn => N71_2b_eq ρ call yc lim k x0 (x.1) (x.2) H kn R) (x2, x3) (sp 28 [(0, x0), (2, x2), (3, x3)]) H (by kernel_rfl)
noncomputable def N71_1 (ρ : Addr → Option Value) (call : CallF) (yc : YieldF) (lim k : Nat) (x0 x2 x3 : AV) (H : Heap) (R : List AV → Heap → Res) : Res :=
  N71_2 ρ call yc lim k x0 x2 x3 H R
theorem N71_1_x (ρ : Addr → Option Value) (call : CallF) (yc : YieldF) (lim k : Nat) (J : CodeF) (x0 x2 x3 : AV) (H : Heap) (R : List AV → Heap → Res) :
    evX (cx ρ) call yc false 71 lim k J (Code.at [1] c71) (sp 28 [(0, x0), (2, x2), (3, x3)]) H (kk none (fun s H => R (([] : List Nat).map fun t => s.getD t (.tup [])) H) [] R []) =
  J (Code.at [1, 0] c71) (sp 28 [(0, x0), (2, x2), (3, x3)]) H (kk none (fun s H => R (([] : List Nat).map fun t => s.getD t (.tup [])) H) [(0, none, (fun s H => R (([] : List Nat).map fun t => s.getD t (.tup [])) H))] R []) := by
  kernel_rfl
theorem N71_1_eq (ρ : Addr → Option Value) (call : CallF) (yc : YieldF) (lim k : Nat) (x0 x2 x3 : AV) (H : Heap) (R : List AV → Heap → Res) :
    evL (cx ρ) call yc false 71 lim k (Code.at [1] c71) (sp 28 [(0, x0), (2, x2), (3, x3)]) H (kk none (fun s H => R (([] : List Nat).map fun t => s.getD t (.tup [])) H) [] R []) = N71_1 ρ call yc lim k x0 x2 x3 H R := by
  rw [evL_X, N71_1_x]
  simp only [← evL_X, N71_1, N71_2_eq]
noncomputable def L71 (ρ : Addr → Option Value) (call : CallF) (yc : YieldF) (lim k : Nat) (x0 : AV) (H : Heap) : Res :=
  purK (lenS x0) fun x5 =>
  purK (binA Try.prog H .sub 3 x5 (.int .i64 1)) fun x6 =>
  N71_1 ρ call yc lim k x0 (.int .i64 0) x6 H retK
theorem L71_x (ρ : Addr → Option Value) (call : CallF) (yc : YieldF) (lim k : Nat) (J : CodeF) (x0 : AV) (H : Heap) :
    evX (cx ρ) call yc false 71 lim k J c71 [x0, (.tup []), (.tup []), (.tup []), (.tup []), (.tup []), (.tup []), (.tup []), (.tup []), (.tup []), (.tup []), (.tup []), (.tup []), (.tup []), (.tup []), (.tup []), (.tup []), (.tup []), (.tup []), (.tup []), (.tup []), (.tup []), (.tup []), (.tup []), (.tup []), (.tup []), (.tup []), (.tup [])] H (kk none (fun s H => retK (([] : List Nat).map fun t => s.getD t (.tup [])) H) [] retK []) =
  purK (lenS x0) fun x5 =>
  purK (binA Try.prog H .sub 3 x5 (.int .i64 1)) fun x6 =>
  J (Code.at [1] c71) (sp 28 [(0, x0), (2, (.int .i64 0)), (3, x6)]) H (kk none (fun s H => retK (([] : List Nat).map fun t => s.getD t (.tup [])) H) [] retK []) := by
  kernel_rfl
theorem G71 (ρ : Addr → Option Value) (call : CallF) (yc : YieldF) (lim k : Nat) (x0 : AV) (H : Heap) :
    evL (cx ρ) call yc false 71 lim k c71 [x0, (.tup []), (.tup []), (.tup []), (.tup []), (.tup []), (.tup []), (.tup []), (.tup []), (.tup []), (.tup []), (.tup []), (.tup []), (.tup []), (.tup []), (.tup []), (.tup []), (.tup []), (.tup []), (.tup []), (.tup []), (.tup []), (.tup []), (.tup []), (.tup []), (.tup []), (.tup []), (.tup [])] H (kk none (fun s H => retK (([] : List Nat).map fun t => s.getD t (.tup [])) H) [] retK []) = L71 ρ call yc lim k x0 H := by
  rw [evL_X, L71_x]
  simp only [← evL_X, L71, N71_1_eq]
theorem E71 (ρ : Addr → Option Value) (k lim : Nat) (x0 : AV) (H : Heap) : evCall (cx ρ) (k + 1) lim 71 [x0] H = L71 ρ (evCall (cx ρ) k) (evCY (cx ρ) k).2 lim k x0 H := by
  rw [evCall_body (cx ρ) k lim 71 _ H Try.f71 c71 [] (by kernel_rfl) (by kernel_rfl) (by kernel_rfl) (by kernel_rfl) (by kernel_rfl)]
  exact G71 ρ (evCall (cx ρ) k) (evCY (cx ρ) k).2 lim k x0 H
-- haycroft/record.Value
noncomputable def c72 : Code := Code.of Try.prog 72
noncomputable def L72 (ρ : Addr → Option Value) (call : CallF) (yc : YieldF) (lim k : Nat) (x0 : AV) (H : Heap) : Res :=
  effK H (bldS H 49 1 [.int .u64 0] 1 [(0, 1, x0)]) fun x7 H =>
  resK (call lim 77 [x7, (.int .i64 8)] H) fun x8 H =>
  purK (extA 0 x8) fun x9 =>
  purK (extA 1 x8) fun x10 =>
  retK [x9] H
theorem G72 (ρ : Addr → Option Value) (call : CallF) (yc : YieldF) (lim k : Nat) (x0 : AV) (H : Heap) :
    evL (cx ρ) call yc false 72 lim k c72 [x0, (.tup []), (.tup []), (.tup []), (.tup []), (.tup []), (.tup []), (.tup []), (.tup []), (.tup []), (.tup []), (.tup [])] H (kk none (fun s H => retK (([2] : List Nat).map fun t => s.getD t (.tup [])) H) [] retK [2]) = L72 ρ call yc lim k x0 H := by
  kernel_rfl
theorem E72 (ρ : Addr → Option Value) (k lim : Nat) (x0 : AV) (H : Heap) : evCall (cx ρ) (k + 1) lim 72 [x0] H = L72 ρ (evCall (cx ρ) k) (evCY (cx ρ) k).2 lim k x0 H := by
  rw [evCall_body (cx ρ) k lim 72 _ H Try.f72 c72 [2] (by kernel_rfl) (by kernel_rfl) (by kernel_rfl) (by kernel_rfl) (by kernel_rfl)]
  exact G72 ρ (evCall (cx ρ) k) (evCY (cx ρ) k).2 lim k x0 H
-- haycroft/record.Number
noncomputable def c73 : Code := Code.of Try.prog 73
noncomputable def L73 (ρ : Addr → Option Value) (call : CallF) (yc : YieldF) (lim k : Nat) (x0 : AV) (H : Heap) : Res :=
  purK (lenT x0) fun x4 =>
  purK (binA Try.prog H .neq 3 x4 (.int .i64 8)) fun x5 =>
  condK x5
  (
    retK [(.int .u64 0)] H)
  (
    resK (call lim 96 [x0] H) fun x7 H =>
    purK (ixS 1 x7 (.int .i64 0)) fun x8 =>
    purK (ld1 ρ H x8) fun x9 =>
    retK [x9] H)
theorem G73 (ρ : Addr → Option Value) (call : CallF) (yc : YieldF) (lim k : Nat) (x0 : AV) (H : Heap) :
    evL (cx ρ) call yc false 73 lim k c73 [x0, (.tup []), (.tup []), (.tup []), (.tup []), (.tup []), (.tup []), (.tup []), (.tup []), (.tup [])] H (kk none (fun s H => retK (([2] : List Nat).map fun t => s.getD t (.tup [])) H) [] retK [2]) = L73 ρ call yc lim k x0 H := by
  kernel_rfl
theorem E73 (ρ : Addr → Option Value) (k lim : Nat) (x0 : AV) (H : Heap) : evCall (cx ρ) (k + 1) lim 73 [x0] H = L73 ρ (evCall (cx ρ) k) (evCY (cx ρ) k).2 lim k x0 H := by
  rw [evCall_body (cx ρ) k lim 73 _ H Try.f73 c73 [2] (by kernel_rfl) (by kernel_rfl) (by kernel_rfl) (by kernel_rfl) (by kernel_rfl)]
  exact G73 ρ (evCall (cx ρ) k) (evCY (cx ρ) k).2 lim k x0 H
-- haycroft/field.Bytes
noncomputable def c77 : Code := Code.of Try.prog 77
noncomputable def N77_2 (ρ : Addr → Option Value) (call : CallF) (yc : YieldF) (lim k : Nat) (x1 x6 : AV) (H : Heap) (R : List AV → Heap → Res) : Res :=
  purK (slS 1 x6 none (some x1) none) fun x62_1 =>
  purK (b2s ρ H x62_1) fun x63_1 =>
  R [x63_1, (.int .i64 0)] H
theorem N77_2_eq (ρ : Addr → Option Value) (call : CallF) (yc : YieldF) (lim k : Nat) (x1 x6 : AV) (H : Heap) (R : List AV → Heap → Res) :
    evL (cx ρ) call yc false 77 lim k (Code.at [1, 1, 1, 1, 1, 1] c77) (sp 64 [(1, x1), (6, x6)]) H (kk none (fun s H => R (([4, 5] : List Nat).map fun t => s.getD t (.tup [])) H) [] R [4, 5]) = N77_2 ρ call yc lim k x1 x6 H R := by
  kernel_rfl
noncomputable def N77_4b (ρ : Addr → Option Value) (call : CallF) (yc : YieldF) (lim k : Nat) (x1 x6 x51 x52 x53 : AV) (H : Heap) (kn : AV → Heap → Res) (k3 : AV → AV → Heap → Res) (R : List AV → Heap → Res) : Res :=
  purK (binA Try.prog H .lss 3 x53 x52) fun x54_1 =>
  condK x54_1
  (
    purK (ixS 1 x51 x53) fun x55_1 =>
    purK (ld1 ρ H x55_1) fun x56_1 =>
    purK (binA Try.prog H .neq 5 x56_1 (.int .u8 0)) fun x58_1 =>
    condK x58_1
    (
      R [(.str (ByteArray.mk #[])), (.int .i64 4)] H)
    (
      purK (binA Try.prog H .add 3 x53 (.int .i64 1)) fun x59_1 =>
      kn x59_1 H))
  (
    k3 x1 x6 H)
theorem N77_4b_eq (ρ : Addr → Option Value) (call : CallF) (yc : YieldF) (lim k : Nat) (x1 x6 x51 x52 x53 : AV) (H : Heap) (kn : KS) (k3 : KS) (R : List AV → Heap → Res) :
    evL (cx ρ) call yc false 77 lim k (Code.at [1, 1, 1, 1, 1, 0, 1, 0, 0] c77) (sp 64 [(1, x1), (6, x6), (51, x51), (52, x52), (53, x53)]) H (kk (some [1, 6, 51, 52, 53]) kn [(3, (some [1, 6]), k3)] R [4, 5]) = N77_4b ρ call yc lim k x1 x6 x51 x52 x53 H (fun x53 H => kn (sp 64 [(1, x1), (6, x6), (51, x51), (52, x52), (53, x53)]) H) (fun x1 x6 H => k3 (sp 64 [(1, x1), (6, x6)]) H) R := by
  kernel_rfl
noncomputable def N77_4 (ρ : Addr → Option Value) (call : CallF) (yc : YieldF) (lim k : Nat) (x1 x6 x51 x52 x53 : AV) (H : Heap) (k3 : AV → AV → Heap → Res) (R : List AV → Heap → Res) : Res :=
  loopL (fun (x : AV) H kn => N77_4b ρ call yc lim k x1 x6 x51 x52 x H (fun x53 H => kn x53 H) k3 R) k x53 H
theorem N77_4_eq (ρ : Addr → Option Value) (call : CallF) (yc : YieldF) (lim k : Nat) (x1 x6 x51 x52 x53 : AV) (H : Heap) (kn : KS) (k3 : KS) (R : List AV → Heap → Res) :
    evL (cx ρ) call yc false 77 lim k (Code.at [1, 1, 1, 1, 1, 0, 1, 0] c77) (sp 64 [(1, x1), (6, x6), (51, x51), (52, x52), (53, x53)]) H (kk (some [1, 6]) kn [(3, (some [1, 6]), k3)] R [4, 5]) = N77_4 ρ call yc lim k x1 x6 x51 x52 x53 H (fun x1 x6 H => k3 (sp 64 [(1, x1), (6, x6)]) H) R := by
  have e : Code.at [1, 1, 1, 1, 1, 0, 1, 0] c77 = .loop (Code.at [1, 1, 1, 1, 1, 0, 1, 0, 0] c77) := by kernel_rfl
  rw [e]
  unfold N77_4
  exact loop_node [1, 6, 51, 52, 53] (fun x : AV => (sp 64 [(1, x1), (6, x6), (51, x51), (52, x52), (53, (x))])) (fun (x : AV) H kn => N77_4b ρ call yc lim k x1 x6 x51 x52 x H (fun x53 H => kn x53 H) (fun x1 x6 H => k3 (sp 64 [(1, x1), (6, x6)]) H) R) (by kernel_rfl) (fun x => by kernel_rfl) (fun x H kn => N77_4b_eq ρ call yc lim k x1 x6 x51 x52 (x) H kn k3 R) x53 (sp 64 [(1, x1), (6, x6), (51, x51), (52, x52), (53, x53)]) H (by kernel_rfl)
noncomputable def N77_3 (ρ : Addr → Option Value) (call : CallF) (yc : YieldF) (lim k : Nat) (x1 x6 x51 x52 x53 : AV) (H : Heap) (kn : AV → AV → Heap → Res) (R : List AV → Heap → Res) : Res :=
  N77_4 ρ call yc lim k x1 x6 x51 x52 x53 H kn R
theorem N77_3_x (ρ : Addr → Option Value) (call : CallF) (yc : YieldF) (lim k : Nat) (J : CodeF) (x1 x6 x51 x52 x53 : AV) (H : Heap) (kn : KS) (R : List AV → Heap → Res) :
    evX (cx ρ) call yc false 77 lim k J (Code.at [1, 1, 1, 1, 1, 0, 1] c77) (sp 64 [(1, x1), (6, x6), (51, x51), (52, x52), (53, x53)]) H (kk (some [1, 6]) kn [] R [4, 5]) =
  J (Code.at [1, 1, 1, 1, 1, 0, 1, 0] c77) (sp 64 [(1, x1), (6, x6), (51, x51), (52, x52), (53, x53)]) H (kk (some [1, 6]) kn [(3, (some [1, 6]), kn)] R [4, 5]) := by
  kernel_rfl
theorem N77_3_eq (ρ : Addr → Option Value) (call : CallF) (yc : YieldF) (lim k : Nat) (x1 x6 x51 x52 x53 : AV) (H : Heap) (kn : KS) (R : List AV → Heap → Res) :
    evL (cx ρ) call yc false 77 lim k (Code.at [1, 1, 1, 1, 1, 0, 1] c77) (sp 64 [(1, x1), (6, x6), (51, x51), (52, x52), (53, x53)]) H (kk (some [1, 6]) kn [] R [4, 5]) = N77_3 ρ call yc lim k x1 x6 x51 x52 x53 H (fun x1 x6 H => kn (sp 64 [(1, x1), (6, x6)]) H) R := by
  rw [evL_X, N77_3_x]
  simp only [← evL_X, N77_3, N77_4_eq]
noncomputable def N77_1 (ρ : Addr → Option Value) (call : CallF) (yc : YieldF) (lim k : Nat) (x0 x1 x6 : AV) (H : Heap) (R : List AV → Heap → Res) : Res :=
  purK (lenS x0) fun x43_1 =>
  purK (binA Try.prog H .add 3 x1 (.int .i64 8)) fun x45_1 =>
  purK (binA Try.prog H .sub 3 x45_1 (.int .i64 1)) fun x46_1 =>
  purK (binA Try.prog H .quo 3 x46_1 (.int .i64 8)) fun x47_1 =>
  purK (binA Try.prog H .neq 3 x43_1 x47_1) fun x48_1 =>
  condK x48_1
  (
    R [(.str (ByteArray.mk #[])), (.int .i64 4)] H)
  (
    purK (slS 1 x6 (some x1) none none) fun x51_1 =>
    purK (lenS x51_1) fun x52_1 =>
    N77_3 ρ call yc lim k x1 x6 x51_1 x52_1 (.int .i64 0) H (fun x1_1 x6_1 H =>
      N77_2 ρ call yc lim k x1_1 x6_1 H R) R)
theorem N77_1_x (ρ : Addr → Option Value) (call : CallF) (yc : YieldF) (lim k : Nat) (J : CodeF) (x0 x1 x6 : AV) (H : Heap) (R : List AV → Heap → Res) :
    evX (cx ρ) call yc false 77 lim k J (Code.at [1, 1, 1, 1] c77) (sp 64 [(0, x0), (1, x1), (6, x6)]) H (kk none (fun s H => R (([4, 5] : List Nat).map fun t => s.getD t (.tup [])) H) [] R [4, 5]) =
  purK (lenS x0) fun x43_1 =>
  purK (binA Try.prog H .add 3 x1 (.int .i64 8)) fun x45_1 =>
  purK (binA Try.prog H .sub 3 x45_1 (.int .i64 1)) fun x46_1 =>
  purK (binA Try.prog H .quo 3 x46_1 (.int .i64 8)) fun x47_1 =>
  purK (binA Try.prog H .neq 3 x43_1 x47_1) fun x48_1 =>
  condK x48_1
  (
    R [(.str (ByteArray.mk #[])), (.int .i64 4)] H)
  (
    purK (slS 1 x6 (some x1) none none) fun x51_1 =>
    purK (lenS x51_1) fun x52_1 =>
    J (Code.at [1, 1, 1, 1, 1, 0, 1] c77) (sp 64 [(1, x1), (6, x6), (51, x51_1), (52, x52_1), (53, (.int .i64 0))]) H (kk (some [1, 6]) (fun s H => J (Code.at [1, 1, 1, 1, 1, 1] c77) s H (kk none (fun s H => R (([4, 5] : List Nat).map fun t => s.getD t (.tup [])) H) [] R [4, 5])) [] R [4, 5])) := by
  kernel_rfl
theorem N77_1_eq (ρ : Addr → Option Value) (call : CallF) (yc : YieldF) (lim k : Nat) (x0 x1 x6 : AV) (H : Heap) (R : List AV → Heap → Res) :
    evL (cx ρ) call yc false 77 lim k (Code.at [1, 1, 1, 1] c77) (sp 64 [(0, x0), (1, x1), (6, x6)]) H (kk none (fun s H => R (([4, 5] : List Nat).map fun t => s.getD t (.tup [])) H) [] R [4, 5]) = N77_1 ρ call yc lim k x0 x1 x6 H R := by
  rw [evL_X, N77_1_x]
  simp only [← evL_X, N77_1, N77_2_eq, N77_3_eq]
noncomputable def N77_6b (ρ : Addr → Option Value) (call : CallF) (yc : YieldF) (lim k : Nat) (x0 x1 x6 x24 x25 : AV) (H : Heap) (kn : AV → Heap → Res) (k1 : AV → AV → AV → Heap → Res) : Res :=
  purK (binA Try.prog H .lss 3 x25 x24) fun x26_1 =>
  condK x26_1
  (
    purK (binA Try.prog H .quo 3 x25 (.int .i64 8)) fun x32_1 =>
    purK (ixS 1 x0 x32_1) fun x33_1 =>
    purK (ld1 ρ H x33_1) fun x34_1 =>
    purK (binA Try.prog H .rem 3 x25 (.int .i64 8)) fun x36_1 =>
    purK (binA Try.prog H .mul 3 x36_1 (.int .i64 8)) fun x37_1 =>
    purK (binA Try.prog H .shr 49 x34_1 x37_1) fun x38_1 =>
    purK (cvI .u8 x38_1) fun x39_1 =>
    purK (ixS 1 x6 x25) fun x40_1 =>
    effK H (stA lim H 1 x40_1 x39_1) fun _ H =>
    purK (binA Try.prog H .add 3 x25 (.int .i64 1)) fun x41_1 =>
    kn x41_1 H)
  (
    k1 x0 x1 x6 H)
theorem N77_6b_eq (ρ : Addr → Option Value) (call : CallF) (yc : YieldF) (lim k : Nat) (x0 x1 x6 x24 x25 : AV) (H : Heap) (kn : KS) (k1 : KS) (R : List AV → Heap → Res) :
    evL (cx ρ) call yc false 77 lim k (Code.at [1, 1, 1, 0, 1, 0, 0] c77) (sp 64 [(0, x0), (1, x1), (6, x6), (24, x24), (25, x25)]) H (kk (some [0, 1, 6, 24, 25]) kn [(1, (some [0, 1, 6]), k1)] R [4, 5]) = N77_6b ρ call yc lim k x0 x1 x6 x24 x25 H (fun x25 H => kn (sp 64 [(0, x0), (1, x1), (6, x6), (24, x24), (25, x25)]) H) (fun x0 x1 x6 H => k1 (sp 64 [(0, x0), (1, x1), (6, x6)]) H) := by
  kernel_rfl
noncomputable def N77_6 (ρ : Addr → Option Value) (call : CallF) (yc : YieldF) (lim k : Nat) (x0 x1 x6 x24 x25 : AV) (H : Heap) (k1 : AV → AV → AV → Heap → Res) : Res :=
  loopL (fun (x : AV) H kn => N77_6b ρ call yc lim k x0 x1 x6 x24 x H (fun x25 H => kn x25 H) k1) k x25 H
theorem N77_6_eq (ρ : Addr → Option Value) (call : CallF) (yc : YieldF) (lim k : Nat) (x0 x1 x6 x24 x25 : AV) (H : Heap) (kn : KS) (k1 : KS) (R : List AV → Heap → Res) :
    evL (cx ρ) call yc false 77 lim k (Code.at [1, 1, 1, 0, 1, 0] c77) (sp 64 [(0, x0), (1, x1), (6, x6), (24, x24), (25, x25)]) H (kk (some [0, 1, 6]) kn [(1, (some [0, 1, 6]), k1)] R [4, 5]) = N77_6 ρ call yc lim k x0 x1 x6 x24 x25 H (fun x0 x1 x6 H => k1 (sp 64 [(0, x0), (1, x1), (6, x6)]) H) := by
  have e : Code.at [1, 1, 1, 0, 1, 0] c77 = .loop (Code.at [1, 1, 1, 0, 1, 0, 0] c77) := by kernel_rfl
  rw [e]
  unfold N77_6
  exact loop_node [0, 1, 6, 24, 25] (fun x : AV => (sp 64 [(0, x0), (1, x1), (6, x6), (24, x24), (25, (x))])) (fun (x : AV) H kn => N77_6b ρ call yc lim k x0 x1 x6 x24 x H (fun x25 H => kn x25 H) (fun x0 x1 x6 H => k1 (sp 64 [(0, x0), (1, x1), (6, x6)]) H)) (by kernel_rfl) (fun x => by kernel_rfl) (fun x H kn => N77_6b_eq ρ call yc lim k x0 x1 x6 x24 (x) H kn k1 R) x25 (sp 64 [(0, x0), (1, x1), (6, x6), (24, x24), (25, x25)]) H (by kernel_rfl)
noncomputable def N77_5 (ρ : Addr → Option Value) (call : CallF) (yc : YieldF) (lim k : Nat) (x0 x1 x6 x24 x25 : AV) (H : Heap) (kn : AV → AV → AV → Heap → Res) : Res :=
  N77_6 ρ call yc lim k x0 x1 x6 x24 x25 H kn
theorem N77_5_x (ρ : Addr → Option Value) (call : CallF) (yc : YieldF) (lim k : Nat) (J : CodeF) (x0 x1 x6 x24 x25 : AV) (H : Heap) (kn : KS) (R : List AV → Heap → Res) :
    evX (cx ρ) call yc false 77 lim k J (Code.at [1, 1, 1, 0, 1] c77) (sp 64 [(0, x0), (1, x1), (6, x6), (24, x24), (25, x25)]) H (kk (some [0, 1, 6]) kn [] R [4, 5]) =
  J (Code.at [1, 1, 1, 0, 1, 0] c77) (sp 64 [(0, x0), (1, x1), (6, x6), (24, x24), (25, x25)]) H (kk (some [0, 1, 6]) kn [(1, (some [0, 1, 6]), kn)] R [4, 5]) := by
  kernel_rfl
theorem N77_5_eq (ρ : Addr → Option Value) (call : CallF) (yc : YieldF) (lim k : Nat) (x0 x1 x6 x24 x25 : AV) (H : Heap) (kn : KS) (R : List AV → Heap → Res) :
    evL (cx ρ) call yc false 77 lim k (Code.at [1, 1, 1, 0, 1] c77) (sp 64 [(0, x0), (1, x1), (6, x6), (24, x24), (25, x25)]) H (kk (some [0, 1, 6]) kn [] R [4, 5]) = N77_5 ρ call yc lim k x0 x1 x6 x24 x25 H (fun x0 x1 x6 H => kn (sp 64 [(0, x0), (1, x1), (6, x6)]) H) := by
  rw [evL_X, N77_5_x]
  simp only [← evL_X, N77_5, N77_6_eq]
noncomputable def L77 (ρ : Addr → Option Value) (call : CallF) (yc : YieldF) (lim k : Nat) (x0 x1 : AV) (H : Heap) : Res :=
  purK (binA Try.prog H .lss 3 x1 (.int .i64 0)) fun x12 =>
  condK x12
  (
    retK [(.str (ByteArray.mk #[])), (.int .i64 1)] H)
  (
    purK (lenS x0) fun x16 =>
    purK (binA Try.prog H .mul 3 (.int .i64 8) x16) fun x17 =>
    purK (binA Try.prog H .gtr 3 x1 x17) fun x18 =>
    condK x18
    (
      retK [(.str (ByteArray.mk #[])), (.int .i64 3)] H)
    (
      purK (lenS x0) fun x20 =>
      purK (binA Try.prog H .mul 3 (.int .i64 8) x20) fun x21 =>
      effK H (mkS H 5 1 1 [.int .u8 0] x21 x21) fun x22 H =>
      purK (lenS x22) fun x24 =>
      N77_5 ρ call yc lim k x0 x1 x22 x24 (.int .i64 0) H (fun x0_1 x1_1 x6 H =>
        N77_1 ρ call yc lim k x0_1 x1_1 x6 H retK)))
theorem L77_x (ρ : Addr → Option Value) (call : CallF) (yc : YieldF) (lim k : Nat) (J : CodeF) (x0 x1 : AV) (H : Heap) :
    evX (cx ρ) call yc false 77 lim k J c77 [x0, x1, (.tup []), (.tup []), (.tup []), (.tup []), (.tup []), (.tup []), (.tup []), (.tup []), (.tup []), (.tup []), (.tup []), (.tup []), (.tup []), (.tup []), (.tup []), (.tup []), (.tup []), (.tup []), (.tup []), (.tup []), (.tup []), (.tup []), (.tup []), (.tup []), (.tup []), (.tup []), (.tup []), (.tup []), (.tup []), (.tup []), (.tup []), (.tup []), (.tup []), (.tup []), (.tup []), (.tup []), (.tup []), (.tup []), (.tup []), (.tup []), (.tup []), (.tup []), (.tup []), (.tup []), (.tup []), (.tup []), (.tup []), (.tup []), (.tup []), (.tup []), (.tup []), (.tup []), (.tup []), (.tup []), (.tup []), (.tup []), (.tup []), (.tup []), (.tup []), (.tup []), (.tup []), (.tup [])] H (kk none (fun s H => retK (([4, 5] : List Nat).map fun t => s.getD t (.tup [])) H) [] retK [4, 5]) =
  purK (binA Try.prog H .lss 3 x1 (.int .i64 0)) fun x12 =>
  condK x12
  (
    retK [(.str (ByteArray.mk #[])), (.int .i64 1)] H)
  (
    purK (lenS x0) fun x16 =>
    purK (binA Try.prog H .mul 3 (.int .i64 8) x16) fun x17 =>
    purK (binA Try.prog H .gtr 3 x1 x17) fun x18 =>
    condK x18
    (
      retK [(.str (ByteArray.mk #[])), (.int .i64 3)] H)
    (
      purK (lenS x0) fun x20 =>
      purK (binA Try.prog H .mul 3 (.int .i64 8) x20) fun x21 =>
      effK H (mkS H 5 1 1 [.int .u8 0] x21 x21) fun x22 H =>
      purK (lenS x22) fun x24 =>
      J (Code.at [1, 1, 1, 0, 1] c77) (sp 64 [(0, x0), (1, x1), (6, x22), (24, x24), (25, (.int .i64 0))]) H (kk (some [0, 1, 6]) (fun s H => J (Code.at [1, 1, 1, 1] c77) s H (kk none (fun s H => retK (([4, 5] : List Nat).map fun t => s.getD t (.tup [])) H) [] retK [4, 5])) [] retK [4, 5]))) := by
  kernel_rfl
theorem G77 (ρ : Addr → Option Value) (call : CallF) (yc : YieldF) (lim k : Nat) (x0 x1 : AV) (H : Heap) :
    evL (cx ρ) call yc false 77 lim k c77 [x0, x1, (.tup []), (.tup []), (.tup []), (.tup []), (.tup []), (.tup []), (.tup []), (.tup []), (.tup []), (.tup []), (.tup []), (.tup []), (.tup []), (.tup []), (.tup []), (.tup []), (.tup []), (.tup []), (.tup []), (.tup []), (.tup []), (.tup []), (.tup []), (.tup []), (.tup []), (.tup []), (.tup []), (.tup []), (.tup []), (.tup []), (.tup []), (.tup []), (.tup []), (.tup []), (.tup []), (.tup []), (.tup []), (.tup []), (.tup []), (.tup []), (.tup []), (.tup []), (.tup []), (.tup []), (.tup []), (.tup []), (.tup []), (.tup []), (.tup []), (.tup []), (.tup []), (.tup []), (.tup []), (.tup []), (.tup []), (.tup []), (.tup []), (.tup []), (.tup []), (.tup []), (.tup []), (.tup [])] H (kk none (fun s H => retK (([4, 5] : List Nat).map fun t => s.getD t (.tup [])) H) [] retK [4, 5]) = L77 ρ call yc lim k x0 x1 H := by
  rw [evL_X, L77_x]
  simp only [← evL_X, L77, N77_1_eq, N77_5_eq]
theorem E77 (ρ : Addr → Option Value) (k lim : Nat) (x0 x1 : AV) (H : Heap) : evCall (cx ρ) (k + 1) lim 77 [x0, x1] H = L77 ρ (evCall (cx ρ) k) (evCY (cx ρ) k).2 lim k x0 x1 H := by
  rw [evCall_body (cx ρ) k lim 77 _ H Try.f77 c77 [4, 5] (by kernel_rfl) (by kernel_rfl) (by kernel_rfl) (by kernel_rfl) (by kernel_rfl)]
  exact G77 ρ (evCall (cx ρ) k) (evCY (cx ρ) k).2 lim k x0 x1 H
end Go.Proofs.Ytkmohjddojpdjaa
