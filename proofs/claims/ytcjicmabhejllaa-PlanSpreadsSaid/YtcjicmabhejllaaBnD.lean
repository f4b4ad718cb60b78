/- Part 4 of the proof of PlanSpreads: PnTab Pn0 Pn1 Pn2 Pn3 Pn4. -/
import Derived.Test.YtcjicmabhejllaaBnB
import Derived.Test.YtcjicmabhejllaaProg
import Derived.KernelRfl
-- part PnTab
/- The tables of the program: what is live, how draws go. Printed by a program of this repo. -/
set_option linter.unusedVariables false
namespace Go.Proofs.Ytcjicmabhejllaa
open Go.Ev Go.RowKit
def dr : FuncId → Nat → Option (List (Nat × Bool))
  | 7, 6 => some [(0, true), (2, true), (1, false), (3, false), (4, true)]
  | 55, 1 => some [(0, true), (1, true), (2, true), (3, true), (5, true), (6, true), (7, true), (8, true), (9, true), (4, false), (10, false), (11, true)]
  | 60, 0 => some [(0, true), (1, true), (2, true), (3, true), (4, true), (5, true), (6, true), (7, true), (9, true), (10, true), (11, true), (12, true), (13, true), (8, false), (14, true), (15, true)]
  | _, _ => none
def xk : FuncId → Option XK
  | 61 => some (.same)
  | 62 => some (.nozero #[3] 65)
  | _ => none
def lv7 : Nat → Option (List Nat)
  | 8 => some [1, 2, 3, 7, 8]
  | 12 => some [1, 2, 3, 7, 8]
  | 15 => some [1, 2, 3, 7, 8, 9, 10, 11]
  | 18 => some [1, 2, 3, 7, 8, 10]
  | 1000007 => some [1, 2, 3, 7, 8, 32]
  | _ => none
def lv8 : Nat → Option (List Nat)
  | 7 => some [0, 1, 2, 7, 9, 10]
  | 8 => some [0, 1, 2, 7, 9, 10]
  | 11 => some [0, 1, 2, 7, 9]
  | 15 => some [7, 12, 13]
  | 17 => some [7, 12, 13, 14, 15]
  | 18 => some [7, 12, 13, 14, 15]
  | 22 => some [12, 14]
  | 1000021 => some [7, 12, 13, 14, 15, 105]
  | _ => none
def lv10 : Nat → Option (List Nat)
  | 3 => some [0]
  | _ => none
def lv11 : Nat → Option (List Nat)
  | 3 => some [0]
  | _ => none
def lv23 : Nat → Option (List Nat)
  | 3 => some [0, 1, 2]
  | 7 => some []
  | _ => none
def lv24 : Nat → Option (List Nat)
  | 4 => some [0, 1, 2, 7]
  | 5 => some [0, 1, 2, 7]
  | 7 => some [0, 1, 2, 7, 8]
  | 8 => some [0, 1, 2, 7, 8]
  | 11 => some [0, 1, 2, 7, 8, 9, 10]
  | 14 => some [0, 1, 2, 7, 8, 9]
  | 16 => some []
  | _ => none
def lv25 : Nat → Option (List Nat)
  | 8 => some [2, 6, 7, 21, 22]
  | 11 => some [7]
  | _ => none
def lv27 : Nat → Option (List Nat)
  | 3 => some [1, 3, 4]
  | 8 => some [1, 3]
  | _ => none
def lv28 : Nat → Option (List Nat)
  | 3 => some [0, 3, 4, 5, 6]
  | 6 => some [0, 3, 4, 5]
  | 10 => some [0, 3, 4, 7, 8, 9, 10]
  | 11 => some [0, 3, 4, 7, 8, 9, 10]
  | 15 => some [0, 3, 4, 8]
  | 18 => some [0, 3, 4, 8]
  | 21 => some [0, 4, 8, 12]
  | 25 => some [0, 4, 8, 12, 13, 14]
  | 28 => some [0, 4, 8, 13]
  | 29 => some [0, 4, 8]
  | 31 => some [0, 4, 8]
  | 33 => some [0, 4, 8]
  | 35 => some [0, 4, 8]
  | 37 => some [0, 4, 8, 15]
  | 40 => some [4, 8]
  | _ => none
def lv29 : Nat → Option (List Nat)
  | 4 => some [0, 1, 5]
  | 5 => some [0, 1, 5]
  | 8 => some []
  | 1000007 => some [0, 1, 5, 80]
  | _ => none
def lv30 : Nat → Option (List Nat)
  | 4 => some [0, 1, 5]
  | 8 => some []
  | _ => none
def lv31 : Nat → Option (List Nat)
  | 3 => some [3, 7, 8, 9]
  | 7 => some [3, 7, 8, 9]
  | 8 => some [3]
  | _ => none
def lv34 : Nat → Option (List Nat)
  | 2 => some [0, 6, 7]
  | 7 => some []
  | _ => none
def lv35 : Nat → Option (List Nat)
  | 18 => some [0, 4, 5, 7]
  | 21 => some [4, 5]
  | 1000009 => some [0, 4, 5, 6, 18, 28]
  | 1000013 => some [0, 4, 5, 18, 39]
  | 1000015 => some [0, 4, 5, 18, 39]
  | _ => none
def lv44 : Nat → Option (List Nat)
  | 3 => some [0, 3, 5, 11, 12]
  | 7 => some [0, 3, 5]
  | 9 => some [8, 22, 23]
  | 15 => some []
  | _ => none
def lv46 : Nat → Option (List Nat)
  | 8 => some [4, 5]
  | _ => none
def lv47 : Nat → Option (List Nat)
  | 2 => some [0, 1, 7, 8]
  | 7 => some []
  | _ => none
def lv48 : Nat → Option (List Nat)
  | 2 => some [0, 1, 7, 8]
  | 7 => some []
  | _ => none
def lv49 : Nat → Option (List Nat)
  | 8 => some [0, 1]
  | 11 => some [0, 6]
  | 30 => some [0, 7]
  | 31 => some [0, 7, 8]
  | 35 => some [0, 7, 8]
  | 38 => some [7, 8, 9]
  | 41 => some [9]
  | 1000010 => some [0, 6, 34]
  | 1000020 => some [0, 7, 43]
  | 1000021 => some [0, 7, 49]
  | 1000029 => some [0, 7, 85]
  | _ => none
def lv50 : Nat → Option (List Nat)
  | 4 => some [8, 9]
  | _ => none
def lv52 : Nat → Option (List Nat)
  | 3 => some [0, 1]
  | _ => none
def lv57 : Nat → Option (List Nat)
  | 7 => some [0, 1, 6, 7, 9, 11]
  | _ => none
def lv : FuncId → Nat → Option (List Nat)
  | 7 => lv7
  | 8 => lv8
  | 10 => lv10
  | 11 => lv11
  | 23 => lv23
  | 24 => lv24
  | 25 => lv25
  | 27 => lv27
  | 28 => lv28
  | 29 => lv29
  | 30 => lv30
  | 31 => lv31
  | 34 => lv34
  | 35 => lv35
  | 44 => lv44
  | 46 => lv46
  | 47 => lv47
  | 48 => lv48
  | 49 => lv49
  | 50 => lv50
  | 52 => lv52
  | 57 => lv57
  | _ => fun _ => none
noncomputable def cx (ρ : Addr → Option Value) : Ctx := { P := Try.prog, ext := xk, ρ := ρ, live := lv, draw := dr, pur := fun _ => false, strict := false }
end Go.Proofs.Ytcjicmabhejllaa

-- part Pn0
/- Functions, lifted. Printed by a program of this repo. -/
set_option linter.unusedVariables false
set_option linter.unusedSimpArgs false
set_option maxRecDepth 100000
set_option maxHeartbeats 4000000
namespace Go.Proofs.Ytcjicmabhejllaa
open Go.Ev Go.RowKit
-- haycroft/haycroftlaw32.PlanSteps
noncomputable def c7 : Code := Code.of Try.prog 7
noncomputable def N7_3 (ρ : Addr → Option Value) (call : CallF) (yc : YieldF) (lim k : Nat) (x1 x2 x3 x7 x8 x10 : AV) (H : Heap) (R : List AV → Heap → Res) : Res :=
  purK (cvI .u64 x2) fun x73_1 =>
  purK (binA Try.prog H .add 3 x1 (.int .i64 1)) fun x75_1 =>
  purK (cvI .u64 x75_1) fun x76_1 =>
  purK (binA Try.prog H .rem 53 x73_1 x76_1) fun x77_1 =>
  purK (cvI .i64 x77_1) fun x78_1 =>
  purK (ldN ρ H 13 x3) fun x80_1 =>
  resK (call lim 25 [x80_1, x78_1] H) fun x82_1 H =>
  purK (extA 0 x82_1) fun x83_1 =>
  purK (extA 1 x82_1) fun x84_1 =>
  purK (binA Try.prog H .eql 34 x8 (.int .i64 0)) fun x86_1 =>
  purK (gPur (wantV x86_1 true) (some x7)) fun x88_1 =>
  purK (gPur (wantV x86_1 true) (some x10)) fun x89_1 =>
  resK (gRes (wantV x86_1 true) H (call lim 29 [x88_1, x89_1] H)) fun x90_1 H =>
  purK (pickA x86_1 x90_1 (.bool false)) fun x91_1 =>
  purK (gPur (wantV x91_1 true) (some x84_1)) fun x93_1 =>
  purK (gPur (wantV x91_1 true) (binA Try.prog H .eql 34 x93_1 (.int .i64 0))) fun x94_1 =>
  purK (pickA x91_1 x94_1 (.bool false)) fun x95_1 =>
  purK (gPur (wantV x95_1 true) (some x83_1)) fun x97_1 =>
  purK (gPur (wantV x95_1 true) (some x10)) fun x98_1 =>
  purK (gPur (wantV x95_1 true) (some x78_1)) fun x99_1 =>
  purK (gPur (wantV x95_1 true) (slS 8 x98_1 none (some x99_1) none)) fun x100_1 =>
  resK (gRes (wantV x95_1 true) H (call lim 29 [x97_1, x100_1] H)) fun x101_1 H =>
  purK (pickA x95_1 x101_1 (.bool false)) fun x102_1 =>
  R [x102_1] H
theorem N7_3_eq (ρ : Addr → Option Value) (call : CallF) (yc : YieldF) (lim k : Nat) (x1 x2 x3 x7 x8 x10 : AV) (H : Heap) (R : List AV → Heap → Res) :
    evL (cx ρ) call yc false 7 lim k (Code.at [1, 1, 1, 1, 1, 1, 1, 1, 1, 1] c7) (sp 103 [(1, x1), (2, x2), (3, x3), (7, x7), (8, x8), (10, x10)]) H (kk none (fun s H => R (([6] : List Nat).map fun t => s.getD t (.tup [])) H) [] R [6]) = N7_3 ρ call yc lim k x1 x2 x3 x7 x8 x10 H R := by
  kernel_rfl
noncomputable def N7_5b (ρ : Addr → Option Value) (call : CallF) (yc : YieldF) (lim k : Nat) (x1 x2 x3 x7 x8 x9 x10 x11 : AV) (H : Heap) (kn : AV → AV → Heap → Res) (k0 : AV → AV → AV → AV → AV → AV → Heap → Res) : Res :=
  purK (binA Try.prog H .lss 3 x11 x1) fun x63_1 =>
  condK x63_1
  (
    purK (ldN ρ H 13 x3) fun x68_1 =>
    resK (call lim 28 [x9, x68_1] H) fun x69_1 H =>
    effK H (bldS H 42 8 [.int .i64 0, .int .i64 0, .int .i64 0, .int .i64 0, .str ByteArray.empty, .str ByteArray.empty, .int .u64 0, .nils] 1 [(0, 8, x69_1)]) fun x70_1 H =>
    effK H (apA ρ lim H 42 8 96 x10 x70_1) fun x71_1 H =>
    purK (binA Try.prog H .add 3 x11 (.int .i64 1)) fun x65_1 =>
    kn x71_1 x65_1 H)
  (
    k0 x1 x2 x3 x7 x8 x10 H)
theorem N7_5b_eq (ρ : Addr → Option Value) (call : CallF) (yc : YieldF) (lim k : Nat) (x1 x2 x3 x7 x8 x9 x10 x11 : AV) (H : Heap) (kn : KS) (k0 : KS) (R : List AV → Heap → Res) :
    evL (cx ρ) call yc false 7 lim k (Code.at [1, 1, 1, 1, 1, 1, 1, 1, 1, 0, 1, 0, 0] c7) (sp 103 [(1, x1), (2, x2), (3, x3), (7, x7), (8, x8), (9, x9), (10, x10), (11, x11)]) H (kk (some [1, 2, 3, 7, 8, 9, 10, 11]) kn [(0, (some [1, 2, 3, 7, 8, 10]), k0)] R [6]) = N7_5b ρ call yc lim k x1 x2 x3 x7 x8 x9 x10 x11 H (fun x10 x11 H => kn (sp 103 [(1, x1), (2, x2), (3, x3), (7, x7), (8, x8), (9, x9), (10, x10), (11, x11)]) H) (fun x1 x2 x3 x7 x8 x10 H => k0 (sp 103 [(1, x1), (2, x2), (3, x3), (7, x7), (8, x8), (10, x10)]) H) := by
  kernel_rfl
noncomputable def N7_5 (ρ : Addr → Option Value) (call : CallF) (yc : YieldF) (lim k : Nat) (x1 x2 x3 x7 x8 x9 x10 x11 : AV) (H : Heap) (k0 : AV → AV → AV → AV → AV → AV → Heap → Res) : Res :=
  loopL (fun (x : AV × AV) H kn => N7_5b ρ call yc lim k x1 x2 x3 x7 x8 x9 x.1 x.2 H (fun x10 x11 H => kn (x10, x11) H) k0) k (x10, x11) H
theorem N7_5_eq (ρ : Addr → Option Value) (call : CallF) (yc : YieldF) (lim k : Nat) (x1 x2 x3 x7 x8 x9 x10 x11 : AV) (H : Heap) (kn : KS) (k0 : KS) (R : List AV → Heap → Res) :
    evL (cx ρ) call yc false 7 lim k (Code.at [1, 1, 1, 1, 1, 1, 1, 1, 1, 0, 1, 0] c7) (sp 103 [(1, x1), (2, x2), (3, x3), (7, x7), (8, x8), (9, x9), (10, x10), (11, x11)]) H (kk (some [1, 2, 3, 7, 8, 10]) kn [(0, (some [1, 2, 3, 7, 8, 10]), k0)] R [6]) = N7_5 ρ call yc lim k x1 x2 x3 x7 x8 x9 x10 x11 H (fun x1 x2 x3 x7 x8 x10 H => k0 (sp 103 [(1, x1), (2, x2), (3, x3), (7, x7), (8, x8), (10, x10)]) H) := by
  have e : Code.at [1, 1, 1, 1, 1, 1, 1, 1, 1, 0, 1, 0] c7 = .loop (Code.at [1, 1, 1, 1, 1, 1, 1, 1, 1, 0, 1, 0, 0] c7) := by kernel_rfl
  rw [e]
  unfold N7_5
  exact loop_node [1, 2, 3, 7, 8, 9, 10, 11] (fun x : AV × AV => (sp 103 [(1, x1), (2, x2), (3, x3), (7, x7), (8, x8), (9, x9), (10, (x.1)), (11, (x.2))])) (fun (x : AV × AV) H kn => N7_5b ρ call yc lim k x1 x2 x3 x7 x8 x9 x.1 x.2 H (fun x10 x11 H => kn (x10, x11) H) (fun x1 x2 x3 x7 x8 x10 H => k0 (sp 103 [(1, x1), (2, x2), (3, x3), (7, x7), (8, x8), (10, x10)]) H)) (by kernel_rfl) (fun x => by kernel_rfl) (fun x H kn => N7_5b_eq ρ call yc lim k x1 x2 x3 x7 x8 x9 (x.1) (x.2) H kn k0 R) (x10, x11) (sp 103 [(1, x1), (2, x2), (3, x3), (7, x7), (8, x8), (9, x9), (10, x10), (11, x11)]) H (by kernel_rfl)
noncomputable def N7_4 (ρ : Addr → Option Value) (call : CallF) (yc : YieldF) (lim k : Nat) (x1 x2 x3 x7 x8 x9 x10 x11 : AV) (H : Heap) (kn : AV → AV → AV → AV → AV → AV → Heap → Res) : Res :=
  N7_5 ρ call yc lim k x1 x2 x3 x7 x8 x9 x10 x11 H kn
theorem N7_4_x (ρ : Addr → Option Value) (call : CallF) (yc : YieldF) (lim k : Nat) (J : CodeF) (x1 x2 x3 x7 x8 x9 x10 x11 : AV) (H : Heap) (kn : KS) (R : List AV → Heap → Res) :
    evX (cx ρ) call yc false 7 lim k J (Code.at [1, 1, 1, 1, 1, 1, 1, 1, 1, 0, 1] c7) (sp 103 [(1, x1), (2, x2), (3, x3), (7, x7), (8, x8), (9, x9), (10, x10), (11, x11)]) H (kk (some [1, 2, 3, 7, 8, 10]) kn [] R [6]) =
  J (Code.at [1, 1, 1, 1, 1, 1, 1, 1, 1, 0, 1, 0] c7) (sp 103 [(1, x1), (2, x2), (3, x3), (7, x7), (8, x8), (9, x9), (10, x10), (11, x11)]) H (kk (some [1, 2, 3, 7, 8, 10]) kn [(0, (some [1, 2, 3, 7, 8, 10]), kn)] R [6]) := by
  kernel_rfl
theorem N7_4_eq (ρ : Addr → Option Value) (call : CallF) (yc : YieldF) (lim k : Nat) (x1 x2 x3 x7 x8 x9 x10 x11 : AV) (H : Heap) (kn : KS) (R : List AV → Heap → Res) :
    evL (cx ρ) call yc false 7 lim k (Code.at [1, 1, 1, 1, 1, 1, 1, 1, 1, 0, 1] c7) (sp 103 [(1, x1), (2, x2), (3, x3), (7, x7), (8, x8), (9, x9), (10, x10), (11, x11)]) H (kk (some [1, 2, 3, 7, 8, 10]) kn [] R [6]) = N7_4 ρ call yc lim k x1 x2 x3 x7 x8 x9 x10 x11 H (fun x1 x2 x3 x7 x8 x10 H => kn (sp 103 [(1, x1), (2, x2), (3, x3), (7, x7), (8, x8), (10, x10)]) H) := by
  rw [evL_X, N7_4_x]
  simp only [← evL_X, N7_4, N7_5_eq]
noncomputable def N7_2 (ρ : Addr → Option Value) (call : CallF) (yc : YieldF) (lim k : Nat) (x1 x2 x3 x7 x8 : AV) (H : Heap) (R : List AV → Heap → Res) : Res :=
  purK (addA 0 x3) fun x56_1 =>
  purK (ld1 ρ H x56_1) fun x57_1 =>
  purK (bldA [.int .u64 0] [(0, 1, x57_1)]) fun x58_1 =>
  effK H (boxA H 51 x58_1) fun x59_1 H =>
  effK H (bldS H 42 8 [.int .i64 0, .int .i64 0, .int .i64 0, .int .i64 0, .str ByteArray.empty, .str ByteArray.empty, .int .u64 0, .nils] 0 []) fun x60_1 H =>
  N7_4 ρ call yc lim k x1 x2 x3 x7 x8 x59_1 x60_1 (.int .i64 0) H (fun x1_1 x2_1 x3_1 x7_1 x8_1 x10_1 H =>
    N7_3 ρ call yc lim k x1_1 x2_1 x3_1 x7_1 x8_1 x10_1 H R)
theorem N7_2_x (ρ : Addr → Option Value) (call : CallF) (yc : YieldF) (lim k : Nat) (J : CodeF) (x1 x2 x3 x7 x8 : AV) (H : Heap) (R : List AV → Heap → Res) :
    evX (cx ρ) call yc false 7 lim k J (Code.at [1, 1, 1, 1, 1, 1, 1] c7) (sp 103 [(1, x1), (2, x2), (3, x3), (7, x7), (8, x8)]) H (kk none (fun s H => R (([6] : List Nat).map fun t => s.getD t (.tup [])) H) [] R [6]) =
  purK (addA 0 x3) fun x56_1 =>
  purK (ld1 ρ H x56_1) fun x57_1 =>
  purK (bldA [.int .u64 0] [(0, 1, x57_1)]) fun x58_1 =>
  effK H (boxA H 51 x58_1) fun x59_1 H =>
  effK H (bldS H 42 8 [.int .i64 0, .int .i64 0, .int .i64 0, .int .i64 0, .str ByteArray.empty, .str ByteArray.empty, .int .u64 0, .nils] 0 []) fun x60_1 H =>
  J (Code.at [1, 1, 1, 1, 1, 1, 1, 1, 1, 0, 1] c7) (sp 103 [(1, x1), (2, x2), (3, x3), (7, x7), (8, x8), (9, x59_1), (10, x60_1), (11, (.int .i64 0))]) H (kk (some [1, 2, 3, 7, 8, 10]) (fun s H => J (Code.at [1, 1, 1, 1, 1, 1, 1, 1, 1, 1] c7) s H (kk none (fun s H => R (([6] : List Nat).map fun t => s.getD t (.tup [])) H) [] R [6])) [] R [6]) := by
  kernel_rfl
theorem N7_2_eq (ρ : Addr → Option Value) (call : CallF) (yc : YieldF) (lim k : Nat) (x1 x2 x3 x7 x8 : AV) (H : Heap) (R : List AV → Heap → Res) :
    evL (cx ρ) call yc false 7 lim k (Code.at [1, 1, 1, 1, 1, 1, 1] c7) (sp 103 [(1, x1), (2, x2), (3, x3), (7, x7), (8, x8)]) H (kk none (fun s H => R (([6] : List Nat).map fun t => s.getD t (.tup [])) H) [] R [6]) = N7_2 ρ call yc lim k x1 x2 x3 x7 x8 H R := by
  rw [evL_X, N7_2_x]
  simp only [← evL_X, N7_2, N7_3_eq, N7_4_eq]
noncomputable def N7_1 (ρ : Addr → Option Value) (call : CallF) (yc : YieldF) (lim k : Nat) (x1 x2 x3 x7 x8 : AV) (H : Heap) (R : List AV → Heap → Res) : Res :=
  purK (ldN ρ H 13 x3) fun x33_1 =>
  resK (call lim 27 [x33_1] H) fun x34_1 H =>
  purK (unA .not x34_1) fun x35_1 =>
  condK x35_1
  (
    purK (lenS x7) fun x37_1 =>
    purK (binA Try.prog H .eql 3 x37_1 (.int .i64 0)) fun x38_1 =>
    purK (gPur (wantV x38_1 true) (some x8)) fun x40_1 =>
    purK (gPur (wantV x38_1 true) (binA Try.prog H .eql 34 x40_1 (.int .i64 1))) fun x41_1 =>
    purK (pickA x38_1 x41_1 (.bool false)) fun x42_1 =>
    R [x42_1] H)
  (
    purK (binA Try.prog H .lss 3 x1 (.int .i64 0)) fun x44_1 =>
    purK (gPur (wantV x44_1 false) (some x1)) fun x46_1 =>
    purK (gPur (wantV x44_1 false) (binA Try.prog H .gtr 3 x46_1 (.int .i64 10000))) fun x47_1 =>
    purK (pickA x44_1 (.bool true) x47_1) fun x48_1 =>
    condK x48_1
    (
      purK (lenS x7) fun x50_1 =>
      purK (binA Try.prog H .eql 3 x50_1 (.int .i64 0)) fun x51_1 =>
      purK (gPur (wantV x51_1 true) (some x8)) fun x53_1 =>
      purK (gPur (wantV x51_1 true) (binA Try.prog H .eql 34 x53_1 (.int .i64 5))) fun x54_1 =>
      purK (pickA x51_1 x54_1 (.bool false)) fun x55_1 =>
      R [x55_1] H)
    (
      N7_2 ρ call yc lim k x1 x2 x3 x7 x8 H R))
theorem N7_1_x (ρ : Addr → Option Value) (call : CallF) (yc : YieldF) (lim k : Nat) (J : CodeF) (x1 x2 x3 x7 x8 : AV) (H : Heap) (R : List AV → Heap → Res) :
    evX (cx ρ) call yc false 7 lim k J (Code.at [1, 1, 1, 1, 1] c7) (sp 103 [(1, x1), (2, x2), (3, x3), (7, x7), (8, x8)]) H (kk none (fun s H => R (([6] : List Nat).map fun t => s.getD t (.tup [])) H) [] R [6]) =
  purK (ldN ρ H 13 x3) fun x33_1 =>
  resK (call lim 27 [x33_1] H) fun x34_1 H =>
  purK (unA .not x34_1) fun x35_1 =>
  condK x35_1
  (
    purK (lenS x7) fun x37_1 =>
    purK (binA Try.prog H .eql 3 x37_1 (.int .i64 0)) fun x38_1 =>
    purK (gPur (wantV x38_1 true) (some x8)) fun x40_1 =>
    purK (gPur (wantV x38_1 true) (binA Try.prog H .eql 34 x40_1 (.int .i64 1))) fun x41_1 =>
    purK (pickA x38_1 x41_1 (.bool false)) fun x42_1 =>
    R [x42_1] H)
  (
    purK (binA Try.prog H .lss 3 x1 (.int .i64 0)) fun x44_1 =>
    purK (gPur (wantV x44_1 false) (some x1)) fun x46_1 =>
    purK (gPur (wantV x44_1 false) (binA Try.prog H .gtr 3 x46_1 (.int .i64 10000))) fun x47_1 =>
    purK (pickA x44_1 (.bool true) x47_1) fun x48_1 =>
    condK x48_1
    (
      purK (lenS x7) fun x50_1 =>
      purK (binA Try.prog H .eql 3 x50_1 (.int .i64 0)) fun x51_1 =>
      purK (gPur (wantV x51_1 true) (some x8)) fun x53_1 =>
      purK (gPur (wantV x51_1 true) (binA Try.prog H .eql 34 x53_1 (.int .i64 5))) fun x54_1 =>
      purK (pickA x51_1 x54_1 (.bool false)) fun x55_1 =>
      R [x55_1] H)
    (
      J (Code.at [1, 1, 1, 1, 1, 1, 1] c7) (sp 103 [(1, x1), (2, x2), (3, x3), (7, x7), (8, x8)]) H (kk none (fun s H => R (([6] : List Nat).map fun t => s.getD t (.tup [])) H) [] R [6]))) := by
  kernel_rfl
theorem N7_1_eq (ρ : Addr → Option Value) (call : CallF) (yc : YieldF) (lim k : Nat) (x1 x2 x3 x7 x8 : AV) (H : Heap) (R : List AV → Heap → Res) :
    evL (cx ρ) call yc false 7 lim k (Code.at [1, 1, 1, 1, 1] c7) (sp 103 [(1, x1), (2, x2), (3, x3), (7, x7), (8, x8)]) H (kk none (fun s H => R (([6] : List Nat).map fun t => s.getD t (.tup [])) H) [] R [6]) = N7_1 ρ call yc lim k x1 x2 x3 x7 x8 H R := by
  rw [evL_X, N7_1_x]
  simp only [← evL_X, N7_1, N7_2_eq]
noncomputable def N7_6 (ρ : Addr → Option Value) (call : CallF) (yc : YieldF) (lim k : Nat) (x1 x2 x3 x7 x8 x32 : AV) (H : Heap) (kn : AV → AV → AV → AV → AV → Heap → Res) (R : List AV → Heap → Res) : Res :=
  condK x32
  (
    R [(.bool false)] H)
  (
    kn x1 x2 x3 x7 x8 H)
theorem N7_6_eq (ρ : Addr → Option Value) (call : CallF) (yc : YieldF) (lim k : Nat) (x1 x2 x3 x7 x8 x32 : AV) (H : Heap) (kn : KS) (R : List AV → Heap → Res) :
    evL (cx ρ) call yc false 7 lim k (Code.at [1, 1, 1, 1, 0, 1] c7) (sp 103 [(1, x1), (2, x2), (3, x3), (7, x7), (8, x8), (32, x32)]) H (kk (some [1, 2, 3, 7, 8]) kn [] R [6]) = N7_6 ρ call yc lim k x1 x2 x3 x7 x8 x32 H (fun x1 x2 x3 x7 x8 H => kn (sp 103 [(1, x1), (2, x2), (3, x3), (7, x7), (8, x8)]) H) R := by
  kernel_rfl
noncomputable def L7 (ρ : Addr → Option Value) (call : CallF) (yc : YieldF) (lim k : Nat) (x0 x1 x2 : AV) (H : Heap) : Res :=
  effK H (boxA H 46 x0) fun x3 H =>
  resK (call lim 9 [] H) fun x14 H =>
  purK (unA .not x14) fun x15 =>
  condK x15
  (
    retK [(.bool false)] H)
  (
    purK (binA Try.prog H .gtr 3 x1 (.int .i64 200)) fun x17 =>
    purK (gPur (wantV x17 true) (some x1)) fun x19 =>
    purK (gPur (wantV x17 true) (binA Try.prog H .leq 3 x19 (.int .i64 10000))) fun x20 =>
    purK (pickA x17 x20 (.bool false)) fun x21 =>
    condK x21
    (
      retK [(.bool true)] H)
    (
      purK (ldN ρ H 13 x3) fun x23 =>
      resK (call lim 25 [x23, x1] H) fun x25 H =>
      purK (extA 0 x25) fun x26 =>
      purK (extA 1 x25) fun x27 =>
      purK (ldN ρ H 13 x3) fun x28 =>
      purK (ldN ρ H 13 x3) fun x30 =>
      resK (call lim 26 [x28] H) fun x29 H => bif (agn (ldN ρ H 13 x3) x30 && true) then
        resK (call lim 27 [x30] H) fun x31 H =>
        purK (binA Try.prog H .neq 4 x29 x31) fun x32 =>
        N7_6 ρ call yc lim k x1 x2 x3 x26 x27 x32 H (fun x1_1 x2_1 x3_1 x7 x8 H =>
          N7_1 ρ call yc lim k x1_1 x2_1 x3_1 x7 x8 H retK) retK
      else none))
theorem L7_x (ρ : Addr → Option Value) (call : CallF) (yc : YieldF) (lim k : Nat) (J : CodeF) (x0 x1 x2 : AV) (H : Heap) :
    evX (cx ρ) call yc false 7 lim k J c7 [x0, x1, x2, (.tup []), (.tup []), (.tup []), (.tup []), (.tup []), (.tup []), (.tup []), (.tup []), (.tup []), (.tup []), (.tup []), (.tup []), (.tup []), (.tup []), (.tup []), (.tup []), (.tup []), (.tup []), (.tup []), (.tup []), (.tup []), (.tup []), (.tup []), (.tup []), (.tup []), (.tup []), (.tup []), (.tup []), (.tup []), (.tup []), (.tup []), (.tup []), (.tup []), (.tup []), (.tup []), (.tup []), (.tup []), (.tup []), (.tup []), (.tup []), (.tup []), (.tup []), (.tup []), (.tup []), (.tup []), (.tup []), (.tup []), (.tup []), (.tup []), (.tup []), (.tup []), (.tup []), (.tup []), (.tup []), (.tup []), (.tup []), (.tup []), (.tup []), (.tup []), (.tup []), (.tup []), (.tup []), (.tup []), (.tup []), (.tup []), (.tup []), (.tup []), (.tup []), (.tup []), (.tup []), (.tup []), (.tup []), (.tup []), (.tup []), (.tup []), (.tup []), (.tup []), (.tup []), (.tup []), (.tup []), (.tup []), (.tup []), (.tup []), (.tup []), (.tup []), (.tup []), (.tup []), (.tup []), (.tup []), (.tup []), (.tup []), (.tup []), (.tup []), (.tup []), (.tup []), (.tup []), (.tup []), (.tup []), (.tup []), (.tup [])] H (kk none (fun s H => retK (([6] : List Nat).map fun t => s.getD t (.tup [])) H) [] retK [6]) =
  effK H (boxA H 46 x0) fun x3 H =>
  resK (call lim 9 [] H) fun x14 H =>
  purK (unA .not x14) fun x15 =>
  condK x15
  (
    retK [(.bool false)] H)
  (
    purK (binA Try.prog H .gtr 3 x1 (.int .i64 200)) fun x17 =>
    purK (gPur (wantV x17 true) (some x1)) fun x19 =>
    purK (gPur (wantV x17 true) (binA Try.prog H .leq 3 x19 (.int .i64 10000))) fun x20 =>
    purK (pickA x17 x20 (.bool false)) fun x21 =>
    condK x21
    (
      retK [(.bool true)] H)
    (
      purK (ldN ρ H 13 x3) fun x23 =>
      resK (call lim 25 [x23, x1] H) fun x25 H =>
      purK (extA 0 x25) fun x26 =>
      purK (extA 1 x25) fun x27 =>
      purK (ldN ρ H 13 x3) fun x28 =>
      purK (ldN ρ H 13 x3) fun x30 =>
      resK (call lim 26 [x28] H) fun x29 H => bif (agn (ldN ρ H 13 x3) x30 && true) then
        resK (call lim 27 [x30] H) fun x31 H =>
        purK (binA Try.prog H .neq 4 x29 x31) fun x32 =>
        J (Code.at [1, 1, 1, 1, 0, 1] c7) (sp 103 [(1, x1), (2, x2), (3, x3), (7, x26), (8, x27), (32, x32)]) H (kk (some [1, 2, 3, 7, 8]) (fun s H => J (Code.at [1, 1, 1, 1, 1] c7) s H (kk none (fun s H => retK (([6] : List Nat).map fun t => s.getD t (.tup [])) H) [] retK [6])) [] retK [6])
      else none)) := by
  kernel_rfl
theorem G7 (ρ : Addr → Option Value) (call : CallF) (yc : YieldF) (lim k : Nat) (x0 x1 x2 : AV) (H : Heap) :
    evL (cx ρ) call yc false 7 lim k c7 [x0, x1, x2, (.tup []), (.tup []), (.tup []), (.tup []), (.tup []), (.tup []), (.tup []), (.tup []), (.tup []), (.tup []), (.tup []), (.tup []), (.tup []), (.tup []), (.tup []), (.tup []), (.tup []), (.tup []), (.tup []), (.tup []), (.tup []), (.tup []), (.tup []), (.tup []), (.tup []), (.tup []), (.tup []), (.tup []), (.tup []), (.tup []), (.tup []), (.tup []), (.tup []), (.tup []), (.tup []), (.tup []), (.tup []), (.tup []), (.tup []), (.tup []), (.tup []), (.tup []), (.tup []), (.tup []), (.tup []), (.tup []), (.tup []), (.tup []), (.tup []), (.tup []), (.tup []), (.tup []), (.tup []), (.tup []), (.tup []), (.tup []), (.tup []), (.tup []), (.tup []), (.tup []), (.tup []), (.tup []), (.tup []), (.tup []), (.tup []), (.tup []), (.tup []), (.tup []), (.tup []), (.tup []), (.tup []), (.tup []), (.tup []), (.tup []), (.tup []), (.tup []), (.tup []), (.tup []), (.tup []), (.tup []), (.tup []), (.tup []), (.tup []), (.tup []), (.tup []), (.tup []), (.tup []), (.tup []), (.tup []), (.tup []), (.tup []), (.tup []), (.tup []), (.tup []), (.tup []), (.tup []), (.tup []), (.tup []), (.tup []), (.tup [])] H (kk none (fun s H => retK (([6] : List Nat).map fun t => s.getD t (.tup [])) H) [] retK [6]) = L7 ρ call yc lim k x0 x1 x2 H := by
  rw [evL_X, L7_x]
  simp only [← evL_X, L7, N7_1_eq, N7_6_eq]
theorem E7 (ρ : Addr → Option Value) (k lim : Nat) (x0 x1 x2 : AV) (H : Heap) : evCall (cx ρ) (k + 1) lim 7 [x0, x1, x2] H = L7 ρ (evCall (cx ρ) k) (evCY (cx ρ) k).2 lim k x0 x1 x2 H := by
  rw [evCall_body (cx ρ) k lim 7 _ H Try.f7 c7 [6] (by kernel_rfl) (by kernel_rfl) (by kernel_rfl) (by kernel_rfl) (by kernel_rfl)]
  exact G7 ρ (evCall (cx ρ) k) (evCY (cx ρ) k).2 lim k x0 x1 x2 H
-- haycroft/haycroftlaw32.PlanSpreads
noncomputable def c8 : Code := Code.of Try.prog 8
noncomputable def N8_3 (ρ : Addr → Option Value) (call : CallF) (yc : YieldF) (lim k : Nat) (x12 x14 : AV) (H : Heap) (R : List AV → Heap → Res) : Res :=
  purK (binA Try.prog H .neq 34 x12 (.int .i64 0)) fun x107_1 =>
  purK (gPur (wantV x107_1 false) (some x14)) fun x109_1 =>
  purK (gPur (wantV x107_1 false) (binA Try.prog H .eql 3 x109_1 (.int .i64 100))) fun x110_1 =>
  purK (pickA x107_1 (.bool true) x110_1) fun x111_1 =>
  R [x111_1] H
theorem N8_3_eq (ρ : Addr → Option Value) (call : CallF) (yc : YieldF) (lim k : Nat) (x12 x14 : AV) (H : Heap) (R : List AV → Heap → Res) :
    evL (cx ρ) call yc false 8 lim k (Code.at [1, 1, 1, 1, 1, 1, 1, 1, 1, 1] c8) (sp 112 [(12, x12), (14, x14)]) H (kk none (fun s H => R (([8] : List Nat).map fun t => s.getD t (.tup [])) H) [] R [8]) = N8_3 ρ call yc lim k x12 x14 H R := by
  kernel_rfl
noncomputable def N8_6 (ρ : Addr → Option Value) (call : CallF) (yc : YieldF) (lim k : Nat) (x7 x12 x13 x14 x15 : AV) (H : Heap) (kn : AV → AV → Heap → Res) : Res :=
  purK (binA Try.prog H .add 3 x15 (.int .i64 1)) fun x87_1 =>
  kn x14 x87_1 H
theorem N8_6_eq (ρ : Addr → Option Value) (call : CallF) (yc : YieldF) (lim k : Nat) (x7 x12 x13 x14 x15 : AV) (H : Heap) (kn : KS) (k2 : KS) (R : List AV → Heap → Res) :
    evL (cx ρ) call yc false 8 lim k (Code.at [1, 1, 1, 1, 1, 1, 1, 1, 1, 0, 1, 0, 0, 1, 1] c8) (sp 112 [(7, x7), (12, x12), (13, x13), (14, x14), (15, x15)]) H (kk (some [7, 12, 13, 14, 15]) kn [(2, (some [12, 14]), k2)] R [8]) = N8_6 ρ call yc lim k x7 x12 x13 x14 x15 H (fun x14 x15 H => kn (sp 112 [(7, x7), (12, x12), (13, x13), (14, x14), (15, x15)]) H) := by
  kernel_rfl
noncomputable def N8_7 (ρ : Addr → Option Value) (call : CallF) (yc : YieldF) (lim k : Nat) (x7 x12 x13 x14 x15 x105 : AV) (H : Heap) (kn : AV → AV → Heap → Res) (R : List AV → Heap → Res) : Res :=
  condK x105
  (
    R [(.bool false)] H)
  (
    kn x14 x15 H)
theorem N8_7_eq (ρ : Addr → Option Value) (call : CallF) (yc : YieldF) (lim k : Nat) (x7 x12 x13 x14 x15 x105 : AV) (H : Heap) (kn : KS) (k3 : KS) (k2 : KS) (R : List AV → Heap → Res) :
    evL (cx ρ) call yc false 8 lim k (Code.at [1, 1, 1, 1, 1, 1, 1, 1, 1, 0, 1, 0, 0, 1, 0, 0, 1, 1] c8) (sp 112 [(7, x7), (12, x12), (13, x13), (14, x14), (15, x15), (105, x105)]) H (kk (some [7, 12, 13, 14, 15]) kn [(3, (some [7, 12, 13, 14, 15]), k3), (2, (some [12, 14]), k2)] R [8]) = N8_7 ρ call yc lim k x7 x12 x13 x14 x15 x105 H (fun x14 x15 H => kn (sp 112 [(7, x7), (12, x12), (13, x13), (14, x14), (15, x15)]) H) R := by
  kernel_rfl
noncomputable def N8_5b (ρ : Addr → Option Value) (call : CallF) (yc : YieldF) (lim k : Nat) (x7 x12 x13 x14 x15 : AV) (H : Heap) (kn : AV → AV → Heap → Res) (k2 : AV → AV → Heap → Res) (R : List AV → Heap → Res) : Res :=
  purK (binA Try.prog H .lss 3 x15 (.int .i64 10)) fun x81_1 =>
  purK (gPur (wantV x81_1 true) (some x12)) fun x83_1 =>
  purK (gPur (wantV x81_1 true) (binA Try.prog H .eql 34 x83_1 (.int .i64 0))) fun x84_1 =>
  purK (pickA x81_1 x84_1 (.bool false)) fun x85_1 =>
  condK x85_1
  (
    purK (ixS 1 x13 x15) fun x91_1 =>
    purK (ld1 ρ H x91_1) fun x92_1 =>
    purK (binA Try.prog H .add 3 x14 x92_1) fun x93_1 =>
    purK (addA 3 x7) fun x95_1 =>
    purK (ixR 1 10 x95_1 x15) fun x96_1 =>
    purK (ld1 ρ H x96_1) fun x97_1 =>
    purK (binA Try.prog H .eql 3 x97_1 (.int .i64 0)) fun x98_1 =>
    purK (gPur (wantV x98_1 true) (some x13)) fun x100_1 =>
    purK (gPur (wantV x98_1 true) (some x15)) fun x101_1 =>
    purK (gPur (wantV x98_1 true) (ixS 1 x100_1 x101_1)) fun x102_1 =>
    purK (gPur (wantV x98_1 true) (ld1 ρ H x102_1)) fun x103_1 =>
    purK (gPur (wantV x98_1 true) (binA Try.prog H .gtr 3 x103_1 (.int .i64 0))) fun x104_1 =>
    purK (pickA x98_1 x104_1 (.bool false)) fun x105_1 =>
    N8_7 ρ call yc lim k x7 x12 x13 x93_1 x15 x105_1 H (fun x14_1 x15_1 H =>
      N8_6 ρ call yc lim k x7 x12 x13 x14_1 x15_1 H kn) R)
  (
    k2 x12 x14 H)
theorem N8_5b_x (ρ : Addr → Option Value) (call : CallF) (yc : YieldF) (lim k : Nat) (J : CodeF) (x7 x12 x13 x14 x15 : AV) (H : Heap) (kn : KS) (k2 : KS) (R : List AV → Heap → Res) :
    evX (cx ρ) call yc false 8 lim k J (Code.at [1, 1, 1, 1, 1, 1, 1, 1, 1, 0, 1, 0, 0] c8) (sp 112 [(7, x7), (12, x12), (13, x13), (14, x14), (15, x15)]) H (kk (some [7, 12, 13, 14, 15]) kn [(2, (some [12, 14]), k2)] R [8]) =
  purK (binA Try.prog H .lss 3 x15 (.int .i64 10)) fun x81_1 =>
  purK (gPur (wantV x81_1 true) (some x12)) fun x83_1 =>
  purK (gPur (wantV x81_1 true) (binA Try.prog H .eql 34 x83_1 (.int .i64 0))) fun x84_1 =>
  purK (pickA x81_1 x84_1 (.bool false)) fun x85_1 =>
  condK x85_1
  (
    purK (ixS 1 x13 x15) fun x91_1 =>
    purK (ld1 ρ H x91_1) fun x92_1 =>
    purK (binA Try.prog H .add 3 x14 x92_1) fun x93_1 =>
    purK (addA 3 x7) fun x95_1 =>
    purK (ixR 1 10 x95_1 x15) fun x96_1 =>
    purK (ld1 ρ H x96_1) fun x97_1 =>
    purK (binA Try.prog H .eql 3 x97_1 (.int .i64 0)) fun x98_1 =>
    purK (gPur (wantV x98_1 true) (some x13)) fun x100_1 =>
    purK (gPur (wantV x98_1 true) (some x15)) fun x101_1 =>
    purK (gPur (wantV x98_1 true) (ixS 1 x100_1 x101_1)) fun x102_1 =>
    purK (gPur (wantV x98_1 true) (ld1 ρ H x102_1)) fun x103_1 =>
    purK (gPur (wantV x98_1 true) (binA Try.prog H .gtr 3 x103_1 (.int .i64 0))) fun x104_1 =>
    purK (pickA x98_1 x104_1 (.bool false)) fun x105_1 =>
    J (Code.at [1, 1, 1, 1, 1, 1, 1, 1, 1, 0, 1, 0, 0, 1, 0, 0, 1, 1] c8) (sp 112 [(7, x7), (12, x12), (13, x13), (14, x93_1), (15, x15), (105, x105_1)]) H (kk (some [7, 12, 13, 14, 15]) (fun s H => J (Code.at [1, 1, 1, 1, 1, 1, 1, 1, 1, 0, 1, 0, 0, 1, 1] c8) s H (kk (some [7, 12, 13, 14, 15]) kn [(2, (some [12, 14]), k2)] R [8])) [(3, (some [7, 12, 13, 14, 15]), (fun s H => J (Code.at [1, 1, 1, 1, 1, 1, 1, 1, 1, 0, 1, 0, 0, 1, 1] c8) s H (kk (some [7, 12, 13, 14, 15]) kn [(2, (some [12, 14]), k2)] R [8]))), (2, (some [12, 14]), k2)] R [8]))
  (
    k2 (sp 112 [(12, x12), (14, x14)]) H) := by
  kernel_rfl
theorem N8_5b_eq (ρ : Addr → Option Value) (call : CallF) (yc : YieldF) (lim k : Nat) (x7 x12 x13 x14 x15 : AV) (H : Heap) (kn : KS) (k2 : KS) (R : List AV → Heap → Res) :
    evL (cx ρ) call yc false 8 lim k (Code.at [1, 1, 1, 1, 1, 1, 1, 1, 1, 0, 1, 0, 0] c8) (sp 112 [(7, x7), (12, x12), (13, x13), (14, x14), (15, x15)]) H (kk (some [7, 12, 13, 14, 15]) kn [(2, (some [12, 14]), k2)] R [8]) = N8_5b ρ call yc lim k x7 x12 x13 x14 x15 H (fun x14 x15 H => kn (sp 112 [(7, x7), (12, x12), (13, x13), (14, x14), (15, x15)]) H) (fun x12 x14 H => k2 (sp 112 [(12, x12), (14, x14)]) H) R := by
  rw [evL_X, N8_5b_x]
  simp only [← evL_X, N8_5b, N8_6_eq, N8_7_eq]
noncomputable def N8_5 (ρ : Addr → Option Value) (call : CallF) (yc : YieldF) (lim k : Nat) (x7 x12 x13 x14 x15 : AV) (H : Heap) (k2 : AV → AV → Heap → Res) (R : List AV → Heap → Res) : Res :=
  loopL (fun (x : AV × AV) H kn => N8_5b ρ call yc lim k x7 x12 x13 x.1 x.2 H (fun x14 x15 H => kn (x14, x15) H) k2 R) k (x14, x15) H
theorem N8_5_eq (ρ : Addr → Option Value) (call : CallF) (yc : YieldF) (lim k : Nat) (x7 x12 x13 x14 x15 : AV) (H : Heap) (kn : KS) (k2 : KS) (R : List AV → Heap → Res) :
    evL (cx ρ) call yc false 8 lim k (Code.at [1, 1, 1, 1, 1, 1, 1, 1, 1, 0, 1, 0] c8) (sp 112 [(7, x7), (12, x12), (13, x13), (14, x14), (15, x15)]) H (kk (some [12, 14]) kn [(2, (some [12, 14]), k2)] R [8]) = N8_5 ρ call yc lim k x7 x12 x13 x14 x15 H (fun x12 x14 H => k2 (sp 112 [(12, x12), (14, x14)]) H) R := by
  have e : Code.at [1, 1, 1, 1, 1, 1, 1, 1, 1, 0, 1, 0] c8 = .loop (Code.at [1, 1, 1, 1, 1, 1, 1, 1, 1, 0, 1, 0, 0] c8) := by kernel_rfl
  rw [e]
  unfold N8_5
  exact loop_node [7, 12, 13, 14, 15] (fun x : AV × AV => (sp 112 [(7, x7), (12, x12), (13, x13), (14, (x.1)), (15, (x.2))])) (fun (x : AV × AV) H kn => N8_5b ρ call yc lim k x7 x12 x13 x.1 x.2 H (fun x14 x15 H => kn (x14, x15) H) (fun x12 x14 H => k2 (sp 112 [(12, x12), (14, x14)]) H) R) (by kernel_rfl) (fun x => by kernel_rfl) (fun x H kn => N8_5b_eq ρ call yc lim k x7 x12 x13 (x.1) (x.2) H kn k2 R) (x14, x15) (sp 112 [(7, x7), (12, x12), (13, x13), (14, x14), (15, x15)]) H (by kernel_rfl)
noncomputable def N8_4 (ρ : Addr → Option Value) (call : CallF) (yc : YieldF) (lim k : Nat) (x7 x12 x13 x14 x15 : AV) (H : Heap) (kn : AV → AV → Heap → Res) (R : List AV → Heap → Res) : Res :=
  N8_5 ρ call yc lim k x7 x12 x13 x14 x15 H kn R
theorem N8_4_x (ρ : Addr → Option Value) (call : CallF) (yc : YieldF) (lim k : Nat) (J : CodeF) (x7 x12 x13 x14 x15 : AV) (H : Heap) (kn : KS) (R : List AV → Heap → Res) :
    evX (cx ρ) call yc false 8 lim k J (Code.at [1, 1, 1, 1, 1, 1, 1, 1, 1, 0, 1] c8) (sp 112 [(7, x7), (12, x12), (13, x13), (14, x14), (15, x15)]) H (kk (some [12, 14]) kn [] R [8]) =
  J (Code.at [1, 1, 1, 1, 1, 1, 1, 1, 1, 0, 1, 0] c8) (sp 112 [(7, x7), (12, x12), (13, x13), (14, x14), (15, x15)]) H (kk (some [12, 14]) kn [(2, (some [12, 14]), kn)] R [8]) := by
  kernel_rfl
theorem N8_4_eq (ρ : Addr → Option Value) (call : CallF) (yc : YieldF) (lim k : Nat) (x7 x12 x13 x14 x15 : AV) (H : Heap) (kn : KS) (R : List AV → Heap → Res) :
    evL (cx ρ) call yc false 8 lim k (Code.at [1, 1, 1, 1, 1, 1, 1, 1, 1, 0, 1] c8) (sp 112 [(7, x7), (12, x12), (13, x13), (14, x14), (15, x15)]) H (kk (some [12, 14]) kn [] R [8]) = N8_4 ρ call yc lim k x7 x12 x13 x14 x15 H (fun x12 x14 H => kn (sp 112 [(12, x12), (14, x14)]) H) R := by
  rw [evL_X, N8_4_x]
  simp only [← evL_X, N8_4, N8_5_eq]
noncomputable def N8_2 (ρ : Addr → Option Value) (call : CallF) (yc : YieldF) (lim k : Nat) (x7 x12 x13 : AV) (H : Heap) (R : List AV → Heap → Res) : Res :=
  N8_4 ρ call yc lim k x7 x12 x13 (.int .i64 0) (.int .i64 0) H (fun x12_1 x14_1 H =>
    N8_3 ρ call yc lim k x12_1 x14_1 H R) R
theorem N8_2_x (ρ : Addr → Option Value) (call : CallF) (yc : YieldF) (lim k : Nat) (J : CodeF) (x7 x12 x13 : AV) (H : Heap) (R : List AV → Heap → Res) :
    evX (cx ρ) call yc false 8 lim k J (Code.at [1, 1, 1, 1, 1, 1, 1, 1] c8) (sp 112 [(7, x7), (12, x12), (13, x13)]) H (kk none (fun s H => R (([8] : List Nat).map fun t => s.getD t (.tup [])) H) [] R [8]) =
  J (Code.at [1, 1, 1, 1, 1, 1, 1, 1, 1, 0, 1] c8) (sp 112 [(7, x7), (12, x12), (13, x13), (14, (.int .i64 0)), (15, (.int .i64 0))]) H (kk (some [12, 14]) (fun s H => J (Code.at [1, 1, 1, 1, 1, 1, 1, 1, 1, 1] c8) s H (kk none (fun s H => R (([8] : List Nat).map fun t => s.getD t (.tup [])) H) [] R [8])) [] R [8]) := by
  kernel_rfl
theorem N8_2_eq (ρ : Addr → Option Value) (call : CallF) (yc : YieldF) (lim k : Nat) (x7 x12 x13 : AV) (H : Heap) (R : List AV → Heap → Res) :
    evL (cx ρ) call yc false 8 lim k (Code.at [1, 1, 1, 1, 1, 1, 1, 1] c8) (sp 112 [(7, x7), (12, x12), (13, x13)]) H (kk none (fun s H => R (([8] : List Nat).map fun t => s.getD t (.tup [])) H) [] R [8]) = N8_2 ρ call yc lim k x7 x12 x13 H R := by
  rw [evL_X, N8_2_x]
  simp only [← evL_X, N8_2, N8_3_eq, N8_4_eq]
noncomputable def N8_1 (ρ : Addr → Option Value) (call : CallF) (yc : YieldF) (lim k : Nat) (x0 x1 x2 x7 x9 : AV) (H : Heap) (R : List AV → Heap → Res) : Res :=
  resK (call lim 31 [x0] H) fun x58_1 H =>
  resK (call lim 30 [x58_1, x9] H) fun x60_1 H =>
  purK (unA .not x60_1) fun x61_1 =>
  purK (gPur (wantV x61_1 false) (some x0)) fun x63_1 =>
  purK (gPur (wantV x61_1 false) (some x1)) fun x64_1 =>
  purK (gPur (wantV x61_1 false) (some x2)) fun x65_1 =>
  resK (gRes (wantV x61_1 false) H (call lim 23 [x63_1, x64_1, x65_1] H)) fun x66_1 H =>
  purK (gPur (wantV x61_1 false) (some x0)) fun x67_1 =>
  purK (gPur (wantV x61_1 false) (some x1)) fun x68_1 =>
  purK (gPur (wantV x61_1 false) (some x2)) fun x69_1 =>
  resK (gRes (wantV x61_1 false) H (call lim 24 [x67_1, x68_1, x69_1] H)) fun x70_1 H =>
  purK (gPur (wantV x61_1 false) (binA Try.prog H .neq 4 x66_1 x70_1)) fun x71_1 =>
  purK (pickA x61_1 (.bool true) x71_1) fun x72_1 =>
  condK x72_1
  (
    R [(.bool false)] H)
  (
    purK (ldN ρ H 13 x7) fun x74_1 =>
    resK (call lim 25 [x74_1, (.int .i64 100)] H) fun x75_1 H =>
    purK (extA 0 x75_1) fun x76_1 =>
    purK (extA 1 x75_1) fun x77_1 =>
    resK (call lim 31 [x76_1] H) fun x79_1 H =>
    N8_2 ρ call yc lim k x7 x77_1 x79_1 H R)
theorem N8_1_x (ρ : Addr → Option Value) (call : CallF) (yc : YieldF) (lim k : Nat) (J : CodeF) (x0 x1 x2 x7 x9 : AV) (H : Heap) (R : List AV → Heap → Res) :
    evX (cx ρ) call yc false 8 lim k J (Code.at [1, 1, 1, 1, 1] c8) (sp 112 [(0, x0), (1, x1), (2, x2), (7, x7), (9, x9)]) H (kk none (fun s H => R (([8] : List Nat).map fun t => s.getD t (.tup [])) H) [] R [8]) =
  resK (call lim 31 [x0] H) fun x58_1 H =>
  resK (call lim 30 [x58_1, x9] H) fun x60_1 H =>
  purK (unA .not x60_1) fun x61_1 =>
  purK (gPur (wantV x61_1 false) (some x0)) fun x63_1 =>
  purK (gPur (wantV x61_1 false) (some x1)) fun x64_1 =>
  purK (gPur (wantV x61_1 false) (some x2)) fun x65_1 =>
  resK (gRes (wantV x61_1 false) H (call lim 23 [x63_1, x64_1, x65_1] H)) fun x66_1 H =>
  purK (gPur (wantV x61_1 false) (some x0)) fun x67_1 =>
  purK (gPur (wantV x61_1 false) (some x1)) fun x68_1 =>
  purK (gPur (wantV x61_1 false) (some x2)) fun x69_1 =>
  resK (gRes (wantV x61_1 false) H (call lim 24 [x67_1, x68_1, x69_1] H)) fun x70_1 H =>
  purK (gPur (wantV x61_1 false) (binA Try.prog H .neq 4 x66_1 x70_1)) fun x71_1 =>
  purK (pickA x61_1 (.bool true) x71_1) fun x72_1 =>
  condK x72_1
  (
    R [(.bool false)] H)
  (
    purK (ldN ρ H 13 x7) fun x74_1 =>
    resK (call lim 25 [x74_1, (.int .i64 100)] H) fun x75_1 H =>
    purK (extA 0 x75_1) fun x76_1 =>
    purK (extA 1 x75_1) fun x77_1 =>
    resK (call lim 31 [x76_1] H) fun x79_1 H =>
    J (Code.at [1, 1, 1, 1, 1, 1, 1, 1] c8) (sp 112 [(7, x7), (12, x77_1), (13, x79_1)]) H (kk none (fun s H => R (([8] : List Nat).map fun t => s.getD t (.tup [])) H) [] R [8])) := by
  kernel_rfl
theorem N8_1_eq (ρ : Addr → Option Value) (call : CallF) (yc : YieldF) (lim k : Nat) (x0 x1 x2 x7 x9 : AV) (H : Heap) (R : List AV → Heap → Res) :
    evL (cx ρ) call yc false 8 lim k (Code.at [1, 1, 1, 1, 1] c8) (sp 112 [(0, x0), (1, x1), (2, x2), (7, x7), (9, x9)]) H (kk none (fun s H => R (([8] : List Nat).map fun t => s.getD t (.tup [])) H) [] R [8]) = N8_1 ρ call yc lim k x0 x1 x2 x7 x9 H R := by
  rw [evL_X, N8_1_x]
  simp only [← evL_X, N8_1, N8_2_eq]
noncomputable def N8_10 (ρ : Addr → Option Value) (call : CallF) (yc : YieldF) (lim k : Nat) (x0 x1 x2 x7 x9 x10 : AV) (H : Heap) (kn : AV → Heap → Res) : Res :=
  purK (binA Try.prog H .add 3 x10 (.int .i64 1)) fun x31_1 =>
  kn x31_1 H
theorem N8_10_eq (ρ : Addr → Option Value) (call : CallF) (yc : YieldF) (lim k : Nat) (x0 x1 x2 x7 x9 x10 : AV) (H : Heap) (kn : KS) (k0 : KS) (R : List AV → Heap → Res) :
    evL (cx ρ) call yc false 8 lim k (Code.at [1, 1, 1, 1, 0, 1, 0, 0, 1, 1] c8) (sp 112 [(0, x0), (1, x1), (2, x2), (7, x7), (9, x9), (10, x10)]) H (kk (some [0, 1, 2, 7, 9, 10]) kn [(0, (some [0, 1, 2, 7, 9]), k0)] R [8]) = N8_10 ρ call yc lim k x0 x1 x2 x7 x9 x10 H (fun x10 H => kn (sp 112 [(0, x0), (1, x1), (2, x2), (7, x7), (9, x9), (10, x10)]) H) := by
  kernel_rfl
noncomputable def N8_9b (ρ : Addr → Option Value) (call : CallF) (yc : YieldF) (lim k : Nat) (x0 x1 x2 x7 x9 x10 : AV) (H : Heap) (kn : AV → Heap → Res) (k0 : AV → AV → AV → AV → AV → Heap → Res) : Res :=
  purK (lenS x0) fun x28_1 =>
  purK (binA Try.prog H .lss 3 x10 x28_1) fun x29_1 =>
  condK x29_1
  (
    purK (ixS 8 x0 x10) fun x34_1 =>
    purK (addA 0 x34_1) fun x35_1 =>
    purK (ld1 ρ H x35_1) fun x36_1 =>
    purK (binA Try.prog H .geq 3 x36_1 (.int .i64 1)) fun x37_1 =>
    purK (gPur (wantV x37_1 true) (some x0)) fun x39_1 =>
    purK (gPur (wantV x37_1 true) (some x10)) fun x40_1 =>
    purK (gPur (wantV x37_1 true) (ixS 8 x39_1 x40_1)) fun x41_1 =>
    purK (gPur (wantV x37_1 true) (addA 0 x41_1)) fun x42_1 =>
    purK (gPur (wantV x37_1 true) (ld1 ρ H x42_1)) fun x43_1 =>
    purK (gPur (wantV x37_1 true) (binA Try.prog H .leq 3 x43_1 (.int .i64 10))) fun x44_1 =>
    purK (pickA x37_1 x44_1 (.bool false)) fun x45_1 =>
    condK x45_1
    (
      purK (ixS 8 x0 x10) fun x49_1 =>
      purK (addA 0 x49_1) fun x50_1 =>
      purK (ld1 ρ H x50_1) fun x51_1 =>
      purK (binA Try.prog H .sub 3 x51_1 (.int .i64 1)) fun x52_1 =>
      purK (ixS 1 x9 x52_1) fun x53_1 =>
      purK (ld1 ρ H x53_1) fun x54_1 =>
      purK (binA Try.prog H .add 3 x54_1 (.int .i64 1)) fun x55_1 =>
      purK (ixS 1 x9 x52_1) fun x56_1 =>
      effK H (stA lim H 1 x56_1 x55_1) fun _ H =>
      N8_10 ρ call yc lim k x0 x1 x2 x7 x9 x10 H kn)
    (
      N8_10 ρ call yc lim k x0 x1 x2 x7 x9 x10 H kn))
  (
    k0 x0 x1 x2 x7 x9 H)
theorem N8_9b_x (ρ : Addr → Option Value) (call : CallF) (yc : YieldF) (lim k : Nat) (J : CodeF) (x0 x1 x2 x7 x9 x10 : AV) (H : Heap) (kn : KS) (k0 : KS) (R : List AV → Heap → Res) :
    evX (cx ρ) call yc false 8 lim k J (Code.at [1, 1, 1, 1, 0, 1, 0, 0] c8) (sp 112 [(0, x0), (1, x1), (2, x2), (7, x7), (9, x9), (10, x10)]) H (kk (some [0, 1, 2, 7, 9, 10]) kn [(0, (some [0, 1, 2, 7, 9]), k0)] R [8]) =
  purK (lenS x0) fun x28_1 =>
  purK (binA Try.prog H .lss 3 x10 x28_1) fun x29_1 =>
  condK x29_1
  (
    purK (ixS 8 x0 x10) fun x34_1 =>
    purK (addA 0 x34_1) fun x35_1 =>
    purK (ld1 ρ H x35_1) fun x36_1 =>
    purK (binA Try.prog H .geq 3 x36_1 (.int .i64 1)) fun x37_1 =>
    purK (gPur (wantV x37_1 true) (some x0)) fun x39_1 =>
    purK (gPur (wantV x37_1 true) (some x10)) fun x40_1 =>
    purK (gPur (wantV x37_1 true) (ixS 8 x39_1 x40_1)) fun x41_1 =>
    purK (gPur (wantV x37_1 true) (addA 0 x41_1)) fun x42_1 =>
    purK (gPur (wantV x37_1 true) (ld1 ρ H x42_1)) fun x43_1 =>
    purK (gPur (wantV x37_1 true) (binA Try.prog H .leq 3 x43_1 (.int .i64 10))) fun x44_1 =>
    purK (pickA x37_1 x44_1 (.bool false)) fun x45_1 =>
    condK x45_1
    (
      purK (ixS 8 x0 x10) fun x49_1 =>
      purK (addA 0 x49_1) fun x50_1 =>
      purK (ld1 ρ H x50_1) fun x51_1 =>
      purK (binA Try.prog H .sub 3 x51_1 (.int .i64 1)) fun x52_1 =>
      purK (ixS 1 x9 x52_1) fun x53_1 =>
      purK (ld1 ρ H x53_1) fun x54_1 =>
      purK (binA Try.prog H .add 3 x54_1 (.int .i64 1)) fun x55_1 =>
      purK (ixS 1 x9 x52_1) fun x56_1 =>
      effK H (stA lim H 1 x56_1 x55_1) fun _ H =>
      J (Code.at [1, 1, 1, 1, 0, 1, 0, 0, 1, 1] c8) (sp 112 [(0, x0), (1, x1), (2, x2), (7, x7), (9, x9), (10, x10)]) H (kk (some [0, 1, 2, 7, 9, 10]) kn [(0, (some [0, 1, 2, 7, 9]), k0)] R [8]))
    (
      J (Code.at [1, 1, 1, 1, 0, 1, 0, 0, 1, 1] c8) (sp 112 [(0, x0), (1, x1), (2, x2), (7, x7), (9, x9), (10, x10)]) H (kk (some [0, 1, 2, 7, 9, 10]) kn [(0, (some [0, 1, 2, 7, 9]), k0)] R [8])))
  (
    k0 (sp 112 [(0, x0), (1, x1), (2, x2), (7, x7), (9, x9)]) H) := by
  kernel_rfl
theorem N8_9b_eq (ρ : Addr → Option Value) (call : CallF) (yc : YieldF) (lim k : Nat) (x0 x1 x2 x7 x9 x10 : AV) (H : Heap) (kn : KS) (k0 : KS) (R : List AV → Heap → Res) :
    evL (cx ρ) call yc false 8 lim k (Code.at [1, 1, 1, 1, 0, 1, 0, 0] c8) (sp 112 [(0, x0), (1, x1), (2, x2), (7, x7), (9, x9), (10, x10)]) H (kk (some [0, 1, 2, 7, 9, 10]) kn [(0, (some [0, 1, 2, 7, 9]), k0)] R [8]) = N8_9b ρ call yc lim k x0 x1 x2 x7 x9 x10 H (fun x10 H => kn (sp 112 [(0, x0), (1, x1), (2, x2), (7, x7), (9, x9), (10, x10)]) H) (fun x0 x1 x2 x7 x9 H => k0 (sp 112 [(0, x0), (1, x1), (2, x2), (7, x7), (9, x9)]) H) := by
  rw [evL_X, N8_9b_x]
  simp only [← evL_X, N8_9b, N8_10_eq]
noncomputable def N8_9 (ρ : Addr → Option Value) (call : CallF) (yc : YieldF) (lim k : Nat) (x0 x1 x2 x7 x9 x10 : AV) (H : Heap) (k0 : AV → AV → AV → AV → AV → Heap → Res) : Res :=
  loopL (fun (x : AV) H kn => N8_9b ρ call yc lim k x0 x1 x2 x7 x9 x H (fun x10 H => kn x10 H) k0) k x10 H
theorem N8_9_eq (ρ : Addr → Option Value) (call : CallF) (yc : YieldF) (lim k : Nat) (x0 x1 x2 x7 x9 x10 : AV) (H : Heap) (kn : KS) (k0 : KS) (R : List AV → Heap → Res) :
    evL (cx ρ) call yc false 8 lim k (Code.at [1, 1, 1, 1, 0, 1, 0] c8) (sp 112 [(0, x0), (1, x1), (2, x2), (7, x7), (9, x9), (10, x10)]) H (kk (some [0, 1, 2, 7, 9]) kn [(0, (some [0, 1, 2, 7, 9]), k0)] R [8]) = N8_9 ρ call yc lim k x0 x1 x2 x7 x9 x10 H (fun x0 x1 x2 x7 x9 H => k0 (sp 112 [(0, x0), (1, x1), (2, x2), (7, x7), (9, x9)]) H) := by
  have e : Code.at [1, 1, 1, 1, 0, 1, 0] c8 = .loop (Code.at [1, 1, 1, 1, 0, 1, 0, 0] c8) := by kernel_rfl
  rw [e]
  unfold N8_9
  exact loop_node [0, 1, 2, 7, 9, 10] (fun x : AV => (sp 112 [(0, x0), (1, x1), (2, x2), (7, x7), (9, x9), (10, (x))])) (fun (x : AV) H kn => N8_9b ρ call yc lim k x0 x1 x2 x7 x9 x H (fun x10 H => kn x10 H) (fun x0 x1 x2 x7 x9 H => k0 (sp 112 [(0, x0), (1, x1), (2, x2), (7, x7), (9, x9)]) H)) (by kernel_rfl) (fun x => by kernel_rfl) (fun x H kn => N8_9b_eq ρ call yc lim k x0 x1 x2 x7 x9 (x) H kn k0 R) x10 (sp 112 [(0, x0), (1, x1), (2, x2), (7, x7), (9, x9), (10, x10)]) H (by kernel_rfl)
noncomputable def N8_8 (ρ : Addr → Option Value) (call : CallF) (yc : YieldF) (lim k : Nat) (x0 x1 x2 x7 x9 x10 : AV) (H : Heap) (kn : AV → AV → AV → AV → AV → Heap → Res) : Res :=
  N8_9 ρ call yc lim k x0 x1 x2 x7 x9 x10 H kn
theorem N8_8_x (ρ : Addr → Option Value) (call : CallF) (yc : YieldF) (lim k : Nat) (J : CodeF) (x0 x1 x2 x7 x9 x10 : AV) (H : Heap) (kn : KS) (R : List AV → Heap → Res) :
    evX (cx ρ) call yc false 8 lim k J (Code.at [1, 1, 1, 1, 0, 1] c8) (sp 112 [(0, x0), (1, x1), (2, x2), (7, x7), (9, x9), (10, x10)]) H (kk (some [0, 1, 2, 7, 9]) kn [] R [8]) =
  J (Code.at [1, 1, 1, 1, 0, 1, 0] c8) (sp 112 [(0, x0), (1, x1), (2, x2), (7, x7), (9, x9), (10, x10)]) H (kk (some [0, 1, 2, 7, 9]) kn [(0, (some [0, 1, 2, 7, 9]), kn)] R [8]) := by
  kernel_rfl
theorem N8_8_eq (ρ : Addr → Option Value) (call : CallF) (yc : YieldF) (lim k : Nat) (x0 x1 x2 x7 x9 x10 : AV) (H : Heap) (kn : KS) (R : List AV → Heap → Res) :
    evL (cx ρ) call yc false 8 lim k (Code.at [1, 1, 1, 1, 0, 1] c8) (sp 112 [(0, x0), (1, x1), (2, x2), (7, x7), (9, x9), (10, x10)]) H (kk (some [0, 1, 2, 7, 9]) kn [] R [8]) = N8_8 ρ call yc lim k x0 x1 x2 x7 x9 x10 H (fun x0 x1 x2 x7 x9 H => kn (sp 112 [(0, x0), (1, x1), (2, x2), (7, x7), (9, x9)]) H) := by
  rw [evL_X, N8_8_x]
  simp only [← evL_X, N8_8, N8_9_eq]
noncomputable def L8 (ρ : Addr → Option Value) (call : CallF) (yc : YieldF) (lim k : Nat) (x0 x1 x2 x3 : AV) (H : Heap) : Res :=
  effK H (boxA H 46 x3) fun x7 H =>
  resK (call lim 9 [] H) fun x16 H =>
  purK (unA .not x16) fun x17 =>
  condK x17
  (
    retK [(.bool false)] H)
  (
    purK (lenS x0) fun x19 =>
    purK (binA Try.prog H .gtr 3 x19 (.int .i64 200)) fun x20 =>
    purK (gPur (wantV x20 false) (some x1)) fun x22 =>
    purK (gPur (wantV x20 false) (binA Try.prog H .gtr 3 x22 (.int .i64 20))) fun x23 =>
    purK (pickA x20 (.bool true) x23) fun x24 =>
    condK x24
    (
      retK [(.bool true)] H)
    (
      effK H (mkS H 3 1 8 [.int .i64 0] (.int .i64 10) (.int .i64 10)) fun x25 H =>
      N8_8 ρ call yc lim k x0 x1 x2 x7 x25 (.int .i64 0) H (fun x0_1 x1_1 x2_1 x7_1 x9 H =>
        N8_1 ρ call yc lim k x0_1 x1_1 x2_1 x7_1 x9 H retK)))
theorem L8_x (ρ : Addr → Option Value) (call : CallF) (yc : YieldF) (lim k : Nat) (J : CodeF) (x0 x1 x2 x3 : AV) (H : Heap) :
    evX (cx ρ) call yc false 8 lim k J c8 [x0, x1, x2, x3, (.tup []), (.tup []), (.tup []), (.tup []), (.tup []), (.tup []), (.tup []), (.tup []), (.tup []), (.tup []), (.tup []), (.tup []), (.tup []), (.tup []), (.tup []), (.tup []), (.tup []), (.tup []), (.tup []), (.tup []), (.tup []), (.tup []), (.tup []), (.tup []), (.tup []), (.tup []), (.tup []), (.tup []), (.tup []), (.tup []), (.tup []), (.tup []), (.tup []), (.tup []), (.tup []), (.tup []), (.tup []), (.tup []), (.tup []), (.tup []), (.tup []), (.tup []), (.tup []), (.tup []), (.tup []), (.tup []), (.tup []), (.tup []), (.tup []), (.tup []), (.tup []), (.tup []), (.tup []), (.tup []), (.tup []), (.tup []), (.tup []), (.tup []), (.tup []), (.tup []), (.tup []), (.tup []), (.tup []), (.tup []), (.tup []), (.tup []), (.tup []), (.tup []), (.tup []), (.tup []), (.tup []), (.tup []), (.tup []), (.tup []), (.tup []), (.tup []), (.tup []), (.tup []), (.tup []), (.tup []), (.tup []), (.tup []), (.tup []), (.tup []), (.tup []), (.tup []), (.tup []), (.tup []), (.tup []), (.tup []), (.tup []), (.tup []), (.tup []), (.tup []), (.tup []), (.tup []), (.tup []), (.tup []), (.tup []), (.tup []), (.tup []), (.tup []), (.tup []), (.tup []), (.tup []), (.tup []), (.tup []), (.tup [])] H (kk none (fun s H => retK (([8] : List Nat).map fun t => s.getD t (.tup [])) H) [] retK [8]) =
  effK H (boxA H 46 x3) fun x7 H =>
  resK (call lim 9 [] H) fun x16 H =>
  purK (unA .not x16) fun x17 =>
  condK x17
  (
    retK [(.bool false)] H)
  (
    purK (lenS x0) fun x19 =>
    purK (binA Try.prog H .gtr 3 x19 (.int .i64 200)) fun x20 =>
    purK (gPur (wantV x20 false) (some x1)) fun x22 =>
    purK (gPur (wantV x20 false) (binA Try.prog H .gtr 3 x22 (.int .i64 20))) fun x23 =>
    purK (pickA x20 (.bool true) x23) fun x24 =>
    condK x24
    (
      retK [(.bool true)] H)
    (
      effK H (mkS H 3 1 8 [.int .i64 0] (.int .i64 10) (.int .i64 10)) fun x25 H =>
      J (Code.at [1, 1, 1, 1, 0, 1] c8) (sp 112 [(0, x0), (1, x1), (2, x2), (7, x7), (9, x25), (10, (.int .i64 0))]) H (kk (some [0, 1, 2, 7, 9]) (fun s H => J (Code.at [1, 1, 1, 1, 1] c8) s H (kk none (fun s H => retK (([8] : List Nat).map fun t => s.getD t (.tup [])) H) [] retK [8])) [] retK [8]))) := by
  kernel_rfl
theorem G8 (ρ : Addr → Option Value) (call : CallF) (yc : YieldF) (lim k : Nat) (x0 x1 x2 x3 : AV) (H : Heap) :
    evL (cx ρ) call yc false 8 lim k c8 [x0, x1, x2, x3, (.tup []), (.tup []), (.tup []), (.tup []), (.tup []), (.tup []), (.tup []), (.tup []), (.tup []), (.tup []), (.tup []), (.tup []), (.tup []), (.tup []), (.tup []), (.tup []), (.tup []), (.tup []), (.tup []), (.tup []), (.tup []), (.tup []), (.tup []), (.tup []), (.tup []), (.tup []), (.tup []), (.tup []), (.tup []), (.tup []), (.tup []), (.tup []), (.tup []), (.tup []), (.tup []), (.tup []), (.tup []), (.tup []), (.tup []), (.tup []), (.tup []), (.tup []), (.tup []), (.tup []), (.tup []), (.tup []), (.tup []), (.tup []), (.tup []), (.tup []), (.tup []), (.tup []), (.tup []), (.tup []), (.tup []), (.tup []), (.tup []), (.tup []), (.tup []), (.tup []), (.tup []), (.tup []), (.tup []), (.tup []), (.tup []), (.tup []), (.tup []), (.tup []), (.tup []), (.tup []), (.tup []), (.tup []), (.tup []), (.tup []), (.tup []), (.tup []), (.tup []), (.tup []), (.tup []), (.tup []), (.tup []), (.tup []), (.tup []), (.tup []), (.tup []), (.tup []), (.tup []), (.tup []), (.tup []), (.tup []), (.tup []), (.tup []), (.tup []), (.tup []), (.tup []), (.tup []), (.tup []), (.tup []), (.tup []), (.tup []), (.tup []), (.tup []), (.tup []), (.tup []), (.tup []), (.tup []), (.tup []), (.tup [])] H (kk none (fun s H => retK (([8] : List Nat).map fun t => s.getD t (.tup [])) H) [] retK [8]) = L8 ρ call yc lim k x0 x1 x2 x3 H := by
  rw [evL_X, L8_x]
  simp only [← evL_X, L8, N8_1_eq, N8_8_eq]
theorem E8 (ρ : Addr → Option Value) (k lim : Nat) (x0 x1 x2 x3 : AV) (H : Heap) : evCall (cx ρ) (k + 1) lim 8 [x0, x1, x2, x3] H = L8 ρ (evCall (cx ρ) k) (evCY (cx ρ) k).2 lim k x0 x1 x2 x3 H := by
  rw [evCall_body (cx ρ) k lim 8 _ H Try.f8 c8 [8] (by kernel_rfl) (by kernel_rfl) (by kernel_rfl) (by kernel_rfl) (by kernel_rfl)]
  exact G8 ρ (evCall (cx ρ) k) (evCY (cx ρ) k).2 lim k x0 x1 x2 x3 H
-- haycroft/haycroftlaw32.awake
noncomputable def c9 : Code := Code.of Try.prog 9
noncomputable def L9 (ρ : Addr → Option Value) (call : CallF) (yc : YieldF) (lim k : Nat) (H : Heap) : Res :=
  resK (call lim 10 [(.int .u64 1)] H) fun x4 H =>
  purK (extA 0 x4) fun x5 =>
  purK (extA 1 x4) fun x6 =>
  purK (binA Try.prog H .eql 22 x5 (.int .u64 33554433)) fun x8 =>
  retK [x8] H
theorem G9 (ρ : Addr → Option Value) (call : CallF) (yc : YieldF) (lim k : Nat) (H : Heap) :
    evL (cx ρ) call yc false 9 lim k c9 [(.tup []), (.tup []), (.tup []), (.tup []), (.tup []), (.tup []), (.tup []), (.tup []), (.tup [])] H (kk none (fun s H => retK (([0] : List Nat).map fun t => s.getD t (.tup [])) H) [] retK [0]) = L9 ρ call yc lim k H := by
  kernel_rfl
theorem E9 (ρ : Addr → Option Value) (k lim : Nat) (H : Heap) : evCall (cx ρ) (k + 1) lim 9 [] H = L9 ρ (evCall (cx ρ) k) (evCY (cx ρ) k).2 lim k H := by
  rw [evCall_body (cx ρ) k lim 9 _ H Try.f9 c9 [0] (by kernel_rfl) (by kernel_rfl) (by kernel_rfl) (by kernel_rfl) (by kernel_rfl)]
  exact G9 ρ (evCall (cx ρ) k) (evCY (cx ρ) k).2 lim k H
-- haycroft/plan.Draw
noncomputable def c10 : Code := Code.of Try.prog 10
noncomputable def N10_1 (ρ : Addr → Option Value) (call : CallF) (yc : YieldF) (lim k : Nat) (x0 : AV) (H : Heap) (R : List AV → Heap → Res) : Res :=
  purK (binA Try.prog H .shr 22 x0 (.int .u64 12)) fun x8_1 =>
  purK (binA Try.prog H .xor 22 x0 x8_1) fun x9_1 =>
  purK (binA Try.prog H .shl 22 x9_1 (.int .u64 25)) fun x12_1 =>
  purK (binA Try.prog H .xor 22 x9_1 x12_1) fun x13_1 =>
  purK (binA Try.prog H .shr 22 x13_1 (.int .u64 27)) fun x16_1 =>
  purK (binA Try.prog H .xor 22 x13_1 x16_1) fun x17_1 =>
  purK (binA Try.prog H .mul 22 x17_1 (.int .u64 2685821657736338717)) fun x20_1 =>
  R [x17_1, x20_1] H
theorem N10_1_eq (ρ : Addr → Option Value) (call : CallF) (yc : YieldF) (lim k : Nat) (x0 : AV) (H : Heap) (R : List AV → Heap → Res) :
    evL (cx ρ) call yc false 10 lim k (Code.at [1, 1] c10) (sp 21 [(0, x0)]) H (kk none (fun s H => R (([2, 3] : List Nat).map fun t => s.getD t (.tup [])) H) [] R [2, 3]) = N10_1 ρ call yc lim k x0 H R := by
  kernel_rfl
noncomputable def L10 (ρ : Addr → Option Value) (call : CallF) (yc : YieldF) (lim k : Nat) (x0 : AV) (H : Heap) : Res :=
  purK (binA Try.prog H .eql 22 x0 (.int .u64 0)) fun x5 =>
  condK x5
  (
    N10_1 ρ call yc lim k (.int .u64 1) H retK)
  (
    N10_1 ρ call yc lim k x0 H retK)
theorem L10_x (ρ : Addr → Option Value) (call : CallF) (yc : YieldF) (lim k : Nat) (J : CodeF) (x0 : AV) (H : Heap) :
    evX (cx ρ) call yc false 10 lim k J c10 [x0, (.tup []), (.tup []), (.tup []), (.tup []), (.tup []), (.tup []), (.tup []), (.tup []), (.tup []), (.tup []), (.tup []), (.tup []), (.tup []), (.tup []), (.tup []), (.tup []), (.tup []), (.tup []), (.tup []), (.tup [])] H (kk none (fun s H => retK (([2, 3] : List Nat).map fun t => s.getD t (.tup [])) H) [] retK [2, 3]) =
  purK (binA Try.prog H .eql 22 x0 (.int .u64 0)) fun x5 =>
  condK x5
  (
    J (Code.at [1, 1] c10) (sp 21 [(0, (.int .u64 1))]) H (kk none (fun s H => retK (([2, 3] : List Nat).map fun t => s.getD t (.tup [])) H) [] retK [2, 3]))
  (
    J (Code.at [1, 1] c10) (sp 21 [(0, x0)]) H (kk none (fun s H => retK (([2, 3] : List Nat).map fun t => s.getD t (.tup [])) H) [] retK [2, 3])) := by
  kernel_rfl
theorem G10 (ρ : Addr → Option Value) (call : CallF) (yc : YieldF) (lim k : Nat) (x0 : AV) (H : Heap) :
    evL (cx ρ) call yc false 10 lim k c10 [x0, (.tup []), (.tup []), (.tup []), (.tup []), (.tup []), (.tup []), (.tup []), (.tup []), (.tup []), (.tup []), (.tup []), (.tup []), (.tup []), (.tup []), (.tup []), (.tup []), (.tup []), (.tup []), (.tup []), (.tup [])] H (kk none (fun s H => retK (([2, 3] : List Nat).map fun t => s.getD t (.tup [])) H) [] retK [2, 3]) = L10 ρ call yc lim k x0 H := by
  rw [evL_X, L10_x]
  simp only [← evL_X, L10, N10_1_eq]
theorem E10 (ρ : Addr → Option Value) (k lim : Nat) (x0 : AV) (H : Heap) : evCall (cx ρ) (k + 1) lim 10 [x0] H = L10 ρ (evCall (cx ρ) k) (evCY (cx ρ) k).2 lim k x0 H := by
  rw [evCall_body (cx ρ) k lim 10 _ H Try.f10 c10 [2, 3] (by kernel_rfl) (by kernel_rfl) (by kernel_rfl) (by kernel_rfl) (by kernel_rfl)]
  exact G10 ρ (evCall (cx ρ) k) (evCY (cx ρ) k).2 lim k x0 H
-- haycroft/haycroftref32.Next
noncomputable def c11 : Code := Code.of Try.prog 11
noncomputable def N11_1 (ρ : Addr → Option Value) (call : CallF) (yc : YieldF) (lim k : Nat) (x0 : AV) (H : Heap) (R : List AV → Heap → Res) : Res :=
  purK (binA Try.prog H .quo 22 x0 (.int .u64 4096)) fun x7_1 =>
  resK (call lim 32 [x0, x7_1] H) fun x8_1 H =>
  purK (binA Try.prog H .mul 22 x8_1 (.int .u64 33554432)) fun x11_1 =>
  resK (call lim 32 [x8_1, x11_1] H) fun x12_1 H =>
  purK (binA Try.prog H .quo 22 x12_1 (.int .u64 134217728)) fun x15_1 =>
  resK (call lim 32 [x12_1, x15_1] H) fun x16_1 H =>
  R [x16_1] H
theorem N11_1_eq (ρ : Addr → Option Value) (call : CallF) (yc : YieldF) (lim k : Nat) (x0 : AV) (H : Heap) (R : List AV → Heap → Res) :
    evL (cx ρ) call yc false 11 lim k (Code.at [1, 1] c11) (sp 17 [(0, x0)]) H (kk none (fun s H => R (([2] : List Nat).map fun t => s.getD t (.tup [])) H) [] R [2]) = N11_1 ρ call yc lim k x0 H R := by
  kernel_rfl
noncomputable def L11 (ρ : Addr → Option Value) (call : CallF) (yc : YieldF) (lim k : Nat) (x0 : AV) (H : Heap) : Res :=
  purK (binA Try.prog H .eql 22 x0 (.int .u64 0)) fun x4 =>
  condK x4
  (
    N11_1 ρ call yc lim k (.int .u64 1) H retK)
  (
    N11_1 ρ call yc lim k x0 H retK)
theorem L11_x (ρ : Addr → Option Value) (call : CallF) (yc : YieldF) (lim k : Nat) (J : CodeF) (x0 : AV) (H : Heap) :
    evX (cx ρ) call yc false 11 lim k J c11 [x0, (.tup []), (.tup []), (.tup []), (.tup []), (.tup []), (.tup []), (.tup []), (.tup []), (.tup []), (.tup []), (.tup []), (.tup []), (.tup []), (.tup []), (.tup []), (.tup [])] H (kk none (fun s H => retK (([2] : List Nat).map fun t => s.getD t (.tup [])) H) [] retK [2]) =
  purK (binA Try.prog H .eql 22 x0 (.int .u64 0)) fun x4 =>
  condK x4
  (
    J (Code.at [1, 1] c11) (sp 17 [(0, (.int .u64 1))]) H (kk none (fun s H => retK (([2] : List Nat).map fun t => s.getD t (.tup [])) H) [] retK [2]))
  (
    J (Code.at [1, 1] c11) (sp 17 [(0, x0)]) H (kk none (fun s H => retK (([2] : List Nat).map fun t => s.getD t (.tup [])) H) [] retK [2])) := by
  kernel_rfl
theorem G11 (ρ : Addr → Option Value) (call : CallF) (yc : YieldF) (lim k : Nat) (x0 : AV) (H : Heap) :
    evL (cx ρ) call yc false 11 lim k c11 [x0, (.tup []), (.tup []), (.tup []), (.tup []), (.tup []), (.tup []), (.tup []), (.tup []), (.tup []), (.tup []), (.tup []), (.tup []), (.tup []), (.tup []), (.tup []), (.tup [])] H (kk none (fun s H => retK (([2] : List Nat).map fun t => s.getD t (.tup [])) H) [] retK [2]) = L11 ρ call yc lim k x0 H := by
  rw [evL_X, L11_x]
  simp only [← evL_X, L11, N11_1_eq]
theorem E11 (ρ : Addr → Option Value) (k lim : Nat) (x0 : AV) (H : Heap) : evCall (cx ρ) (k + 1) lim 11 [x0] H = L11 ρ (evCall (cx ρ) k) (evCY (cx ρ) k).2 lim k x0 H := by
  rw [evCall_body (cx ρ) k lim 11 _ H Try.f11 c11 [2] (by kernel_rfl) (by kernel_rfl) (by kernel_rfl) (by kernel_rfl) (by kernel_rfl)]
  exact G11 ρ (evCall (cx ρ) k) (evCY (cx ρ) k).2 lim k x0 H
end Go.Proofs.Ytcjicmabhejllaa

-- part Pn1
/- Functions, lifted. Printed by a program of this repo. -/
set_option linter.unusedVariables false
set_option linter.unusedSimpArgs false
set_option maxRecDepth 100000
set_option maxHeartbeats 4000000
namespace Go.Proofs.Ytcjicmabhejllaa
open Go.Ev Go.RowKit
-- haycroft/plan.Fair
noncomputable def c23 : Code := Code.of Try.prog 23
noncomputable def N23_2 (ρ : Addr → Option Value) (call : CallF) (yc : YieldF) (lim k : Nat) (H : Heap) (R : List AV → Heap → Res) : Res :=
  R [(.bool true)] H
theorem N23_2_eq (ρ : Addr → Option Value) (call : CallF) (yc : YieldF) (lim k : Nat) (H : Heap) (R : List AV → Heap → Res) :
    evL (cx ρ) call yc false 23 lim k (Code.at [1, 1, 1] c23) (sp 27 []) H (kk none (fun s H => R (([6] : List Nat).map fun t => s.getD t (.tup [])) H) [] R [6]) = N23_2 ρ call yc lim k H R := by
  kernel_rfl
noncomputable def N23_3b (ρ : Addr → Option Value) (call : CallF) (yc : YieldF) (lim k : Nat) (x0 x1 x2 : AV) (H : Heap) (kn : AV → Heap → Res) (k0 : Heap → Res) (R : List AV → Heap → Res) : Res :=
  purK (lenS x0) fun x10_1 =>
  purK (binA Try.prog H .geq 3 x10_1 x2) fun x12_1 =>
  condK x12_1
  (
    purK (binA Try.prog H .gtr 3 x1 x2) fun x15_1 =>
    purK (gPur (wantV x15_1 false) (some x0)) fun x17_1 =>
    purK (gPur (wantV x15_1 false) (some x2)) fun x18_1 =>
    purK (gPur (wantV x15_1 false) (slS 8 x17_1 none (some x18_1) none)) fun x19_1 =>
    purK (gPur (wantV x15_1 false) (some x1)) fun x20_1 =>
    resK (gRes (wantV x15_1 false) H (call lim 34 [x19_1, x20_1] H)) fun x21_1 H =>
    purK (gPur (wantV x15_1 false) (unA .not x21_1)) fun x22_1 =>
    purK (pickA x15_1 (.bool true) x22_1) fun x23_1 =>
    condK x23_1
    (
      R [(.bool false)] H)
    (
      purK (slS 8 x0 (some x2) none none) fun x26_1 =>
      kn x26_1 H))
  (
    k0 H)
theorem N23_3b_eq (ρ : Addr → Option Value) (call : CallF) (yc : YieldF) (lim k : Nat) (x0 x1 x2 : AV) (H : Heap) (kn : KS) (k0 : KS) (R : List AV → Heap → Res) :
    evL (cx ρ) call yc false 23 lim k (Code.at [1, 1, 0, 0, 0] c23) (sp 27 [(0, x0), (1, x1), (2, x2)]) H (kk (some [0, 1, 2]) kn [(0, (some []), k0)] R [6]) = N23_3b ρ call yc lim k x0 x1 x2 H (fun x0 H => kn (sp 27 [(0, x0), (1, x1), (2, x2)]) H) (fun H => k0 (sp 27 []) H) R := by
  kernel_rfl
noncomputable def N23_3 (ρ : Addr → Option Value) (call : CallF) (yc : YieldF) (lim k : Nat) (x0 x1 x2 : AV) (H : Heap) (k0 : Heap → Res) (R : List AV → Heap → Res) : Res :=
  loopL (fun (x : AV) H kn => N23_3b ρ call yc lim k x x1 x2 H (fun x0 H => kn x0 H) k0 R) k x0 H
theorem N23_3_eq (ρ : Addr → Option Value) (call : CallF) (yc : YieldF) (lim k : Nat) (x0 x1 x2 : AV) (H : Heap) (kn : KS) (k0 : KS) (R : List AV → Heap → Res) :
    evL (cx ρ) call yc false 23 lim k (Code.at [1, 1, 0, 0] c23) (sp 27 [(0, x0), (1, x1), (2, x2)]) H (kk (some []) kn [(0, (some []), k0)] R [6]) = N23_3 ρ call yc lim k x0 x1 x2 H (fun H => k0 (sp 27 []) H) R := by
  have e : Code.at [1, 1, 0, 0] c23 = .loop (Code.at [1, 1, 0, 0, 0] c23) := by kernel_rfl
  rw [e]
  unfold N23_3
  exact loop_node [0, 1, 2] (fun x : AV => (sp 27 [(0, (x)), (1, x1), (2, x2)])) (fun (x : AV) H kn => N23_3b ρ call yc lim k x x1 x2 H (fun x0 H => kn x0 H) (fun H => k0 (sp 27 []) H) R) (by kernel_rfl) (fun x => by kernel_rfl) (fun x H kn => N23_3b_eq ρ call yc lim k (x) x1 x2 H kn k0 R) x0 (sp 27 [(0, x0), (1, x1), (2, x2)]) H (by kernel_rfl)
noncomputable def N23_1 (ρ : Addr → Option Value) (call : CallF) (yc : YieldF) (lim k : Nat) (x0 x1 x2 : AV) (H : Heap) (R : List AV → Heap → Res) : Res :=
  N23_3 ρ call yc lim k x0 x1 x2 H (fun H =>
    N23_2 ρ call yc lim k H R) R
theorem N23_1_x (ρ : Addr → Option Value) (call : CallF) (yc : YieldF) (lim k : Nat) (J : CodeF) (x0 x1 x2 : AV) (H : Heap) (R : List AV → Heap → Res) :
    evX (cx ρ) call yc false 23 lim k J (Code.at [1, 1] c23) (sp 27 [(0, x0), (1, x1), (2, x2)]) H (kk none (fun s H => R (([6] : List Nat).map fun t => s.getD t (.tup [])) H) [] R [6]) =
  J (Code.at [1, 1, 0, 0] c23) (sp 27 [(0, x0), (1, x1), (2, x2)]) H (kk (some []) (fun s H => J (Code.at [1, 1, 1] c23) s H (kk none (fun s H => R (([6] : List Nat).map fun t => s.getD t (.tup [])) H) [] R [6])) [(0, (some []), (fun s H => J (Code.at [1, 1, 1] c23) s H (kk none (fun s H => R (([6] : List Nat).map fun t => s.getD t (.tup [])) H) [] R [6])))] R [6]) := by
  kernel_rfl
theorem N23_1_eq (ρ : Addr → Option Value) (call : CallF) (yc : YieldF) (lim k : Nat) (x0 x1 x2 : AV) (H : Heap) (R : List AV → Heap → Res) :
    evL (cx ρ) call yc false 23 lim k (Code.at [1, 1] c23) (sp 27 [(0, x0), (1, x1), (2, x2)]) H (kk none (fun s H => R (([6] : List Nat).map fun t => s.getD t (.tup [])) H) [] R [6]) = N23_1 ρ call yc lim k x0 x1 x2 H R := by
  rw [evL_X, N23_1_x]
  simp only [← evL_X, N23_1, N23_2_eq, N23_3_eq]
noncomputable def L23 (ρ : Addr → Option Value) (call : CallF) (yc : YieldF) (lim k : Nat) (x0 x1 x2 : AV) (H : Heap) : Res :=
  purK (binA Try.prog H .lss 3 x2 (.int .i64 1)) fun x8 =>
  condK x8
  (
    retK [(.bool false)] H)
  (
    N23_1 ρ call yc lim k x0 x1 x2 H retK)
theorem L23_x (ρ : Addr → Option Value) (call : CallF) (yc : YieldF) (lim k : Nat) (J : CodeF) (x0 x1 x2 : AV) (H : Heap) :
    evX (cx ρ) call yc false 23 lim k J c23 [x0, x1, x2, (.tup []), (.tup []), (.tup []), (.tup []), (.tup []), (.tup []), (.tup []), (.tup []), (.tup []), (.tup []), (.tup []), (.tup []), (.tup []), (.tup []), (.tup []), (.tup []), (.tup []), (.tup []), (.tup []), (.tup []), (.tup []), (.tup []), (.tup []), (.tup [])] H (kk none (fun s H => retK (([6] : List Nat).map fun t => s.getD t (.tup [])) H) [] retK [6]) =
  purK (binA Try.prog H .lss 3 x2 (.int .i64 1)) fun x8 =>
  condK x8
  (
    retK [(.bool false)] H)
  (
    J (Code.at [1, 1] c23) (sp 27 [(0, x0), (1, x1), (2, x2)]) H (kk none (fun s H => retK (([6] : List Nat).map fun t => s.getD t (.tup [])) H) [] retK [6])) := by
  kernel_rfl
theorem G23 (ρ : Addr → Option Value) (call : CallF) (yc : YieldF) (lim k : Nat) (x0 x1 x2 : AV) (H : Heap) :
    evL (cx ρ) call yc false 23 lim k c23 [x0, x1, x2, (.tup []), (.tup []), (.tup []), (.tup []), (.tup []), (.tup []), (.tup []), (.tup []), (.tup []), (.tup []), (.tup []), (.tup []), (.tup []), (.tup []), (.tup []), (.tup []), (.tup []), (.tup []), (.tup []), (.tup []), (.tup []), (.tup []), (.tup []), (.tup [])] H (kk none (fun s H => retK (([6] : List Nat).map fun t => s.getD t (.tup [])) H) [] retK [6]) = L23 ρ call yc lim k x0 x1 x2 H := by
  rw [evL_X, L23_x]
  simp only [← evL_X, L23, N23_1_eq]
theorem E23 (ρ : Addr → Option Value) (k lim : Nat) (x0 x1 x2 : AV) (H : Heap) : evCall (cx ρ) (k + 1) lim 23 [x0, x1, x2] H = L23 ρ (evCall (cx ρ) k) (evCY (cx ρ) k).2 lim k x0 x1 x2 H := by
  rw [evCall_body (cx ρ) k lim 23 _ H Try.f23 c23 [6] (by kernel_rfl) (by kernel_rfl) (by kernel_rfl) (by kernel_rfl) (by kernel_rfl)]
  exact G23 ρ (evCall (cx ρ) k) (evCY (cx ρ) k).2 lim k x0 x1 x2 H
-- haycroft/haycroftref32.Fair
noncomputable def c24 : Code := Code.of Try.prog 24
noncomputable def N24_1 (ρ : Addr → Option Value) (call : CallF) (yc : YieldF) (lim k : Nat) (H : Heap) (R : List AV → Heap → Res) : Res :=
  R [(.bool true)] H
theorem N24_1_eq (ρ : Addr → Option Value) (call : CallF) (yc : YieldF) (lim k : Nat) (H : Heap) (R : List AV → Heap → Res) :
    evL (cx ρ) call yc false 24 lim k (Code.at [1, 1, 1] c24) (sp 55 []) H (kk none (fun s H => R (([6] : List Nat).map fun t => s.getD t (.tup [])) H) [] R [6]) = N24_1 ρ call yc lim k H R := by
  kernel_rfl
noncomputable def N24_4 (ρ : Addr → Option Value) (call : CallF) (yc : YieldF) (lim k : Nat) (x0 x1 x2 x7 : AV) (H : Heap) (kn : AV → Heap → Res) : Res :=
  purK (binA Try.prog H .add 3 x7 x2) fun x21_1 =>
  kn x21_1 H
theorem N24_4_eq (ρ : Addr → Option Value) (call : CallF) (yc : YieldF) (lim k : Nat) (x0 x1 x2 x7 : AV) (H : Heap) (kn : KS) (k0 : KS) (R : List AV → Heap → Res) :
    evL (cx ρ) call yc false 24 lim k (Code.at [1, 1, 0, 1, 0, 0, 1, 1] c24) (sp 55 [(0, x0), (1, x1), (2, x2), (7, x7)]) H (kk (some [0, 1, 2, 7]) kn [(0, (some []), k0)] R [6]) = N24_4 ρ call yc lim k x0 x1 x2 x7 H (fun x7 H => kn (sp 55 [(0, x0), (1, x1), (2, x2), (7, x7)]) H) := by
  kernel_rfl
noncomputable def N24_7 (ρ : Addr → Option Value) (call : CallF) (yc : YieldF) (lim k : Nat) (x0 x1 x2 x7 x8 : AV) (H : Heap) (kn : AV → Heap → Res) : Res :=
  purK (binA Try.prog H .add 3 x8 (.int .i64 1)) fun x26_1 =>
  kn x26_1 H
theorem N24_7_eq (ρ : Addr → Option Value) (call : CallF) (yc : YieldF) (lim k : Nat) (x0 x1 x2 x7 x8 : AV) (H : Heap) (kn : KS) (k2 : KS) (k1 : KS) (k0 : KS) (R : List AV → Heap → Res) :
    evL (cx ρ) call yc false 24 lim k (Code.at [1, 1, 0, 1, 0, 0, 1, 0, 0, 1, 0, 0, 1, 1] c24) (sp 55 [(0, x0), (1, x1), (2, x2), (7, x7), (8, x8)]) H (kk (some [0, 1, 2, 7, 8]) kn [(2, (some [0, 1, 2, 7]), k2), (1, (some [0, 1, 2, 7]), k1), (0, (some []), k0)] R [6]) = N24_7 ρ call yc lim k x0 x1 x2 x7 x8 H (fun x8 H => kn (sp 55 [(0, x0), (1, x1), (2, x2), (7, x7), (8, x8)]) H) := by
  kernel_rfl
noncomputable def N24_8 (ρ : Addr → Option Value) (call : CallF) (yc : YieldF) (lim k : Nat) (x0 x1 x2 x7 x8 x9 : AV) (H : Heap) (kn : AV → Heap → Res) (R : List AV → Heap → Res) : Res :=
  purK (unA .not x9) fun x54_1 =>
  condK x54_1
  (
    R [(.bool false)] H)
  (
    kn x8 H)
theorem N24_8_eq (ρ : Addr → Option Value) (call : CallF) (yc : YieldF) (lim k : Nat) (x0 x1 x2 x7 x8 x9 : AV) (H : Heap) (kn : KS) (k3 : KS) (k2 : KS) (k1 : KS) (k0 : KS) (R : List AV → Heap → Res) :
    evL (cx ρ) call yc false 24 lim k (Code.at [1, 1, 0, 1, 0, 0, 1, 0, 0, 1, 0, 0, 1, 0, 0, 1, 1] c24) (sp 55 [(0, x0), (1, x1), (2, x2), (7, x7), (8, x8), (9, x9)]) H (kk (some [0, 1, 2, 7, 8]) kn [(3, (some [0, 1, 2, 7, 8]), k3), (2, (some [0, 1, 2, 7]), k2), (1, (some [0, 1, 2, 7]), k1), (0, (some []), k0)] R [6]) = N24_8 ρ call yc lim k x0 x1 x2 x7 x8 x9 H (fun x8 H => kn (sp 55 [(0, x0), (1, x1), (2, x2), (7, x7), (8, x8)]) H) R := by
  kernel_rfl
noncomputable def N24_10b (ρ : Addr → Option Value) (call : CallF) (yc : YieldF) (lim k : Nat) (x0 x1 x2 x7 x8 x9 x10 : AV) (H : Heap) (kn : AV → AV → Heap → Res) (k4 : AV → AV → Heap → Res) : Res :=
  purK (binA Try.prog H .add 3 x7 x2) fun x31_1 =>
  purK (binA Try.prog H .lss 3 x10 x31_1) fun x32_1 =>
  condK x32_1
  (
    purK (gPur (wantV x9 false) (some x0)) fun x37_1 =>
    purK (gPur (wantV x9 false) (some x10)) fun x38_1 =>
    purK (gPur (wantV x9 false) (ixS 8 x37_1 x38_1)) fun x39_1 =>
    purK (gPur (wantV x9 false) (addA 0 x39_1)) fun x40_1 =>
    purK (gPur (wantV x9 false) (ld1 ρ H x40_1)) fun x41_1 =>
    purK (gPur (wantV x9 false) (binA Try.prog H .eql 3 x41_1 (.int .i64 2))) fun x42_1 =>
    purK (gPur (wantV x9 false) (some x42_1)) fun x43_1 =>
    purK (gPur (wantV x43_1 true) (some x0)) fun x44_1 =>
    purK (gPur (wantV x43_1 true) (some x10)) fun x45_1 =>
    purK (gPur (wantV x43_1 true) (ixS 8 x44_1 x45_1)) fun x46_1 =>
    purK (gPur (wantV x43_1 true) (addA 1 x46_1)) fun x47_1 =>
    purK (gPur (wantV x43_1 true) (ld1 ρ H x47_1)) fun x48_1 =>
    purK (gPur (wantV x43_1 true) (some x8)) fun x49_1 =>
    purK (gPur (wantV x43_1 true) (binA Try.prog H .eql 3 x48_1 x49_1)) fun x50_1 =>
    purK (gPur (wantV x9 false) (pickA x43_1 x50_1 (.bool false))) fun x51_1 =>
    purK (pickA x9 (.bool true) x51_1) fun x52_1 =>
    purK (binA Try.prog H .add 3 x10 (.int .i64 1)) fun x34_1 =>
    kn x52_1 x34_1 H)
  (
    k4 x8 x9 H)
theorem N24_10b_eq (ρ : Addr → Option Value) (call : CallF) (yc : YieldF) (lim k : Nat) (x0 x1 x2 x7 x8 x9 x10 : AV) (H : Heap) (kn : KS) (k4 : KS) (k3 : KS) (k2 : KS) (k1 : KS) (k0 : KS) (R : List AV → Heap → Res) :
    evL (cx ρ) call yc false 24 lim k (Code.at [1, 1, 0, 1, 0, 0, 1, 0, 0, 1, 0, 0, 1, 0, 0, 1, 0, 1, 0, 0] c24) (sp 55 [(0, x0), (1, x1), (2, x2), (7, x7), (8, x8), (9, x9), (10, x10)]) H (kk (some [0, 1, 2, 7, 8, 9, 10]) kn [(4, (some [0, 1, 2, 7, 8, 9]), k4), (3, (some [0, 1, 2, 7, 8]), k3), (2, (some [0, 1, 2, 7]), k2), (1, (some [0, 1, 2, 7]), k1), (0, (some []), k0)] R [6]) = N24_10b ρ call yc lim k x0 x1 x2 x7 x8 x9 x10 H (fun x9 x10 H => kn (sp 55 [(0, x0), (1, x1), (2, x2), (7, x7), (8, x8), (9, x9), (10, x10)]) H) (fun x8 x9 H => k4 (sp 55 [(0, x0), (1, x1), (2, x2), (7, x7), (8, x8), (9, x9)]) H) := by
  kernel_rfl
noncomputable def N24_10 (ρ : Addr → Option Value) (call : CallF) (yc : YieldF) (lim k : Nat) (x0 x1 x2 x7 x8 x9 x10 : AV) (H : Heap) (k4 : AV → AV → Heap → Res) : Res :=
  loopL (fun (x : AV × AV) H kn => N24_10b ρ call yc lim k x0 x1 x2 x7 x8 x.1 x.2 H (fun x9 x10 H => kn (x9, x10) H) k4) k (x9, x10) H
theorem N24_10_eq (ρ : Addr → Option Value) (call : CallF) (yc : YieldF) (lim k : Nat) (x0 x1 x2 x7 x8 x9 x10 : AV) (H : Heap) (kn : KS) (k4 : KS) (k3 : KS) (k2 : KS) (k1 : KS) (k0 : KS) (R : List AV → Heap → Res) :
    evL (cx ρ) call yc false 24 lim k (Code.at [1, 1, 0, 1, 0, 0, 1, 0, 0, 1, 0, 0, 1, 0, 0, 1, 0, 1, 0] c24) (sp 55 [(0, x0), (1, x1), (2, x2), (7, x7), (8, x8), (9, x9), (10, x10)]) H (kk (some [0, 1, 2, 7, 8, 9]) kn [(4, (some [0, 1, 2, 7, 8, 9]), k4), (3, (some [0, 1, 2, 7, 8]), k3), (2, (some [0, 1, 2, 7]), k2), (1, (some [0, 1, 2, 7]), k1), (0, (some []), k0)] R [6]) = N24_10 ρ call yc lim k x0 x1 x2 x7 x8 x9 x10 H (fun x8 x9 H => k4 (sp 55 [(0, x0), (1, x1), (2, x2), (7, x7), (8, x8), (9, x9)]) H) := by
  have e : Code.at [1, 1, 0, 1, 0, 0, 1, 0, 0, 1, 0, 0, 1, 0, 0, 1, 0, 1, 0] c24 = .loop (Code.at [1, 1, 0, 1, 0, 0, 1, 0, 0, 1, 0, 0, 1, 0, 0, 1, 0, 1, 0, 0] c24) := by kernel_rfl
  rw [e]
  unfold N24_10
  exact loop_node [0, 1, 2, 7, 8, 9, 10] (fun x : AV × AV => (sp 55 [(0, x0), (1, x1), (2, x2), (7, x7), (8, x8), (9, (x.1)), (10, (x.2))])) (fun (x : AV × AV) H kn => N24_10b ρ call yc lim k x0 x1 x2 x7 x8 x.1 x.2 H (fun x9 x10 H => kn (x9, x10) H) (fun x8 x9 H => k4 (sp 55 [(0, x0), (1, x1), (2, x2), (7, x7), (8, x8), (9, x9)]) H)) (by kernel_rfl) (fun x => by kernel_rfl) (fun x H kn => N24_10b_eq ρ call yc lim k x0 x1 x2 x7 x8 (x.1) (x.2) H kn k4 k3 k2 k1 k0 R) (x9, x10) (sp 55 [(0, x0), (1, x1), (2, x2), (7, x7), (8, x8), (9, x9), (10, x10)]) H (by kernel_rfl)
noncomputable def N24_9 (ρ : Addr → Option Value) (call : CallF) (yc : YieldF) (lim k : Nat) (x0 x1 x2 x7 x8 x9 x10 : AV) (H : Heap) (kn : AV → AV → Heap → Res) : Res :=
  N24_10 ρ call yc lim k x0 x1 x2 x7 x8 x9 x10 H kn
theorem N24_9_x (ρ : Addr → Option Value) (call : CallF) (yc : YieldF) (lim k : Nat) (J : CodeF) (x0 x1 x2 x7 x8 x9 x10 : AV) (H : Heap) (kn : KS) (k3 : KS) (k2 : KS) (k1 : KS) (k0 : KS) (R : List AV → Heap → Res) :
    evX (cx ρ) call yc false 24 lim k J (Code.at [1, 1, 0, 1, 0, 0, 1, 0, 0, 1, 0, 0, 1, 0, 0, 1, 0, 1] c24) (sp 55 [(0, x0), (1, x1), (2, x2), (7, x7), (8, x8), (9, x9), (10, x10)]) H (kk (some [0, 1, 2, 7, 8, 9]) kn [(3, (some [0, 1, 2, 7, 8]), k3), (2, (some [0, 1, 2, 7]), k2), (1, (some [0, 1, 2, 7]), k1), (0, (some []), k0)] R [6]) =
  J (Code.at [1, 1, 0, 1, 0, 0, 1, 0, 0, 1, 0, 0, 1, 0, 0, 1, 0, 1, 0] c24) (sp 55 [(0, x0), (1, x1), (2, x2), (7, x7), (8, x8), (9, x9), (10, x10)]) H (kk (some [0, 1, 2, 7, 8, 9]) kn [(4, (some [0, 1, 2, 7, 8, 9]), kn), (3, (some [0, 1, 2, 7, 8]), k3), (2, (some [0, 1, 2, 7]), k2), (1, (some [0, 1, 2, 7]), k1), (0, (some []), k0)] R [6]) := by
  kernel_rfl
theorem N24_9_eq (ρ : Addr → Option Value) (call : CallF) (yc : YieldF) (lim k : Nat) (x0 x1 x2 x7 x8 x9 x10 : AV) (H : Heap) (kn : KS) (k3 : KS) (k2 : KS) (k1 : KS) (k0 : KS) (R : List AV → Heap → Res) :
    evL (cx ρ) call yc false 24 lim k (Code.at [1, 1, 0, 1, 0, 0, 1, 0, 0, 1, 0, 0, 1, 0, 0, 1, 0, 1] c24) (sp 55 [(0, x0), (1, x1), (2, x2), (7, x7), (8, x8), (9, x9), (10, x10)]) H (kk (some [0, 1, 2, 7, 8, 9]) kn [(3, (some [0, 1, 2, 7, 8]), k3), (2, (some [0, 1, 2, 7]), k2), (1, (some [0, 1, 2, 7]), k1), (0, (some []), k0)] R [6]) = N24_9 ρ call yc lim k x0 x1 x2 x7 x8 x9 x10 H (fun x8 x9 H => kn (sp 55 [(0, x0), (1, x1), (2, x2), (7, x7), (8, x8), (9, x9)]) H) := by
  rw [evL_X, N24_9_x]
  simp only [← evL_X, N24_9, N24_10_eq]
noncomputable def N24_6b (ρ : Addr → Option Value) (call : CallF) (yc : YieldF) (lim k : Nat) (x0 x1 x2 x7 x8 : AV) (H : Heap) (kn : AV → Heap → Res) (k2 : AV → Heap → Res) (R : List AV → Heap → Res) : Res :=
  purK (binA Try.prog H .lss 3 x8 x1) fun x24_1 =>
  condK x24_1
  (
    N24_9 ρ call yc lim k x0 x1 x2 x7 x8 (.bool false) x7 H (fun x8_1 x9_1 H =>
      N24_8 ρ call yc lim k x0 x1 x2 x7 x8_1 x9_1 H (fun x8_2 H =>
        N24_7 ρ call yc lim k x0 x1 x2 x7 x8_2 H kn) R))
  (
    k2 x7 H)
theorem N24_6b_x (ρ : Addr → Option Value) (call : CallF) (yc : YieldF) (lim k : Nat) (J : CodeF) (x0 x1 x2 x7 x8 : AV) (H : Heap) (kn : KS) (k2 : KS) (k1 : KS) (k0 : KS) (R : List AV → Heap → Res) :
    evX (cx ρ) call yc false 24 lim k J (Code.at [1, 1, 0, 1, 0, 0, 1, 0, 0, 1, 0, 0] c24) (sp 55 [(0, x0), (1, x1), (2, x2), (7, x7), (8, x8)]) H (kk (some [0, 1, 2, 7, 8]) kn [(2, (some [0, 1, 2, 7]), k2), (1, (some [0, 1, 2, 7]), k1), (0, (some []), k0)] R [6]) =
  purK (binA Try.prog H .lss 3 x8 x1) fun x24_1 =>
  condK x24_1
  (
    J (Code.at [1, 1, 0, 1, 0, 0, 1, 0, 0, 1, 0, 0, 1, 0, 0, 1, 0, 1] c24) (sp 55 [(0, x0), (1, x1), (2, x2), (7, x7), (8, x8), (9, (.bool false)), (10, x7)]) H (kk (some [0, 1, 2, 7, 8, 9]) (fun s H => J (Code.at [1, 1, 0, 1, 0, 0, 1, 0, 0, 1, 0, 0, 1, 0, 0, 1, 1] c24) s H (kk (some [0, 1, 2, 7, 8]) (fun s H => J (Code.at [1, 1, 0, 1, 0, 0, 1, 0, 0, 1, 0, 0, 1, 1] c24) s H (kk (some [0, 1, 2, 7, 8]) kn [(2, (some [0, 1, 2, 7]), k2), (1, (some [0, 1, 2, 7]), k1), (0, (some []), k0)] R [6])) [(3, (some [0, 1, 2, 7, 8]), (fun s H => J (Code.at [1, 1, 0, 1, 0, 0, 1, 0, 0, 1, 0, 0, 1, 1] c24) s H (kk (some [0, 1, 2, 7, 8]) kn [(2, (some [0, 1, 2, 7]), k2), (1, (some [0, 1, 2, 7]), k1), (0, (some []), k0)] R [6]))), (2, (some [0, 1, 2, 7]), k2), (1, (some [0, 1, 2, 7]), k1), (0, (some []), k0)] R [6])) [(3, (some [0, 1, 2, 7, 8]), (fun s H => J (Code.at [1, 1, 0, 1, 0, 0, 1, 0, 0, 1, 0, 0, 1, 1] c24) s H (kk (some [0, 1, 2, 7, 8]) kn [(2, (some [0, 1, 2, 7]), k2), (1, (some [0, 1, 2, 7]), k1), (0, (some []), k0)] R [6]))), (2, (some [0, 1, 2, 7]), k2), (1, (some [0, 1, 2, 7]), k1), (0, (some []), k0)] R [6]))
  (
    k2 (sp 55 [(0, x0), (1, x1), (2, x2), (7, x7)]) H) := by
  kernel_rfl
theorem N24_6b_eq (ρ : Addr → Option Value) (call : CallF) (yc : YieldF) (lim k : Nat) (x0 x1 x2 x7 x8 : AV) (H : Heap) (kn : KS) (k2 : KS) (k1 : KS) (k0 : KS) (R : List AV → Heap → Res) :
    evL (cx ρ) call yc false 24 lim k (Code.at [1, 1, 0, 1, 0, 0, 1, 0, 0, 1, 0, 0] c24) (sp 55 [(0, x0), (1, x1), (2, x2), (7, x7), (8, x8)]) H (kk (some [0, 1, 2, 7, 8]) kn [(2, (some [0, 1, 2, 7]), k2), (1, (some [0, 1, 2, 7]), k1), (0, (some []), k0)] R [6]) = N24_6b ρ call yc lim k x0 x1 x2 x7 x8 H (fun x8 H => kn (sp 55 [(0, x0), (1, x1), (2, x2), (7, x7), (8, x8)]) H) (fun x7 H => k2 (sp 55 [(0, x0), (1, x1), (2, x2), (7, x7)]) H) R := by
  rw [evL_X, N24_6b_x]
  simp only [← evL_X, N24_6b, N24_7_eq, N24_8_eq, N24_9_eq]
noncomputable def N24_6 (ρ : Addr → Option Value) (call : CallF) (yc : YieldF) (lim k : Nat) (x0 x1 x2 x7 x8 : AV) (H : Heap) (k2 : AV → Heap → Res) (R : List AV → Heap → Res) : Res :=
  loopL (fun (x : AV) H kn => N24_6b ρ call yc lim k x0 x1 x2 x7 x H (fun x8 H => kn x8 H) k2 R) k x8 H
theorem N24_6_eq (ρ : Addr → Option Value) (call : CallF) (yc : YieldF) (lim k : Nat) (x0 x1 x2 x7 x8 : AV) (H : Heap) (kn : KS) (k2 : KS) (k1 : KS) (k0 : KS) (R : List AV → Heap → Res) :
    evL (cx ρ) call yc false 24 lim k (Code.at [1, 1, 0, 1, 0, 0, 1, 0, 0, 1, 0] c24) (sp 55 [(0, x0), (1, x1), (2, x2), (7, x7), (8, x8)]) H (kk (some [0, 1, 2, 7]) kn [(2, (some [0, 1, 2, 7]), k2), (1, (some [0, 1, 2, 7]), k1), (0, (some []), k0)] R [6]) = N24_6 ρ call yc lim k x0 x1 x2 x7 x8 H (fun x7 H => k2 (sp 55 [(0, x0), (1, x1), (2, x2), (7, x7)]) H) R := by
  have e : Code.at [1, 1, 0, 1, 0, 0, 1, 0, 0, 1, 0] c24 = .loop (Code.at [1, 1, 0, 1, 0, 0, 1, 0, 0, 1, 0, 0] c24) := by kernel_rfl
  rw [e]
  unfold N24_6
  exact loop_node [0, 1, 2, 7, 8] (fun x : AV => (sp 55 [(0, x0), (1, x1), (2, x2), (7, x7), (8, (x))])) (fun (x : AV) H kn => N24_6b ρ call yc lim k x0 x1 x2 x7 x H (fun x8 H => kn x8 H) (fun x7 H => k2 (sp 55 [(0, x0), (1, x1), (2, x2), (7, x7)]) H) R) (by kernel_rfl) (fun x => by kernel_rfl) (fun x H kn => N24_6b_eq ρ call yc lim k x0 x1 x2 x7 (x) H kn k2 k1 k0 R) x8 (sp 55 [(0, x0), (1, x1), (2, x2), (7, x7), (8, x8)]) H (by kernel_rfl)
noncomputable def N24_5 (ρ : Addr → Option Value) (call : CallF) (yc : YieldF) (lim k : Nat) (x0 x1 x2 x7 x8 : AV) (H : Heap) (kn : AV → Heap → Res) (R : List AV → Heap → Res) : Res :=
  N24_6 ρ call yc lim k x0 x1 x2 x7 x8 H kn R
theorem N24_5_x (ρ : Addr → Option Value) (call : CallF) (yc : YieldF) (lim k : Nat) (J : CodeF) (x0 x1 x2 x7 x8 : AV) (H : Heap) (kn : KS) (k1 : KS) (k0 : KS) (R : List AV → Heap → Res) :
    evX (cx ρ) call yc false 24 lim k J (Code.at [1, 1, 0, 1, 0, 0, 1, 0, 0, 1] c24) (sp 55 [(0, x0), (1, x1), (2, x2), (7, x7), (8, x8)]) H (kk (some [0, 1, 2, 7]) kn [(1, (some [0, 1, 2, 7]), k1), (0, (some []), k0)] R [6]) =
  J (Code.at [1, 1, 0, 1, 0, 0, 1, 0, 0, 1, 0] c24) (sp 55 [(0, x0), (1, x1), (2, x2), (7, x7), (8, x8)]) H (kk (some [0, 1, 2, 7]) kn [(2, (some [0, 1, 2, 7]), kn), (1, (some [0, 1, 2, 7]), k1), (0, (some []), k0)] R [6]) := by
  kernel_rfl
theorem N24_5_eq (ρ : Addr → Option Value) (call : CallF) (yc : YieldF) (lim k : Nat) (x0 x1 x2 x7 x8 : AV) (H : Heap) (kn : KS) (k1 : KS) (k0 : KS) (R : List AV → Heap → Res) :
    evL (cx ρ) call yc false 24 lim k (Code.at [1, 1, 0, 1, 0, 0, 1, 0, 0, 1] c24) (sp 55 [(0, x0), (1, x1), (2, x2), (7, x7), (8, x8)]) H (kk (some [0, 1, 2, 7]) kn [(1, (some [0, 1, 2, 7]), k1), (0, (some []), k0)] R [6]) = N24_5 ρ call yc lim k x0 x1 x2 x7 x8 H (fun x7 H => kn (sp 55 [(0, x0), (1, x1), (2, x2), (7, x7)]) H) R := by
  rw [evL_X, N24_5_x]
  simp only [← evL_X, N24_5, N24_6_eq]
noncomputable def N24_3b (ρ : Addr → Option Value) (call : CallF) (yc : YieldF) (lim k : Nat) (x0 x1 x2 x7 : AV) (H : Heap) (kn : AV → Heap → Res) (k0 : Heap → Res) (R : List AV → Heap → Res) : Res :=
  purK (lenS x0) fun x15_1 =>
  purK (binA Try.prog H .sub 3 x15_1 x2) fun x17_1 =>
  purK (binA Try.prog H .leq 3 x7 x17_1) fun x18_1 =>
  condK x18_1
  (
    N24_5 ρ call yc lim k x0 x1 x2 x7 (.int .i64 0) H (fun x7_1 H =>
      N24_4 ρ call yc lim k x0 x1 x2 x7_1 H kn) R)
  (
    k0 H)
theorem N24_3b_x (ρ : Addr → Option Value) (call : CallF) (yc : YieldF) (lim k : Nat) (J : CodeF) (x0 x1 x2 x7 : AV) (H : Heap) (kn : KS) (k0 : KS) (R : List AV → Heap → Res) :
    evX (cx ρ) call yc false 24 lim k J (Code.at [1, 1, 0, 1, 0, 0] c24) (sp 55 [(0, x0), (1, x1), (2, x2), (7, x7)]) H (kk (some [0, 1, 2, 7]) kn [(0, (some []), k0)] R [6]) =
  purK (lenS x0) fun x15_1 =>
  purK (binA Try.prog H .sub 3 x15_1 x2) fun x17_1 =>
  purK (binA Try.prog H .leq 3 x7 x17_1) fun x18_1 =>
  condK x18_1
  (
    J (Code.at [1, 1, 0, 1, 0, 0, 1, 0, 0, 1] c24) (sp 55 [(0, x0), (1, x1), (2, x2), (7, x7), (8, (.int .i64 0))]) H (kk (some [0, 1, 2, 7]) (fun s H => J (Code.at [1, 1, 0, 1, 0, 0, 1, 1] c24) s H (kk (some [0, 1, 2, 7]) kn [(0, (some []), k0)] R [6])) [(1, (some [0, 1, 2, 7]), (fun s H => J (Code.at [1, 1, 0, 1, 0, 0, 1, 1] c24) s H (kk (some [0, 1, 2, 7]) kn [(0, (some []), k0)] R [6]))), (0, (some []), k0)] R [6]))
  (
    k0 (sp 55 []) H) := by
  kernel_rfl
theorem N24_3b_eq (ρ : Addr → Option Value) (call : CallF) (yc : YieldF) (lim k : Nat) (x0 x1 x2 x7 : AV) (H : Heap) (kn : KS) (k0 : KS) (R : List AV → Heap → Res) :
    evL (cx ρ) call yc false 24 lim k (Code.at [1, 1, 0, 1, 0, 0] c24) (sp 55 [(0, x0), (1, x1), (2, x2), (7, x7)]) H (kk (some [0, 1, 2, 7]) kn [(0, (some []), k0)] R [6]) = N24_3b ρ call yc lim k x0 x1 x2 x7 H (fun x7 H => kn (sp 55 [(0, x0), (1, x1), (2, x2), (7, x7)]) H) (fun H => k0 (sp 55 []) H) R := by
  rw [evL_X, N24_3b_x]
  simp only [← evL_X, N24_3b, N24_4_eq, N24_5_eq]
noncomputable def N24_3 (ρ : Addr → Option Value) (call : CallF) (yc : YieldF) (lim k : Nat) (x0 x1 x2 x7 : AV) (H : Heap) (k0 : Heap → Res) (R : List AV → Heap → Res) : Res :=
  loopL (fun (x : AV) H kn => N24_3b ρ call yc lim k x0 x1 x2 x H (fun x7 H => kn x7 H) k0 R) k x7 H
theorem N24_3_eq (ρ : Addr → Option Value) (call : CallF) (yc : YieldF) (lim k : Nat) (x0 x1 x2 x7 : AV) (H : Heap) (kn : KS) (k0 : KS) (R : List AV → Heap → Res) :
    evL (cx ρ) call yc false 24 lim k (Code.at [1, 1, 0, 1, 0] c24) (sp 55 [(0, x0), (1, x1), (2, x2), (7, x7)]) H (kk (some []) kn [(0, (some []), k0)] R [6]) = N24_3 ρ call yc lim k x0 x1 x2 x7 H (fun H => k0 (sp 55 []) H) R := by
  have e : Code.at [1, 1, 0, 1, 0] c24 = .loop (Code.at [1, 1, 0, 1, 0, 0] c24) := by kernel_rfl
  rw [e]
  unfold N24_3
  exact loop_node [0, 1, 2, 7] (fun x : AV => (sp 55 [(0, x0), (1, x1), (2, x2), (7, (x))])) (fun (x : AV) H kn => N24_3b ρ call yc lim k x0 x1 x2 x H (fun x7 H => kn x7 H) (fun H => k0 (sp 55 []) H) R) (by kernel_rfl) (fun x => by kernel_rfl) (fun x H kn => N24_3b_eq ρ call yc lim k x0 x1 x2 (x) H kn k0 R) x7 (sp 55 [(0, x0), (1, x1), (2, x2), (7, x7)]) H (by kernel_rfl)
noncomputable def N24_2 (ρ : Addr → Option Value) (call : CallF) (yc : YieldF) (lim k : Nat) (x0 x1 x2 x7 : AV) (H : Heap) (kn : Heap → Res) (R : List AV → Heap → Res) : Res :=
  N24_3 ρ call yc lim k x0 x1 x2 x7 H kn R
theorem N24_2_x (ρ : Addr → Option Value) (call : CallF) (yc : YieldF) (lim k : Nat) (J : CodeF) (x0 x1 x2 x7 : AV) (H : Heap) (kn : KS) (R : List AV → Heap → Res) :
    evX (cx ρ) call yc false 24 lim k J (Code.at [1, 1, 0, 1] c24) (sp 55 [(0, x0), (1, x1), (2, x2), (7, x7)]) H (kk (some []) kn [] R [6]) =
  J (Code.at [1, 1, 0, 1, 0] c24) (sp 55 [(0, x0), (1, x1), (2, x2), (7, x7)]) H (kk (some []) kn [(0, (some []), kn)] R [6]) := by
  kernel_rfl
theorem N24_2_eq (ρ : Addr → Option Value) (call : CallF) (yc : YieldF) (lim k : Nat) (x0 x1 x2 x7 : AV) (H : Heap) (kn : KS) (R : List AV → Heap → Res) :
    evL (cx ρ) call yc false 24 lim k (Code.at [1, 1, 0, 1] c24) (sp 55 [(0, x0), (1, x1), (2, x2), (7, x7)]) H (kk (some []) kn [] R [6]) = N24_2 ρ call yc lim k x0 x1 x2 x7 H (fun H => kn (sp 55 []) H) R := by
  rw [evL_X, N24_2_x]
  simp only [← evL_X, N24_2, N24_3_eq]
noncomputable def L24 (ρ : Addr → Option Value) (call : CallF) (yc : YieldF) (lim k : Nat) (x0 x1 x2 : AV) (H : Heap) : Res :=
  purK (binA Try.prog H .lss 3 x2 (.int .i64 1)) fun x12 =>
  condK x12
  (
    retK [(.bool false)] H)
  (
    N24_2 ρ call yc lim k x0 x1 x2 (.int .i64 0) H (fun H =>
      N24_1 ρ call yc lim k H retK) retK)
theorem L24_x (ρ : Addr → Option Value) (call : CallF) (yc : YieldF) (lim k : Nat) (J : CodeF) (x0 x1 x2 : AV) (H : Heap) :
    evX (cx ρ) call yc false 24 lim k J c24 [x0, x1, x2, (.tup []), (.tup []), (.tup []), (.tup []), (.tup []), (.tup []), (.tup []), (.tup []), (.tup []), (.tup []), (.tup []), (.tup []), (.tup []), (.tup []), (.tup []), (.tup []), (.tup []), (.tup []), (.tup []), (.tup []), (.tup []), (.tup []), (.tup []), (.tup []), (.tup []), (.tup []), (.tup []), (.tup []), (.tup []), (.tup []), (.tup []), (.tup []), (.tup []), (.tup []), (.tup []), (.tup []), (.tup []), (.tup []), (.tup []), (.tup []), (.tup []), (.tup []), (.tup []), (.tup []), (.tup []), (.tup []), (.tup []), (.tup []), (.tup []), (.tup []), (.tup []), (.tup [])] H (kk none (fun s H => retK (([6] : List Nat).map fun t => s.getD t (.tup [])) H) [] retK [6]) =
  purK (binA Try.prog H .lss 3 x2 (.int .i64 1)) fun x12 =>
  condK x12
  (
    retK [(.bool false)] H)
  (
    J (Code.at [1, 1, 0, 1] c24) (sp 55 [(0, x0), (1, x1), (2, x2), (7, (.int .i64 0))]) H (kk (some []) (fun s H => J (Code.at [1, 1, 1] c24) s H (kk none (fun s H => retK (([6] : List Nat).map fun t => s.getD t (.tup [])) H) [] retK [6])) [] retK [6])) := by
  kernel_rfl
theorem G24 (ρ : Addr → Option Value) (call : CallF) (yc : YieldF) (lim k : Nat) (x0 x1 x2 : AV) (H : Heap) :
    evL (cx ρ) call yc false 24 lim k c24 [x0, x1, x2, (.tup []), (.tup []), (.tup []), (.tup []), (.tup []), (.tup []), (.tup []), (.tup []), (.tup []), (.tup []), (.tup []), (.tup []), (.tup []), (.tup []), (.tup []), (.tup []), (.tup []), (.tup []), (.tup []), (.tup []), (.tup []), (.tup []), (.tup []), (.tup []), (.tup []), (.tup []), (.tup []), (.tup []), (.tup []), (.tup []), (.tup []), (.tup []), (.tup []), (.tup []), (.tup []), (.tup []), (.tup []), (.tup []), (.tup []), (.tup []), (.tup []), (.tup []), (.tup []), (.tup []), (.tup []), (.tup []), (.tup []), (.tup []), (.tup []), (.tup []), (.tup []), (.tup [])] H (kk none (fun s H => retK (([6] : List Nat).map fun t => s.getD t (.tup [])) H) [] retK [6]) = L24 ρ call yc lim k x0 x1 x2 H := by
  rw [evL_X, L24_x]
  simp only [← evL_X, L24, N24_1_eq, N24_2_eq]
theorem E24 (ρ : Addr → Option Value) (k lim : Nat) (x0 x1 x2 : AV) (H : Heap) : evCall (cx ρ) (k + 1) lim 24 [x0, x1, x2] H = L24 ρ (evCall (cx ρ) k) (evCY (cx ρ) k).2 lim k x0 x1 x2 H := by
  rw [evCall_body (cx ρ) k lim 24 _ H Try.f24 c24 [6] (by kernel_rfl) (by kernel_rfl) (by kernel_rfl) (by kernel_rfl) (by kernel_rfl)]
  exact G24 ρ (evCall (cx ρ) k) (evCY (cx ρ) k).2 lim k x0 x1 x2 H
-- haycroft/plan.Steps
noncomputable def c25 : Code := Code.of Try.prog 25
noncomputable def N25_1 (ρ : Addr → Option Value) (call : CallF) (yc : YieldF) (lim k : Nat) (x7 : AV) (H : Heap) (R : List AV → Heap → Res) : Res :=
  R [x7, (.int .i64 0)] H
theorem N25_1_eq (ρ : Addr → Option Value) (call : CallF) (yc : YieldF) (lim k : Nat) (x7 : AV) (H : Heap) (R : List AV → Heap → Res) :
    evL (cx ρ) call yc false 25 lim k (Code.at [1, 1, 1, 1, 1] c25) (sp 31 [(7, x7)]) H (kk none (fun s H => R (([4, 5] : List Nat).map fun t => s.getD t (.tup [])) H) [] R [4, 5]) = N25_1 ρ call yc lim k x7 H R := by
  kernel_rfl
noncomputable def N25_3b (ρ : Addr → Option Value) (call : CallF) (yc : YieldF) (lim k : Nat) (x2 x6 x7 x21 x22 : AV) (H : Heap) (kn : AV → AV → Heap → Res) (k1 : AV → Heap → Res) : Res :=
  purK (binA Try.prog H .lss 3 x22 x21) fun x23_1 =>
  condK x23_1
  (
    purK (ldN ρ H 13 x2) fun x25_1 =>
    resK (call lim 35 [x6, x25_1] H) fun x26_1 H =>
    effK H (bldS H 42 8 [.int .i64 0, .int .i64 0, .int .i64 0, .int .i64 0, .str ByteArray.empty, .str ByteArray.empty, .int .u64 0, .nils] 1 [(0, 8, x26_1)]) fun x27_1 H =>
    effK H (apA ρ lim H 42 8 96 x7 x27_1) fun x28_1 H =>
    purK (binA Try.prog H .add 3 x22 (.int .i64 1)) fun x29_1 =>
    kn x28_1 x29_1 H)
  (
    k1 x7 H)
theorem N25_3b_eq (ρ : Addr → Option Value) (call : CallF) (yc : YieldF) (lim k : Nat) (x2 x6 x7 x21 x22 : AV) (H : Heap) (kn : KS) (k1 : KS) (R : List AV → Heap → Res) :
    evL (cx ρ) call yc false 25 lim k (Code.at [1, 1, 1, 1, 0, 1, 0, 0] c25) (sp 31 [(2, x2), (6, x6), (7, x7), (21, x21), (22, x22)]) H (kk (some [2, 6, 7, 21, 22]) kn [(1, (some [7]), k1)] R [4, 5]) = N25_3b ρ call yc lim k x2 x6 x7 x21 x22 H (fun x7 x22 H => kn (sp 31 [(2, x2), (6, x6), (7, x7), (21, x21), (22, x22)]) H) (fun x7 H => k1 (sp 31 [(7, x7)]) H) := by
  kernel_rfl
noncomputable def N25_3 (ρ : Addr → Option Value) (call : CallF) (yc : YieldF) (lim k : Nat) (x2 x6 x7 x21 x22 : AV) (H : Heap) (k1 : AV → Heap → Res) : Res :=
  loopL (fun (x : AV × AV) H kn => N25_3b ρ call yc lim k x2 x6 x.1 x21 x.2 H (fun x7 x22 H => kn (x7, x22) H) k1) k (x7, x22) H
theorem N25_3_eq (ρ : Addr → Option Value) (call : CallF) (yc : YieldF) (lim k : Nat) (x2 x6 x7 x21 x22 : AV) (H : Heap) (kn : KS) (k1 : KS) (R : List AV → Heap → Res) :
    evL (cx ρ) call yc false 25 lim k (Code.at [1, 1, 1, 1, 0, 1, 0] c25) (sp 31 [(2, x2), (6, x6), (7, x7), (21, x21), (22, x22)]) H (kk (some [7]) kn [(1, (some [7]), k1)] R [4, 5]) = N25_3 ρ call yc lim k x2 x6 x7 x21 x22 H (fun x7 H => k1 (sp 31 [(7, x7)]) H) := by
  have e : Code.at [1, 1, 1, 1, 0, 1, 0] c25 = .loop (Code.at [1, 1, 1, 1, 0, 1, 0, 0] c25) := by kernel_rfl
  rw [e]
  unfold N25_3
  exact loop_node [2, 6, 7, 21, 22] (fun x : AV × AV => (sp 31 [(2, x2), (6, x6), (7, (x.1)), (21, x21), (22, (x.2))])) (fun (x : AV × AV) H kn => N25_3b ρ call yc lim k x2 x6 x.1 x21 x.2 H (fun x7 x22 H => kn (x7, x22) H) (fun x7 H => k1 (sp 31 [(7, x7)]) H)) (by kernel_rfl) (fun x => by kernel_rfl) (fun x H kn => N25_3b_eq ρ call yc lim k x2 x6 (x.1) x21 (x.2) H kn k1 R) (x7, x22) (sp 31 [(2, x2), (6, x6), (7, x7), (21, x21), (22, x22)]) H (by kernel_rfl)
noncomputable def N25_2 (ρ : Addr → Option Value) (call : CallF) (yc : YieldF) (lim k : Nat) (x2 x6 x7 x21 x22 : AV) (H : Heap) (kn : AV → Heap → Res) : Res :=
  N25_3 ρ call yc lim k x2 x6 x7 x21 x22 H kn
theorem N25_2_x (ρ : Addr → Option Value) (call : CallF) (yc : YieldF) (lim k : Nat) (J : CodeF) (x2 x6 x7 x21 x22 : AV) (H : Heap) (kn : KS) (R : List AV → Heap → Res) :
    evX (cx ρ) call yc false 25 lim k J (Code.at [1, 1, 1, 1, 0, 1] c25) (sp 31 [(2, x2), (6, x6), (7, x7), (21, x21), (22, x22)]) H (kk (some [7]) kn [] R [4, 5]) =
  J (Code.at [1, 1, 1, 1, 0, 1, 0] c25) (sp 31 [(2, x2), (6, x6), (7, x7), (21, x21), (22, x22)]) H (kk (some [7]) kn [(1, (some [7]), kn)] R [4, 5]) := by
  kernel_rfl
theorem N25_2_eq (ρ : Addr → Option Value) (call : CallF) (yc : YieldF) (lim k : Nat) (x2 x6 x7 x21 x22 : AV) (H : Heap) (kn : KS) (R : List AV → Heap → Res) :
    evL (cx ρ) call yc false 25 lim k (Code.at [1, 1, 1, 1, 0, 1] c25) (sp 31 [(2, x2), (6, x6), (7, x7), (21, x21), (22, x22)]) H (kk (some [7]) kn [] R [4, 5]) = N25_2 ρ call yc lim k x2 x6 x7 x21 x22 H (fun x7 H => kn (sp 31 [(7, x7)]) H) := by
  rw [evL_X, N25_2_x]
  simp only [← evL_X, N25_2, N25_3_eq]
noncomputable def L25 (ρ : Addr → Option Value) (call : CallF) (yc : YieldF) (lim k : Nat) (x0 x1 : AV) (H : Heap) : Res :=
  effK H (boxA H 46 x0) fun x2 H =>
  purK (ldN ρ H 13 x2) fun x9 =>
  resK (call lim 26 [x9] H) fun x10 H =>
  purK (unA .not x10) fun x11 =>
  condK x11
  (
    retK [.nils, (.int .i64 1)] H)
  (
    purK (binA Try.prog H .lss 3 x1 (.int .i64 0)) fun x14 =>
    purK (gPur (wantV x14 false) (some x1)) fun x16 =>
    purK (gPur (wantV x14 false) (binA Try.prog H .gtr 3 x16 (.int .i64 10000))) fun x17 =>
    purK (pickA x14 (.bool true) x17) fun x18 =>
    condK x18
    (
      retK [.nils, (.int .i64 5)] H)
    (
      purK (addA 0 x2) fun x19 =>
      purK (ld1 ρ H x19) fun x20 =>
      effK H (some (.ptr H.sz 0 0, .new (newCells 62 false [.int .u64 0]))) fun x6 H =>
      effK H (stA lim H 1 x6 x20) fun _ H =>
      N25_2 ρ call yc lim k x2 x6 .nils x1 (.int .i64 0) H (fun x7 H =>
        N25_1 ρ call yc lim k x7 H retK)))
theorem L25_x (ρ : Addr → Option Value) (call : CallF) (yc : YieldF) (lim k : Nat) (J : CodeF) (x0 x1 : AV) (H : Heap) :
    evX (cx ρ) call yc false 25 lim k J c25 [x0, x1, (.tup []), (.tup []), (.tup []), (.tup []), (.tup []), (.tup []), (.tup []), (.tup []), (.tup []), (.tup []), (.tup []), (.tup []), (.tup []), (.tup []), (.tup []), (.tup []), (.tup []), (.tup []), (.tup []), (.tup []), (.tup []), (.tup []), (.tup []), (.tup []), (.tup []), (.tup []), (.tup []), (.tup []), (.tup [])] H (kk none (fun s H => retK (([4, 5] : List Nat).map fun t => s.getD t (.tup [])) H) [] retK [4, 5]) =
  effK H (boxA H 46 x0) fun x2 H =>
  purK (ldN ρ H 13 x2) fun x9 =>
  resK (call lim 26 [x9] H) fun x10 H =>
  purK (unA .not x10) fun x11 =>
  condK x11
  (
    retK [.nils, (.int .i64 1)] H)
  (
    purK (binA Try.prog H .lss 3 x1 (.int .i64 0)) fun x14 =>
    purK (gPur (wantV x14 false) (some x1)) fun x16 =>
    purK (gPur (wantV x14 false) (binA Try.prog H .gtr 3 x16 (.int .i64 10000))) fun x17 =>
    purK (pickA x14 (.bool true) x17) fun x18 =>
    condK x18
    (
      retK [.nils, (.int .i64 5)] H)
    (
      purK (addA 0 x2) fun x19 =>
      purK (ld1 ρ H x19) fun x20 =>
      effK H (some (.ptr H.sz 0 0, .new (newCells 62 false [.int .u64 0]))) fun x6 H =>
      effK H (stA lim H 1 x6 x20) fun _ H =>
      J (Code.at [1, 1, 1, 1, 0, 1] c25) (sp 31 [(2, x2), (6, x6), (7, .nils), (21, x1), (22, (.int .i64 0))]) H (kk (some [7]) (fun s H => J (Code.at [1, 1, 1, 1, 1] c25) s H (kk none (fun s H => retK (([4, 5] : List Nat).map fun t => s.getD t (.tup [])) H) [] retK [4, 5])) [] retK [4, 5]))) := by
  kernel_rfl
theorem G25 (ρ : Addr → Option Value) (call : CallF) (yc : YieldF) (lim k : Nat) (x0 x1 : AV) (H : Heap) :
    evL (cx ρ) call yc false 25 lim k c25 [x0, x1, (.tup []), (.tup []), (.tup []), (.tup []), (.tup []), (.tup []), (.tup []), (.tup []), (.tup []), (.tup []), (.tup []), (.tup []), (.tup []), (.tup []), (.tup []), (.tup []), (.tup []), (.tup []), (.tup []), (.tup []), (.tup []), (.tup []), (.tup []), (.tup []), (.tup []), (.tup []), (.tup []), (.tup []), (.tup [])] H (kk none (fun s H => retK (([4, 5] : List Nat).map fun t => s.getD t (.tup [])) H) [] retK [4, 5]) = L25 ρ call yc lim k x0 x1 H := by
  rw [evL_X, L25_x]
  simp only [← evL_X, L25, N25_1_eq, N25_2_eq]
theorem E25 (ρ : Addr → Option Value) (k lim : Nat) (x0 x1 : AV) (H : Heap) : evCall (cx ρ) (k + 1) lim 25 [x0, x1] H = L25 ρ (evCall (cx ρ) k) (evCY (cx ρ) k).2 lim k x0 x1 H := by
  rw [evCall_body (cx ρ) k lim 25 _ H Try.f25 c25 [4, 5] (by kernel_rfl) (by kernel_rfl) (by kernel_rfl) (by kernel_rfl) (by kernel_rfl)]
  exact G25 ρ (evCall (cx ρ) k) (evCY (cx ρ) k).2 lim k x0 x1 H
-- haycroft/plan.Right
noncomputable def c26 : Code := Code.of Try.prog 26
noncomputable def L26 (ρ : Addr → Option Value) (call : CallF) (yc : YieldF) (lim k : Nat) (x0 : AV) (H : Heap) : Res :=
  effK H (boxA H 46 x0) fun x1 H =>
  purK (addA 1 x1) fun x5 =>
  purK (ld1 ρ H x5) fun x6 =>
  purK (binA Try.prog H .geq 3 x6 (.int .i64 1)) fun x7 =>
  purK (gPur (wantV x7 true) (addA 1 x1)) fun x9 =>
  purK (gPur (wantV x7 true) (ld1 ρ H x9)) fun x10 =>
  purK (gPur (wantV x7 true) (binA Try.prog H .leq 3 x10 (.int .i64 8))) fun x11 =>
  purK (pickA x7 x11 (.bool false)) fun x12 =>
  purK (gPur (wantV x12 true) (addA 2 x1)) fun x14 =>
  purK (gPur (wantV x12 true) (ld1 ρ H x14)) fun x15 =>
  purK (gPur (wantV x12 true) (binA Try.prog H .geq 3 x15 (.int .i64 1))) fun x16 =>
  purK (pickA x12 x16 (.bool false)) fun x17 =>
  purK (gPur (wantV x17 true) (addA 2 x1)) fun x19 =>
  purK (gPur (wantV x17 true) (ld1 ρ H x19)) fun x20 =>
  purK (gPur (wantV x17 true) (binA Try.prog H .leq 3 x20 (.int .i64 26))) fun x21 =>
  purK (pickA x17 x21 (.bool false)) fun x22 =>
  purK (gPur (wantV x22 true) (addA 3 x1)) fun x24 =>
  purK (gPur (wantV x22 true) (slR 1 10 x24 none none none)) fun x25 =>
  purK (gPur (wantV x22 true) (some (.fn (.func 36) [] []))) fun x26 =>
  resK (gRes (wantV x22 true) H (call lim 38 [x25, x26] H)) fun x27 H =>
  purK (gPur (wantV x22 true) (unA .not x27)) fun x28 =>
  purK (pickA x22 x28 (.bool false)) fun x29 =>
  purK (gPur (wantV x29 true) (addA 3 x1)) fun x31 =>
  purK (gPur (wantV x29 true) (slR 1 10 x31 none none none)) fun x32 =>
  purK (gPur (wantV x29 true) (some (.fn (.func 37) [] []))) fun x33 =>
  resK (gRes (wantV x29 true) H (call lim 38 [x32, x33] H)) fun x34 H =>
  purK (pickA x29 x34 (.bool false)) fun x35 =>
  retK [x35] H
theorem G26 (ρ : Addr → Option Value) (call : CallF) (yc : YieldF) (lim k : Nat) (x0 : AV) (H : Heap) :
    evL (cx ρ) call yc false 26 lim k c26 [x0, (.tup []), (.tup []), (.tup []), (.tup []), (.tup []), (.tup []), (.tup []), (.tup []), (.tup []), (.tup []), (.tup []), (.tup []), (.tup []), (.tup []), (.tup []), (.tup []), (.tup []), (.tup []), (.tup []), (.tup []), (.tup []), (.tup []), (.tup []), (.tup []), (.tup []), (.tup []), (.tup []), (.tup []), (.tup []), (.tup []), (.tup []), (.tup []), (.tup []), (.tup []), (.tup [])] H (kk none (fun s H => retK (([2] : List Nat).map fun t => s.getD t (.tup [])) H) [] retK [2]) = L26 ρ call yc lim k x0 H := by
  kernel_rfl
theorem E26 (ρ : Addr → Option Value) (k lim : Nat) (x0 : AV) (H : Heap) : evCall (cx ρ) (k + 1) lim 26 [x0] H = L26 ρ (evCall (cx ρ) k) (evCY (cx ρ) k).2 lim k x0 H := by
  rw [evCall_body (cx ρ) k lim 26 _ H Try.f26 c26 [2] (by kernel_rfl) (by kernel_rfl) (by kernel_rfl) (by kernel_rfl) (by kernel_rfl)]
  exact G26 ρ (evCall (cx ρ) k) (evCY (cx ρ) k).2 lim k x0 H
-- haycroft/haycroftref32.Right
noncomputable def c27 : Code := Code.of Try.prog 27
noncomputable def N27_1 (ρ : Addr → Option Value) (call : CallF) (yc : YieldF) (lim k : Nat) (x1 x3 : AV) (H : Heap) (R : List AV → Heap → Res) : Res :=
  purK (binA Try.prog H .gtr 3 x3 (.int .i64 0)) fun x28_1 =>
  purK (gPur (wantV x28_1 true) (addA 1 x1)) fun x30_1 =>
  purK (gPur (wantV x28_1 true) (ld1 ρ H x30_1)) fun x31_1 =>
  purK (gPur (wantV x28_1 true) (binA Try.prog H .geq 3 x31_1 (.int .i64 1))) fun x32_1 =>
  purK (pickA x28_1 x32_1 (.bool false)) fun x33_1 =>
  purK (gPur (wantV x33_1 true) (addA 1 x1)) fun x35_1 =>
  purK (gPur (wantV x33_1 true) (ld1 ρ H x35_1)) fun x36_1 =>
  purK (gPur (wantV x33_1 true) (binA Try.prog H .leq 3 x36_1 (.int .i64 8))) fun x37_1 =>
  purK (pickA x33_1 x37_1 (.bool false)) fun x38_1 =>
  purK (gPur (wantV x38_1 true) (addA 2 x1)) fun x40_1 =>
  purK (gPur (wantV x38_1 true) (ld1 ρ H x40_1)) fun x41_1 =>
  purK (gPur (wantV x38_1 true) (binA Try.prog H .geq 3 x41_1 (.int .i64 1))) fun x42_1 =>
  purK (pickA x38_1 x42_1 (.bool false)) fun x43_1 =>
  purK (gPur (wantV x43_1 true) (addA 2 x1)) fun x45_1 =>
  purK (gPur (wantV x43_1 true) (ld1 ρ H x45_1)) fun x46_1 =>
  purK (gPur (wantV x43_1 true) (binA Try.prog H .leq 3 x46_1 (.int .i64 26))) fun x47_1 =>
  purK (pickA x43_1 x47_1 (.bool false)) fun x48_1 =>
  R [x48_1] H
theorem N27_1_eq (ρ : Addr → Option Value) (call : CallF) (yc : YieldF) (lim k : Nat) (x1 x3 : AV) (H : Heap) (R : List AV → Heap → Res) :
    evL (cx ρ) call yc false 27 lim k (Code.at [1, 1, 1] c27) (sp 49 [(1, x1), (3, x3)]) H (kk none (fun s H => R (([2] : List Nat).map fun t => s.getD t (.tup [])) H) [] R [2]) = N27_1 ρ call yc lim k x1 x3 H R := by
  kernel_rfl
noncomputable def N27_3b (ρ : Addr → Option Value) (call : CallF) (yc : YieldF) (lim k : Nat) (x1 x3 x4 : AV) (H : Heap) (kn : AV → AV → Heap → Res) (k0 : AV → AV → Heap → Res) (R : List AV → Heap → Res) : Res :=
  purK (binA Try.prog H .lss 3 x4 (.int .i64 10)) fun x6_1 =>
  condK x6_1
  (
    purK (addA 3 x1) fun x10_1 =>
    purK (ixR 1 10 x10_1 x4) fun x11_1 =>
    purK (ld1 ρ H x11_1) fun x12_1 =>
    purK (binA Try.prog H .lss 3 x12_1 (.int .i64 0)) fun x13_1 =>
    purK (gPur (wantV x13_1 false) (some x4)) fun x15_1 =>
    purK (gPur (wantV x13_1 false) (addA 3 x1)) fun x16_1 =>
    purK (gPur (wantV x13_1 false) (ixR 1 10 x16_1 x15_1)) fun x17_1 =>
    purK (gPur (wantV x13_1 false) (ld1 ρ H x17_1)) fun x18_1 =>
    purK (gPur (wantV x13_1 false) (binA Try.prog H .gtr 3 x18_1 (.int .i64 1000))) fun x19_1 =>
    purK (pickA x13_1 (.bool true) x19_1) fun x20_1 =>
    condK x20_1
    (
      R [(.bool false)] H)
    (
      purK (addA 3 x1) fun x23_1 =>
      purK (ixR 1 10 x23_1 x4) fun x24_1 =>
      purK (ld1 ρ H x24_1) fun x25_1 =>
      purK (binA Try.prog H .add 3 x3 x25_1) fun x26_1 =>
      purK (binA Try.prog H .add 3 x4 (.int .i64 1)) fun x8_1 =>
      kn x26_1 x8_1 H))
  (
    k0 x1 x3 H)
theorem N27_3b_eq (ρ : Addr → Option Value) (call : CallF) (yc : YieldF) (lim k : Nat) (x1 x3 x4 : AV) (H : Heap) (kn : KS) (k0 : KS) (R : List AV → Heap → Res) :
    evL (cx ρ) call yc false 27 lim k (Code.at [1, 1, 0, 1, 0, 0] c27) (sp 49 [(1, x1), (3, x3), (4, x4)]) H (kk (some [1, 3, 4]) kn [(0, (some [1, 3]), k0)] R [2]) = N27_3b ρ call yc lim k x1 x3 x4 H (fun x3 x4 H => kn (sp 49 [(1, x1), (3, x3), (4, x4)]) H) (fun x1 x3 H => k0 (sp 49 [(1, x1), (3, x3)]) H) R := by
  kernel_rfl
noncomputable def N27_3 (ρ : Addr → Option Value) (call : CallF) (yc : YieldF) (lim k : Nat) (x1 x3 x4 : AV) (H : Heap) (k0 : AV → AV → Heap → Res) (R : List AV → Heap → Res) : Res :=
  loopL (fun (x : AV × AV) H kn => N27_3b ρ call yc lim k x1 x.1 x.2 H (fun x3 x4 H => kn (x3, x4) H) k0 R) k (x3, x4) H
theorem N27_3_eq (ρ : Addr → Option Value) (call : CallF) (yc : YieldF) (lim k : Nat) (x1 x3 x4 : AV) (H : Heap) (kn : KS) (k0 : KS) (R : List AV → Heap → Res) :
    evL (cx ρ) call yc false 27 lim k (Code.at [1, 1, 0, 1, 0] c27) (sp 49 [(1, x1), (3, x3), (4, x4)]) H (kk (some [1, 3]) kn [(0, (some [1, 3]), k0)] R [2]) = N27_3 ρ call yc lim k x1 x3 x4 H (fun x1 x3 H => k0 (sp 49 [(1, x1), (3, x3)]) H) R := by
  have e : Code.at [1, 1, 0, 1, 0] c27 = .loop (Code.at [1, 1, 0, 1, 0, 0] c27) := by kernel_rfl
  rw [e]
  unfold N27_3
  exact loop_node [1, 3, 4] (fun x : AV × AV => (sp 49 [(1, x1), (3, (x.1)), (4, (x.2))])) (fun (x : AV × AV) H kn => N27_3b ρ call yc lim k x1 x.1 x.2 H (fun x3 x4 H => kn (x3, x4) H) (fun x1 x3 H => k0 (sp 49 [(1, x1), (3, x3)]) H) R) (by kernel_rfl) (fun x => by kernel_rfl) (fun x H kn => N27_3b_eq ρ call yc lim k x1 (x.1) (x.2) H kn k0 R) (x3, x4) (sp 49 [(1, x1), (3, x3), (4, x4)]) H (by kernel_rfl)
noncomputable def N27_2 (ρ : Addr → Option Value) (call : CallF) (yc : YieldF) (lim k : Nat) (x1 x3 x4 : AV) (H : Heap) (kn : AV → AV → Heap → Res) (R : List AV → Heap → Res) : Res :=
  N27_3 ρ call yc lim k x1 x3 x4 H kn R
theorem N27_2_x (ρ : Addr → Option Value) (call : CallF) (yc : YieldF) (lim k : Nat) (J : CodeF) (x1 x3 x4 : AV) (H : Heap) (kn : KS) (R : List AV → Heap → Res) :
    evX (cx ρ) call yc false 27 lim k J (Code.at [1, 1, 0, 1] c27) (sp 49 [(1, x1), (3, x3), (4, x4)]) H (kk (some [1, 3]) kn [] R [2]) =
  J (Code.at [1, 1, 0, 1, 0] c27) (sp 49 [(1, x1), (3, x3), (4, x4)]) H (kk (some [1, 3]) kn [(0, (some [1, 3]), kn)] R [2]) := by
  kernel_rfl
theorem N27_2_eq (ρ : Addr → Option Value) (call : CallF) (yc : YieldF) (lim k : Nat) (x1 x3 x4 : AV) (H : Heap) (kn : KS) (R : List AV → Heap → Res) :
    evL (cx ρ) call yc false 27 lim k (Code.at [1, 1, 0, 1] c27) (sp 49 [(1, x1), (3, x3), (4, x4)]) H (kk (some [1, 3]) kn [] R [2]) = N27_2 ρ call yc lim k x1 x3 x4 H (fun x1 x3 H => kn (sp 49 [(1, x1), (3, x3)]) H) R := by
  rw [evL_X, N27_2_x]
  simp only [← evL_X, N27_2, N27_3_eq]
noncomputable def L27 (ρ : Addr → Option Value) (call : CallF) (yc : YieldF) (lim k : Nat) (x0 : AV) (H : Heap) : Res :=
  effK H (boxA H 46 x0) fun x1 H =>
  N27_2 ρ call yc lim k x1 (.int .i64 0) (.int .i64 0) H (fun x1_1 x3 H =>
    N27_1 ρ call yc lim k x1_1 x3 H retK) retK
theorem L27_x (ρ : Addr → Option Value) (call : CallF) (yc : YieldF) (lim k : Nat) (J : CodeF) (x0 : AV) (H : Heap) :
    evX (cx ρ) call yc false 27 lim k J c27 [x0, (.tup []), (.tup []), (.tup []), (.tup []), (.tup []), (.tup []), (.tup []), (.tup []), (.tup []), (.tup []), (.tup []), (.tup []), (.tup []), (.tup []), (.tup []), (.tup []), (.tup []), (.tup []), (.tup []), (.tup []), (.tup []), (.tup []), (.tup []), (.tup []), (.tup []), (.tup []), (.tup []), (.tup []), (.tup []), (.tup []), (.tup []), (.tup []), (.tup []), (.tup []), (.tup []), (.tup []), (.tup []), (.tup []), (.tup []), (.tup []), (.tup []), (.tup []), (.tup []), (.tup []), (.tup []), (.tup []), (.tup []), (.tup [])] H (kk none (fun s H => retK (([2] : List Nat).map fun t => s.getD t (.tup [])) H) [] retK [2]) =
  effK H (boxA H 46 x0) fun x1 H =>
  J (Code.at [1, 1, 0, 1] c27) (sp 49 [(1, x1), (3, (.int .i64 0)), (4, (.int .i64 0))]) H (kk (some [1, 3]) (fun s H => J (Code.at [1, 1, 1] c27) s H (kk none (fun s H => retK (([2] : List Nat).map fun t => s.getD t (.tup [])) H) [] retK [2])) [] retK [2]) := by
  kernel_rfl
theorem G27 (ρ : Addr → Option Value) (call : CallF) (yc : YieldF) (lim k : Nat) (x0 : AV) (H : Heap) :
    evL (cx ρ) call yc false 27 lim k c27 [x0, (.tup []), (.tup []), (.tup []), (.tup []), (.tup []), (.tup []), (.tup []), (.tup []), (.tup []), (.tup []), (.tup []), (.tup []), (.tup []), (.tup []), (.tup []), (.tup []), (.tup []), (.tup []), (.tup []), (.tup []), (.tup []), (.tup []), (.tup []), (.tup []), (.tup []), (.tup []), (.tup []), (.tup []), (.tup []), (.tup []), (.tup []), (.tup []), (.tup []), (.tup []), (.tup []), (.tup []), (.tup []), (.tup []), (.tup []), (.tup []), (.tup []), (.tup []), (.tup []), (.tup []), (.tup []), (.tup []), (.tup []), (.tup [])] H (kk none (fun s H => retK (([2] : List Nat).map fun t => s.getD t (.tup [])) H) [] retK [2]) = L27 ρ call yc lim k x0 H := by
  rw [evL_X, L27_x]
  simp only [← evL_X, L27, N27_1_eq, N27_2_eq]
theorem E27 (ρ : Addr → Option Value) (k lim : Nat) (x0 : AV) (H : Heap) : evCall (cx ρ) (k + 1) lim 27 [x0] H = L27 ρ (evCall (cx ρ) k) (evCY (cx ρ) k).2 lim k x0 H := by
  rw [evCall_body (cx ρ) k lim 27 _ H Try.f27 c27 [2] (by kernel_rfl) (by kernel_rfl) (by kernel_rfl) (by kernel_rfl) (by kernel_rfl)]
  exact G27 ρ (evCall (cx ρ) k) (evCY (cx ρ) k).2 lim k x0 H
end Go.Proofs.Ytcjicmabhejllaa

-- part Pn2
/- Functions, lifted. Printed by a program of this repo. -/
set_option linter.unusedVariables false
set_option linter.unusedSimpArgs false
set_option maxRecDepth 100000
set_option maxHeartbeats 4000000
namespace Go.Proofs.Ytcjicmabhejllaa
open Go.Ev Go.RowKit
-- (*haycroft/haycroftref32.Dice).Step
noncomputable def c28 : Code := Code.of Try.prog 28
noncomputable def N28_7 (ρ : Addr → Option Value) (call : CallF) (yc : YieldF) (lim k : Nat) (x4 x8 : AV) (H : Heap) (R : List AV → Heap → Res) : Res :=
  purK (ldN ρ H 8 x8) fun x141_1 =>
  effK H (stA lim H 8 x4 x141_1) fun _ H =>
  R [x4] H
theorem N28_7_eq (ρ : Addr → Option Value) (call : CallF) (yc : YieldF) (lim k : Nat) (x4 x8 : AV) (H : Heap) (R : List AV → Heap → Res) :
    evL (cx ρ) call yc false 28 lim k (Code.at [1, 1, 1, 1, 1, 1, 1, 1, 1, 1, 1, 1, 1] c28) (sp 142 [(4, x4), (8, x8)]) H (kk none (fun s H => R (([4] : List Nat).map fun t => s.getD t (.tup [])) H) [] R [4]) = N28_7 ρ call yc lim k x4 x8 H R := by
  kernel_rfl
noncomputable def N28_9b (ρ : Addr → Option Value) (call : CallF) (yc : YieldF) (lim k : Nat) (x0 x4 x8 x15 : AV) (H : Heap) (kn : AV → Heap → Res) (k6 : AV → AV → Heap → Res) : Res :=
  purK (binA Try.prog H .gtr 3 x15 (.int .i64 0)) fun x131_1 =>
  condK x131_1
  (
    purK (addA 7 x8) fun x134_1 =>
    purK (ld1 ρ H x134_1) fun x135_1 =>
    resK (call lim 39 [x0, (.int .i64 50)] H) fun x137_1 H => bif (agn (ld1 ρ H x134_1) x135_1 && true) then
      mkK H (bldS H 3 1 [.int .i64 0] 1 [(0, 1, x137_1)]) true fun x138_1 H => bif (agn (ld1 ρ H x134_1) x135_1 && true) then
        effK H (apA ρ lim H 3 1 8 x135_1 x138_1) fun x139_1 H =>
        purK (addA 7 x8) fun x140_1 =>
        effK H (stA lim H 1 x140_1 x139_1) fun _ H =>
        purK (binA Try.prog H .sub 3 x15 (.int .i64 1)) fun x133_1 =>
        kn x133_1 H
      else none
    else none)
  (
    k6 x4 x8 H)
theorem N28_9b_eq (ρ : Addr → Option Value) (call : CallF) (yc : YieldF) (lim k : Nat) (x0 x4 x8 x15 : AV) (H : Heap) (kn : KS) (k6 : KS) (R : List AV → Heap → Res) :
    evL (cx ρ) call yc false 28 lim k (Code.at [1, 1, 1, 1, 1, 1, 1, 1, 1, 1, 1, 1, 0, 1, 0, 1, 0, 0] c28) (sp 142 [(0, x0), (4, x4), (8, x8), (15, x15)]) H (kk (some [0, 4, 8, 15]) kn [(6, (some [4, 8]), k6)] R [4]) = N28_9b ρ call yc lim k x0 x4 x8 x15 H (fun x15 H => kn (sp 142 [(0, x0), (4, x4), (8, x8), (15, x15)]) H) (fun x4 x8 H => k6 (sp 142 [(4, x4), (8, x8)]) H) := by
  kernel_rfl
noncomputable def N28_9 (ρ : Addr → Option Value) (call : CallF) (yc : YieldF) (lim k : Nat) (x0 x4 x8 x15 : AV) (H : Heap) (k6 : AV → AV → Heap → Res) : Res :=
  loopL (fun (x : AV) H kn => N28_9b ρ call yc lim k x0 x4 x8 x H (fun x15 H => kn x15 H) k6) k x15 H
theorem N28_9_eq (ρ : Addr → Option Value) (call : CallF) (yc : YieldF) (lim k : Nat) (x0 x4 x8 x15 : AV) (H : Heap) (kn : KS) (k6 : KS) (R : List AV → Heap → Res) :
    evL (cx ρ) call yc false 28 lim k (Code.at [1, 1, 1, 1, 1, 1, 1, 1, 1, 1, 1, 1, 0, 1, 0, 1, 0] c28) (sp 142 [(0, x0), (4, x4), (8, x8), (15, x15)]) H (kk (some [4, 8]) kn [(6, (some [4, 8]), k6)] R [4]) = N28_9 ρ call yc lim k x0 x4 x8 x15 H (fun x4 x8 H => k6 (sp 142 [(4, x4), (8, x8)]) H) := by
  have e : Code.at [1, 1, 1, 1, 1, 1, 1, 1, 1, 1, 1, 1, 0, 1, 0, 1, 0] c28 = .loop (Code.at [1, 1, 1, 1, 1, 1, 1, 1, 1, 1, 1, 1, 0, 1, 0, 1, 0, 0] c28) := by kernel_rfl
  rw [e]
  unfold N28_9
  exact loop_node [0, 4, 8, 15] (fun x : AV => (sp 142 [(0, x0), (4, x4), (8, x8), (15, (x))])) (fun (x : AV) H kn => N28_9b ρ call yc lim k x0 x4 x8 x H (fun x15 H => kn x15 H) (fun x4 x8 H => k6 (sp 142 [(4, x4), (8, x8)]) H)) (by kernel_rfl) (fun x => by kernel_rfl) (fun x H kn => N28_9b_eq ρ call yc lim k x0 x4 x8 (x) H kn k6 R) x15 (sp 142 [(0, x0), (4, x4), (8, x8), (15, x15)]) H (by kernel_rfl)
noncomputable def N28_8 (ρ : Addr → Option Value) (call : CallF) (yc : YieldF) (lim k : Nat) (x0 x4 x8 x15 : AV) (H : Heap) (kn : AV → AV → Heap → Res) : Res :=
  N28_9 ρ call yc lim k x0 x4 x8 x15 H kn
theorem N28_8_x (ρ : Addr → Option Value) (call : CallF) (yc : YieldF) (lim k : Nat) (J : CodeF) (x0 x4 x8 x15 : AV) (H : Heap) (kn : KS) (R : List AV → Heap → Res) :
    evX (cx ρ) call yc false 28 lim k J (Code.at [1, 1, 1, 1, 1, 1, 1, 1, 1, 1, 1, 1, 0, 1, 0, 1] c28) (sp 142 [(0, x0), (4, x4), (8, x8), (15, x15)]) H (kk (some [4, 8]) kn [] R [4]) =
  J (Code.at [1, 1, 1, 1, 1, 1, 1, 1, 1, 1, 1, 1, 0, 1, 0, 1, 0] c28) (sp 142 [(0, x0), (4, x4), (8, x8), (15, x15)]) H (kk (some [4, 8]) kn [(6, (some [4, 8]), kn)] R [4]) := by
  kernel_rfl
theorem N28_8_eq (ρ : Addr → Option Value) (call : CallF) (yc : YieldF) (lim k : Nat) (x0 x4 x8 x15 : AV) (H : Heap) (kn : KS) (R : List AV → Heap → Res) :
    evL (cx ρ) call yc false 28 lim k (Code.at [1, 1, 1, 1, 1, 1, 1, 1, 1, 1, 1, 1, 0, 1, 0, 1] c28) (sp 142 [(0, x0), (4, x4), (8, x8), (15, x15)]) H (kk (some [4, 8]) kn [] R [4]) = N28_8 ρ call yc lim k x0 x4 x8 x15 H (fun x4 x8 H => kn (sp 142 [(4, x4), (8, x8)]) H) := by
  rw [evL_X, N28_8_x]
  simp only [← evL_X, N28_8, N28_9_eq]
noncomputable def N28_6 (ρ : Addr → Option Value) (call : CallF) (yc : YieldF) (lim k : Nat) (x0 x4 x8 : AV) (H : Heap) (R : List AV → Heap → Res) : Res :=
  purK (addA 0 x8) fun x125_1 =>
  purK (ld1 ρ H x125_1) fun x126_1 =>
  purK (binA Try.prog H .eql 3 x126_1 (.int .i64 9)) fun x127_1 =>
  condK x127_1
  (
    resK (call lim 39 [x0, (.int .i64 4)] H) fun x129_1 H =>
    N28_8 ρ call yc lim k x0 x4 x8 x129_1 H (fun x4_1 x8_1 H =>
      N28_7 ρ call yc lim k x4_1 x8_1 H R))
  (
    N28_7 ρ call yc lim k x4 x8 H R)
theorem N28_6_x (ρ : Addr → Option Value) (call : CallF) (yc : YieldF) (lim k : Nat) (J : CodeF) (x0 x4 x8 : AV) (H : Heap) (R : List AV → Heap → Res) :
    evX (cx ρ) call yc false 28 lim k J (Code.at [1, 1, 1, 1, 1, 1, 1, 1, 1, 1, 1, 1] c28) (sp 142 [(0, x0), (4, x4), (8, x8)]) H (kk none (fun s H => R (([4] : List Nat).map fun t => s.getD t (.tup [])) H) [] R [4]) =
  purK (addA 0 x8) fun x125_1 =>
  purK (ld1 ρ H x125_1) fun x126_1 =>
  purK (binA Try.prog H .eql 3 x126_1 (.int .i64 9)) fun x127_1 =>
  condK x127_1
  (
    resK (call lim 39 [x0, (.int .i64 4)] H) fun x129_1 H =>
    J (Code.at [1, 1, 1, 1, 1, 1, 1, 1, 1, 1, 1, 1, 0, 1, 0, 1] c28) (sp 142 [(0, x0), (4, x4), (8, x8), (15, x129_1)]) H (kk (some [4, 8]) (fun s H => J (Code.at [1, 1, 1, 1, 1, 1, 1, 1, 1, 1, 1, 1, 1] c28) s H (kk none (fun s H => R (([4] : List Nat).map fun t => s.getD t (.tup [])) H) [] R [4])) [] R [4]))
  (
    J (Code.at [1, 1, 1, 1, 1, 1, 1, 1, 1, 1, 1, 1, 1] c28) (sp 142 [(4, x4), (8, x8)]) H (kk none (fun s H => R (([4] : List Nat).map fun t => s.getD t (.tup [])) H) [] R [4])) := by
  kernel_rfl
theorem N28_6_eq (ρ : Addr → Option Value) (call : CallF) (yc : YieldF) (lim k : Nat) (x0 x4 x8 : AV) (H : Heap) (R : List AV → Heap → Res) :
    evL (cx ρ) call yc false 28 lim k (Code.at [1, 1, 1, 1, 1, 1, 1, 1, 1, 1, 1, 1] c28) (sp 142 [(0, x0), (4, x4), (8, x8)]) H (kk none (fun s H => R (([4] : List Nat).map fun t => s.getD t (.tup [])) H) [] R [4]) = N28_6 ρ call yc lim k x0 x4 x8 H R := by
  rw [evL_X, N28_6_x]
  simp only [← evL_X, N28_6, N28_7_eq, N28_8_eq]
noncomputable def N28_5 (ρ : Addr → Option Value) (call : CallF) (yc : YieldF) (lim k : Nat) (x0 x4 x8 : AV) (H : Heap) (R : List AV → Heap → Res) : Res :=
  purK (addA 0 x8) fun x114_1 =>
  purK (ld1 ρ H x114_1) fun x115_1 =>
  purK (binA Try.prog H .geq 3 x115_1 (.int .i64 5)) fun x116_1 =>
  purK (gPur (wantV x116_1 true) (addA 0 x8)) fun x118_1 =>
  purK (gPur (wantV x116_1 true) (ld1 ρ H x118_1)) fun x119_1 =>
  purK (gPur (wantV x116_1 true) (binA Try.prog H .leq 3 x119_1 (.int .i64 7))) fun x120_1 =>
  purK (pickA x116_1 x120_1 (.bool false)) fun x121_1 =>
  condK x121_1
  (
    resK (call lim 39 [x0, (.int .i64 8)] H) fun x123_1 H =>
    purK (addA 2 x8) fun x124_1 =>
    effK H (stA lim H 1 x124_1 x123_1) fun _ H =>
    N28_6 ρ call yc lim k x0 x4 x8 H R)
  (
    N28_6 ρ call yc lim k x0 x4 x8 H R)
theorem N28_5_x (ρ : Addr → Option Value) (call : CallF) (yc : YieldF) (lim k : Nat) (J : CodeF) (x0 x4 x8 : AV) (H : Heap) (R : List AV → Heap → Res) :
    evX (cx ρ) call yc false 28 lim k J (Code.at [1, 1, 1, 1, 1, 1, 1, 1, 1, 1, 1] c28) (sp 142 [(0, x0), (4, x4), (8, x8)]) H (kk none (fun s H => R (([4] : List Nat).map fun t => s.getD t (.tup [])) H) [] R [4]) =
  purK (addA 0 x8) fun x114_1 =>
  purK (ld1 ρ H x114_1) fun x115_1 =>
  purK (binA Try.prog H .geq 3 x115_1 (.int .i64 5)) fun x116_1 =>
  purK (gPur (wantV x116_1 true) (addA 0 x8)) fun x118_1 =>
  purK (gPur (wantV x116_1 true) (ld1 ρ H x118_1)) fun x119_1 =>
  purK (gPur (wantV x116_1 true) (binA Try.prog H .leq 3 x119_1 (.int .i64 7))) fun x120_1 =>
  purK (pickA x116_1 x120_1 (.bool false)) fun x121_1 =>
  condK x121_1
  (
    resK (call lim 39 [x0, (.int .i64 8)] H) fun x123_1 H =>
    purK (addA 2 x8) fun x124_1 =>
    effK H (stA lim H 1 x124_1 x123_1) fun _ H =>
    J (Code.at [1, 1, 1, 1, 1, 1, 1, 1, 1, 1, 1, 1] c28) (sp 142 [(0, x0), (4, x4), (8, x8)]) H (kk none (fun s H => R (([4] : List Nat).map fun t => s.getD t (.tup [])) H) [] R [4]))
  (
    J (Code.at [1, 1, 1, 1, 1, 1, 1, 1, 1, 1, 1, 1] c28) (sp 142 [(0, x0), (4, x4), (8, x8)]) H (kk none (fun s H => R (([4] : List Nat).map fun t => s.getD t (.tup [])) H) [] R [4])) := by
  kernel_rfl
theorem N28_5_eq (ρ : Addr → Option Value) (call : CallF) (yc : YieldF) (lim k : Nat) (x0 x4 x8 : AV) (H : Heap) (R : List AV → Heap → Res) :
    evL (cx ρ) call yc false 28 lim k (Code.at [1, 1, 1, 1, 1, 1, 1, 1, 1, 1, 1] c28) (sp 142 [(0, x0), (4, x4), (8, x8)]) H (kk none (fun s H => R (([4] : List Nat).map fun t => s.getD t (.tup [])) H) [] R [4]) = N28_5 ρ call yc lim k x0 x4 x8 H R := by
  rw [evL_X, N28_5_x]
  simp only [← evL_X, N28_5, N28_6_eq]
noncomputable def N28_4 (ρ : Addr → Option Value) (call : CallF) (yc : YieldF) (lim k : Nat) (x0 x4 x8 : AV) (H : Heap) (R : List AV → Heap → Res) : Res :=
  purK (addA 0 x8) fun x107_1 =>
  purK (ld1 ρ H x107_1) fun x108_1 =>
  purK (binA Try.prog H .eql 3 x108_1 (.int .i64 4)) fun x109_1 =>
  condK x109_1
  (
    resK (call lim 39 [x0, (.int .i64 16)] H) fun x111_1 H =>
    purK (binA Try.prog H .add 3 (.int .i64 1) x111_1) fun x112_1 =>
    purK (addA 2 x8) fun x113_1 =>
    effK H (stA lim H 1 x113_1 x112_1) fun _ H =>
    N28_5 ρ call yc lim k x0 x4 x8 H R)
  (
    N28_5 ρ call yc lim k x0 x4 x8 H R)
theorem N28_4_x (ρ : Addr → Option Value) (call : CallF) (yc : YieldF) (lim k : Nat) (J : CodeF) (x0 x4 x8 : AV) (H : Heap) (R : List AV → Heap → Res) :
    evX (cx ρ) call yc false 28 lim k J (Code.at [1, 1, 1, 1, 1, 1, 1, 1, 1, 1] c28) (sp 142 [(0, x0), (4, x4), (8, x8)]) H (kk none (fun s H => R (([4] : List Nat).map fun t => s.getD t (.tup [])) H) [] R [4]) =
  purK (addA 0 x8) fun x107_1 =>
  purK (ld1 ρ H x107_1) fun x108_1 =>
  purK (binA Try.prog H .eql 3 x108_1 (.int .i64 4)) fun x109_1 =>
  condK x109_1
  (
    resK (call lim 39 [x0, (.int .i64 16)] H) fun x111_1 H =>
    purK (binA Try.prog H .add 3 (.int .i64 1) x111_1) fun x112_1 =>
    purK (addA 2 x8) fun x113_1 =>
    effK H (stA lim H 1 x113_1 x112_1) fun _ H =>
    J (Code.at [1, 1, 1, 1, 1, 1, 1, 1, 1, 1, 1] c28) (sp 142 [(0, x0), (4, x4), (8, x8)]) H (kk none (fun s H => R (([4] : List Nat).map fun t => s.getD t (.tup [])) H) [] R [4]))
  (
    J (Code.at [1, 1, 1, 1, 1, 1, 1, 1, 1, 1, 1] c28) (sp 142 [(0, x0), (4, x4), (8, x8)]) H (kk none (fun s H => R (([4] : List Nat).map fun t => s.getD t (.tup [])) H) [] R [4])) := by
  kernel_rfl
theorem N28_4_eq (ρ : Addr → Option Value) (call : CallF) (yc : YieldF) (lim k : Nat) (x0 x4 x8 : AV) (H : Heap) (R : List AV → Heap → Res) :
    evL (cx ρ) call yc false 28 lim k (Code.at [1, 1, 1, 1, 1, 1, 1, 1, 1, 1] c28) (sp 142 [(0, x0), (4, x4), (8, x8)]) H (kk none (fun s H => R (([4] : List Nat).map fun t => s.getD t (.tup [])) H) [] R [4]) = N28_4 ρ call yc lim k x0 x4 x8 H R := by
  rw [evL_X, N28_4_x]
  simp only [← evL_X, N28_4, N28_5_eq]
noncomputable def N28_11 (ρ : Addr → Option Value) (call : CallF) (yc : YieldF) (lim k : Nat) (x0 x4 x8 : AV) (H : Heap) (kn : AV → AV → AV → Heap → Res) : Res :=
  purK (addA 3 x8) fun x98_1 =>
  purK (addA 0 x98_1) fun x99_1 =>
  purK (ld1 ρ H x99_1) fun x100_1 =>
  purK (binA Try.prog H .eql 3 x100_1 (.int .i64 3)) fun x101_1 =>
  condK x101_1
  (
    resK (call lim 39 [x0, (.int .i64 100)] H) fun x103_1 H =>
    purK (cvI .u64 x103_1) fun x104_1 =>
    purK (addA 3 x8) fun x105_1 =>
    purK (addA 3 x105_1) fun x106_1 =>
    effK H (stA lim H 1 x106_1 x104_1) fun _ H =>
    kn x0 x4 x8 H)
  (
    kn x0 x4 x8 H)
theorem N28_11_eq (ρ : Addr → Option Value) (call : CallF) (yc : YieldF) (lim k : Nat) (x0 x4 x8 : AV) (H : Heap) (kn : KS) (R : List AV → Heap → Res) :
    evL (cx ρ) call yc false 28 lim k (Code.at [1, 1, 1, 1, 1, 1, 1, 1, 1, 0, 1, 0, 1, 1, 1, 1] c28) (sp 142 [(0, x0), (4, x4), (8, x8)]) H (kk (some [0, 4, 8]) kn [] R [4]) = N28_11 ρ call yc lim k x0 x4 x8 H (fun x0 x4 x8 H => kn (sp 142 [(0, x0), (4, x4), (8, x8)]) H) := by
  kernel_rfl
noncomputable def N28_12 (ρ : Addr → Option Value) (call : CallF) (yc : YieldF) (lim k : Nat) (x0 x4 x8 x13 : AV) (H : Heap) (kn : AV → AV → AV → Heap → Res) : Res :=
  purK (b2s ρ H x13) fun x95_1 =>
  purK (addA 3 x8) fun x96_1 =>
  purK (addA 2 x96_1) fun x97_1 =>
  effK H (stA lim H 1 x97_1 x95_1) fun _ H =>
  kn x0 x4 x8 H
theorem N28_12_eq (ρ : Addr → Option Value) (call : CallF) (yc : YieldF) (lim k : Nat) (x0 x4 x8 x13 : AV) (H : Heap) (kn : KS) (R : List AV → Heap → Res) :
    evL (cx ρ) call yc false 28 lim k (Code.at [1, 1, 1, 1, 1, 1, 1, 1, 1, 0, 1, 0, 1, 1, 1, 0, 1, 0, 1, 1] c28) (sp 142 [(0, x0), (4, x4), (8, x8), (13, x13)]) H (kk (some [0, 4, 8]) kn [] R [4]) = N28_12 ρ call yc lim k x0 x4 x8 x13 H (fun x0 x4 x8 H => kn (sp 142 [(0, x0), (4, x4), (8, x8)]) H) := by
  kernel_rfl
noncomputable def N28_14b (ρ : Addr → Option Value) (call : CallF) (yc : YieldF) (lim k : Nat) (x0 x4 x8 x12 x13 x14 : AV) (H : Heap) (kn : AV → AV → Heap → Res) (k4 : AV → AV → AV → AV → Heap → Res) : Res :=
  purK (binA Try.prog H .gtr 3 x14 (.int .i64 0)) fun x87_1 =>
  condK x87_1
  (
    effK H (bldS H 5 1 [.int .u8 0] 1 [(0, 1, x12)]) fun x92_1 H =>
    effK H (apA ρ lim H 5 1 1 x13 x92_1) fun x93_1 H =>
    purK (binA Try.prog H .sub 3 x14 (.int .i64 1)) fun x89_1 =>
    kn x93_1 x89_1 H)
  (
    k4 x0 x4 x8 x13 H)
theorem N28_14b_eq (ρ : Addr → Option Value) (call : CallF) (yc : YieldF) (lim k : Nat) (x0 x4 x8 x12 x13 x14 : AV) (H : Heap) (kn : KS) (k4 : KS) (R : List AV → Heap → Res) :
    evL (cx ρ) call yc false 28 lim k (Code.at [1, 1, 1, 1, 1, 1, 1, 1, 1, 0, 1, 0, 1, 1, 1, 0, 1, 0, 1, 0, 1, 0, 0] c28) (sp 142 [(0, x0), (4, x4), (8, x8), (12, x12), (13, x13), (14, x14)]) H (kk (some [0, 4, 8, 12, 13, 14]) kn [(4, (some [0, 4, 8, 13]), k4)] R [4]) = N28_14b ρ call yc lim k x0 x4 x8 x12 x13 x14 H (fun x13 x14 H => kn (sp 142 [(0, x0), (4, x4), (8, x8), (12, x12), (13, x13), (14, x14)]) H) (fun x0 x4 x8 x13 H => k4 (sp 142 [(0, x0), (4, x4), (8, x8), (13, x13)]) H) := by
  kernel_rfl
noncomputable def N28_14 (ρ : Addr → Option Value) (call : CallF) (yc : YieldF) (lim k : Nat) (x0 x4 x8 x12 x13 x14 : AV) (H : Heap) (k4 : AV → AV → AV → AV → Heap → Res) : Res :=
  loopL (fun (x : AV × AV) H kn => N28_14b ρ call yc lim k x0 x4 x8 x12 x.1 x.2 H (fun x13 x14 H => kn (x13, x14) H) k4) k (x13, x14) H
theorem N28_14_eq (ρ : Addr → Option Value) (call : CallF) (yc : YieldF) (lim k : Nat) (x0 x4 x8 x12 x13 x14 : AV) (H : Heap) (kn : KS) (k4 : KS) (R : List AV → Heap → Res) :
    evL (cx ρ) call yc false 28 lim k (Code.at [1, 1, 1, 1, 1, 1, 1, 1, 1, 0, 1, 0, 1, 1, 1, 0, 1, 0, 1, 0, 1, 0] c28) (sp 142 [(0, x0), (4, x4), (8, x8), (12, x12), (13, x13), (14, x14)]) H (kk (some [0, 4, 8, 13]) kn [(4, (some [0, 4, 8, 13]), k4)] R [4]) = N28_14 ρ call yc lim k x0 x4 x8 x12 x13 x14 H (fun x0 x4 x8 x13 H => k4 (sp 142 [(0, x0), (4, x4), (8, x8), (13, x13)]) H) := by
  have e : Code.at [1, 1, 1, 1, 1, 1, 1, 1, 1, 0, 1, 0, 1, 1, 1, 0, 1, 0, 1, 0, 1, 0] c28 = .loop (Code.at [1, 1, 1, 1, 1, 1, 1, 1, 1, 0, 1, 0, 1, 1, 1, 0, 1, 0, 1, 0, 1, 0, 0] c28) := by kernel_rfl
  rw [e]
  unfold N28_14
  exact loop_node [0, 4, 8, 12, 13, 14] (fun x : AV × AV => (sp 142 [(0, x0), (4, x4), (8, x8), (12, x12), (13, (x.1)), (14, (x.2))])) (fun (x : AV × AV) H kn => N28_14b ρ call yc lim k x0 x4 x8 x12 x.1 x.2 H (fun x13 x14 H => kn (x13, x14) H) (fun x0 x4 x8 x13 H => k4 (sp 142 [(0, x0), (4, x4), (8, x8), (13, x13)]) H)) (by kernel_rfl) (fun x => by kernel_rfl) (fun x H kn => N28_14b_eq ρ call yc lim k x0 x4 x8 x12 (x.1) (x.2) H kn k4 R) (x13, x14) (sp 142 [(0, x0), (4, x4), (8, x8), (12, x12), (13, x13), (14, x14)]) H (by kernel_rfl)
noncomputable def N28_13 (ρ : Addr → Option Value) (call : CallF) (yc : YieldF) (lim k : Nat) (x0 x4 x8 x12 x13 x14 : AV) (H : Heap) (kn : AV → AV → AV → AV → Heap → Res) : Res :=
  N28_14 ρ call yc lim k x0 x4 x8 x12 x13 x14 H kn
theorem N28_13_x (ρ : Addr → Option Value) (call : CallF) (yc : YieldF) (lim k : Nat) (J : CodeF) (x0 x4 x8 x12 x13 x14 : AV) (H : Heap) (kn : KS) (R : List AV → Heap → Res) :
    evX (cx ρ) call yc false 28 lim k J (Code.at [1, 1, 1, 1, 1, 1, 1, 1, 1, 0, 1, 0, 1, 1, 1, 0, 1, 0, 1, 0, 1] c28) (sp 142 [(0, x0), (4, x4), (8, x8), (12, x12), (13, x13), (14, x14)]) H (kk (some [0, 4, 8, 13]) kn [] R [4]) =
  J (Code.at [1, 1, 1, 1, 1, 1, 1, 1, 1, 0, 1, 0, 1, 1, 1, 0, 1, 0, 1, 0, 1, 0] c28) (sp 142 [(0, x0), (4, x4), (8, x8), (12, x12), (13, x13), (14, x14)]) H (kk (some [0, 4, 8, 13]) kn [(4, (some [0, 4, 8, 13]), kn)] R [4]) := by
  kernel_rfl
theorem N28_13_eq (ρ : Addr → Option Value) (call : CallF) (yc : YieldF) (lim k : Nat) (x0 x4 x8 x12 x13 x14 : AV) (H : Heap) (kn : KS) (R : List AV → Heap → Res) :
    evL (cx ρ) call yc false 28 lim k (Code.at [1, 1, 1, 1, 1, 1, 1, 1, 1, 0, 1, 0, 1, 1, 1, 0, 1, 0, 1, 0, 1] c28) (sp 142 [(0, x0), (4, x4), (8, x8), (12, x12), (13, x13), (14, x14)]) H (kk (some [0, 4, 8, 13]) kn [] R [4]) = N28_13 ρ call yc lim k x0 x4 x8 x12 x13 x14 H (fun x0 x4 x8 x13 H => kn (sp 142 [(0, x0), (4, x4), (8, x8), (13, x13)]) H) := by
  rw [evL_X, N28_13_x]
  simp only [← evL_X, N28_13, N28_14_eq]
noncomputable def N28_10 (ρ : Addr → Option Value) (call : CallF) (yc : YieldF) (lim k : Nat) (x0 x4 x8 x12 : AV) (H : Heap) (kn : AV → AV → AV → Heap → Res) : Res :=
  effK H (bldS H 5 1 [.int .u8 0] 1 [(0, 1, x12)]) fun x75_1 H =>
  purK (b2s ρ H x75_1) fun x76_1 =>
  purK (addA 3 x8) fun x77_1 =>
  purK (addA 1 x77_1) fun x78_1 =>
  effK H (stA lim H 1 x78_1 x76_1) fun _ H =>
  purK (addA 3 x8) fun x79_1 =>
  purK (addA 0 x79_1) fun x80_1 =>
  purK (ld1 ρ H x80_1) fun x81_1 =>
  purK (binA Try.prog H .eql 3 x81_1 (.int .i64 2)) fun x82_1 =>
  condK x82_1
  (
    effK H (bldS H 5 1 [.int .u8 0] 0 []) fun x83_1 H =>
    resK (call lim 39 [x0, (.int .i64 20)] H) fun x85_1 H =>
    N28_13 ρ call yc lim k x0 x4 x8 x12 x83_1 x85_1 H (fun x0_1 x4_1 x8_1 x13_1 H =>
      N28_12 ρ call yc lim k x0_1 x4_1 x8_1 x13_1 H (fun x0_2 x4_2 x8_2 H =>
        N28_11 ρ call yc lim k x0_2 x4_2 x8_2 H kn)))
  (
    N28_11 ρ call yc lim k x0 x4 x8 H kn)
theorem N28_10_x (ρ : Addr → Option Value) (call : CallF) (yc : YieldF) (lim k : Nat) (J : CodeF) (x0 x4 x8 x12 : AV) (H : Heap) (kn : KS) (R : List AV → Heap → Res) :
    evX (cx ρ) call yc false 28 lim k J (Code.at [1, 1, 1, 1, 1, 1, 1, 1, 1, 0, 1, 0, 1, 1] c28) (sp 142 [(0, x0), (4, x4), (8, x8), (12, x12)]) H (kk (some [0, 4, 8]) kn [] R [4]) =
  effK H (bldS H 5 1 [.int .u8 0] 1 [(0, 1, x12)]) fun x75_1 H =>
  purK (b2s ρ H x75_1) fun x76_1 =>
  purK (addA 3 x8) fun x77_1 =>
  purK (addA 1 x77_1) fun x78_1 =>
  effK H (stA lim H 1 x78_1 x76_1) fun _ H =>
  purK (addA 3 x8) fun x79_1 =>
  purK (addA 0 x79_1) fun x80_1 =>
  purK (ld1 ρ H x80_1) fun x81_1 =>
  purK (binA Try.prog H .eql 3 x81_1 (.int .i64 2)) fun x82_1 =>
  condK x82_1
  (
    effK H (bldS H 5 1 [.int .u8 0] 0 []) fun x83_1 H =>
    resK (call lim 39 [x0, (.int .i64 20)] H) fun x85_1 H =>
    J (Code.at [1, 1, 1, 1, 1, 1, 1, 1, 1, 0, 1, 0, 1, 1, 1, 0, 1, 0, 1, 0, 1] c28) (sp 142 [(0, x0), (4, x4), (8, x8), (12, x12), (13, x83_1), (14, x85_1)]) H (kk (some [0, 4, 8, 13]) (fun s H => J (Code.at [1, 1, 1, 1, 1, 1, 1, 1, 1, 0, 1, 0, 1, 1, 1, 0, 1, 0, 1, 1] c28) s H (kk (some [0, 4, 8]) (fun s H => J (Code.at [1, 1, 1, 1, 1, 1, 1, 1, 1, 0, 1, 0, 1, 1, 1, 1] c28) s H (kk (some [0, 4, 8]) kn [] R [4])) [] R [4])) [] R [4]))
  (
    J (Code.at [1, 1, 1, 1, 1, 1, 1, 1, 1, 0, 1, 0, 1, 1, 1, 1] c28) (sp 142 [(0, x0), (4, x4), (8, x8)]) H (kk (some [0, 4, 8]) kn [] R [4])) := by
  kernel_rfl
theorem N28_10_eq (ρ : Addr → Option Value) (call : CallF) (yc : YieldF) (lim k : Nat) (x0 x4 x8 x12 : AV) (H : Heap) (kn : KS) (R : List AV → Heap → Res) :
    evL (cx ρ) call yc false 28 lim k (Code.at [1, 1, 1, 1, 1, 1, 1, 1, 1, 0, 1, 0, 1, 1] c28) (sp 142 [(0, x0), (4, x4), (8, x8), (12, x12)]) H (kk (some [0, 4, 8]) kn [] R [4]) = N28_10 ρ call yc lim k x0 x4 x8 x12 H (fun x0 x4 x8 H => kn (sp 142 [(0, x0), (4, x4), (8, x8)]) H) := by
  rw [evL_X, N28_10_x]
  simp only [← evL_X, N28_10, N28_11_eq, N28_12_eq, N28_13_eq]
noncomputable def N28_3 (ρ : Addr → Option Value) (call : CallF) (yc : YieldF) (lim k : Nat) (x0 x3 x4 x8 : AV) (H : Heap) (R : List AV → Heap → Res) : Res :=
  purK (addA 0 x8) fun x60_1 =>
  purK (ld1 ρ H x60_1) fun x61_1 =>
  purK (binA Try.prog H .eql 3 x61_1 (.int .i64 1)) fun x62_1 =>
  condK x62_1
  (
    resK (call lim 39 [x0, (.int .i64 4)] H) fun x64_1 H =>
    purK (binA Try.prog H .add 3 (.int .i64 1) x64_1) fun x65_1 =>
    purK (addA 3 x8) fun x66_1 =>
    purK (addA 0 x66_1) fun x67_1 =>
    effK H (stA lim H 1 x67_1 x65_1) fun _ H =>
    purK (addA 2 x3) fun x69_1 =>
    purK (ld1 ρ H x69_1) fun x70_1 =>
    resK (call lim 39 [x0, x70_1] H) fun x71_1 H =>
    purK (binA Try.prog H .add 3 (.int .i64 97) x71_1) fun x72_1 =>
    purK (cvI .u8 x72_1) fun x73_1 =>
    N28_10 ρ call yc lim k x0 x4 x8 x73_1 H (fun x0_1 x4_1 x8_1 H =>
      N28_4 ρ call yc lim k x0_1 x4_1 x8_1 H R))
  (
    N28_4 ρ call yc lim k x0 x4 x8 H R)
theorem N28_3_x (ρ : Addr → Option Value) (call : CallF) (yc : YieldF) (lim k : Nat) (J : CodeF) (x0 x3 x4 x8 : AV) (H : Heap) (R : List AV → Heap → Res) :
    evX (cx ρ) call yc false 28 lim k J (Code.at [1, 1, 1, 1, 1, 1, 1, 1, 1] c28) (sp 142 [(0, x0), (3, x3), (4, x4), (8, x8)]) H (kk none (fun s H => R (([4] : List Nat).map fun t => s.getD t (.tup [])) H) [] R [4]) =
  purK (addA 0 x8) fun x60_1 =>
  purK (ld1 ρ H x60_1) fun x61_1 =>
  purK (binA Try.prog H .eql 3 x61_1 (.int .i64 1)) fun x62_1 =>
  condK x62_1
  (
    resK (call lim 39 [x0, (.int .i64 4)] H) fun x64_1 H =>
    purK (binA Try.prog H .add 3 (.int .i64 1) x64_1) fun x65_1 =>
    purK (addA 3 x8) fun x66_1 =>
    purK (addA 0 x66_1) fun x67_1 =>
    effK H (stA lim H 1 x67_1 x65_1) fun _ H =>
    purK (addA 2 x3) fun x69_1 =>
    purK (ld1 ρ H x69_1) fun x70_1 =>
    resK (call lim 39 [x0, x70_1] H) fun x71_1 H =>
    purK (binA Try.prog H .add 3 (.int .i64 97) x71_1) fun x72_1 =>
    purK (cvI .u8 x72_1) fun x73_1 =>
    J (Code.at [1, 1, 1, 1, 1, 1, 1, 1, 1, 0, 1, 0, 1, 1] c28) (sp 142 [(0, x0), (4, x4), (8, x8), (12, x73_1)]) H (kk (some [0, 4, 8]) (fun s H => J (Code.at [1, 1, 1, 1, 1, 1, 1, 1, 1, 1] c28) s H (kk none (fun s H => R (([4] : List Nat).map fun t => s.getD t (.tup [])) H) [] R [4])) [] R [4]))
  (
    J (Code.at [1, 1, 1, 1, 1, 1, 1, 1, 1, 1] c28) (sp 142 [(0, x0), (4, x4), (8, x8)]) H (kk none (fun s H => R (([4] : List Nat).map fun t => s.getD t (.tup [])) H) [] R [4])) := by
  kernel_rfl
theorem N28_3_eq (ρ : Addr → Option Value) (call : CallF) (yc : YieldF) (lim k : Nat) (x0 x3 x4 x8 : AV) (H : Heap) (R : List AV → Heap → Res) :
    evL (cx ρ) call yc false 28 lim k (Code.at [1, 1, 1, 1, 1, 1, 1, 1, 1] c28) (sp 142 [(0, x0), (3, x3), (4, x4), (8, x8)]) H (kk none (fun s H => R (([4] : List Nat).map fun t => s.getD t (.tup [])) H) [] R [4]) = N28_3 ρ call yc lim k x0 x3 x4 x8 H R := by
  rw [evL_X, N28_3_x]
  simp only [← evL_X, N28_3, N28_10_eq, N28_4_eq]
noncomputable def N28_2 (ρ : Addr → Option Value) (call : CallF) (yc : YieldF) (lim k : Nat) (x0 x3 x4 x8 : AV) (H : Heap) (R : List AV → Heap → Res) : Res :=
  purK (addA 1 x3) fun x52_1 =>
  purK (ld1 ρ H x52_1) fun x53_1 =>
  resK (call lim 39 [x0, x53_1] H) fun x54_1 H =>
  purK (addA 0 x8) fun x55_1 =>
  purK (ld1 ρ H x55_1) fun x56_1 =>
  purK (binA Try.prog H .leq 3 x56_1 (.int .i64 3)) fun x57_1 =>
  condK x57_1
  (
    purK (addA 1 x8) fun x59_1 =>
    effK H (stA lim H 1 x59_1 x54_1) fun _ H =>
    N28_3 ρ call yc lim k x0 x3 x4 x8 H R)
  (
    N28_3 ρ call yc lim k x0 x3 x4 x8 H R)
theorem N28_2_x (ρ : Addr → Option Value) (call : CallF) (yc : YieldF) (lim k : Nat) (J : CodeF) (x0 x3 x4 x8 : AV) (H : Heap) (R : List AV → Heap → Res) :
    evX (cx ρ) call yc false 28 lim k J (Code.at [1, 1, 1, 1, 1, 1, 1] c28) (sp 142 [(0, x0), (3, x3), (4, x4), (8, x8)]) H (kk none (fun s H => R (([4] : List Nat).map fun t => s.getD t (.tup [])) H) [] R [4]) =
  purK (addA 1 x3) fun x52_1 =>
  purK (ld1 ρ H x52_1) fun x53_1 =>
  resK (call lim 39 [x0, x53_1] H) fun x54_1 H =>
  purK (addA 0 x8) fun x55_1 =>
  purK (ld1 ρ H x55_1) fun x56_1 =>
  purK (binA Try.prog H .leq 3 x56_1 (.int .i64 3)) fun x57_1 =>
  condK x57_1
  (
    purK (addA 1 x8) fun x59_1 =>
    effK H (stA lim H 1 x59_1 x54_1) fun _ H =>
    J (Code.at [1, 1, 1, 1, 1, 1, 1, 1, 1] c28) (sp 142 [(0, x0), (3, x3), (4, x4), (8, x8)]) H (kk none (fun s H => R (([4] : List Nat).map fun t => s.getD t (.tup [])) H) [] R [4]))
  (
    J (Code.at [1, 1, 1, 1, 1, 1, 1, 1, 1] c28) (sp 142 [(0, x0), (3, x3), (4, x4), (8, x8)]) H (kk none (fun s H => R (([4] : List Nat).map fun t => s.getD t (.tup [])) H) [] R [4])) := by
  kernel_rfl
theorem N28_2_eq (ρ : Addr → Option Value) (call : CallF) (yc : YieldF) (lim k : Nat) (x0 x3 x4 x8 : AV) (H : Heap) (R : List AV → Heap → Res) :
    evL (cx ρ) call yc false 28 lim k (Code.at [1, 1, 1, 1, 1, 1, 1] c28) (sp 142 [(0, x0), (3, x3), (4, x4), (8, x8)]) H (kk none (fun s H => R (([4] : List Nat).map fun t => s.getD t (.tup [])) H) [] R [4]) = N28_2 ρ call yc lim k x0 x3 x4 x8 H R := by
  rw [evL_X, N28_2_x]
  simp only [← evL_X, N28_2, N28_3_eq]
noncomputable def N28_17 (ρ : Addr → Option Value) (call : CallF) (yc : YieldF) (lim k : Nat) (x0 x3 x4 x7 x8 x9 x10 : AV) (H : Heap) (kn : AV → AV → Heap → Res) : Res :=
  purK (binA Try.prog H .add 3 x10 (.int .i64 1)) fun x38_1 =>
  kn x9 x38_1 H
theorem N28_17_eq (ρ : Addr → Option Value) (call : CallF) (yc : YieldF) (lim k : Nat) (x0 x3 x4 x7 x8 x9 x10 : AV) (H : Heap) (kn : KS) (k2 : KS) (R : List AV → Heap → Res) :
    evL (cx ρ) call yc false 28 lim k (Code.at [1, 1, 1, 1, 1, 1, 0, 1, 0, 0, 1, 1] c28) (sp 142 [(0, x0), (3, x3), (4, x4), (7, x7), (8, x8), (9, x9), (10, x10)]) H (kk (some [0, 3, 4, 7, 8, 9, 10]) kn [(2, (some [0, 3, 4, 8]), k2)] R [4]) = N28_17 ρ call yc lim k x0 x3 x4 x7 x8 x9 x10 H (fun x9 x10 H => kn (sp 142 [(0, x0), (3, x3), (4, x4), (7, x7), (8, x8), (9, x9), (10, x10)]) H) := by
  kernel_rfl
noncomputable def N28_16b (ρ : Addr → Option Value) (call : CallF) (yc : YieldF) (lim k : Nat) (x0 x3 x4 x7 x8 x9 x10 : AV) (H : Heap) (kn : AV → AV → Heap → Res) (k2 : AV → AV → AV → AV → Heap → Res) : Res :=
  purK (binA Try.prog H .lss 3 x10 (.int .i64 10)) fun x31_1 =>
  purK (gPur (wantV x31_1 true) (addA 0 x8)) fun x33_1 =>
  purK (gPur (wantV x31_1 true) (ld1 ρ H x33_1)) fun x34_1 =>
  purK (gPur (wantV x31_1 true) (binA Try.prog H .eql 3 x34_1 (.int .i64 0))) fun x35_1 =>
  purK (pickA x31_1 x35_1 (.bool false)) fun x36_1 =>
  condK x36_1
  (
    purK (addA 3 x3) fun x41_1 =>
    purK (ixR 1 10 x41_1 x10) fun x42_1 =>
    purK (ld1 ρ H x42_1) fun x43_1 =>
    purK (binA Try.prog H .add 3 x9 x43_1) fun x44_1 =>
    purK (binA Try.prog H .gtr 3 x44_1 x7) fun x47_1 =>
    condK x47_1
    (
      purK (binA Try.prog H .add 3 x10 (.int .i64 1)) fun x49_1 =>
      purK (addA 0 x8) fun x50_1 =>
      effK H (stA lim H 1 x50_1 x49_1) fun _ H =>
      N28_17 ρ call yc lim k x0 x3 x4 x7 x8 x44_1 x10 H kn)
    (
      N28_17 ρ call yc lim k x0 x3 x4 x7 x8 x44_1 x10 H kn))
  (
    k2 x0 x3 x4 x8 H)
theorem N28_16b_x (ρ : Addr → Option Value) (call : CallF) (yc : YieldF) (lim k : Nat) (J : CodeF) (x0 x3 x4 x7 x8 x9 x10 : AV) (H : Heap) (kn : KS) (k2 : KS) (R : List AV → Heap → Res) :
    evX (cx ρ) call yc false 28 lim k J (Code.at [1, 1, 1, 1, 1, 1, 0, 1, 0, 0] c28) (sp 142 [(0, x0), (3, x3), (4, x4), (7, x7), (8, x8), (9, x9), (10, x10)]) H (kk (some [0, 3, 4, 7, 8, 9, 10]) kn [(2, (some [0, 3, 4, 8]), k2)] R [4]) =
  purK (binA Try.prog H .lss 3 x10 (.int .i64 10)) fun x31_1 =>
  purK (gPur (wantV x31_1 true) (addA 0 x8)) fun x33_1 =>
  purK (gPur (wantV x31_1 true) (ld1 ρ H x33_1)) fun x34_1 =>
  purK (gPur (wantV x31_1 true) (binA Try.prog H .eql 3 x34_1 (.int .i64 0))) fun x35_1 =>
  purK (pickA x31_1 x35_1 (.bool false)) fun x36_1 =>
  condK x36_1
  (
    purK (addA 3 x3) fun x41_1 =>
    purK (ixR 1 10 x41_1 x10) fun x42_1 =>
    purK (ld1 ρ H x42_1) fun x43_1 =>
    purK (binA Try.prog H .add 3 x9 x43_1) fun x44_1 =>
    purK (binA Try.prog H .gtr 3 x44_1 x7) fun x47_1 =>
    condK x47_1
    (
      purK (binA Try.prog H .add 3 x10 (.int .i64 1)) fun x49_1 =>
      purK (addA 0 x8) fun x50_1 =>
      effK H (stA lim H 1 x50_1 x49_1) fun _ H =>
      J (Code.at [1, 1, 1, 1, 1, 1, 0, 1, 0, 0, 1, 1] c28) (sp 142 [(0, x0), (3, x3), (4, x4), (7, x7), (8, x8), (9, x44_1), (10, x10)]) H (kk (some [0, 3, 4, 7, 8, 9, 10]) kn [(2, (some [0, 3, 4, 8]), k2)] R [4]))
    (
      J (Code.at [1, 1, 1, 1, 1, 1, 0, 1, 0, 0, 1, 1] c28) (sp 142 [(0, x0), (3, x3), (4, x4), (7, x7), (8, x8), (9, x44_1), (10, x10)]) H (kk (some [0, 3, 4, 7, 8, 9, 10]) kn [(2, (some [0, 3, 4, 8]), k2)] R [4])))
  (
    k2 (sp 142 [(0, x0), (3, x3), (4, x4), (8, x8)]) H) := by
  kernel_rfl
theorem N28_16b_eq (ρ : Addr → Option Value) (call : CallF) (yc : YieldF) (lim k : Nat) (x0 x3 x4 x7 x8 x9 x10 : AV) (H : Heap) (kn : KS) (k2 : KS) (R : List AV → Heap → Res) :
    evL (cx ρ) call yc false 28 lim k (Code.at [1, 1, 1, 1, 1, 1, 0, 1, 0, 0] c28) (sp 142 [(0, x0), (3, x3), (4, x4), (7, x7), (8, x8), (9, x9), (10, x10)]) H (kk (some [0, 3, 4, 7, 8, 9, 10]) kn [(2, (some [0, 3, 4, 8]), k2)] R [4]) = N28_16b ρ call yc lim k x0 x3 x4 x7 x8 x9 x10 H (fun x9 x10 H => kn (sp 142 [(0, x0), (3, x3), (4, x4), (7, x7), (8, x8), (9, x9), (10, x10)]) H) (fun x0 x3 x4 x8 H => k2 (sp 142 [(0, x0), (3, x3), (4, x4), (8, x8)]) H) := by
  rw [evL_X, N28_16b_x]
  simp only [← evL_X, N28_16b, N28_17_eq]
noncomputable def N28_16 (ρ : Addr → Option Value) (call : CallF) (yc : YieldF) (lim k : Nat) (x0 x3 x4 x7 x8 x9 x10 : AV) (H : Heap) (k2 : AV → AV → AV → AV → Heap → Res) : Res :=
  loopL (fun (x : AV × AV) H kn => N28_16b ρ call yc lim k x0 x3 x4 x7 x8 x.1 x.2 H (fun x9 x10 H => kn (x9, x10) H) k2) k (x9, x10) H
theorem N28_16_eq (ρ : Addr → Option Value) (call : CallF) (yc : YieldF) (lim k : Nat) (x0 x3 x4 x7 x8 x9 x10 : AV) (H : Heap) (kn : KS) (k2 : KS) (R : List AV → Heap → Res) :
    evL (cx ρ) call yc false 28 lim k (Code.at [1, 1, 1, 1, 1, 1, 0, 1, 0] c28) (sp 142 [(0, x0), (3, x3), (4, x4), (7, x7), (8, x8), (9, x9), (10, x10)]) H (kk (some [0, 3, 4, 8]) kn [(2, (some [0, 3, 4, 8]), k2)] R [4]) = N28_16 ρ call yc lim k x0 x3 x4 x7 x8 x9 x10 H (fun x0 x3 x4 x8 H => k2 (sp 142 [(0, x0), (3, x3), (4, x4), (8, x8)]) H) := by
  have e : Code.at [1, 1, 1, 1, 1, 1, 0, 1, 0] c28 = .loop (Code.at [1, 1, 1, 1, 1, 1, 0, 1, 0, 0] c28) := by kernel_rfl
  rw [e]
  unfold N28_16
  exact loop_node [0, 3, 4, 7, 8, 9, 10] (fun x : AV × AV => (sp 142 [(0, x0), (3, x3), (4, x4), (7, x7), (8, x8), (9, (x.1)), (10, (x.2))])) (fun (x : AV × AV) H kn => N28_16b ρ call yc lim k x0 x3 x4 x7 x8 x.1 x.2 H (fun x9 x10 H => kn (x9, x10) H) (fun x0 x3 x4 x8 H => k2 (sp 142 [(0, x0), (3, x3), (4, x4), (8, x8)]) H)) (by kernel_rfl) (fun x => by kernel_rfl) (fun x H kn => N28_16b_eq ρ call yc lim k x0 x3 x4 x7 x8 (x.1) (x.2) H kn k2 R) (x9, x10) (sp 142 [(0, x0), (3, x3), (4, x4), (7, x7), (8, x8), (9, x9), (10, x10)]) H (by kernel_rfl)
noncomputable def N28_15 (ρ : Addr → Option Value) (call : CallF) (yc : YieldF) (lim k : Nat) (x0 x3 x4 x7 x8 x9 x10 : AV) (H : Heap) (kn : AV → AV → AV → AV → Heap → Res) : Res :=
  N28_16 ρ call yc lim k x0 x3 x4 x7 x8 x9 x10 H kn
theorem N28_15_x (ρ : Addr → Option Value) (call : CallF) (yc : YieldF) (lim k : Nat) (J : CodeF) (x0 x3 x4 x7 x8 x9 x10 : AV) (H : Heap) (kn : KS) (R : List AV → Heap → Res) :
    evX (cx ρ) call yc false 28 lim k J (Code.at [1, 1, 1, 1, 1, 1, 0, 1] c28) (sp 142 [(0, x0), (3, x3), (4, x4), (7, x7), (8, x8), (9, x9), (10, x10)]) H (kk (some [0, 3, 4, 8]) kn [] R [4]) =
  J (Code.at [1, 1, 1, 1, 1, 1, 0, 1, 0] c28) (sp 142 [(0, x0), (3, x3), (4, x4), (7, x7), (8, x8), (9, x9), (10, x10)]) H (kk (some [0, 3, 4, 8]) kn [(2, (some [0, 3, 4, 8]), kn)] R [4]) := by
  kernel_rfl
theorem N28_15_eq (ρ : Addr → Option Value) (call : CallF) (yc : YieldF) (lim k : Nat) (x0 x3 x4 x7 x8 x9 x10 : AV) (H : Heap) (kn : KS) (R : List AV → Heap → Res) :
    evL (cx ρ) call yc false 28 lim k (Code.at [1, 1, 1, 1, 1, 1, 0, 1] c28) (sp 142 [(0, x0), (3, x3), (4, x4), (7, x7), (8, x8), (9, x9), (10, x10)]) H (kk (some [0, 3, 4, 8]) kn [] R [4]) = N28_15 ρ call yc lim k x0 x3 x4 x7 x8 x9 x10 H (fun x0 x3 x4 x8 H => kn (sp 142 [(0, x0), (3, x3), (4, x4), (8, x8)]) H) := by
  rw [evL_X, N28_15_x]
  simp only [← evL_X, N28_15, N28_16_eq]
noncomputable def N28_1 (ρ : Addr → Option Value) (call : CallF) (yc : YieldF) (lim k : Nat) (x0 x3 x4 x5 : AV) (H : Heap) (R : List AV → Heap → Res) : Res :=
  resK (call lim 39 [x0, x5] H) fun x28_1 H =>
  purK (bldA [.int .i64 0, .int .i64 0, .int .i64 0, .int .i64 0, .str ByteArray.empty, .str ByteArray.empty, .int .u64 0, .nils] []) fun x29_1 =>
  effK H (some (.ptr H.sz 0 0, .new (newCells 42 false [.int .i64 0, .int .i64 0, .int .i64 0, .int .i64 0, .str ByteArray.empty, .str ByteArray.empty, .int .u64 0, .nils]))) fun x8_1 H =>
  effK H (stA lim H 8 x8_1 x29_1) fun _ H =>
  N28_15 ρ call yc lim k x0 x3 x4 x28_1 x8_1 (.int .i64 0) (.int .i64 0) H (fun x0_1 x3_1 x4_1 x8_2 H =>
    N28_2 ρ call yc lim k x0_1 x3_1 x4_1 x8_2 H R)
theorem N28_1_x (ρ : Addr → Option Value) (call : CallF) (yc : YieldF) (lim k : Nat) (J : CodeF) (x0 x3 x4 x5 : AV) (H : Heap) (R : List AV → Heap → Res) :
    evX (cx ρ) call yc false 28 lim k J (Code.at [1, 1, 1] c28) (sp 142 [(0, x0), (3, x3), (4, x4), (5, x5)]) H (kk none (fun s H => R (([4] : List Nat).map fun t => s.getD t (.tup [])) H) [] R [4]) =
  resK (call lim 39 [x0, x5] H) fun x28_1 H =>
  purK (bldA [.int .i64 0, .int .i64 0, .int .i64 0, .int .i64 0, .str ByteArray.empty, .str ByteArray.empty, .int .u64 0, .nils] []) fun x29_1 =>
  effK H (some (.ptr H.sz 0 0, .new (newCells 42 false [.int .i64 0, .int .i64 0, .int .i64 0, .int .i64 0, .str ByteArray.empty, .str ByteArray.empty, .int .u64 0, .nils]))) fun x8_1 H =>
  effK H (stA lim H 8 x8_1 x29_1) fun _ H =>
  J (Code.at [1, 1, 1, 1, 1, 1, 0, 1] c28) (sp 142 [(0, x0), (3, x3), (4, x4), (7, x28_1), (8, x8_1), (9, (.int .i64 0)), (10, (.int .i64 0))]) H (kk (some [0, 3, 4, 8]) (fun s H => J (Code.at [1, 1, 1, 1, 1, 1, 1] c28) s H (kk none (fun s H => R (([4] : List Nat).map fun t => s.getD t (.tup [])) H) [] R [4])) [] R [4]) := by
  kernel_rfl
theorem N28_1_eq (ρ : Addr → Option Value) (call : CallF) (yc : YieldF) (lim k : Nat) (x0 x3 x4 x5 : AV) (H : Heap) (R : List AV → Heap → Res) :
    evL (cx ρ) call yc false 28 lim k (Code.at [1, 1, 1] c28) (sp 142 [(0, x0), (3, x3), (4, x4), (5, x5)]) H (kk none (fun s H => R (([4] : List Nat).map fun t => s.getD t (.tup [])) H) [] R [4]) = N28_1 ρ call yc lim k x0 x3 x4 x5 H R := by
  rw [evL_X, N28_1_x]
  simp only [← evL_X, N28_1, N28_15_eq, N28_2_eq]
noncomputable def N28_19b (ρ : Addr → Option Value) (call : CallF) (yc : YieldF) (lim k : Nat) (x0 x3 x4 x5 x6 : AV) (H : Heap) (kn : AV → AV → Heap → Res) (k0 : AV → AV → AV → AV → Heap → Res) : Res :=
  purK (binA Try.prog H .lss 3 x6 (.int .i64 10)) fun x17_1 =>
  condK x17_1
  (
    purK (addA 3 x3) fun x22_1 =>
    purK (ixR 1 10 x22_1 x6) fun x23_1 =>
    purK (ld1 ρ H x23_1) fun x24_1 =>
    purK (binA Try.prog H .add 3 x5 x24_1) fun x25_1 =>
    purK (binA Try.prog H .add 3 x6 (.int .i64 1)) fun x19_1 =>
    kn x25_1 x19_1 H)
  (
    k0 x0 x3 x4 x5 H)
theorem N28_19b_eq (ρ : Addr → Option Value) (call : CallF) (yc : YieldF) (lim k : Nat) (x0 x3 x4 x5 x6 : AV) (H : Heap) (kn : KS) (k0 : KS) (R : List AV → Heap → Res) :
    evL (cx ρ) call yc false 28 lim k (Code.at [1, 1, 0, 1, 0, 0] c28) (sp 142 [(0, x0), (3, x3), (4, x4), (5, x5), (6, x6)]) H (kk (some [0, 3, 4, 5, 6]) kn [(0, (some [0, 3, 4, 5]), k0)] R [4]) = N28_19b ρ call yc lim k x0 x3 x4 x5 x6 H (fun x5 x6 H => kn (sp 142 [(0, x0), (3, x3), (4, x4), (5, x5), (6, x6)]) H) (fun x0 x3 x4 x5 H => k0 (sp 142 [(0, x0), (3, x3), (4, x4), (5, x5)]) H) := by
  kernel_rfl
noncomputable def N28_19 (ρ : Addr → Option Value) (call : CallF) (yc : YieldF) (lim k : Nat) (x0 x3 x4 x5 x6 : AV) (H : Heap) (k0 : AV → AV → AV → AV → Heap → Res) : Res :=
  loopL (fun (x : AV × AV) H kn => N28_19b ρ call yc lim k x0 x3 x4 x.1 x.2 H (fun x5 x6 H => kn (x5, x6) H) k0) k (x5, x6) H
theorem N28_19_eq (ρ : Addr → Option Value) (call : CallF) (yc : YieldF) (lim k : Nat) (x0 x3 x4 x5 x6 : AV) (H : Heap) (kn : KS) (k0 : KS) (R : List AV → Heap → Res) :
    evL (cx ρ) call yc false 28 lim k (Code.at [1, 1, 0, 1, 0] c28) (sp 142 [(0, x0), (3, x3), (4, x4), (5, x5), (6, x6)]) H (kk (some [0, 3, 4, 5]) kn [(0, (some [0, 3, 4, 5]), k0)] R [4]) = N28_19 ρ call yc lim k x0 x3 x4 x5 x6 H (fun x0 x3 x4 x5 H => k0 (sp 142 [(0, x0), (3, x3), (4, x4), (5, x5)]) H) := by
  have e : Code.at [1, 1, 0, 1, 0] c28 = .loop (Code.at [1, 1, 0, 1, 0, 0] c28) := by kernel_rfl
  rw [e]
  unfold N28_19
  exact loop_node [0, 3, 4, 5, 6] (fun x : AV × AV => (sp 142 [(0, x0), (3, x3), (4, x4), (5, (x.1)), (6, (x.2))])) (fun (x : AV × AV) H kn => N28_19b ρ call yc lim k x0 x3 x4 x.1 x.2 H (fun x5 x6 H => kn (x5, x6) H) (fun x0 x3 x4 x5 H => k0 (sp 142 [(0, x0), (3, x3), (4, x4), (5, x5)]) H)) (by kernel_rfl) (fun x => by kernel_rfl) (fun x H kn => N28_19b_eq ρ call yc lim k x0 x3 x4 (x.1) (x.2) H kn k0 R) (x5, x6) (sp 142 [(0, x0), (3, x3), (4, x4), (5, x5), (6, x6)]) H (by kernel_rfl)
noncomputable def N28_18 (ρ : Addr → Option Value) (call : CallF) (yc : YieldF) (lim k : Nat) (x0 x3 x4 x5 x6 : AV) (H : Heap) (kn : AV → AV → AV → AV → Heap → Res) : Res :=
  N28_19 ρ call yc lim k x0 x3 x4 x5 x6 H kn
theorem N28_18_x (ρ : Addr → Option Value) (call : CallF) (yc : YieldF) (lim k : Nat) (J : CodeF) (x0 x3 x4 x5 x6 : AV) (H : Heap) (kn : KS) (R : List AV → Heap → Res) :
    evX (cx ρ) call yc false 28 lim k J (Code.at [1, 1, 0, 1] c28) (sp 142 [(0, x0), (3, x3), (4, x4), (5, x5), (6, x6)]) H (kk (some [0, 3, 4, 5]) kn [] R [4]) =
  J (Code.at [1, 1, 0, 1, 0] c28) (sp 142 [(0, x0), (3, x3), (4, x4), (5, x5), (6, x6)]) H (kk (some [0, 3, 4, 5]) kn [(0, (some [0, 3, 4, 5]), kn)] R [4]) := by
  kernel_rfl
theorem N28_18_eq (ρ : Addr → Option Value) (call : CallF) (yc : YieldF) (lim k : Nat) (x0 x3 x4 x5 x6 : AV) (H : Heap) (kn : KS) (R : List AV → Heap → Res) :
    evL (cx ρ) call yc false 28 lim k (Code.at [1, 1, 0, 1] c28) (sp 142 [(0, x0), (3, x3), (4, x4), (5, x5), (6, x6)]) H (kk (some [0, 3, 4, 5]) kn [] R [4]) = N28_18 ρ call yc lim k x0 x3 x4 x5 x6 H (fun x0 x3 x4 x5 H => kn (sp 142 [(0, x0), (3, x3), (4, x4), (5, x5)]) H) := by
  rw [evL_X, N28_18_x]
  simp only [← evL_X, N28_18, N28_19_eq]
noncomputable def L28 (ρ : Addr → Option Value) (call : CallF) (yc : YieldF) (lim k : Nat) (x0 x1 : AV) (H : Heap) : Res :=
  effK H (boxA H 46 x1) fun x3 H =>
  effK H (some (.ptr H.sz 0 0, .new (newCells 42 false [.int .i64 0, .int .i64 0, .int .i64 0, .int .i64 0, .str ByteArray.empty, .str ByteArray.empty, .int .u64 0, .nils]))) fun x4 H =>
  N28_18 ρ call yc lim k x0 x3 x4 (.int .i64 0) (.int .i64 0) H (fun x0_1 x3_1 x4_1 x5 H =>
    N28_1 ρ call yc lim k x0_1 x3_1 x4_1 x5 H (retC (cx ρ) [some 42]))
theorem L28_x (ρ : Addr → Option Value) (call : CallF) (yc : YieldF) (lim k : Nat) (J : CodeF) (x0 x1 : AV) (H : Heap) :
    evX (cx ρ) call yc false 28 lim k J c28 [x0, x1, (.tup []), (.tup []), (.tup []), (.tup []), (.tup []), (.tup []), (.tup []), (.tup []), (.tup []), (.tup []), (.tup []), (.tup []), (.tup []), (.tup []), (.tup []), (.tup []), (.tup []), (.tup []), (.tup []), (.tup []), (.tup []), (.tup []), (.tup []), (.tup []), (.tup []), (.tup []), (.tup []), (.tup []), (.tup []), (.tup []), (.tup []), (.tup []), (.tup []), (.tup []), (.tup []), (.tup []), (.tup []), (.tup []), (.tup []), (.tup []), (.tup []), (.tup []), (.tup []), (.tup []), (.tup []), (.tup []), (.tup []), (.tup []), (.tup []), (.tup []), (.tup []), (.tup []), (.tup []), (.tup []), (.tup []), (.tup []), (.tup []), (.tup []), (.tup []), (.tup []), (.tup []), (.tup []), (.tup []), (.tup []), (.tup []), (.tup []), (.tup []), (.tup []), (.tup []), (.tup []), (.tup []), (.tup []), (.tup []), (.tup []), (.tup []), (.tup []), (.tup []), (.tup []), (.tup []), (.tup []), (.tup []), (.tup []), (.tup []), (.tup []), (.tup []), (.tup []), (.tup []), (.tup []), (.tup []), (.tup []), (.tup []), (.tup []), (.tup []), (.tup []), (.tup []), (.tup []), (.tup []), (.tup []), (.tup []), (.tup []), (.tup []), (.tup []), (.tup []), (.tup []), (.tup []), (.tup []), (.tup []), (.tup []), (.tup []), (.tup []), (.tup []), (.tup []), (.tup []), (.tup []), (.tup []), (.tup []), (.tup []), (.tup []), (.tup []), (.tup []), (.tup []), (.tup []), (.tup []), (.tup []), (.tup []), (.tup []), (.tup []), (.tup []), (.tup []), (.tup []), (.tup []), (.tup []), (.tup []), (.tup []), (.tup []), (.tup []), (.tup []), (.tup []), (.tup []), (.tup [])] H (kk none (fun s H => (retC (cx ρ) [some 42]) (([4] : List Nat).map fun t => s.getD t (.tup [])) H) [] (retC (cx ρ) [some 42]) [4]) =
  effK H (boxA H 46 x1) fun x3 H =>
  effK H (some (.ptr H.sz 0 0, .new (newCells 42 false [.int .i64 0, .int .i64 0, .int .i64 0, .int .i64 0, .str ByteArray.empty, .str ByteArray.empty, .int .u64 0, .nils]))) fun x4 H =>
  J (Code.at [1, 1, 0, 1] c28) (sp 142 [(0, x0), (3, x3), (4, x4), (5, (.int .i64 0)), (6, (.int .i64 0))]) H (kk (some [0, 3, 4, 5]) (fun s H => J (Code.at [1, 1, 1] c28) s H (kk none (fun s H => (retC (cx ρ) [some 42]) (([4] : List Nat).map fun t => s.getD t (.tup [])) H) [] (retC (cx ρ) [some 42]) [4])) [] (retC (cx ρ) [some 42]) [4]) := by
  kernel_rfl
theorem G28 (ρ : Addr → Option Value) (call : CallF) (yc : YieldF) (lim k : Nat) (x0 x1 : AV) (H : Heap) :
    evL (cx ρ) call yc false 28 lim k c28 [x0, x1, (.tup []), (.tup []), (.tup []), (.tup []), (.tup []), (.tup []), (.tup []), (.tup []), (.tup []), (.tup []), (.tup []), (.tup []), (.tup []), (.tup []), (.tup []), (.tup []), (.tup []), (.tup []), (.tup []), (.tup []), (.tup []), (.tup []), (.tup []), (.tup []), (.tup []), (.tup []), (.tup []), (.tup []), (.tup []), (.tup []), (.tup []), (.tup []), (.tup []), (.tup []), (.tup []), (.tup []), (.tup []), (.tup []), (.tup []), (.tup []), (.tup []), (.tup []), (.tup []), (.tup []), (.tup []), (.tup []), (.tup []), (.tup []), (.tup []), (.tup []), (.tup []), (.tup []), (.tup []), (.tup []), (.tup []), (.tup []), (.tup []), (.tup []), (.tup []), (.tup []), (.tup []), (.tup []), (.tup []), (.tup []), (.tup []), (.tup []), (.tup []), (.tup []), (.tup []), (.tup []), (.tup []), (.tup []), (.tup []), (.tup []), (.tup []), (.tup []), (.tup []), (.tup []), (.tup []), (.tup []), (.tup []), (.tup []), (.tup []), (.tup []), (.tup []), (.tup []), (.tup []), (.tup []), (.tup []), (.tup []), (.tup []), (.tup []), (.tup []), (.tup []), (.tup []), (.tup []), (.tup []), (.tup []), (.tup []), (.tup []), (.tup []), (.tup []), (.tup []), (.tup []), (.tup []), (.tup []), (.tup []), (.tup []), (.tup []), (.tup []), (.tup []), (.tup []), (.tup []), (.tup []), (.tup []), (.tup []), (.tup []), (.tup []), (.tup []), (.tup []), (.tup []), (.tup []), (.tup []), (.tup []), (.tup []), (.tup []), (.tup []), (.tup []), (.tup []), (.tup []), (.tup []), (.tup []), (.tup []), (.tup []), (.tup []), (.tup []), (.tup []), (.tup []), (.tup []), (.tup [])] H (kk none (fun s H => (retC (cx ρ) [some 42]) (([4] : List Nat).map fun t => s.getD t (.tup [])) H) [] (retC (cx ρ) [some 42]) [4]) = L28 ρ call yc lim k x0 x1 H := by
  rw [evL_X, L28_x]
  simp only [← evL_X, L28, N28_18_eq, N28_1_eq]
theorem E28 (ρ : Addr → Option Value) (k lim : Nat) (x0 x1 : AV) (H : Heap) : evCall (cx ρ) (k + 1) lim 28 [x0, x1] H = L28 ρ (evCall (cx ρ) k) (evCY (cx ρ) k).2 lim k x0 x1 H := by
  rw [evCall_cells (cx ρ) k lim 28 _ H Try.f28 c28 [4] [some 42] (by kernel_rfl) (by kernel_rfl) (by kernel_rfl) (by kernel_rfl) (by kernel_rfl) (by kernel_rfl)]
  exact G28 ρ (evCall (cx ρ) k) (evCY (cx ρ) k).2 lim k x0 x1 H
end Go.Proofs.Ytcjicmabhejllaa

-- part Pn3
/- Functions, lifted. Printed by a program of this repo. -/
set_option linter.unusedVariables false
set_option linter.unusedSimpArgs false
set_option maxRecDepth 100000
set_option maxHeartbeats 4000000
namespace Go.Proofs.Ytcjicmabhejllaa
open Go.Ev Go.RowKit
-- haycroft/haycroftref27.Same
noncomputable def c29 : Code := Code.of Try.prog 29
noncomputable def N29_1 (ρ : Addr → Option Value) (call : CallF) (yc : YieldF) (lim k : Nat) (H : Heap) (R : List AV → Heap → Res) : Res :=
  R [(.bool true)] H
theorem N29_1_eq (ρ : Addr → Option Value) (call : CallF) (yc : YieldF) (lim k : Nat) (H : Heap) (R : List AV → Heap → Res) :
    evL (cx ρ) call yc false 29 lim k (Code.at [1, 1, 1] c29) (sp 81 []) H (kk none (fun s H => R (([4] : List Nat).map fun t => s.getD t (.tup [])) H) [] R [4]) = N29_1 ρ call yc lim k H R := by
  kernel_rfl
noncomputable def N29_4 (ρ : Addr → Option Value) (call : CallF) (yc : YieldF) (lim k : Nat) (x0 x1 x5 : AV) (H : Heap) (kn : AV → Heap → Res) : Res :=
  purK (binA Try.prog H .add 3 x5 (.int .i64 1)) fun x16_1 =>
  kn x16_1 H
theorem N29_4_eq (ρ : Addr → Option Value) (call : CallF) (yc : YieldF) (lim k : Nat) (x0 x1 x5 : AV) (H : Heap) (kn : KS) (k0 : KS) (R : List AV → Heap → Res) :
    evL (cx ρ) call yc false 29 lim k (Code.at [1, 1, 0, 1, 0, 0, 1, 1] c29) (sp 81 [(0, x0), (1, x1), (5, x5)]) H (kk (some [0, 1, 5]) kn [(0, (some []), k0)] R [4]) = N29_4 ρ call yc lim k x0 x1 x5 H (fun x5 H => kn (sp 81 [(0, x0), (1, x1), (5, x5)]) H) := by
  kernel_rfl
noncomputable def N29_5 (ρ : Addr → Option Value) (call : CallF) (yc : YieldF) (lim k : Nat) (x0 x1 x5 x80 : AV) (H : Heap) (kn : AV → Heap → Res) (R : List AV → Heap → Res) : Res :=
  condK x80
  (
    R [(.bool false)] H)
  (
    kn x5 H)
theorem N29_5_eq (ρ : Addr → Option Value) (call : CallF) (yc : YieldF) (lim k : Nat) (x0 x1 x5 x80 : AV) (H : Heap) (kn : KS) (k1 : KS) (k0 : KS) (R : List AV → Heap → Res) :
    evL (cx ρ) call yc false 29 lim k (Code.at [1, 1, 0, 1, 0, 0, 1, 0, 0, 1] c29) (sp 81 [(0, x0), (1, x1), (5, x5), (80, x80)]) H (kk (some [0, 1, 5]) kn [(1, (some [0, 1, 5]), k1), (0, (some []), k0)] R [4]) = N29_5 ρ call yc lim k x0 x1 x5 x80 H (fun x5 H => kn (sp 81 [(0, x0), (1, x1), (5, x5)]) H) R := by
  kernel_rfl
noncomputable def N29_3b (ρ : Addr → Option Value) (call : CallF) (yc : YieldF) (lim k : Nat) (x0 x1 x5 : AV) (H : Heap) (kn : AV → Heap → Res) (k0 : Heap → Res) (R : List AV → Heap → Res) : Res :=
  purK (lenS x0) fun x13_1 =>
  purK (binA Try.prog H .lss 3 x5 x13_1) fun x14_1 =>
  condK x14_1
  (
    purK (ixS 8 x0 x5) fun x19_1 =>
    purK (addA 0 x19_1) fun x20_1 =>
    purK (ld1 ρ H x20_1) fun x21_1 =>
    purK (ixS 8 x1 x5) fun x24_1 =>
    purK (addA 0 x24_1) fun x25_1 =>
    purK (ld1 ρ H x25_1) fun x26_1 =>
    purK (binA Try.prog H .neq 3 x21_1 x26_1) fun x27_1 =>
    boolK (wantV x27_1 false) fun b1 => purK (bif b1 then some x0 else some (.tup [])) fun x29_1 =>
    boolK (wantV x27_1 false) fun b2 => purK (bif b2 then some x5 else some (.tup [])) fun x30_1 =>
    boolK (wantV x27_1 false) fun b3 => purK (bif b3 then ixS 8 x29_1 x30_1 else some (.tup [])) fun x31_1 =>
    boolK (wantV x27_1 false) fun b4 => purK (bif b4 then addA 1 x31_1 else some (.tup [])) fun x32_1 =>
    boolK (wantV x27_1 false) fun b5 => purK (bif b5 then ld1 ρ H x32_1 else some (.tup [])) fun x33_1 =>
    boolK (wantV x27_1 false) fun b6 => purK (bif b6 then some x1 else some (.tup [])) fun x34_1 =>
    boolK (wantV x27_1 false) fun b7 => purK (bif b7 then some x5 else some (.tup [])) fun x35_1 =>
    boolK (wantV x27_1 false) fun b8 => purK (bif b8 then ixS 8 x34_1 x35_1 else some (.tup [])) fun x36_1 =>
    boolK (wantV x27_1 false) fun b9 => purK (bif b9 then addA 1 x36_1 else some (.tup [])) fun x37_1 =>
    boolK (wantV x27_1 false) fun b10 => purK (bif b10 then ld1 ρ H x37_1 else some (.tup [])) fun x38_1 =>
    boolK (wantV x27_1 false) fun b11 => purK (bif b11 then binA Try.prog H .neq 3 x33_1 x38_1 else some (.tup [])) fun x39_1 =>
    purK (pickA x27_1 (.bool true) x39_1) fun x40_1 =>
    boolK (wantV x40_1 false) fun b12 => purK (bif b12 then some x0 else some (.tup [])) fun x42_1 =>
    boolK (wantV x40_1 false) fun b13 => purK (bif b13 then some x5 else some (.tup [])) fun x43_1 =>
    boolK (wantV x40_1 false) fun b14 => purK (bif b14 then ixS 8 x42_1 x43_1 else some (.tup [])) fun x44_1 =>
    boolK (wantV x40_1 false) fun b15 => purK (bif b15 then addA 2 x44_1 else some (.tup [])) fun x45_1 =>
    boolK (wantV x40_1 false) fun b16 => purK (bif b16 then ld1 ρ H x45_1 else some (.tup [])) fun x46_1 =>
    boolK (wantV x40_1 false) fun b17 => purK (bif b17 then some x1 else some (.tup [])) fun x47_1 =>
    boolK (wantV x40_1 false) fun b18 => purK (bif b18 then some x5 else some (.tup [])) fun x48_1 =>
    boolK (wantV x40_1 false) fun b19 => purK (bif b19 then ixS 8 x47_1 x48_1 else some (.tup [])) fun x49_1 =>
    boolK (wantV x40_1 false) fun b20 => purK (bif b20 then addA 2 x49_1 else some (.tup [])) fun x50_1 =>
    boolK (wantV x40_1 false) fun b21 => purK (bif b21 then ld1 ρ H x50_1 else some (.tup [])) fun x51_1 =>
    boolK (wantV x40_1 false) fun b22 => purK (bif b22 then binA Try.prog H .neq 3 x46_1 x51_1 else some (.tup [])) fun x52_1 =>
    purK (pickA x40_1 (.bool true) x52_1) fun x53_1 =>
    boolK (wantV x53_1 false) fun b23 => purK (bif b23 then some x0 else some (.tup [])) fun x55_1 =>
    boolK (wantV x53_1 false) fun b24 => purK (bif b24 then some x5 else some (.tup [])) fun x56_1 =>
    boolK (wantV x53_1 false) fun b25 => purK (bif b25 then ixS 8 x55_1 x56_1 else some (.tup [])) fun x57_1 =>
    boolK (wantV x53_1 false) fun b26 => purK (bif b26 then addA 3 x57_1 else some (.tup [])) fun x58_1 =>
    boolK (wantV x53_1 false) fun b27 => purK (bif b27 then ldN ρ H 4 x58_1 else some (.tup [])) fun x59_1 =>
    boolK (wantV x53_1 false) fun b28 => purK (bif b28 then some x1 else some (.tup [])) fun x60_1 =>
    boolK (wantV x53_1 false) fun b29 => purK (bif b29 then some x5 else some (.tup [])) fun x61_1 =>
    boolK (wantV x53_1 false) fun b30 => purK (bif b30 then ixS 8 x60_1 x61_1 else some (.tup [])) fun x62_1 =>
    boolK (wantV x53_1 false) fun b31 => purK (bif b31 then addA 3 x62_1 else some (.tup [])) fun x63_1 =>
    boolK (wantV x53_1 false) fun b32 => purK (bif b32 then ldN ρ H 4 x63_1 else some (.tup [])) fun x64_1 =>
    boolK (wantV x53_1 false) fun b33 => purK (bif b33 then binA Try.prog H .neq 39 x59_1 x64_1 else some (.tup [])) fun x65_1 =>
    purK (pickA x53_1 (.bool true) x65_1) fun x66_1 =>
    boolK (wantV x66_1 false) fun b34 => purK (bif b34 then some x0 else some (.tup [])) fun x68_1 =>
    boolK (wantV x66_1 false) fun b35 => purK (bif b35 then some x5 else some (.tup [])) fun x69_1 =>
    boolK (wantV x66_1 false) fun b36 => purK (bif b36 then ixS 8 x68_1 x69_1 else some (.tup [])) fun x70_1 =>
    boolK (wantV x66_1 false) fun b37 => purK (bif b37 then addA 7 x70_1 else some (.tup [])) fun x71_1 =>
    boolK (wantV x66_1 false) fun b38 => purK (bif b38 then ld1 ρ H x71_1 else some (.tup [])) fun x72_1 =>
    boolK (wantV x66_1 false) fun b39 => purK (bif b39 then some x1 else some (.tup [])) fun x73_1 =>
    boolK (wantV x66_1 false) fun b40 => purK (bif b40 then some x5 else some (.tup [])) fun x74_1 =>
    boolK (wantV x66_1 false) fun b41 => purK (bif b41 then ixS 8 x73_1 x74_1 else some (.tup [])) fun x75_1 =>
    boolK (wantV x66_1 false) fun b42 => purK (bif b42 then addA 7 x75_1 else some (.tup [])) fun x76_1 =>
    boolK (wantV x66_1 false) fun b43 => purK (bif b43 then ld1 ρ H x76_1 else some (.tup [])) fun x77_1 =>
    boolK (wantV x66_1 false) fun b44 => resK (gRes (some b44) H (call lim 30 [x72_1, x77_1] H)) fun x78_1 H => bif !b44 || ((!b43 || true) && ((!b38 || true) && ((!b33 || true) && ((!b32 || true) && ((!b27 || true) && ((!b22 || true) && ((!b21 || true) && ((!b16 || true) && ((!b11 || true) && ((!b10 || true) && ((!b5 || true) && true))))))))))) then
      purK (gPur (wantV x66_1 false) (unA .not x78_1)) fun x79_1 =>
      purK (pickA x66_1 (.bool true) x79_1) fun x80_1 =>
      N29_5 ρ call yc lim k x0 x1 x5 x80_1 H (fun x5_1 H =>
        N29_4 ρ call yc lim k x0 x1 x5_1 H kn) R
    else none)
  (
    k0 H)
theorem N29_3b_x (ρ : Addr → Option Value) (call : CallF) (yc : YieldF) (lim k : Nat) (J : CodeF) (x0 x1 x5 : AV) (H : Heap) (kn : KS) (k0 : KS) (R : List AV → Heap → Res) :
    evX (cx ρ) call yc false 29 lim k J (Code.at [1, 1, 0, 1, 0, 0] c29) (sp 81 [(0, x0), (1, x1), (5, x5)]) H (kk (some [0, 1, 5]) kn [(0, (some []), k0)] R [4]) =
  purK (lenS x0) fun x13_1 =>
  purK (binA Try.prog H .lss 3 x5 x13_1) fun x14_1 =>
  condK x14_1
  (
    purK (ixS 8 x0 x5) fun x19_1 =>
    purK (addA 0 x19_1) fun x20_1 =>
    purK (ld1 ρ H x20_1) fun x21_1 =>
    purK (ixS 8 x1 x5) fun x24_1 =>
    purK (addA 0 x24_1) fun x25_1 =>
    purK (ld1 ρ H x25_1) fun x26_1 =>
    purK (binA Try.prog H .neq 3 x21_1 x26_1) fun x27_1 =>
    boolK (wantV x27_1 false) fun b1 => purK (bif b1 then some x0 else some (.tup [])) fun x29_1 =>
    boolK (wantV x27_1 false) fun b2 => purK (bif b2 then some x5 else some (.tup [])) fun x30_1 =>
    boolK (wantV x27_1 false) fun b3 => purK (bif b3 then ixS 8 x29_1 x30_1 else some (.tup [])) fun x31_1 =>
    boolK (wantV x27_1 false) fun b4 => purK (bif b4 then addA 1 x31_1 else some (.tup [])) fun x32_1 =>
    boolK (wantV x27_1 false) fun b5 => purK (bif b5 then ld1 ρ H x32_1 else some (.tup [])) fun x33_1 =>
    boolK (wantV x27_1 false) fun b6 => purK (bif b6 then some x1 else some (.tup [])) fun x34_1 =>
    boolK (wantV x27_1 false) fun b7 => purK (bif b7 then some x5 else some (.tup [])) fun x35_1 =>
    boolK (wantV x27_1 false) fun b8 => purK (bif b8 then ixS 8 x34_1 x35_1 else some (.tup [])) fun x36_1 =>
    boolK (wantV x27_1 false) fun b9 => purK (bif b9 then addA 1 x36_1 else some (.tup [])) fun x37_1 =>
    boolK (wantV x27_1 false) fun b10 => purK (bif b10 then ld1 ρ H x37_1 else some (.tup [])) fun x38_1 =>
    boolK (wantV x27_1 false) fun b11 => purK (bif b11 then binA Try.prog H .neq 3 x33_1 x38_1 else some (.tup [])) fun x39_1 =>
    purK (pickA x27_1 (.bool true) x39_1) fun x40_1 =>
    boolK (wantV x40_1 false) fun b12 => purK (bif b12 then some x0 else some (.tup [])) fun x42_1 =>
    boolK (wantV x40_1 false) fun b13 => purK (bif b13 then some x5 else some (.tup [])) fun x43_1 =>
    boolK (wantV x40_1 false) fun b14 => purK (bif b14 then ixS 8 x42_1 x43_1 else some (.tup [])) fun x44_1 =>
    boolK (wantV x40_1 false) fun b15 => purK (bif b15 then addA 2 x44_1 else some (.tup [])) fun x45_1 =>
    boolK (wantV x40_1 false) fun b16 => purK (bif b16 then ld1 ρ H x45_1 else some (.tup [])) fun x46_1 =>
    boolK (wantV x40_1 false) fun b17 => purK (bif b17 then some x1 else some (.tup [])) fun x47_1 =>
    boolK (wantV x40_1 false) fun b18 => purK (bif b18 then some x5 else some (.tup [])) fun x48_1 =>
    boolK (wantV x40_1 false) fun b19 => purK (bif b19 then ixS 8 x47_1 x48_1 else some (.tup [])) fun x49_1 =>
    boolK (wantV x40_1 false) fun b20 => purK (bif b20 then addA 2 x49_1 else some (.tup [])) fun x50_1 =>
    boolK (wantV x40_1 false) fun b21 => purK (bif b21 then ld1 ρ H x50_1 else some (.tup [])) fun x51_1 =>
    boolK (wantV x40_1 false) fun b22 => purK (bif b22 then binA Try.prog H .neq 3 x46_1 x51_1 else some (.tup [])) fun x52_1 =>
    purK (pickA x40_1 (.bool true) x52_1) fun x53_1 =>
    boolK (wantV x53_1 false) fun b23 => purK (bif b23 then some x0 else some (.tup [])) fun x55_1 =>
    boolK (wantV x53_1 false) fun b24 => purK (bif b24 then some x5 else some (.tup [])) fun x56_1 =>
    boolK (wantV x53_1 false) fun b25 => purK (bif b25 then ixS 8 x55_1 x56_1 else some (.tup [])) fun x57_1 =>
    boolK (wantV x53_1 false) fun b26 => purK (bif b26 then addA 3 x57_1 else some (.tup [])) fun x58_1 =>
    boolK (wantV x53_1 false) fun b27 => purK (bif b27 then ldN ρ H 4 x58_1 else some (.tup [])) fun x59_1 =>
    boolK (wantV x53_1 false) fun b28 => purK (bif b28 then some x1 else some (.tup [])) fun x60_1 =>
    boolK (wantV x53_1 false) fun b29 => purK (bif b29 then some x5 else some (.tup [])) fun x61_1 =>
    boolK (wantV x53_1 false) fun b30 => purK (bif b30 then ixS 8 x60_1 x61_1 else some (.tup [])) fun x62_1 =>
    boolK (wantV x53_1 false) fun b31 => purK (bif b31 then addA 3 x62_1 else some (.tup [])) fun x63_1 =>
    boolK (wantV x53_1 false) fun b32 => purK (bif b32 then ldN ρ H 4 x63_1 else some (.tup [])) fun x64_1 =>
    boolK (wantV x53_1 false) fun b33 => purK (bif b33 then binA Try.prog H .neq 39 x59_1 x64_1 else some (.tup [])) fun x65_1 =>
    purK (pickA x53_1 (.bool true) x65_1) fun x66_1 =>
    boolK (wantV x66_1 false) fun b34 => purK (bif b34 then some x0 else some (.tup [])) fun x68_1 =>
    boolK (wantV x66_1 false) fun b35 => purK (bif b35 then some x5 else some (.tup [])) fun x69_1 =>
    boolK (wantV x66_1 false) fun b36 => purK (bif b36 then ixS 8 x68_1 x69_1 else some (.tup [])) fun x70_1 =>
    boolK (wantV x66_1 false) fun b37 => purK (bif b37 then addA 7 x70_1 else some (.tup [])) fun x71_1 =>
    boolK (wantV x66_1 false) fun b38 => purK (bif b38 then ld1 ρ H x71_1 else some (.tup [])) fun x72_1 =>
    boolK (wantV x66_1 false) fun b39 => purK (bif b39 then some x1 else some (.tup [])) fun x73_1 =>
    boolK (wantV x66_1 false) fun b40 => purK (bif b40 then some x5 else some (.tup [])) fun x74_1 =>
    boolK (wantV x66_1 false) fun b41 => purK (bif b41 then ixS 8 x73_1 x74_1 else some (.tup [])) fun x75_1 =>
    boolK (wantV x66_1 false) fun b42 => purK (bif b42 then addA 7 x75_1 else some (.tup [])) fun x76_1 =>
    boolK (wantV x66_1 false) fun b43 => purK (bif b43 then ld1 ρ H x76_1 else some (.tup [])) fun x77_1 =>
    boolK (wantV x66_1 false) fun b44 => resK (gRes (some b44) H (call lim 30 [x72_1, x77_1] H)) fun x78_1 H => bif !b44 || ((!b43 || true) && ((!b38 || true) && ((!b33 || true) && ((!b32 || true) && ((!b27 || true) && ((!b22 || true) && ((!b21 || true) && ((!b16 || true) && ((!b11 || true) && ((!b10 || true) && ((!b5 || true) && true))))))))))) then
      purK (gPur (wantV x66_1 false) (unA .not x78_1)) fun x79_1 =>
      purK (pickA x66_1 (.bool true) x79_1) fun x80_1 =>
      J (Code.at [1, 1, 0, 1, 0, 0, 1, 0, 0, 1] c29) (sp 81 [(0, x0), (1, x1), (5, x5), (80, x80_1)]) H (kk (some [0, 1, 5]) (fun s H => J (Code.at [1, 1, 0, 1, 0, 0, 1, 1] c29) s H (kk (some [0, 1, 5]) kn [(0, (some []), k0)] R [4])) [(1, (some [0, 1, 5]), (fun s H => J (Code.at [1, 1, 0, 1, 0, 0, 1, 1] c29) s H (kk (some [0, 1, 5]) kn [(0, (some []), k0)] R [4]))), (0, (some []), k0)] R [4])
    else none)
  (
    k0 (sp 81 []) H) := by
  kernel_rfl
theorem N29_3b_eq (ρ : Addr → Option Value) (call : CallF) (yc : YieldF) (lim k : Nat) (x0 x1 x5 : AV) (H : Heap) (kn : KS) (k0 : KS) (R : List AV → Heap → Res) :
    evL (cx ρ) call yc false 29 lim k (Code.at [1, 1, 0, 1, 0, 0] c29) (sp 81 [(0, x0), (1, x1), (5, x5)]) H (kk (some [0, 1, 5]) kn [(0, (some []), k0)] R [4]) = N29_3b ρ call yc lim k x0 x1 x5 H (fun x5 H => kn (sp 81 [(0, x0), (1, x1), (5, x5)]) H) (fun H => k0 (sp 81 []) H) R := by
  rw [evL_X, N29_3b_x]
  simp only [← evL_X, N29_3b, N29_4_eq, N29_5_eq]
noncomputable def N29_3 (ρ : Addr → Option Value) (call : CallF) (yc : YieldF) (lim k : Nat) (x0 x1 x5 : AV) (H : Heap) (k0 : Heap → Res) (R : List AV → Heap → Res) : Res :=
  loopL (fun (x : AV) H kn => N29_3b ρ call yc lim k x0 x1 x H (fun x5 H => kn x5 H) k0 R) k x5 H
theorem N29_3_eq (ρ : Addr → Option Value) (call : CallF) (yc : YieldF) (lim k : Nat) (x0 x1 x5 : AV) (H : Heap) (kn : KS) (k0 : KS) (R : List AV → Heap → Res) :
    evL (cx ρ) call yc false 29 lim k (Code.at [1, 1, 0, 1, 0] c29) (sp 81 [(0, x0), (1, x1), (5, x5)]) H (kk (some []) kn [(0, (some []), k0)] R [4]) = N29_3 ρ call yc lim k x0 x1 x5 H (fun H => k0 (sp 81 []) H) R := by
  have e : Code.at [1, 1, 0, 1, 0] c29 = .loop (Code.at [1, 1, 0, 1, 0, 0] c29) := by kernel_rfl
  rw [e]
  unfold N29_3
  exact loop_node [0, 1, 5] (fun x : AV => (sp 81 [(0, x0), (1, x1), (5, (x))])) (fun (x : AV) H kn => N29_3b ρ call yc lim k x0 x1 x H (fun x5 H => kn x5 H) (fun H => k0 (sp 81 []) H) R) (by kernel_rfl) (fun x => by kernel_rfl) (fun x H kn => N29_3b_eq ρ call yc lim k x0 x1 (x) H kn k0 R) x5 (sp 81 [(0, x0), (1, x1), (5, x5)]) H (by kernel_rfl)
noncomputable def N29_2 (ρ : Addr → Option Value) (call : CallF) (yc : YieldF) (lim k : Nat) (x0 x1 x5 : AV) (H : Heap) (kn : Heap → Res) (R : List AV → Heap → Res) : Res :=
  N29_3 ρ call yc lim k x0 x1 x5 H kn R
theorem N29_2_x (ρ : Addr → Option Value) (call : CallF) (yc : YieldF) (lim k : Nat) (J : CodeF) (x0 x1 x5 : AV) (H : Heap) (kn : KS) (R : List AV → Heap → Res) :
    evX (cx ρ) call yc false 29 lim k J (Code.at [1, 1, 0, 1] c29) (sp 81 [(0, x0), (1, x1), (5, x5)]) H (kk (some []) kn [] R [4]) =
  J (Code.at [1, 1, 0, 1, 0] c29) (sp 81 [(0, x0), (1, x1), (5, x5)]) H (kk (some []) kn [(0, (some []), kn)] R [4]) := by
  kernel_rfl
theorem N29_2_eq (ρ : Addr → Option Value) (call : CallF) (yc : YieldF) (lim k : Nat) (x0 x1 x5 : AV) (H : Heap) (kn : KS) (R : List AV → Heap → Res) :
    evL (cx ρ) call yc false 29 lim k (Code.at [1, 1, 0, 1] c29) (sp 81 [(0, x0), (1, x1), (5, x5)]) H (kk (some []) kn [] R [4]) = N29_2 ρ call yc lim k x0 x1 x5 H (fun H => kn (sp 81 []) H) R := by
  rw [evL_X, N29_2_x]
  simp only [← evL_X, N29_2, N29_3_eq]
noncomputable def L29 (ρ : Addr → Option Value) (call : CallF) (yc : YieldF) (lim k : Nat) (x0 x1 : AV) (H : Heap) : Res :=
  purK (lenS x0) fun x7 =>
  purK (lenS x1) fun x9 =>
  purK (binA Try.prog H .neq 3 x7 x9) fun x10 =>
  condK x10
  (
    retK [(.bool false)] H)
  (
    N29_2 ρ call yc lim k x0 x1 (.int .i64 0) H (fun H =>
      N29_1 ρ call yc lim k H retK) retK)
theorem L29_x (ρ : Addr → Option Value) (call : CallF) (yc : YieldF) (lim k : Nat) (J : CodeF) (x0 x1 : AV) (H : Heap) :
    evX (cx ρ) call yc false 29 lim k J c29 [x0, x1, (.tup []), (.tup []), (.tup []), (.tup []), (.tup []), (.tup []), (.tup []), (.tup []), (.tup []), (.tup []), (.tup []), (.tup []), (.tup []), (.tup []), (.tup []), (.tup []), (.tup []), (.tup []), (.tup []), (.tup []), (.tup []), (.tup []), (.tup []), (.tup []), (.tup []), (.tup []), (.tup []), (.tup []), (.tup []), (.tup []), (.tup []), (.tup []), (.tup []), (.tup []), (.tup []), (.tup []), (.tup []), (.tup []), (.tup []), (.tup []), (.tup []), (.tup []), (.tup []), (.tup []), (.tup []), (.tup []), (.tup []), (.tup []), (.tup []), (.tup []), (.tup []), (.tup []), (.tup []), (.tup []), (.tup []), (.tup []), (.tup []), (.tup []), (.tup []), (.tup []), (.tup []), (.tup []), (.tup []), (.tup []), (.tup []), (.tup []), (.tup []), (.tup []), (.tup []), (.tup []), (.tup []), (.tup []), (.tup []), (.tup []), (.tup []), (.tup []), (.tup []), (.tup []), (.tup [])] H (kk none (fun s H => retK (([4] : List Nat).map fun t => s.getD t (.tup [])) H) [] retK [4]) =
  purK (lenS x0) fun x7 =>
  purK (lenS x1) fun x9 =>
  purK (binA Try.prog H .neq 3 x7 x9) fun x10 =>
  condK x10
  (
    retK [(.bool false)] H)
  (
    J (Code.at [1, 1, 0, 1] c29) (sp 81 [(0, x0), (1, x1), (5, (.int .i64 0))]) H (kk (some []) (fun s H => J (Code.at [1, 1, 1] c29) s H (kk none (fun s H => retK (([4] : List Nat).map fun t => s.getD t (.tup [])) H) [] retK [4])) [] retK [4])) := by
  kernel_rfl
theorem G29 (ρ : Addr → Option Value) (call : CallF) (yc : YieldF) (lim k : Nat) (x0 x1 : AV) (H : Heap) :
    evL (cx ρ) call yc false 29 lim k c29 [x0, x1, (.tup []), (.tup []), (.tup []), (.tup []), (.tup []), (.tup []), (.tup []), (.tup []), (.tup []), (.tup []), (.tup []), (.tup []), (.tup []), (.tup []), (.tup []), (.tup []), (.tup []), (.tup []), (.tup []), (.tup []), (.tup []), (.tup []), (.tup []), (.tup []), (.tup []), (.tup []), (.tup []), (.tup []), (.tup []), (.tup []), (.tup []), (.tup []), (.tup []), (.tup []), (.tup []), (.tup []), (.tup []), (.tup []), (.tup []), (.tup []), (.tup []), (.tup []), (.tup []), (.tup []), (.tup []), (.tup []), (.tup []), (.tup []), (.tup []), (.tup []), (.tup []), (.tup []), (.tup []), (.tup []), (.tup []), (.tup []), (.tup []), (.tup []), (.tup []), (.tup []), (.tup []), (.tup []), (.tup []), (.tup []), (.tup []), (.tup []), (.tup []), (.tup []), (.tup []), (.tup []), (.tup []), (.tup []), (.tup []), (.tup []), (.tup []), (.tup []), (.tup []), (.tup []), (.tup [])] H (kk none (fun s H => retK (([4] : List Nat).map fun t => s.getD t (.tup [])) H) [] retK [4]) = L29 ρ call yc lim k x0 x1 H := by
  rw [evL_X, L29_x]
  simp only [← evL_X, L29, N29_1_eq, N29_2_eq]
theorem E29 (ρ : Addr → Option Value) (k lim : Nat) (x0 x1 : AV) (H : Heap) : evCall (cx ρ) (k + 1) lim 29 [x0, x1] H = L29 ρ (evCall (cx ρ) k) (evCY (cx ρ) k).2 lim k x0 x1 H := by
  rw [evCall_body (cx ρ) k lim 29 _ H Try.f29 c29 [4] (by kernel_rfl) (by kernel_rfl) (by kernel_rfl) (by kernel_rfl) (by kernel_rfl)]
  exact G29 ρ (evCall (cx ρ) k) (evCY (cx ρ) k).2 lim k x0 x1 H
-- haycroft/haycroftref11.Ints
noncomputable def c30 : Code := Code.of Try.prog 30
noncomputable def N30_1 (ρ : Addr → Option Value) (call : CallF) (yc : YieldF) (lim k : Nat) (H : Heap) (R : List AV → Heap → Res) : Res :=
  R [(.bool true)] H
theorem N30_1_eq (ρ : Addr → Option Value) (call : CallF) (yc : YieldF) (lim k : Nat) (H : Heap) (R : List AV → Heap → Res) :
    evL (cx ρ) call yc false 30 lim k (Code.at [1, 1, 1] c30) (sp 26 []) H (kk none (fun s H => R (([4] : List Nat).map fun t => s.getD t (.tup [])) H) [] R [4]) = N30_1 ρ call yc lim k H R := by
  kernel_rfl
noncomputable def N30_3b (ρ : Addr → Option Value) (call : CallF) (yc : YieldF) (lim k : Nat) (x0 x1 x5 : AV) (H : Heap) (kn : AV → Heap → Res) (k0 : Heap → Res) (R : List AV → Heap → Res) : Res :=
  purK (lenS x0) fun x13_1 =>
  purK (binA Try.prog H .lss 3 x5 x13_1) fun x14_1 =>
  condK x14_1
  (
    purK (ixS 1 x0 x5) fun x19_1 =>
    purK (ld1 ρ H x19_1) fun x20_1 =>
    purK (ixS 1 x1 x5) fun x23_1 =>
    purK (ld1 ρ H x23_1) fun x24_1 =>
    purK (binA Try.prog H .neq 3 x20_1 x24_1) fun x25_1 =>
    condK x25_1
    (
      R [(.bool false)] H)
    (
      purK (binA Try.prog H .add 3 x5 (.int .i64 1)) fun x16_1 =>
      kn x16_1 H))
  (
    k0 H)
theorem N30_3b_eq (ρ : Addr → Option Value) (call : CallF) (yc : YieldF) (lim k : Nat) (x0 x1 x5 : AV) (H : Heap) (kn : KS) (k0 : KS) (R : List AV → Heap → Res) :
    evL (cx ρ) call yc false 30 lim k (Code.at [1, 1, 0, 1, 0, 0] c30) (sp 26 [(0, x0), (1, x1), (5, x5)]) H (kk (some [0, 1, 5]) kn [(0, (some []), k0)] R [4]) = N30_3b ρ call yc lim k x0 x1 x5 H (fun x5 H => kn (sp 26 [(0, x0), (1, x1), (5, x5)]) H) (fun H => k0 (sp 26 []) H) R := by
  kernel_rfl
noncomputable def N30_3 (ρ : Addr → Option Value) (call : CallF) (yc : YieldF) (lim k : Nat) (x0 x1 x5 : AV) (H : Heap) (k0 : Heap → Res) (R : List AV → Heap → Res) : Res :=
  loopL (fun (x : AV) H kn => N30_3b ρ call yc lim k x0 x1 x H (fun x5 H => kn x5 H) k0 R) k x5 H
theorem N30_3_eq (ρ : Addr → Option Value) (call : CallF) (yc : YieldF) (lim k : Nat) (x0 x1 x5 : AV) (H : Heap) (kn : KS) (k0 : KS) (R : List AV → Heap → Res) :
    evL (cx ρ) call yc false 30 lim k (Code.at [1, 1, 0, 1, 0] c30) (sp 26 [(0, x0), (1, x1), (5, x5)]) H (kk (some []) kn [(0, (some []), k0)] R [4]) = N30_3 ρ call yc lim k x0 x1 x5 H (fun H => k0 (sp 26 []) H) R := by
  have e : Code.at [1, 1, 0, 1, 0] c30 = .loop (Code.at [1, 1, 0, 1, 0, 0] c30) := by kernel_rfl
  rw [e]
  unfold N30_3
  exact loop_node [0, 1, 5] (fun x : AV => (sp 26 [(0, x0), (1, x1), (5, (x))])) (fun (x : AV) H kn => N30_3b ρ call yc lim k x0 x1 x H (fun x5 H => kn x5 H) (fun H => k0 (sp 26 []) H) R) (by kernel_rfl) (fun x => by kernel_rfl) (fun x H kn => N30_3b_eq ρ call yc lim k x0 x1 (x) H kn k0 R) x5 (sp 26 [(0, x0), (1, x1), (5, x5)]) H (by kernel_rfl)
noncomputable def N30_2 (ρ : Addr → Option Value) (call : CallF) (yc : YieldF) (lim k : Nat) (x0 x1 x5 : AV) (H : Heap) (kn : Heap → Res) (R : List AV → Heap → Res) : Res :=
  N30_3 ρ call yc lim k x0 x1 x5 H kn R
theorem N30_2_x (ρ : Addr → Option Value) (call : CallF) (yc : YieldF) (lim k : Nat) (J : CodeF) (x0 x1 x5 : AV) (H : Heap) (kn : KS) (R : List AV → Heap → Res) :
    evX (cx ρ) call yc false 30 lim k J (Code.at [1, 1, 0, 1] c30) (sp 26 [(0, x0), (1, x1), (5, x5)]) H (kk (some []) kn [] R [4]) =
  J (Code.at [1, 1, 0, 1, 0] c30) (sp 26 [(0, x0), (1, x1), (5, x5)]) H (kk (some []) kn [(0, (some []), kn)] R [4]) := by
  kernel_rfl
theorem N30_2_eq (ρ : Addr → Option Value) (call : CallF) (yc : YieldF) (lim k : Nat) (x0 x1 x5 : AV) (H : Heap) (kn : KS) (R : List AV → Heap → Res) :
    evL (cx ρ) call yc false 30 lim k (Code.at [1, 1, 0, 1] c30) (sp 26 [(0, x0), (1, x1), (5, x5)]) H (kk (some []) kn [] R [4]) = N30_2 ρ call yc lim k x0 x1 x5 H (fun H => kn (sp 26 []) H) R := by
  rw [evL_X, N30_2_x]
  simp only [← evL_X, N30_2, N30_3_eq]
noncomputable def L30 (ρ : Addr → Option Value) (call : CallF) (yc : YieldF) (lim k : Nat) (x0 x1 : AV) (H : Heap) : Res :=
  purK (lenS x0) fun x7 =>
  purK (lenS x1) fun x9 =>
  purK (binA Try.prog H .neq 3 x7 x9) fun x10 =>
  condK x10
  (
    retK [(.bool false)] H)
  (
    N30_2 ρ call yc lim k x0 x1 (.int .i64 0) H (fun H =>
      N30_1 ρ call yc lim k H retK) retK)
theorem L30_x (ρ : Addr → Option Value) (call : CallF) (yc : YieldF) (lim k : Nat) (J : CodeF) (x0 x1 : AV) (H : Heap) :
    evX (cx ρ) call yc false 30 lim k J c30 [x0, x1, (.tup []), (.tup []), (.tup []), (.tup []), (.tup []), (.tup []), (.tup []), (.tup []), (.tup []), (.tup []), (.tup []), (.tup []), (.tup []), (.tup []), (.tup []), (.tup []), (.tup []), (.tup []), (.tup []), (.tup []), (.tup []), (.tup []), (.tup []), (.tup [])] H (kk none (fun s H => retK (([4] : List Nat).map fun t => s.getD t (.tup [])) H) [] retK [4]) =
  purK (lenS x0) fun x7 =>
  purK (lenS x1) fun x9 =>
  purK (binA Try.prog H .neq 3 x7 x9) fun x10 =>
  condK x10
  (
    retK [(.bool false)] H)
  (
    J (Code.at [1, 1, 0, 1] c30) (sp 26 [(0, x0), (1, x1), (5, (.int .i64 0))]) H (kk (some []) (fun s H => J (Code.at [1, 1, 1] c30) s H (kk none (fun s H => retK (([4] : List Nat).map fun t => s.getD t (.tup [])) H) [] retK [4])) [] retK [4])) := by
  kernel_rfl
theorem G30 (ρ : Addr → Option Value) (call : CallF) (yc : YieldF) (lim k : Nat) (x0 x1 : AV) (H : Heap) :
    evL (cx ρ) call yc false 30 lim k c30 [x0, x1, (.tup []), (.tup []), (.tup []), (.tup []), (.tup []), (.tup []), (.tup []), (.tup []), (.tup []), (.tup []), (.tup []), (.tup []), (.tup []), (.tup []), (.tup []), (.tup []), (.tup []), (.tup []), (.tup []), (.tup []), (.tup []), (.tup []), (.tup []), (.tup [])] H (kk none (fun s H => retK (([4] : List Nat).map fun t => s.getD t (.tup [])) H) [] retK [4]) = L30 ρ call yc lim k x0 x1 H := by
  rw [evL_X, L30_x]
  simp only [← evL_X, L30, N30_1_eq, N30_2_eq]
theorem E30 (ρ : Addr → Option Value) (k lim : Nat) (x0 x1 : AV) (H : Heap) : evCall (cx ρ) (k + 1) lim 30 [x0, x1] H = L30 ρ (evCall (cx ρ) k) (evCY (cx ρ) k).2 lim k x0 x1 H := by
  rw [evCall_body (cx ρ) k lim 30 _ H Try.f30 c30 [4] (by kernel_rfl) (by kernel_rfl) (by kernel_rfl) (by kernel_rfl) (by kernel_rfl)]
  exact G30 ρ (evCall (cx ρ) k) (evCY (cx ρ) k).2 lim k x0 x1 H
-- haycroft/plan.Spread
noncomputable def c31 : Code := Code.of Try.prog 31
noncomputable def N31_1 (ρ : Addr → Option Value) (call : CallF) (yc : YieldF) (lim k : Nat) (x3 : AV) (H : Heap) (R : List AV → Heap → Res) : Res :=
  R [x3] H
theorem N31_1_eq (ρ : Addr → Option Value) (call : CallF) (yc : YieldF) (lim k : Nat) (x3 : AV) (H : Heap) (R : List AV → Heap → Res) :
    evL (cx ρ) call yc false 31 lim k (Code.at [1, 1, 1] c31) (sp 31 [(3, x3)]) H (kk none (fun s H => R (([2] : List Nat).map fun t => s.getD t (.tup [])) H) [] R [2]) = N31_1 ρ call yc lim k x3 H R := by
  kernel_rfl
noncomputable def N31_4 (ρ : Addr → Option Value) (call : CallF) (yc : YieldF) (lim k : Nat) (x3 x7 x8 x9 : AV) (H : Heap) (kn : AV → Heap → Res) : Res :=
  purK (binA Try.prog H .add 3 x9 (.int .i64 1)) fun x29_1 =>
  kn x29_1 H
theorem N31_4_eq (ρ : Addr → Option Value) (call : CallF) (yc : YieldF) (lim k : Nat) (x3 x7 x8 x9 : AV) (H : Heap) (kn : KS) (k0 : KS) (R : List AV → Heap → Res) :
    evL (cx ρ) call yc false 31 lim k (Code.at [1, 1, 0, 1, 0, 0, 1, 1, 1] c31) (sp 31 [(3, x3), (7, x7), (8, x8), (9, x9)]) H (kk (some [3, 7, 8, 9]) kn [(0, (some [3]), k0)] R [2]) = N31_4 ρ call yc lim k x3 x7 x8 x9 H (fun x9 H => kn (sp 31 [(3, x3), (7, x7), (8, x8), (9, x9)]) H) := by
  kernel_rfl
noncomputable def N31_3b (ρ : Addr → Option Value) (call : CallF) (yc : YieldF) (lim k : Nat) (x3 x7 x8 x9 : AV) (H : Heap) (kn : AV → Heap → Res) (k0 : AV → Heap → Res) : Res :=
  purK (binA Try.prog H .lss 3 x9 x8) fun x10_1 =>
  condK x10_1
  (
    purK (ixS 8 x7 x9) fun x11_1 =>
    purK (ldN ρ H 8 x11_1) fun x12_1 =>
    effK H (some (.ptr H.sz 0 0, .new (newCells 42 false [.int .i64 0, .int .i64 0, .int .i64 0, .int .i64 0, .str ByteArray.empty, .str ByteArray.empty, .int .u64 0, .nils]))) fun x5_1 H =>
    effK H (stA lim H 8 x5_1 x12_1) fun _ H =>
    purK (addA 0 x5_1) fun x13_1 =>
    purK (ld1 ρ H x13_1) fun x14_1 =>
    purK (binA Try.prog H .geq 3 x14_1 (.int .i64 1)) fun x15_1 =>
    purK (gPur (wantV x15_1 true) (addA 0 x5_1)) fun x17_1 =>
    purK (gPur (wantV x15_1 true) (ld1 ρ H x17_1)) fun x18_1 =>
    purK (gPur (wantV x15_1 true) (binA Try.prog H .leq 3 x18_1 (.int .i64 10))) fun x19_1 =>
    purK (pickA x15_1 x19_1 (.bool false)) fun x20_1 =>
    condK x20_1
    (
      purK (addA 0 x5_1) fun x22_1 =>
      purK (ld1 ρ H x22_1) fun x23_1 =>
      purK (binA Try.prog H .sub 3 x23_1 (.int .i64 1)) fun x24_1 =>
      purK (ixS 1 x3 x24_1) fun x25_1 =>
      purK (ld1 ρ H x25_1) fun x26_1 =>
      purK (binA Try.prog H .add 3 x26_1 (.int .i64 1)) fun x27_1 =>
      purK (ixS 1 x3 x24_1) fun x28_1 =>
      effK H (stA lim H 1 x28_1 x27_1) fun _ H =>
      N31_4 ρ call yc lim k x3 x7 x8 x9 H kn)
    (
      N31_4 ρ call yc lim k x3 x7 x8 x9 H kn))
  (
    k0 x3 H)
theorem N31_3b_x (ρ : Addr → Option Value) (call : CallF) (yc : YieldF) (lim k : Nat) (J : CodeF) (x3 x7 x8 x9 : AV) (H : Heap) (kn : KS) (k0 : KS) (R : List AV → Heap → Res) :
    evX (cx ρ) call yc false 31 lim k J (Code.at [1, 1, 0, 1, 0, 0] c31) (sp 31 [(3, x3), (7, x7), (8, x8), (9, x9)]) H (kk (some [3, 7, 8, 9]) kn [(0, (some [3]), k0)] R [2]) =
  purK (binA Try.prog H .lss 3 x9 x8) fun x10_1 =>
  condK x10_1
  (
    purK (ixS 8 x7 x9) fun x11_1 =>
    purK (ldN ρ H 8 x11_1) fun x12_1 =>
    effK H (some (.ptr H.sz 0 0, .new (newCells 42 false [.int .i64 0, .int .i64 0, .int .i64 0, .int .i64 0, .str ByteArray.empty, .str ByteArray.empty, .int .u64 0, .nils]))) fun x5_1 H =>
    effK H (stA lim H 8 x5_1 x12_1) fun _ H =>
    purK (addA 0 x5_1) fun x13_1 =>
    purK (ld1 ρ H x13_1) fun x14_1 =>
    purK (binA Try.prog H .geq 3 x14_1 (.int .i64 1)) fun x15_1 =>
    purK (gPur (wantV x15_1 true) (addA 0 x5_1)) fun x17_1 =>
    purK (gPur (wantV x15_1 true) (ld1 ρ H x17_1)) fun x18_1 =>
    purK (gPur (wantV x15_1 true) (binA Try.prog H .leq 3 x18_1 (.int .i64 10))) fun x19_1 =>
    purK (pickA x15_1 x19_1 (.bool false)) fun x20_1 =>
    condK x20_1
    (
      purK (addA 0 x5_1) fun x22_1 =>
      purK (ld1 ρ H x22_1) fun x23_1 =>
      purK (binA Try.prog H .sub 3 x23_1 (.int .i64 1)) fun x24_1 =>
      purK (ixS 1 x3 x24_1) fun x25_1 =>
      purK (ld1 ρ H x25_1) fun x26_1 =>
      purK (binA Try.prog H .add 3 x26_1 (.int .i64 1)) fun x27_1 =>
      purK (ixS 1 x3 x24_1) fun x28_1 =>
      effK H (stA lim H 1 x28_1 x27_1) fun _ H =>
      J (Code.at [1, 1, 0, 1, 0, 0, 1, 1, 1] c31) (sp 31 [(3, x3), (7, x7), (8, x8), (9, x9)]) H (kk (some [3, 7, 8, 9]) kn [(0, (some [3]), k0)] R [2]))
    (
      J (Code.at [1, 1, 0, 1, 0, 0, 1, 1, 1] c31) (sp 31 [(3, x3), (7, x7), (8, x8), (9, x9)]) H (kk (some [3, 7, 8, 9]) kn [(0, (some [3]), k0)] R [2])))
  (
    k0 (sp 31 [(3, x3)]) H) := by
  kernel_rfl
theorem N31_3b_eq (ρ : Addr → Option Value) (call : CallF) (yc : YieldF) (lim k : Nat) (x3 x7 x8 x9 : AV) (H : Heap) (kn : KS) (k0 : KS) (R : List AV → Heap → Res) :
    evL (cx ρ) call yc false 31 lim k (Code.at [1, 1, 0, 1, 0, 0] c31) (sp 31 [(3, x3), (7, x7), (8, x8), (9, x9)]) H (kk (some [3, 7, 8, 9]) kn [(0, (some [3]), k0)] R [2]) = N31_3b ρ call yc lim k x3 x7 x8 x9 H (fun x9 H => kn (sp 31 [(3, x3), (7, x7), (8, x8), (9, x9)]) H) (fun x3 H => k0 (sp 31 [(3, x3)]) H) := by
  rw [evL_X, N31_3b_x]
  simp only [← evL_X, N31_3b, N31_4_eq]
noncomputable def N31_3 (ρ : Addr → Option Value) (call : CallF) (yc : YieldF) (lim k : Nat) (x3 x7 x8 x9 : AV) (H : Heap) (k0 : AV → Heap → Res) : Res :=
  loopL (fun (x : AV) H kn => N31_3b ρ call yc lim k x3 x7 x8 x H (fun x9 H => kn x9 H) k0) k x9 H
theorem N31_3_eq (ρ : Addr → Option Value) (call : CallF) (yc : YieldF) (lim k : Nat) (x3 x7 x8 x9 : AV) (H : Heap) (kn : KS) (k0 : KS) (R : List AV → Heap → Res) :
    evL (cx ρ) call yc false 31 lim k (Code.at [1, 1, 0, 1, 0] c31) (sp 31 [(3, x3), (7, x7), (8, x8), (9, x9)]) H (kk (some [3]) kn [(0, (some [3]), k0)] R [2]) = N31_3 ρ call yc lim k x3 x7 x8 x9 H (fun x3 H => k0 (sp 31 [(3, x3)]) H) := by
  have e : Code.at [1, 1, 0, 1, 0] c31 = .loop (Code.at [1, 1, 0, 1, 0, 0] c31) := by kernel_rfl
  rw [e]
  unfold N31_3
  exact loop_node [3, 7, 8, 9] (fun x : AV => (sp 31 [(3, x3), (7, x7), (8, x8), (9, (x))])) (fun (x : AV) H kn => N31_3b ρ call yc lim k x3 x7 x8 x H (fun x9 H => kn x9 H) (fun x3 H => k0 (sp 31 [(3, x3)]) H)) (by kernel_rfl) (fun x => by kernel_rfl) (fun x H kn => N31_3b_eq ρ call yc lim k x3 x7 x8 (x) H kn k0 R) x9 (sp 31 [(3, x3), (7, x7), (8, x8), (9, x9)]) H (by kernel_rfl)
noncomputable def N31_2 (ρ : Addr → Option Value) (call : CallF) (yc : YieldF) (lim k : Nat) (x3 x7 x8 x9 : AV) (H : Heap) (kn : AV → Heap → Res) : Res :=
  N31_3 ρ call yc lim k x3 x7 x8 x9 H kn
theorem N31_2_x (ρ : Addr → Option Value) (call : CallF) (yc : YieldF) (lim k : Nat) (J : CodeF) (x3 x7 x8 x9 : AV) (H : Heap) (kn : KS) (R : List AV → Heap → Res) :
    evX (cx ρ) call yc false 31 lim k J (Code.at [1, 1, 0, 1] c31) (sp 31 [(3, x3), (7, x7), (8, x8), (9, x9)]) H (kk (some [3]) kn [] R [2]) =
  J (Code.at [1, 1, 0, 1, 0] c31) (sp 31 [(3, x3), (7, x7), (8, x8), (9, x9)]) H (kk (some [3]) kn [(0, (some [3]), kn)] R [2]) := by
  kernel_rfl
theorem N31_2_eq (ρ : Addr → Option Value) (call : CallF) (yc : YieldF) (lim k : Nat) (x3 x7 x8 x9 : AV) (H : Heap) (kn : KS) (R : List AV → Heap → Res) :
    evL (cx ρ) call yc false 31 lim k (Code.at [1, 1, 0, 1] c31) (sp 31 [(3, x3), (7, x7), (8, x8), (9, x9)]) H (kk (some [3]) kn [] R [2]) = N31_2 ρ call yc lim k x3 x7 x8 x9 H (fun x3 H => kn (sp 31 [(3, x3)]) H) := by
  rw [evL_X, N31_2_x]
  simp only [← evL_X, N31_2, N31_3_eq]
noncomputable def L31 (ρ : Addr → Option Value) (call : CallF) (yc : YieldF) (lim k : Nat) (x0 : AV) (H : Heap) : Res :=
  effK H (mkS H 3 1 8 [.int .i64 0] (.int .i64 10) (.int .i64 10)) fun x6 H =>
  purK (lenS x0) fun x8 =>
  N31_2 ρ call yc lim k x6 x0 x8 (.int .i64 0) H (fun x3 H =>
    N31_1 ρ call yc lim k x3 H retK)
theorem L31_x (ρ : Addr → Option Value) (call : CallF) (yc : YieldF) (lim k : Nat) (J : CodeF) (x0 : AV) (H : Heap) :
    evX (cx ρ) call yc false 31 lim k J c31 [x0, (.tup []), (.tup []), (.tup []), (.tup []), (.tup []), (.tup []), (.tup []), (.tup []), (.tup []), (.tup []), (.tup []), (.tup []), (.tup []), (.tup []), (.tup []), (.tup []), (.tup []), (.tup []), (.tup []), (.tup []), (.tup []), (.tup []), (.tup []), (.tup []), (.tup []), (.tup []), (.tup []), (.tup []), (.tup []), (.tup [])] H (kk none (fun s H => retK (([2] : List Nat).map fun t => s.getD t (.tup [])) H) [] retK [2]) =
  effK H (mkS H 3 1 8 [.int .i64 0] (.int .i64 10) (.int .i64 10)) fun x6 H =>
  purK (lenS x0) fun x8 =>
  J (Code.at [1, 1, 0, 1] c31) (sp 31 [(3, x6), (7, x0), (8, x8), (9, (.int .i64 0))]) H (kk (some [3]) (fun s H => J (Code.at [1, 1, 1] c31) s H (kk none (fun s H => retK (([2] : List Nat).map fun t => s.getD t (.tup [])) H) [] retK [2])) [] retK [2]) := by
  kernel_rfl
theorem G31 (ρ : Addr → Option Value) (call : CallF) (yc : YieldF) (lim k : Nat) (x0 : AV) (H : Heap) :
    evL (cx ρ) call yc false 31 lim k c31 [x0, (.tup []), (.tup []), (.tup []), (.tup []), (.tup []), (.tup []), (.tup []), (.tup []), (.tup []), (.tup []), (.tup []), (.tup []), (.tup []), (.tup []), (.tup []), (.tup []), (.tup []), (.tup []), (.tup []), (.tup []), (.tup []), (.tup []), (.tup []), (.tup []), (.tup []), (.tup []), (.tup []), (.tup []), (.tup []), (.tup [])] H (kk none (fun s H => retK (([2] : List Nat).map fun t => s.getD t (.tup [])) H) [] retK [2]) = L31 ρ call yc lim k x0 H := by
  rw [evL_X, L31_x]
  simp only [← evL_X, L31, N31_1_eq, N31_2_eq]
theorem E31 (ρ : Addr → Option Value) (k lim : Nat) (x0 : AV) (H : Heap) : evCall (cx ρ) (k + 1) lim 31 [x0] H = L31 ρ (evCall (cx ρ) k) (evCY (cx ρ) k).2 lim k x0 H := by
  rw [evCall_body (cx ρ) k lim 31 _ H Try.f31 c31 [2] (by kernel_rfl) (by kernel_rfl) (by kernel_rfl) (by kernel_rfl) (by kernel_rfl)]
  exact G31 ρ (evCall (cx ρ) k) (evCY (cx ρ) k).2 lim k x0 H
-- haycroft/haycroftref03.Turn
noncomputable def c32 : Code := Code.of Try.prog 32
noncomputable def L32 (ρ : Addr → Option Value) (call : CallF) (yc : YieldF) (lim k : Nat) (x0 x1 : AV) (H : Heap) : Res :=
  purK (binA Try.prog H .or 22 x0 x1) fun x7 =>
  purK (binA Try.prog H .and 22 x0 x1) fun x10 =>
  purK (binA Try.prog H .sub 22 x7 x10) fun x11 =>
  retK [x11] H
theorem G32 (ρ : Addr → Option Value) (call : CallF) (yc : YieldF) (lim k : Nat) (x0 x1 : AV) (H : Heap) :
    evL (cx ρ) call yc false 32 lim k c32 [x0, x1, (.tup []), (.tup []), (.tup []), (.tup []), (.tup []), (.tup []), (.tup []), (.tup []), (.tup []), (.tup [])] H (kk none (fun s H => retK (([4] : List Nat).map fun t => s.getD t (.tup [])) H) [] retK [4]) = L32 ρ call yc lim k x0 x1 H := by
  kernel_rfl
theorem E32 (ρ : Addr → Option Value) (k lim : Nat) (x0 x1 : AV) (H : Heap) : evCall (cx ρ) (k + 1) lim 32 [x0, x1] H = L32 ρ (evCall (cx ρ) k) (evCY (cx ρ) k).2 lim k x0 x1 H := by
  rw [evCall_body (cx ρ) k lim 32 _ H Try.f32 c32 [4] (by kernel_rfl) (by kernel_rfl) (by kernel_rfl) (by kernel_rfl) (by kernel_rfl)]
  exact G32 ρ (evCall (cx ρ) k) (evCY (cx ρ) k).2 lim k x0 x1 H
-- haycroft/plan.moves
noncomputable def c34 : Code := Code.of Try.prog 34
noncomputable def N34_1 (ρ : Addr → Option Value) (call : CallF) (yc : YieldF) (lim k : Nat) (H : Heap) (R : List AV → Heap → Res) : Res :=
  R [(.bool true)] H
theorem N34_1_eq (ρ : Addr → Option Value) (call : CallF) (yc : YieldF) (lim k : Nat) (H : Heap) (R : List AV → Heap → Res) :
    evL (cx ρ) call yc false 34 lim k (Code.at [1, 1] c34) (sp 15 []) H (kk none (fun s H => R (([4] : List Nat).map fun t => s.getD t (.tup [])) H) [] R [4]) = N34_1 ρ call yc lim k H R := by
  kernel_rfl
noncomputable def N34_3b (ρ : Addr → Option Value) (call : CallF) (yc : YieldF) (lim k : Nat) (x0 x6 x7 : AV) (H : Heap) (kn : AV → Heap → Res) (k0 : Heap → Res) (R : List AV → Heap → Res) : Res :=
  purK (binA Try.prog H .lss 3 x7 x6) fun x8_1 =>
  condK x8_1
  (
    effK H (some (.ptr H.sz 0 0, .new (newCells 3 false [.int .i64 0]))) fun x5_1 H =>
    effK H (stA lim H 1 x5_1 x7) fun _ H =>
    resK (call lim 42 [x0, (.fn (.func 43) [] [x5_1])] H) fun x12_1 H =>
    purK (unA .not x12_1) fun x13_1 =>
    condK x13_1
    (
      R [(.bool false)] H)
    (
      purK (binA Try.prog H .add 3 x7 (.int .i64 1)) fun x14_1 =>
      kn x14_1 H))
  (
    k0 H)
theorem N34_3b_eq (ρ : Addr → Option Value) (call : CallF) (yc : YieldF) (lim k : Nat) (x0 x6 x7 : AV) (H : Heap) (kn : KS) (k0 : KS) (R : List AV → Heap → Res) :
    evL (cx ρ) call yc false 34 lim k (Code.at [1, 0, 1, 0, 0] c34) (sp 15 [(0, x0), (6, x6), (7, x7)]) H (kk (some [0, 6, 7]) kn [(0, (some []), k0)] R [4]) = N34_3b ρ call yc lim k x0 x6 x7 H (fun x7 H => kn (sp 15 [(0, x0), (6, x6), (7, x7)]) H) (fun H => k0 (sp 15 []) H) R := by
  kernel_rfl
noncomputable def N34_3 (ρ : Addr → Option Value) (call : CallF) (yc : YieldF) (lim k : Nat) (x0 x6 x7 : AV) (H : Heap) (k0 : Heap → Res) (R : List AV → Heap → Res) : Res :=
  loopL (fun (x : AV) H kn => N34_3b ρ call yc lim k x0 x6 x H (fun x7 H => kn x7 H) k0 R) k x7 H
theorem N34_3_eq (ρ : Addr → Option Value) (call : CallF) (yc : YieldF) (lim k : Nat) (x0 x6 x7 : AV) (H : Heap) (kn : KS) (k0 : KS) (R : List AV → Heap → Res) :
    evL (cx ρ) call yc false 34 lim k (Code.at [1, 0, 1, 0] c34) (sp 15 [(0, x0), (6, x6), (7, x7)]) H (kk (some []) kn [(0, (some []), k0)] R [4]) = N34_3 ρ call yc lim k x0 x6 x7 H (fun H => k0 (sp 15 []) H) R := by
  have e : Code.at [1, 0, 1, 0] c34 = .loop (Code.at [1, 0, 1, 0, 0] c34) := by kernel_rfl
  rw [e]
  unfold N34_3
  exact loop_node [0, 6, 7] (fun x : AV => (sp 15 [(0, x0), (6, x6), (7, (x))])) (fun (x : AV) H kn => N34_3b ρ call yc lim k x0 x6 x H (fun x7 H => kn x7 H) (fun H => k0 (sp 15 []) H) R) (by kernel_rfl) (fun x => by kernel_rfl) (fun x H kn => N34_3b_eq ρ call yc lim k x0 x6 (x) H kn k0 R) x7 (sp 15 [(0, x0), (6, x6), (7, x7)]) H (by kernel_rfl)
noncomputable def N34_2 (ρ : Addr → Option Value) (call : CallF) (yc : YieldF) (lim k : Nat) (x0 x6 x7 : AV) (H : Heap) (kn : Heap → Res) (R : List AV → Heap → Res) : Res :=
  N34_3 ρ call yc lim k x0 x6 x7 H kn R
theorem N34_2_x (ρ : Addr → Option Value) (call : CallF) (yc : YieldF) (lim k : Nat) (J : CodeF) (x0 x6 x7 : AV) (H : Heap) (kn : KS) (R : List AV → Heap → Res) :
    evX (cx ρ) call yc false 34 lim k J (Code.at [1, 0, 1] c34) (sp 15 [(0, x0), (6, x6), (7, x7)]) H (kk (some []) kn [] R [4]) =
  J (Code.at [1, 0, 1, 0] c34) (sp 15 [(0, x0), (6, x6), (7, x7)]) H (kk (some []) kn [(0, (some []), kn)] R [4]) := by
  kernel_rfl
theorem N34_2_eq (ρ : Addr → Option Value) (call : CallF) (yc : YieldF) (lim k : Nat) (x0 x6 x7 : AV) (H : Heap) (kn : KS) (R : List AV → Heap → Res) :
    evL (cx ρ) call yc false 34 lim k (Code.at [1, 0, 1] c34) (sp 15 [(0, x0), (6, x6), (7, x7)]) H (kk (some []) kn [] R [4]) = N34_2 ρ call yc lim k x0 x6 x7 H (fun H => kn (sp 15 []) H) R := by
  rw [evL_X, N34_2_x]
  simp only [← evL_X, N34_2, N34_3_eq]
noncomputable def L34 (ρ : Addr → Option Value) (call : CallF) (yc : YieldF) (lim k : Nat) (x0 x1 : AV) (H : Heap) : Res :=
  N34_2 ρ call yc lim k x0 x1 (.int .i64 0) H (fun H =>
    N34_1 ρ call yc lim k H retK) retK
theorem L34_x (ρ : Addr → Option Value) (call : CallF) (yc : YieldF) (lim k : Nat) (J : CodeF) (x0 x1 : AV) (H : Heap) :
    evX (cx ρ) call yc false 34 lim k J c34 [x0, x1, (.tup []), (.tup []), (.tup []), (.tup []), (.tup []), (.tup []), (.tup []), (.tup []), (.tup []), (.tup []), (.tup []), (.tup []), (.tup [])] H (kk none (fun s H => retK (([4] : List Nat).map fun t => s.getD t (.tup [])) H) [] retK [4]) =
  J (Code.at [1, 0, 1] c34) (sp 15 [(0, x0), (6, x1), (7, (.int .i64 0))]) H (kk (some []) (fun s H => J (Code.at [1, 1] c34) s H (kk none (fun s H => retK (([4] : List Nat).map fun t => s.getD t (.tup [])) H) [] retK [4])) [] retK [4]) := by
  kernel_rfl
theorem G34 (ρ : Addr → Option Value) (call : CallF) (yc : YieldF) (lim k : Nat) (x0 x1 : AV) (H : Heap) :
    evL (cx ρ) call yc false 34 lim k c34 [x0, x1, (.tup []), (.tup []), (.tup []), (.tup []), (.tup []), (.tup []), (.tup []), (.tup []), (.tup []), (.tup []), (.tup []), (.tup []), (.tup [])] H (kk none (fun s H => retK (([4] : List Nat).map fun t => s.getD t (.tup [])) H) [] retK [4]) = L34 ρ call yc lim k x0 x1 H := by
  rw [evL_X, L34_x]
  simp only [← evL_X, L34, N34_1_eq, N34_2_eq]
theorem E34 (ρ : Addr → Option Value) (k lim : Nat) (x0 x1 : AV) (H : Heap) : evCall (cx ρ) (k + 1) lim 34 [x0, x1] H = L34 ρ (evCall (cx ρ) k) (evCY (cx ρ) k).2 lim k x0 x1 H := by
  rw [evCall_body (cx ρ) k lim 34 _ H Try.f34 c34 [4] (by kernel_rfl) (by kernel_rfl) (by kernel_rfl) (by kernel_rfl) (by kernel_rfl)]
  exact G34 ρ (evCall (cx ρ) k) (evCY (cx ρ) k).2 lim k x0 x1 H
end Go.Proofs.Ytcjicmabhejllaa

-- part Pn4
/- Functions, lifted. Printed by a program of this repo. -/
set_option linter.unusedVariables false
set_option linter.unusedSimpArgs false
set_option maxRecDepth 100000
set_option maxHeartbeats 4000000
namespace Go.Proofs.Ytcjicmabhejllaa
open Go.Ev Go.RowKit
-- (*haycroft/plan.dice).step
noncomputable def c35 : Code := Code.of Try.prog 35
noncomputable def N35_1 (ρ : Addr → Option Value) (call : CallF) (yc : YieldF) (lim k : Nat) (x4 x5 : AV) (H : Heap) (R : List AV → Heap → Res) : Res :=
  purK (ldN ρ H 8 x5) fun x61_1 =>
  effK H (stA lim H 8 x4 x61_1) fun _ H =>
  R [x4] H
theorem N35_1_eq (ρ : Addr → Option Value) (call : CallF) (yc : YieldF) (lim k : Nat) (x4 x5 : AV) (H : Heap) (R : List AV → Heap → Res) :
    evL (cx ρ) call yc false 35 lim k (Code.at [1, 1, 1, 1] c35) (sp 62 [(4, x4), (5, x5)]) H (kk none (fun s H => R (([4] : List Nat).map fun t => s.getD t (.tup [])) H) [] R [4]) = N35_1 ρ call yc lim k x4 x5 H R := by
  kernel_rfl
noncomputable def N35_5b (ρ : Addr → Option Value) (call : CallF) (yc : YieldF) (lim k : Nat) (x0 x4 x5 x7 : AV) (H : Heap) (kn : AV → Heap → Res) (k1 : AV → AV → Heap → Res) : Res :=
  purK (binA Try.prog H .gtr 3 x7 (.int .i64 0)) fun x51_1 =>
  condK x51_1
  (
    purK (addA 7 x5) fun x54_1 =>
    purK (ld1 ρ H x54_1) fun x55_1 =>
    resK (call lim 45 [x0, (.int .i64 50)] H) fun x57_1 H => bif (agn (ld1 ρ H x54_1) x55_1 && true) then
      mkK H (bldS H 3 1 [.int .i64 0] 1 [(0, 1, x57_1)]) true fun x58_1 H => bif (agn (ld1 ρ H x54_1) x55_1 && true) then
        effK H (apA ρ lim H 3 1 8 x55_1 x58_1) fun x59_1 H =>
        purK (addA 7 x5) fun x60_1 =>
        effK H (stA lim H 1 x60_1 x59_1) fun _ H =>
        purK (binA Try.prog H .sub 3 x7 (.int .i64 1)) fun x53_1 =>
        kn x53_1 H
      else none
    else none)
  (
    k1 x4 x5 H)
theorem N35_5b_eq (ρ : Addr → Option Value) (call : CallF) (yc : YieldF) (lim k : Nat) (x0 x4 x5 x7 : AV) (H : Heap) (kn : KS) (k1 : KS) (k0 : KS) (R : List AV → Heap → Res) :
    evL (cx ρ) call yc false 35 lim k (Code.at [1, 1, 1, 0, 1, 0, 1, 1, 1, 1, 1, 1, 1, 1, 1, 0, 1, 0, 0] c35) (sp 62 [(0, x0), (4, x4), (5, x5), (7, x7)]) H (kk (some [0, 4, 5, 7]) kn [(1, (some [4, 5]), k1), (0, (some [4, 5]), k0)] R [4]) = N35_5b ρ call yc lim k x0 x4 x5 x7 H (fun x7 H => kn (sp 62 [(0, x0), (4, x4), (5, x5), (7, x7)]) H) (fun x4 x5 H => k1 (sp 62 [(4, x4), (5, x5)]) H) := by
  kernel_rfl
noncomputable def N35_5 (ρ : Addr → Option Value) (call : CallF) (yc : YieldF) (lim k : Nat) (x0 x4 x5 x7 : AV) (H : Heap) (k1 : AV → AV → Heap → Res) : Res :=
  loopL (fun (x : AV) H kn => N35_5b ρ call yc lim k x0 x4 x5 x H (fun x7 H => kn x7 H) k1) k x7 H
theorem N35_5_eq (ρ : Addr → Option Value) (call : CallF) (yc : YieldF) (lim k : Nat) (x0 x4 x5 x7 : AV) (H : Heap) (kn : KS) (k1 : KS) (k0 : KS) (R : List AV → Heap → Res) :
    evL (cx ρ) call yc false 35 lim k (Code.at [1, 1, 1, 0, 1, 0, 1, 1, 1, 1, 1, 1, 1, 1, 1, 0, 1, 0] c35) (sp 62 [(0, x0), (4, x4), (5, x5), (7, x7)]) H (kk (some [4, 5]) kn [(1, (some [4, 5]), k1), (0, (some [4, 5]), k0)] R [4]) = N35_5 ρ call yc lim k x0 x4 x5 x7 H (fun x4 x5 H => k1 (sp 62 [(4, x4), (5, x5)]) H) := by
  have e : Code.at [1, 1, 1, 0, 1, 0, 1, 1, 1, 1, 1, 1, 1, 1, 1, 0, 1, 0] c35 = .loop (Code.at [1, 1, 1, 0, 1, 0, 1, 1, 1, 1, 1, 1, 1, 1, 1, 0, 1, 0, 0] c35) := by kernel_rfl
  rw [e]
  unfold N35_5
  exact loop_node [0, 4, 5, 7] (fun x : AV => (sp 62 [(0, x0), (4, x4), (5, x5), (7, (x))])) (fun (x : AV) H kn => N35_5b ρ call yc lim k x0 x4 x5 x H (fun x7 H => kn x7 H) (fun x4 x5 H => k1 (sp 62 [(4, x4), (5, x5)]) H)) (by kernel_rfl) (fun x => by kernel_rfl) (fun x H kn => N35_5b_eq ρ call yc lim k x0 x4 x5 (x) H kn k1 k0 R) x7 (sp 62 [(0, x0), (4, x4), (5, x5), (7, x7)]) H (by kernel_rfl)
noncomputable def N35_4 (ρ : Addr → Option Value) (call : CallF) (yc : YieldF) (lim k : Nat) (x0 x4 x5 x7 : AV) (H : Heap) (kn : AV → AV → Heap → Res) : Res :=
  N35_5 ρ call yc lim k x0 x4 x5 x7 H kn
theorem N35_4_x (ρ : Addr → Option Value) (call : CallF) (yc : YieldF) (lim k : Nat) (J : CodeF) (x0 x4 x5 x7 : AV) (H : Heap) (kn : KS) (k0 : KS) (R : List AV → Heap → Res) :
    evX (cx ρ) call yc false 35 lim k J (Code.at [1, 1, 1, 0, 1, 0, 1, 1, 1, 1, 1, 1, 1, 1, 1, 0, 1] c35) (sp 62 [(0, x0), (4, x4), (5, x5), (7, x7)]) H (kk (some [4, 5]) kn [(0, (some [4, 5]), k0)] R [4]) =
  J (Code.at [1, 1, 1, 0, 1, 0, 1, 1, 1, 1, 1, 1, 1, 1, 1, 0, 1, 0] c35) (sp 62 [(0, x0), (4, x4), (5, x5), (7, x7)]) H (kk (some [4, 5]) kn [(1, (some [4, 5]), kn), (0, (some [4, 5]), k0)] R [4]) := by
  kernel_rfl
theorem N35_4_eq (ρ : Addr → Option Value) (call : CallF) (yc : YieldF) (lim k : Nat) (x0 x4 x5 x7 : AV) (H : Heap) (kn : KS) (k0 : KS) (R : List AV → Heap → Res) :
    evL (cx ρ) call yc false 35 lim k (Code.at [1, 1, 1, 0, 1, 0, 1, 1, 1, 1, 1, 1, 1, 1, 1, 0, 1] c35) (sp 62 [(0, x0), (4, x4), (5, x5), (7, x7)]) H (kk (some [4, 5]) kn [(0, (some [4, 5]), k0)] R [4]) = N35_4 ρ call yc lim k x0 x4 x5 x7 H (fun x4 x5 H => kn (sp 62 [(4, x4), (5, x5)]) H) := by
  rw [evL_X, N35_4_x]
  simp only [← evL_X, N35_4, N35_5_eq]
noncomputable def N35_3 (ρ : Addr → Option Value) (call : CallF) (yc : YieldF) (lim k : Nat) (x0 x4 x5 x18 x39 : AV) (H : Heap) (kn : AV → AV → Heap → Res) : Res :=
  condK x39
  (
    resK (call lim 45 [x0, (.int .i64 8)] H) fun x44_1 H =>
    purK (addA 2 x5) fun x45_1 =>
    effK H (stA lim H 1 x45_1 x44_1) fun _ H =>
    kn x4 x5 H)
  (
    purK (binA Try.prog H .eql 3 x18 (.int .i64 9)) fun x47_1 =>
    condK x47_1
    (
      resK (call lim 45 [x0, (.int .i64 4)] H) fun x49_1 H =>
      N35_4 ρ call yc lim k x0 x4 x5 x49_1 H kn)
    (
      kn x4 x5 H))
theorem N35_3_x (ρ : Addr → Option Value) (call : CallF) (yc : YieldF) (lim k : Nat) (J : CodeF) (x0 x4 x5 x18 x39 : AV) (H : Heap) (kn : KS) (k0 : KS) (R : List AV → Heap → Res) :
    evX (cx ρ) call yc false 35 lim k J (Code.at [1, 1, 1, 0, 1, 0, 1, 1, 1, 1, 1, 1, 1] c35) (sp 62 [(0, x0), (4, x4), (5, x5), (18, x18), (39, x39)]) H (kk (some [4, 5]) kn [(0, (some [4, 5]), k0)] R [4]) =
  condK x39
  (
    resK (call lim 45 [x0, (.int .i64 8)] H) fun x44_1 H =>
    purK (addA 2 x5) fun x45_1 =>
    effK H (stA lim H 1 x45_1 x44_1) fun _ H =>
    kn (sp 62 [(4, x4), (5, x5)]) H)
  (
    purK (binA Try.prog H .eql 3 x18 (.int .i64 9)) fun x47_1 =>
    condK x47_1
    (
      resK (call lim 45 [x0, (.int .i64 4)] H) fun x49_1 H =>
      J (Code.at [1, 1, 1, 0, 1, 0, 1, 1, 1, 1, 1, 1, 1, 1, 1, 0, 1] c35) (sp 62 [(0, x0), (4, x4), (5, x5), (7, x49_1)]) H (kk (some [4, 5]) kn [(0, (some [4, 5]), k0)] R [4]))
    (
      kn (sp 62 [(4, x4), (5, x5)]) H)) := by
  kernel_rfl
theorem N35_3_eq (ρ : Addr → Option Value) (call : CallF) (yc : YieldF) (lim k : Nat) (x0 x4 x5 x18 x39 : AV) (H : Heap) (kn : KS) (k0 : KS) (R : List AV → Heap → Res) :
    evL (cx ρ) call yc false 35 lim k (Code.at [1, 1, 1, 0, 1, 0, 1, 1, 1, 1, 1, 1, 1] c35) (sp 62 [(0, x0), (4, x4), (5, x5), (18, x18), (39, x39)]) H (kk (some [4, 5]) kn [(0, (some [4, 5]), k0)] R [4]) = N35_3 ρ call yc lim k x0 x4 x5 x18 x39 H (fun x4 x5 H => kn (sp 62 [(4, x4), (5, x5)]) H) := by
  rw [evL_X, N35_3_x]
  simp only [← evL_X, N35_3, N35_4_eq]
noncomputable def N35_6 (ρ : Addr → Option Value) (call : CallF) (yc : YieldF) (lim k : Nat) (x0 x4 x5 x18 x39 : AV) (H : Heap) (kn : AV → AV → AV → AV → AV → Heap → Res) : Res :=
  condK x39
  (
    kn x0 x4 x5 x18 x39 H)
  (
    purK (binA Try.prog H .eql 3 x18 (.int .i64 6)) fun x41_1 =>
    condK x41_1
    (
      kn x0 x4 x5 x18 x41_1 H)
    (
      purK (binA Try.prog H .eql 3 x18 (.int .i64 7)) fun x42_1 =>
      kn x0 x4 x5 x18 x42_1 H))
theorem N35_6_eq (ρ : Addr → Option Value) (call : CallF) (yc : YieldF) (lim k : Nat) (x0 x4 x5 x18 x39 : AV) (H : Heap) (kn : KS) (k0 : KS) (R : List AV → Heap → Res) :
    evL (cx ρ) call yc false 35 lim k (Code.at [1, 1, 1, 0, 1, 0, 1, 1, 1, 1, 1, 1, 0, 1] c35) (sp 62 [(0, x0), (4, x4), (5, x5), (18, x18), (39, x39)]) H (kk (some [0, 4, 5, 18, 39]) kn [(0, (some [4, 5]), k0)] R [4]) = N35_6 ρ call yc lim k x0 x4 x5 x18 x39 H (fun x0 x4 x5 x18 x39 H => kn (sp 62 [(0, x0), (4, x4), (5, x5), (18, x18), (39, x39)]) H) := by
  kernel_rfl
noncomputable def N35_2 (ρ : Addr → Option Value) (call : CallF) (yc : YieldF) (lim k : Nat) (x0 x4 x5 x6 x18 x28 : AV) (H : Heap) (kn : AV → AV → Heap → Res) : Res :=
  condK x28
  (
    purK (addA 1 x5) fun x32_1 =>
    effK H (stA lim H 1 x32_1 x6) fun _ H =>
    kn x4 x5 H)
  (
    purK (binA Try.prog H .eql 3 x18 (.int .i64 4)) fun x34_1 =>
    condK x34_1
    (
      resK (call lim 45 [x0, (.int .i64 16)] H) fun x36_1 H =>
      purK (binA Try.prog H .add 3 x36_1 (.int .i64 1)) fun x37_1 =>
      purK (addA 2 x5) fun x38_1 =>
      effK H (stA lim H 1 x38_1 x37_1) fun _ H =>
      kn x4 x5 H)
    (
      purK (binA Try.prog H .eql 3 x18 (.int .i64 5)) fun x40_1 =>
      N35_6 ρ call yc lim k x0 x4 x5 x18 x40_1 H (fun x0_1 x4_1 x5_1 x18_1 x39_1 H =>
        N35_3 ρ call yc lim k x0_1 x4_1 x5_1 x18_1 x39_1 H kn)))
theorem N35_2_x (ρ : Addr → Option Value) (call : CallF) (yc : YieldF) (lim k : Nat) (J : CodeF) (x0 x4 x5 x6 x18 x28 : AV) (H : Heap) (kn : KS) (k0 : KS) (R : List AV → Heap → Res) :
    evX (cx ρ) call yc false 35 lim k J (Code.at [1, 1, 1, 0, 1, 0, 1, 1, 1] c35) (sp 62 [(0, x0), (4, x4), (5, x5), (6, x6), (18, x18), (28, x28)]) H (kk (some [4, 5]) kn [(0, (some [4, 5]), k0)] R [4]) =
  condK x28
  (
    purK (addA 1 x5) fun x32_1 =>
    effK H (stA lim H 1 x32_1 x6) fun _ H =>
    kn (sp 62 [(4, x4), (5, x5)]) H)
  (
    purK (binA Try.prog H .eql 3 x18 (.int .i64 4)) fun x34_1 =>
    condK x34_1
    (
      resK (call lim 45 [x0, (.int .i64 16)] H) fun x36_1 H =>
      purK (binA Try.prog H .add 3 x36_1 (.int .i64 1)) fun x37_1 =>
      purK (addA 2 x5) fun x38_1 =>
      effK H (stA lim H 1 x38_1 x37_1) fun _ H =>
      kn (sp 62 [(4, x4), (5, x5)]) H)
    (
      purK (binA Try.prog H .eql 3 x18 (.int .i64 5)) fun x40_1 =>
      J (Code.at [1, 1, 1, 0, 1, 0, 1, 1, 1, 1, 1, 1, 0, 1] c35) (sp 62 [(0, x0), (4, x4), (5, x5), (18, x18), (39, x40_1)]) H (kk (some [0, 4, 5, 18, 39]) (fun s H => J (Code.at [1, 1, 1, 0, 1, 0, 1, 1, 1, 1, 1, 1, 1] c35) s H (kk (some [4, 5]) kn [(0, (some [4, 5]), k0)] R [4])) [(0, (some [4, 5]), k0)] R [4]))) := by
  kernel_rfl
theorem N35_2_eq (ρ : Addr → Option Value) (call : CallF) (yc : YieldF) (lim k : Nat) (x0 x4 x5 x6 x18 x28 : AV) (H : Heap) (kn : KS) (k0 : KS) (R : List AV → Heap → Res) :
    evL (cx ρ) call yc false 35 lim k (Code.at [1, 1, 1, 0, 1, 0, 1, 1, 1] c35) (sp 62 [(0, x0), (4, x4), (5, x5), (6, x6), (18, x18), (28, x28)]) H (kk (some [4, 5]) kn [(0, (some [4, 5]), k0)] R [4]) = N35_2 ρ call yc lim k x0 x4 x5 x6 x18 x28 H (fun x4 x5 H => kn (sp 62 [(4, x4), (5, x5)]) H) := by
  rw [evL_X, N35_2_x]
  simp only [← evL_X, N35_2, N35_3_eq, N35_6_eq]
noncomputable def L35 (ρ : Addr → Option Value) (call : CallF) (yc : YieldF) (lim k : Nat) (x0 x1 : AV) (H : Heap) : Res :=
  effK H (boxA H 46 x1) fun x3 H =>
  effK H (some (.ptr H.sz 0 0, .new (newCells 42 false [.int .i64 0, .int .i64 0, .int .i64 0, .int .i64 0, .str ByteArray.empty, .str ByteArray.empty, .int .u64 0, .nils]))) fun x4 H =>
  purK (addA 3 x3) fun x9 =>
  purK (ldN ρ H 10 x9) fun x10 =>
  resK (call lim 44 [x0, x10] H) fun x11 H =>
  purK (bldA [.int .i64 0, .int .i64 0, .int .i64 0, .int .i64 0, .str ByteArray.empty, .str ByteArray.empty, .int .u64 0, .nils] [(0, 1, x11)]) fun x12 =>
  effK H (some (.ptr H.sz 0 0, .new (newCells 42 false [.int .i64 0, .int .i64 0, .int .i64 0, .int .i64 0, .str ByteArray.empty, .str ByteArray.empty, .int .u64 0, .nils]))) fun x5 H =>
  effK H (stA lim H 8 x5 x12) fun _ H =>
  purK (addA 1 x3) fun x14 =>
  purK (ld1 ρ H x14) fun x15 =>
  resK (call lim 45 [x0, x15] H) fun x16 H =>
  purK (addA 0 x5) fun x17 =>
  purK (ld1 ρ H x17) fun x18 =>
  purK (binA Try.prog H .eql 3 x18 (.int .i64 1)) fun x20 =>
  condK x20
  (
    purK (addA 1 x5) fun x22 =>
    effK H (stA lim H 1 x22 x16) fun _ H =>
    purK (addA 2 x3) fun x24 =>
    purK (ld1 ρ H x24) fun x25 =>
    resK (call lim 46 [x0, x25] H) fun x26 H =>
    purK (addA 3 x5) fun x27 =>
    effK H (stA lim H 4 x27 x26) fun _ H =>
    N35_1 ρ call yc lim k x4 x5 H (retC (cx ρ) [some 42]))
  (
    purK (binA Try.prog H .eql 3 x18 (.int .i64 2)) fun x29 =>
    condK x29
    (
      N35_2 ρ call yc lim k x0 x4 x5 x16 x18 x29 H (fun x4_1 x5_1 H =>
        N35_1 ρ call yc lim k x4_1 x5_1 H (retC (cx ρ) [some 42])))
    (
      purK (binA Try.prog H .eql 3 x18 (.int .i64 3)) fun x30 =>
      N35_2 ρ call yc lim k x0 x4 x5 x16 x18 x30 H (fun x4_2 x5_2 H =>
        N35_1 ρ call yc lim k x4_2 x5_2 H (retC (cx ρ) [some 42]))))
theorem L35_x (ρ : Addr → Option Value) (call : CallF) (yc : YieldF) (lim k : Nat) (J : CodeF) (x0 x1 : AV) (H : Heap) :
    evX (cx ρ) call yc false 35 lim k J c35 [x0, x1, (.tup []), (.tup []), (.tup []), (.tup []), (.tup []), (.tup []), (.tup []), (.tup []), (.tup []), (.tup []), (.tup []), (.tup []), (.tup []), (.tup []), (.tup []), (.tup []), (.tup []), (.tup []), (.tup []), (.tup []), (.tup []), (.tup []), (.tup []), (.tup []), (.tup []), (.tup []), (.tup []), (.tup []), (.tup []), (.tup []), (.tup []), (.tup []), (.tup []), (.tup []), (.tup []), (.tup []), (.tup []), (.tup []), (.tup []), (.tup []), (.tup []), (.tup []), (.tup []), (.tup []), (.tup []), (.tup []), (.tup []), (.tup []), (.tup []), (.tup []), (.tup []), (.tup []), (.tup []), (.tup []), (.tup []), (.tup []), (.tup []), (.tup []), (.tup []), (.tup [])] H (kk none (fun s H => (retC (cx ρ) [some 42]) (([4] : List Nat).map fun t => s.getD t (.tup [])) H) [] (retC (cx ρ) [some 42]) [4]) =
  effK H (boxA H 46 x1) fun x3 H =>
  effK H (some (.ptr H.sz 0 0, .new (newCells 42 false [.int .i64 0, .int .i64 0, .int .i64 0, .int .i64 0, .str ByteArray.empty, .str ByteArray.empty, .int .u64 0, .nils]))) fun x4 H =>
  purK (addA 3 x3) fun x9 =>
  purK (ldN ρ H 10 x9) fun x10 =>
  resK (call lim 44 [x0, x10] H) fun x11 H =>
  purK (bldA [.int .i64 0, .int .i64 0, .int .i64 0, .int .i64 0, .str ByteArray.empty, .str ByteArray.empty, .int .u64 0, .nils] [(0, 1, x11)]) fun x12 =>
  effK H (some (.ptr H.sz 0 0, .new (newCells 42 false [.int .i64 0, .int .i64 0, .int .i64 0, .int .i64 0, .str ByteArray.empty, .str ByteArray.empty, .int .u64 0, .nils]))) fun x5 H =>
  effK H (stA lim H 8 x5 x12) fun _ H =>
  purK (addA 1 x3) fun x14 =>
  purK (ld1 ρ H x14) fun x15 =>
  resK (call lim 45 [x0, x15] H) fun x16 H =>
  purK (addA 0 x5) fun x17 =>
  purK (ld1 ρ H x17) fun x18 =>
  purK (binA Try.prog H .eql 3 x18 (.int .i64 1)) fun x20 =>
  condK x20
  (
    purK (addA 1 x5) fun x22 =>
    effK H (stA lim H 1 x22 x16) fun _ H =>
    purK (addA 2 x3) fun x24 =>
    purK (ld1 ρ H x24) fun x25 =>
    resK (call lim 46 [x0, x25] H) fun x26 H =>
    purK (addA 3 x5) fun x27 =>
    effK H (stA lim H 4 x27 x26) fun _ H =>
    J (Code.at [1, 1, 1, 1] c35) (sp 62 [(4, x4), (5, x5)]) H (kk none (fun s H => (retC (cx ρ) [some 42]) (([4] : List Nat).map fun t => s.getD t (.tup [])) H) [] (retC (cx ρ) [some 42]) [4]))
  (
    purK (binA Try.prog H .eql 3 x18 (.int .i64 2)) fun x29 =>
    condK x29
    (
      J (Code.at [1, 1, 1, 0, 1, 0, 1, 1, 1] c35) (sp 62 [(0, x0), (4, x4), (5, x5), (6, x16), (18, x18), (28, x29)]) H (kk (some [4, 5]) (fun s H => J (Code.at [1, 1, 1, 1] c35) s H (kk none (fun s H => (retC (cx ρ) [some 42]) (([4] : List Nat).map fun t => s.getD t (.tup [])) H) [] (retC (cx ρ) [some 42]) [4])) [(0, (some [4, 5]), (fun s H => J (Code.at [1, 1, 1, 1] c35) s H (kk none (fun s H => (retC (cx ρ) [some 42]) (([4] : List Nat).map fun t => s.getD t (.tup [])) H) [] (retC (cx ρ) [some 42]) [4])))] (retC (cx ρ) [some 42]) [4]))
    (
      purK (binA Try.prog H .eql 3 x18 (.int .i64 3)) fun x30 =>
      J (Code.at [1, 1, 1, 0, 1, 0, 1, 1, 1] c35) (sp 62 [(0, x0), (4, x4), (5, x5), (6, x16), (18, x18), (28, x30)]) H (kk (some [4, 5]) (fun s H => J (Code.at [1, 1, 1, 1] c35) s H (kk none (fun s H => (retC (cx ρ) [some 42]) (([4] : List Nat).map fun t => s.getD t (.tup [])) H) [] (retC (cx ρ) [some 42]) [4])) [(0, (some [4, 5]), (fun s H => J (Code.at [1, 1, 1, 1] c35) s H (kk none (fun s H => (retC (cx ρ) [some 42]) (([4] : List Nat).map fun t => s.getD t (.tup [])) H) [] (retC (cx ρ) [some 42]) [4])))] (retC (cx ρ) [some 42]) [4]))) := by
  kernel_rfl
theorem G35 (ρ : Addr → Option Value) (call : CallF) (yc : YieldF) (lim k : Nat) (x0 x1 : AV) (H : Heap) :
    evL (cx ρ) call yc false 35 lim k c35 [x0, x1, (.tup []), (.tup []), (.tup []), (.tup []), (.tup []), (.tup []), (.tup []), (.tup []), (.tup []), (.tup []), (.tup []), (.tup []), (.tup []), (.tup []), (.tup []), (.tup []), (.tup []), (.tup []), (.tup []), (.tup []), (.tup []), (.tup []), (.tup []), (.tup []), (.tup []), (.tup []), (.tup []), (.tup []), (.tup []), (.tup []), (.tup []), (.tup []), (.tup []), (.tup []), (.tup []), (.tup []), (.tup []), (.tup []), (.tup []), (.tup []), (.tup []), (.tup []), (.tup []), (.tup []), (.tup []), (.tup []), (.tup []), (.tup []), (.tup []), (.tup []), (.tup []), (.tup []), (.tup []), (.tup []), (.tup []), (.tup []), (.tup []), (.tup []), (.tup []), (.tup [])] H (kk none (fun s H => (retC (cx ρ) [some 42]) (([4] : List Nat).map fun t => s.getD t (.tup [])) H) [] (retC (cx ρ) [some 42]) [4]) = L35 ρ call yc lim k x0 x1 H := by
  rw [evL_X, L35_x]
  simp only [← evL_X, L35, N35_1_eq, N35_2_eq]
theorem E35 (ρ : Addr → Option Value) (k lim : Nat) (x0 x1 : AV) (H : Heap) : evCall (cx ρ) (k + 1) lim 35 [x0, x1] H = L35 ρ (evCall (cx ρ) k) (evCY (cx ρ) k).2 lim k x0 x1 H := by
  rw [evCall_cells (cx ρ) k lim 35 _ H Try.f35 c35 [4] [some 42] (by kernel_rfl) (by kernel_rfl) (by kernel_rfl) (by kernel_rfl) (by kernel_rfl) (by kernel_rfl)]
  exact G35 ρ (evCall (cx ρ) k) (evCY (cx ρ) k).2 lim k x0 x1 H
-- haycroft/plan.Right$1
noncomputable def c36 : Code := Code.of Try.prog 36
noncomputable def L36 (ρ : Addr → Option Value) (call : CallF) (yc : YieldF) (lim k : Nat) (x0 : AV) (H : Heap) : Res :=
  purK (binA Try.prog H .lss 3 x0 (.int .i64 0)) fun x4 =>
  purK (gPur (wantV x4 false) (some x0)) fun x6 =>
  purK (gPur (wantV x4 false) (binA Try.prog H .gtr 3 x6 (.int .i64 1000))) fun x7 =>
  purK (pickA x4 (.bool true) x7) fun x8 =>
  retK [x8] H
theorem G36 (ρ : Addr → Option Value) (call : CallF) (yc : YieldF) (lim k : Nat) (x0 : AV) (H : Heap) :
    evL (cx ρ) call yc false 36 lim k c36 [x0, (.tup []), (.tup []), (.tup []), (.tup []), (.tup []), (.tup []), (.tup []), (.tup [])] H (kk none (fun s H => retK (([2] : List Nat).map fun t => s.getD t (.tup [])) H) [] retK [2]) = L36 ρ call yc lim k x0 H := by
  kernel_rfl
theorem E36 (ρ : Addr → Option Value) (k lim : Nat) (x0 : AV) (H : Heap) : evCall (cx ρ) (k + 1) lim 36 [x0] H = L36 ρ (evCall (cx ρ) k) (evCY (cx ρ) k).2 lim k x0 H := by
  rw [evCall_body (cx ρ) k lim 36 _ H Try.f36 c36 [2] (by kernel_rfl) (by kernel_rfl) (by kernel_rfl) (by kernel_rfl) (by kernel_rfl)]
  exact G36 ρ (evCall (cx ρ) k) (evCY (cx ρ) k).2 lim k x0 H
-- haycroft/plan.Right$2
noncomputable def c37 : Code := Code.of Try.prog 37
noncomputable def L37 (ρ : Addr → Option Value) (call : CallF) (yc : YieldF) (lim k : Nat) (x0 : AV) (H : Heap) : Res :=
  purK (binA Try.prog H .neq 3 x0 (.int .i64 0)) fun x4 =>
  retK [x4] H
theorem G37 (ρ : Addr → Option Value) (call : CallF) (yc : YieldF) (lim k : Nat) (x0 : AV) (H : Heap) :
    evL (cx ρ) call yc false 37 lim k c37 [x0, (.tup []), (.tup []), (.tup []), (.tup [])] H (kk none (fun s H => retK (([2] : List Nat).map fun t => s.getD t (.tup [])) H) [] retK [2]) = L37 ρ call yc lim k x0 H := by
  kernel_rfl
theorem E37 (ρ : Addr → Option Value) (k lim : Nat) (x0 : AV) (H : Heap) : evCall (cx ρ) (k + 1) lim 37 [x0] H = L37 ρ (evCall (cx ρ) k) (evCY (cx ρ) k).2 lim k x0 H := by
  rw [evCall_body (cx ρ) k lim 37 _ H Try.f37 c37 [2] (by kernel_rfl) (by kernel_rfl) (by kernel_rfl) (by kernel_rfl) (by kernel_rfl)]
  exact G37 ρ (evCall (cx ρ) k) (evCY (cx ρ) k).2 lim k x0 H
-- slices.ContainsFunc[[]int,int]
noncomputable def c38 : Code := Code.of Try.prog 38
noncomputable def L38 (ρ : Addr → Option Value) (call : CallF) (yc : YieldF) (lim k : Nat) (x0 x1 : AV) (H : Heap) : Res :=
  resK (call lim 47 [x0, x1] H) fun x7 H =>
  purK (binA Try.prog H .geq 3 x7 (.int .i64 0)) fun x8 =>
  retK [x8] H
theorem G38 (ρ : Addr → Option Value) (call : CallF) (yc : YieldF) (lim k : Nat) (x0 x1 : AV) (H : Heap) :
    evL (cx ρ) call yc false 38 lim k c38 [x0, x1, (.tup []), (.tup []), (.tup []), (.tup []), (.tup []), (.tup []), (.tup [])] H (kk none (fun s H => retK (([4] : List Nat).map fun t => s.getD t (.tup [])) H) [] retK [4]) = L38 ρ call yc lim k x0 x1 H := by
  kernel_rfl
theorem E38 (ρ : Addr → Option Value) (k lim : Nat) (x0 x1 : AV) (H : Heap) : evCall (cx ρ) (k + 1) lim 38 [x0, x1] H = L38 ρ (evCall (cx ρ) k) (evCY (cx ρ) k).2 lim k x0 x1 H := by
  rw [evCall_body (cx ρ) k lim 38 _ H Try.f38 c38 [4] (by kernel_rfl) (by kernel_rfl) (by kernel_rfl) (by kernel_rfl) (by kernel_rfl)]
  exact G38 ρ (evCall (cx ρ) k) (evCY (cx ρ) k).2 lim k x0 x1 H
-- (*haycroft/haycroftref32.Dice).Below
noncomputable def c39 : Code := Code.of Try.prog 39
noncomputable def L39 (ρ : Addr → Option Value) (call : CallF) (yc : YieldF) (lim k : Nat) (x0 x1 : AV) (H : Heap) : Res :=
  purK (nilChkA x0) fun x7 =>
  purK (addA 0 x7) fun x8 =>
  purK (ld1 ρ H x8) fun x9 =>
  resK (call lim 11 [x9] H) fun x10 H =>
  purK (nilChkA x0) fun x11 =>
  purK (addA 0 x11) fun x12 =>
  effK H (stA lim H 1 x12 x10) fun _ H =>
  purK (nilChkA x0) fun x14 =>
  purK (addA 0 x14) fun x15 =>
  purK (ld1 ρ H x15) fun x16 =>
  purK (binA Try.prog H .mul 22 x16 (.int .u64 2685821657736338717)) fun x17 =>
  purK (cvI .u64 x1) fun x19 =>
  purK (binA Try.prog H .rem 22 x17 x19) fun x20 =>
  purK (cvI .i64 x20) fun x21 =>
  retK [x21] H
theorem G39 (ρ : Addr → Option Value) (call : CallF) (yc : YieldF) (lim k : Nat) (x0 x1 : AV) (H : Heap) :
    evL (cx ρ) call yc false 39 lim k c39 [x0, x1, (.tup []), (.tup []), (.tup []), (.tup []), (.tup []), (.tup []), (.tup []), (.tup []), (.tup []), (.tup []), (.tup []), (.tup []), (.tup []), (.tup []), (.tup []), (.tup []), (.tup []), (.tup []), (.tup []), (.tup [])] H (kk none (fun s H => retK (([4] : List Nat).map fun t => s.getD t (.tup [])) H) [] retK [4]) = L39 ρ call yc lim k x0 x1 H := by
  kernel_rfl
theorem E39 (ρ : Addr → Option Value) (k lim : Nat) (x0 x1 : AV) (H : Heap) : evCall (cx ρ) (k + 1) lim 39 [x0, x1] H = L39 ρ (evCall (cx ρ) k) (evCY (cx ρ) k).2 lim k x0 x1 H := by
  rw [evCall_body (cx ρ) k lim 39 _ H Try.f39 c39 [4] (by kernel_rfl) (by kernel_rfl) (by kernel_rfl) (by kernel_rfl) (by kernel_rfl)]
  exact G39 ρ (evCall (cx ρ) k) (evCY (cx ρ) k).2 lim k x0 x1 H
-- slices.ContainsFunc[[]haycroft/api.Step,haycroft/api.Step]
noncomputable def c42 : Code := Code.of Try.prog 42
noncomputable def L42 (ρ : Addr → Option Value) (call : CallF) (yc : YieldF) (lim k : Nat) (x0 x1 : AV) (H : Heap) : Res :=
  resK (call lim 48 [x0, x1] H) fun x7 H =>
  purK (binA Try.prog H .geq 3 x7 (.int .i64 0)) fun x8 =>
  retK [x8] H
theorem G42 (ρ : Addr → Option Value) (call : CallF) (yc : YieldF) (lim k : Nat) (x0 x1 : AV) (H : Heap) :
    evL (cx ρ) call yc false 42 lim k c42 [x0, x1, (.tup []), (.tup []), (.tup []), (.tup []), (.tup []), (.tup []), (.tup [])] H (kk none (fun s H => retK (([4] : List Nat).map fun t => s.getD t (.tup [])) H) [] retK [4]) = L42 ρ call yc lim k x0 x1 H := by
  kernel_rfl
theorem E42 (ρ : Addr → Option Value) (k lim : Nat) (x0 x1 : AV) (H : Heap) : evCall (cx ρ) (k + 1) lim 42 [x0, x1] H = L42 ρ (evCall (cx ρ) k) (evCY (cx ρ) k).2 lim k x0 x1 H := by
  rw [evCall_body (cx ρ) k lim 42 _ H Try.f42 c42 [4] (by kernel_rfl) (by kernel_rfl) (by kernel_rfl) (by kernel_rfl) (by kernel_rfl)]
  exact G42 ρ (evCall (cx ρ) k) (evCY (cx ρ) k).2 lim k x0 x1 H
-- haycroft/plan.moves$1
noncomputable def c43 : Code := Code.of Try.prog 43
noncomputable def L43 (ρ : Addr → Option Value) (call : CallF) (yc : YieldF) (lim k : Nat) (x0 x1 : AV) (H : Heap) : Res :=
  effK H (boxA H 42 x0) fun x2 H =>
  purK (addA 0 x2) fun x4 =>
  purK (ld1 ρ H x4) fun x5 =>
  purK (binA Try.prog H .eql 3 x5 (.int .i64 2)) fun x6 =>
  purK (gPur (wantV x6 true) (addA 1 x2)) fun x8 =>
  purK (gPur (wantV x6 true) (ld1 ρ H x8)) fun x9 =>
  purK (gPur (wantV x6 true) (ld1 ρ H x1)) fun x10 =>
  purK (gPur (wantV x6 true) (binA Try.prog H .eql 3 x9 x10)) fun x11 =>
  purK (pickA x6 x11 (.bool false)) fun x12 =>
  retK [x12] H
theorem G43 (ρ : Addr → Option Value) (call : CallF) (yc : YieldF) (lim k : Nat) (x0 x1 : AV) (H : Heap) :
    evL (cx ρ) call yc false 43 lim k c43 [x0, x1, (.tup []), (.tup []), (.tup []), (.tup []), (.tup []), (.tup []), (.tup []), (.tup []), (.tup []), (.tup []), (.tup [])] H (kk none (fun s H => retK (([3] : List Nat).map fun t => s.getD t (.tup [])) H) [] retK [3]) = L43 ρ call yc lim k x0 x1 H := by
  kernel_rfl
theorem E43 (ρ : Addr → Option Value) (k lim : Nat) (x0 x1 : AV) (H : Heap) : evCall (cx ρ) (k + 1) lim 43 [x0, x1] H = L43 ρ (evCall (cx ρ) k) (evCY (cx ρ) k).2 lim k x0 x1 H := by
  rw [evCall_body (cx ρ) k lim 43 _ H Try.f43 c43 [3] (by kernel_rfl) (by kernel_rfl) (by kernel_rfl) (by kernel_rfl) (by kernel_rfl)]
  exact G43 ρ (evCall (cx ρ) k) (evCY (cx ρ) k).2 lim k x0 x1 H
-- (*haycroft/plan.dice).kind
noncomputable def c44 : Code := Code.of Try.prog 44
noncomputable def N44_2 (ρ : Addr → Option Value) (call : CallF) (yc : YieldF) (lim k : Nat) (H : Heap) (R : List AV → Heap → Res) : Res :=
  R [(.int .i64 10)] H
theorem N44_2_eq (ρ : Addr → Option Value) (call : CallF) (yc : YieldF) (lim k : Nat) (H : Heap) (R : List AV → Heap → Res) :
    evL (cx ρ) call yc false 44 lim k (Code.at [1, 1, 1, 1, 1] c44) (sp 35 []) H (kk none (fun s H => R (([4] : List Nat).map fun t => s.getD t (.tup [])) H) [] R [4]) = N44_2 ρ call yc lim k H R := by
  kernel_rfl
noncomputable def N44_4b (ρ : Addr → Option Value) (call : CallF) (yc : YieldF) (lim k : Nat) (x8 x22 x23 : AV) (H : Heap) (kn : AV → AV → Heap → Res) (k2 : Heap → Res) (R : List AV → Heap → Res) : Res :=
  purK (binA Try.prog H .lss 3 x23 (.int .i64 10)) fun x24_1 =>
  condK x24_1
  (
    purK (ixV1 10 x22 x23) fun x26_1 =>
    purK (binA Try.prog H .sub 3 x8 x26_1) fun x29_1 =>
    purK (binA Try.prog H .lss 3 x29_1 (.int .i64 0)) fun x31_1 =>
    condK x31_1
    (
      purK (binA Try.prog H .add 3 x23 (.int .i64 1)) fun x33_1 =>
      R [x33_1] H)
    (
      purK (binA Try.prog H .add 3 x23 (.int .i64 1)) fun x34_1 =>
      kn x29_1 x34_1 H))
  (
    k2 H)
theorem N44_4b_eq (ρ : Addr → Option Value) (call : CallF) (yc : YieldF) (lim k : Nat) (x8 x22 x23 : AV) (H : Heap) (kn : KS) (k2 : KS) (R : List AV → Heap → Res) :
    evL (cx ρ) call yc false 44 lim k (Code.at [1, 1, 1, 1, 0, 1, 0, 0] c44) (sp 35 [(8, x8), (22, x22), (23, x23)]) H (kk (some [8, 22, 23]) kn [(2, (some []), k2)] R [4]) = N44_4b ρ call yc lim k x8 x22 x23 H (fun x8 x23 H => kn (sp 35 [(8, x8), (22, x22), (23, x23)]) H) (fun H => k2 (sp 35 []) H) R := by
  kernel_rfl
noncomputable def N44_4 (ρ : Addr → Option Value) (call : CallF) (yc : YieldF) (lim k : Nat) (x8 x22 x23 : AV) (H : Heap) (k2 : Heap → Res) (R : List AV → Heap → Res) : Res :=
  loopL (fun (x : AV × AV) H kn => N44_4b ρ call yc lim k x.1 x22 x.2 H (fun x8 x23 H => kn (x8, x23) H) k2 R) k (x8, x23) H
theorem N44_4_eq (ρ : Addr → Option Value) (call : CallF) (yc : YieldF) (lim k : Nat) (x8 x22 x23 : AV) (H : Heap) (kn : KS) (k2 : KS) (R : List AV → Heap → Res) :
    evL (cx ρ) call yc false 44 lim k (Code.at [1, 1, 1, 1, 0, 1, 0] c44) (sp 35 [(8, x8), (22, x22), (23, x23)]) H (kk (some []) kn [(2, (some []), k2)] R [4]) = N44_4 ρ call yc lim k x8 x22 x23 H (fun H => k2 (sp 35 []) H) R := by
  have e : Code.at [1, 1, 1, 1, 0, 1, 0] c44 = .loop (Code.at [1, 1, 1, 1, 0, 1, 0, 0] c44) := by kernel_rfl
  rw [e]
  unfold N44_4
  exact loop_node [8, 22, 23] (fun x : AV × AV => (sp 35 [(8, (x.1)), (22, x22), (23, (x.2))])) (fun (x : AV × AV) H kn => N44_4b ρ call yc lim k x.1 x22 x.2 H (fun x8 x23 H => kn (x8, x23) H) (fun H => k2 (sp 35 []) H) R) (by kernel_rfl) (fun x => by kernel_rfl) (fun x H kn => N44_4b_eq ρ call yc lim k (x.1) x22 (x.2) H kn k2 R) (x8, x23) (sp 35 [(8, x8), (22, x22), (23, x23)]) H (by kernel_rfl)
noncomputable def N44_3 (ρ : Addr → Option Value) (call : CallF) (yc : YieldF) (lim k : Nat) (x8 x22 x23 : AV) (H : Heap) (kn : Heap → Res) (R : List AV → Heap → Res) : Res :=
  N44_4 ρ call yc lim k x8 x22 x23 H kn R
theorem N44_3_x (ρ : Addr → Option Value) (call : CallF) (yc : YieldF) (lim k : Nat) (J : CodeF) (x8 x22 x23 : AV) (H : Heap) (kn : KS) (R : List AV → Heap → Res) :
    evX (cx ρ) call yc false 44 lim k J (Code.at [1, 1, 1, 1, 0, 1] c44) (sp 35 [(8, x8), (22, x22), (23, x23)]) H (kk (some []) kn [] R [4]) =
  J (Code.at [1, 1, 1, 1, 0, 1, 0] c44) (sp 35 [(8, x8), (22, x22), (23, x23)]) H (kk (some []) kn [(2, (some []), kn)] R [4]) := by
  kernel_rfl
theorem N44_3_eq (ρ : Addr → Option Value) (call : CallF) (yc : YieldF) (lim k : Nat) (x8 x22 x23 : AV) (H : Heap) (kn : KS) (R : List AV → Heap → Res) :
    evL (cx ρ) call yc false 44 lim k (Code.at [1, 1, 1, 1, 0, 1] c44) (sp 35 [(8, x8), (22, x22), (23, x23)]) H (kk (some []) kn [] R [4]) = N44_3 ρ call yc lim k x8 x22 x23 H (fun H => kn (sp 35 []) H) R := by
  rw [evL_X, N44_3_x]
  simp only [← evL_X, N44_3, N44_4_eq]
noncomputable def N44_1 (ρ : Addr → Option Value) (call : CallF) (yc : YieldF) (lim k : Nat) (x0 x3 x5 : AV) (H : Heap) (R : List AV → Heap → Res) : Res :=
  resK (call lim 45 [x0, x5] H) fun x21_1 H =>
  purK (ldN ρ H 10 x3) fun x22_1 =>
  N44_3 ρ call yc lim k x21_1 x22_1 (.int .i64 0) H (fun H =>
    N44_2 ρ call yc lim k H R) R
theorem N44_1_x (ρ : Addr → Option Value) (call : CallF) (yc : YieldF) (lim k : Nat) (J : CodeF) (x0 x3 x5 : AV) (H : Heap) (R : List AV → Heap → Res) :
    evX (cx ρ) call yc false 44 lim k J (Code.at [1, 1, 1] c44) (sp 35 [(0, x0), (3, x3), (5, x5)]) H (kk none (fun s H => R (([4] : List Nat).map fun t => s.getD t (.tup [])) H) [] R [4]) =
  resK (call lim 45 [x0, x5] H) fun x21_1 H =>
  purK (ldN ρ H 10 x3) fun x22_1 =>
  J (Code.at [1, 1, 1, 1, 0, 1] c44) (sp 35 [(8, x21_1), (22, x22_1), (23, (.int .i64 0))]) H (kk (some []) (fun s H => J (Code.at [1, 1, 1, 1, 1] c44) s H (kk none (fun s H => R (([4] : List Nat).map fun t => s.getD t (.tup [])) H) [] R [4])) [] R [4]) := by
  kernel_rfl
theorem N44_1_eq (ρ : Addr → Option Value) (call : CallF) (yc : YieldF) (lim k : Nat) (x0 x3 x5 : AV) (H : Heap) (R : List AV → Heap → Res) :
    evL (cx ρ) call yc false 44 lim k (Code.at [1, 1, 1] c44) (sp 35 [(0, x0), (3, x3), (5, x5)]) H (kk none (fun s H => R (([4] : List Nat).map fun t => s.getD t (.tup [])) H) [] R [4]) = N44_1 ρ call yc lim k x0 x3 x5 H R := by
  rw [evL_X, N44_1_x]
  simp only [← evL_X, N44_1, N44_2_eq, N44_3_eq]
noncomputable def N44_6b (ρ : Addr → Option Value) (call : CallF) (yc : YieldF) (lim k : Nat) (x0 x3 x5 x11 x12 : AV) (H : Heap) (kn : AV → AV → Heap → Res) (k0 : AV → AV → AV → Heap → Res) : Res :=
  purK (binA Try.prog H .lss 3 x12 (.int .i64 10)) fun x13_1 =>
  condK x13_1
  (
    purK (ixV1 10 x11 x12) fun x14_1 =>
    purK (binA Try.prog H .add 3 x5 x14_1) fun x17_1 =>
    purK (binA Try.prog H .add 3 x12 (.int .i64 1)) fun x18_1 =>
    kn x17_1 x18_1 H)
  (
    k0 x0 x3 x5 H)
theorem N44_6b_eq (ρ : Addr → Option Value) (call : CallF) (yc : YieldF) (lim k : Nat) (x0 x3 x5 x11 x12 : AV) (H : Heap) (kn : KS) (k0 : KS) (R : List AV → Heap → Res) :
    evL (cx ρ) call yc false 44 lim k (Code.at [1, 1, 0, 1, 0, 0] c44) (sp 35 [(0, x0), (3, x3), (5, x5), (11, x11), (12, x12)]) H (kk (some [0, 3, 5, 11, 12]) kn [(0, (some [0, 3, 5]), k0)] R [4]) = N44_6b ρ call yc lim k x0 x3 x5 x11 x12 H (fun x5 x12 H => kn (sp 35 [(0, x0), (3, x3), (5, x5), (11, x11), (12, x12)]) H) (fun x0 x3 x5 H => k0 (sp 35 [(0, x0), (3, x3), (5, x5)]) H) := by
  kernel_rfl
noncomputable def N44_6 (ρ : Addr → Option Value) (call : CallF) (yc : YieldF) (lim k : Nat) (x0 x3 x5 x11 x12 : AV) (H : Heap) (k0 : AV → AV → AV → Heap → Res) : Res :=
  loopL (fun (x : AV × AV) H kn => N44_6b ρ call yc lim k x0 x3 x.1 x11 x.2 H (fun x5 x12 H => kn (x5, x12) H) k0) k (x5, x12) H
theorem N44_6_eq (ρ : Addr → Option Value) (call : CallF) (yc : YieldF) (lim k : Nat) (x0 x3 x5 x11 x12 : AV) (H : Heap) (kn : KS) (k0 : KS) (R : List AV → Heap → Res) :
    evL (cx ρ) call yc false 44 lim k (Code.at [1, 1, 0, 1, 0] c44) (sp 35 [(0, x0), (3, x3), (5, x5), (11, x11), (12, x12)]) H (kk (some [0, 3, 5]) kn [(0, (some [0, 3, 5]), k0)] R [4]) = N44_6 ρ call yc lim k x0 x3 x5 x11 x12 H (fun x0 x3 x5 H => k0 (sp 35 [(0, x0), (3, x3), (5, x5)]) H) := by
  have e : Code.at [1, 1, 0, 1, 0] c44 = .loop (Code.at [1, 1, 0, 1, 0, 0] c44) := by kernel_rfl
  rw [e]
  unfold N44_6
  exact loop_node [0, 3, 5, 11, 12] (fun x : AV × AV => (sp 35 [(0, x0), (3, x3), (5, (x.1)), (11, x11), (12, (x.2))])) (fun (x : AV × AV) H kn => N44_6b ρ call yc lim k x0 x3 x.1 x11 x.2 H (fun x5 x12 H => kn (x5, x12) H) (fun x0 x3 x5 H => k0 (sp 35 [(0, x0), (3, x3), (5, x5)]) H)) (by kernel_rfl) (fun x => by kernel_rfl) (fun x H kn => N44_6b_eq ρ call yc lim k x0 x3 (x.1) x11 (x.2) H kn k0 R) (x5, x12) (sp 35 [(0, x0), (3, x3), (5, x5), (11, x11), (12, x12)]) H (by kernel_rfl)
noncomputable def N44_5 (ρ : Addr → Option Value) (call : CallF) (yc : YieldF) (lim k : Nat) (x0 x3 x5 x11 x12 : AV) (H : Heap) (kn : AV → AV → AV → Heap → Res) : Res :=
  N44_6 ρ call yc lim k x0 x3 x5 x11 x12 H kn
theorem N44_5_x (ρ : Addr → Option Value) (call : CallF) (yc : YieldF) (lim k : Nat) (J : CodeF) (x0 x3 x5 x11 x12 : AV) (H : Heap) (kn : KS) (R : List AV → Heap → Res) :
    evX (cx ρ) call yc false 44 lim k J (Code.at [1, 1, 0, 1] c44) (sp 35 [(0, x0), (3, x3), (5, x5), (11, x11), (12, x12)]) H (kk (some [0, 3, 5]) kn [] R [4]) =
  J (Code.at [1, 1, 0, 1, 0] c44) (sp 35 [(0, x0), (3, x3), (5, x5), (11, x11), (12, x12)]) H (kk (some [0, 3, 5]) kn [(0, (some [0, 3, 5]), kn)] R [4]) := by
  kernel_rfl
theorem N44_5_eq (ρ : Addr → Option Value) (call : CallF) (yc : YieldF) (lim k : Nat) (x0 x3 x5 x11 x12 : AV) (H : Heap) (kn : KS) (R : List AV → Heap → Res) :
    evL (cx ρ) call yc false 44 lim k (Code.at [1, 1, 0, 1] c44) (sp 35 [(0, x0), (3, x3), (5, x5), (11, x11), (12, x12)]) H (kk (some [0, 3, 5]) kn [] R [4]) = N44_5 ρ call yc lim k x0 x3 x5 x11 x12 H (fun x0 x3 x5 H => kn (sp 35 [(0, x0), (3, x3), (5, x5)]) H) := by
  rw [evL_X, N44_5_x]
  simp only [← evL_X, N44_5, N44_6_eq]
noncomputable def L44 (ρ : Addr → Option Value) (call : CallF) (yc : YieldF) (lim k : Nat) (x0 x1 : AV) (H : Heap) : Res :=
  effK H (boxA H 44 x1) fun x3 H =>
  purK (ldN ρ H 10 x3) fun x11 =>
  N44_5 ρ call yc lim k x0 x3 (.int .i64 0) x11 (.int .i64 0) H (fun x0_1 x3_1 x5 H =>
    N44_1 ρ call yc lim k x0_1 x3_1 x5 H retK)
theorem L44_x (ρ : Addr → Option Value) (call : CallF) (yc : YieldF) (lim k : Nat) (J : CodeF) (x0 x1 : AV) (H : Heap) :
    evX (cx ρ) call yc false 44 lim k J c44 [x0, x1, (.tup []), (.tup []), (.tup []), (.tup []), (.tup []), (.tup []), (.tup []), (.tup []), (.tup []), (.tup []), (.tup []), (.tup []), (.tup []), (.tup []), (.tup []), (.tup []), (.tup []), (.tup []), (.tup []), (.tup []), (.tup []), (.tup []), (.tup []), (.tup []), (.tup []), (.tup []), (.tup []), (.tup []), (.tup []), (.tup []), (.tup []), (.tup []), (.tup [])] H (kk none (fun s H => retK (([4] : List Nat).map fun t => s.getD t (.tup [])) H) [] retK [4]) =
  effK H (boxA H 44 x1) fun x3 H =>
  purK (ldN ρ H 10 x3) fun x11 =>
  J (Code.at [1, 1, 0, 1] c44) (sp 35 [(0, x0), (3, x3), (5, (.int .i64 0)), (11, x11), (12, (.int .i64 0))]) H (kk (some [0, 3, 5]) (fun s H => J (Code.at [1, 1, 1] c44) s H (kk none (fun s H => retK (([4] : List Nat).map fun t => s.getD t (.tup [])) H) [] retK [4])) [] retK [4]) := by
  kernel_rfl
theorem G44 (ρ : Addr → Option Value) (call : CallF) (yc : YieldF) (lim k : Nat) (x0 x1 : AV) (H : Heap) :
    evL (cx ρ) call yc false 44 lim k c44 [x0, x1, (.tup []), (.tup []), (.tup []), (.tup []), (.tup []), (.tup []), (.tup []), (.tup []), (.tup []), (.tup []), (.tup []), (.tup []), (.tup []), (.tup []), (.tup []), (.tup []), (.tup []), (.tup []), (.tup []), (.tup []), (.tup []), (.tup []), (.tup []), (.tup []), (.tup []), (.tup []), (.tup []), (.tup []), (.tup []), (.tup []), (.tup []), (.tup []), (.tup [])] H (kk none (fun s H => retK (([4] : List Nat).map fun t => s.getD t (.tup [])) H) [] retK [4]) = L44 ρ call yc lim k x0 x1 H := by
  rw [evL_X, L44_x]
  simp only [← evL_X, L44, N44_1_eq, N44_5_eq]
theorem E44 (ρ : Addr → Option Value) (k lim : Nat) (x0 x1 : AV) (H : Heap) : evCall (cx ρ) (k + 1) lim 44 [x0, x1] H = L44 ρ (evCall (cx ρ) k) (evCY (cx ρ) k).2 lim k x0 x1 H := by
  rw [evCall_body (cx ρ) k lim 44 _ H Try.f44 c44 [4] (by kernel_rfl) (by kernel_rfl) (by kernel_rfl) (by kernel_rfl) (by kernel_rfl)]
  exact G44 ρ (evCall (cx ρ) k) (evCY (cx ρ) k).2 lim k x0 x1 H
-- (*haycroft/plan.dice).below
noncomputable def c45 : Code := Code.of Try.prog 45
noncomputable def L45 (ρ : Addr → Option Value) (call : CallF) (yc : YieldF) (lim k : Nat) (x0 x1 : AV) (H : Heap) : Res :=
  purK (nilChkA x0) fun x9 =>
  purK (ld1 ρ H x9) fun x10 =>
  resK (call lim 10 [x10] H) fun x11 H =>
  purK (extA 0 x11) fun x12 =>
  purK (extA 1 x11) fun x13 =>
  purK (nilChkA x0) fun x16 =>
  effK H (stA lim H 1 x16 x12) fun _ H =>
  purK (cvI .u64 x1) fun x19 =>
  purK (binA Try.prog H .rem 22 x13 x19) fun x20 =>
  purK (cvI .i64 x20) fun x21 =>
  retK [x21] H
theorem G45 (ρ : Addr → Option Value) (call : CallF) (yc : YieldF) (lim k : Nat) (x0 x1 : AV) (H : Heap) :
    evL (cx ρ) call yc false 45 lim k c45 [x0, x1, (.tup []), (.tup []), (.tup []), (.tup []), (.tup []), (.tup []), (.tup []), (.tup []), (.tup []), (.tup []), (.tup []), (.tup []), (.tup []), (.tup []), (.tup []), (.tup []), (.tup []), (.tup []), (.tup []), (.tup [])] H (kk none (fun s H => retK (([4] : List Nat).map fun t => s.getD t (.tup [])) H) [] retK [4]) = L45 ρ call yc lim k x0 x1 H := by
  kernel_rfl
theorem E45 (ρ : Addr → Option Value) (k lim : Nat) (x0 x1 : AV) (H : Heap) : evCall (cx ρ) (k + 1) lim 45 [x0, x1] H = L45 ρ (evCall (cx ρ) k) (evCY (cx ρ) k).2 lim k x0 x1 H := by
  rw [evCall_body (cx ρ) k lim 45 _ H Try.f45 c45 [4] (by kernel_rfl) (by kernel_rfl) (by kernel_rfl) (by kernel_rfl) (by kernel_rfl)]
  exact G45 ρ (evCall (cx ρ) k) (evCY (cx ρ) k).2 lim k x0 x1 H
-- (*haycroft/plan.dice).op
noncomputable def c46 : Code := Code.of Try.prog 46
noncomputable def N46_1 (ρ : Addr → Option Value) (call : CallF) (yc : YieldF) (lim k : Nat) (x4 x5 : AV) (H : Heap) (R : List AV → Heap → Res) : Res :=
  purK (ldN ρ H 4 x5) fun x34_1 =>
  effK H (stA lim H 4 x4 x34_1) fun _ H =>
  R [x4] H
theorem N46_1_eq (ρ : Addr → Option Value) (call : CallF) (yc : YieldF) (lim k : Nat) (x4 x5 : AV) (H : Heap) (R : List AV → Heap → Res) :
    evL (cx ρ) call yc false 46 lim k (Code.at [1, 1, 1, 1] c46) (sp 35 [(4, x4), (5, x5)]) H (kk none (fun s H => R (([4] : List Nat).map fun t => s.getD t (.tup [])) H) [] R [4]) = N46_1 ρ call yc lim k x4 x5 H R := by
  kernel_rfl
noncomputable def L46 (ρ : Addr → Option Value) (call : CallF) (yc : YieldF) (lim k : Nat) (x0 x1 : AV) (H : Heap) : Res :=
  effK H (some (.ptr H.sz 0 0, .new (newCells 39 false [.int .i64 0, .str ByteArray.empty, .str ByteArray.empty, .int .u64 0]))) fun x4 H =>
  resK (call lim 45 [x0, (.int .i64 4)] H) fun x7 H =>
  purK (binA Try.prog H .add 3 x7 (.int .i64 1)) fun x8 =>
  purK (bldA [.int .i64 0, .str ByteArray.empty, .str ByteArray.empty, .int .u64 0] [(0, 1, x8)]) fun x9 =>
  effK H (some (.ptr H.sz 0 0, .new (newCells 39 false [.int .i64 0, .str ByteArray.empty, .str ByteArray.empty, .int .u64 0]))) fun x5 H =>
  effK H (stA lim H 4 x5 x9) fun _ H =>
  resK (call lim 45 [x0, x1] H) fun x12 H =>
  purK (binA Try.prog H .add 3 (.int .i64 97) x12) fun x13 =>
  purK (cvI .u8 x13) fun x14 =>
  effK H (bldS H 5 1 [.int .u8 0] 1 [(0, 1, x14)]) fun x15 H =>
  purK (b2s ρ H x15) fun x16 =>
  purK (addA 1 x5) fun x17 =>
  effK H (stA lim H 1 x17 x16) fun _ H =>
  purK (addA 0 x5) fun x18 =>
  purK (ld1 ρ H x18) fun x19 =>
  purK (binA Try.prog H .eql 3 x19 (.int .i64 2)) fun x21 =>
  condK x21
  (
    purK (addA 1 x5) fun x22 =>
    purK (ld1 ρ H x22) fun x23 =>
    resK (call lim 45 [x0, (.int .i64 20)] H) fun x25 H => bif (agn (ld1 ρ H x22) x23 && true) then
      resK (call lim 49 [x23, x25] H) fun x26 H =>
      purK (addA 2 x5) fun x27 =>
      effK H (stA lim H 1 x27 x26) fun _ H =>
      N46_1 ρ call yc lim k x4 x5 H (retC (cx ρ) [some 39])
    else none)
  (
    purK (binA Try.prog H .eql 3 x19 (.int .i64 3)) fun x29 =>
    condK x29
    (
      resK (call lim 45 [x0, (.int .i64 100)] H) fun x31 H =>
      purK (cvI .u64 x31) fun x32 =>
      purK (addA 3 x5) fun x33 =>
      effK H (stA lim H 1 x33 x32) fun _ H =>
      N46_1 ρ call yc lim k x4 x5 H (retC (cx ρ) [some 39]))
    (
      N46_1 ρ call yc lim k x4 x5 H (retC (cx ρ) [some 39])))
theorem L46_x (ρ : Addr → Option Value) (call : CallF) (yc : YieldF) (lim k : Nat) (J : CodeF) (x0 x1 : AV) (H : Heap) :
    evX (cx ρ) call yc false 46 lim k J c46 [x0, x1, (.tup []), (.tup []), (.tup []), (.tup []), (.tup []), (.tup []), (.tup []), (.tup []), (.tup []), (.tup []), (.tup []), (.tup []), (.tup []), (.tup []), (.tup []), (.tup []), (.tup []), (.tup []), (.tup []), (.tup []), (.tup []), (.tup []), (.tup []), (.tup []), (.tup []), (.tup []), (.tup []), (.tup []), (.tup []), (.tup []), (.tup []), (.tup []), (.tup [])] H (kk none (fun s H => (retC (cx ρ) [some 39]) (([4] : List Nat).map fun t => s.getD t (.tup [])) H) [] (retC (cx ρ) [some 39]) [4]) =
  effK H (some (.ptr H.sz 0 0, .new (newCells 39 false [.int .i64 0, .str ByteArray.empty, .str ByteArray.empty, .int .u64 0]))) fun x4 H =>
  resK (call lim 45 [x0, (.int .i64 4)] H) fun x7 H =>
  purK (binA Try.prog H .add 3 x7 (.int .i64 1)) fun x8 =>
  purK (bldA [.int .i64 0, .str ByteArray.empty, .str ByteArray.empty, .int .u64 0] [(0, 1, x8)]) fun x9 =>
  effK H (some (.ptr H.sz 0 0, .new (newCells 39 false [.int .i64 0, .str ByteArray.empty, .str ByteArray.empty, .int .u64 0]))) fun x5 H =>
  effK H (stA lim H 4 x5 x9) fun _ H =>
  resK (call lim 45 [x0, x1] H) fun x12 H =>
  purK (binA Try.prog H .add 3 (.int .i64 97) x12) fun x13 =>
  purK (cvI .u8 x13) fun x14 =>
  effK H (bldS H 5 1 [.int .u8 0] 1 [(0, 1, x14)]) fun x15 H =>
  purK (b2s ρ H x15) fun x16 =>
  purK (addA 1 x5) fun x17 =>
  effK H (stA lim H 1 x17 x16) fun _ H =>
  purK (addA 0 x5) fun x18 =>
  purK (ld1 ρ H x18) fun x19 =>
  purK (binA Try.prog H .eql 3 x19 (.int .i64 2)) fun x21 =>
  condK x21
  (
    purK (addA 1 x5) fun x22 =>
    purK (ld1 ρ H x22) fun x23 =>
    resK (call lim 45 [x0, (.int .i64 20)] H) fun x25 H => bif (agn (ld1 ρ H x22) x23 && true) then
      resK (call lim 49 [x23, x25] H) fun x26 H =>
      purK (addA 2 x5) fun x27 =>
      effK H (stA lim H 1 x27 x26) fun _ H =>
      J (Code.at [1, 1, 1, 1] c46) (sp 35 [(4, x4), (5, x5)]) H (kk none (fun s H => (retC (cx ρ) [some 39]) (([4] : List Nat).map fun t => s.getD t (.tup [])) H) [] (retC (cx ρ) [some 39]) [4])
    else none)
  (
    purK (binA Try.prog H .eql 3 x19 (.int .i64 3)) fun x29 =>
    condK x29
    (
      resK (call lim 45 [x0, (.int .i64 100)] H) fun x31 H =>
      purK (cvI .u64 x31) fun x32 =>
      purK (addA 3 x5) fun x33 =>
      effK H (stA lim H 1 x33 x32) fun _ H =>
      J (Code.at [1, 1, 1, 1] c46) (sp 35 [(4, x4), (5, x5)]) H (kk none (fun s H => (retC (cx ρ) [some 39]) (([4] : List Nat).map fun t => s.getD t (.tup [])) H) [] (retC (cx ρ) [some 39]) [4]))
    (
      J (Code.at [1, 1, 1, 1] c46) (sp 35 [(4, x4), (5, x5)]) H (kk none (fun s H => (retC (cx ρ) [some 39]) (([4] : List Nat).map fun t => s.getD t (.tup [])) H) [] (retC (cx ρ) [some 39]) [4]))) := by
  kernel_rfl
theorem G46 (ρ : Addr → Option Value) (call : CallF) (yc : YieldF) (lim k : Nat) (x0 x1 : AV) (H : Heap) :
    evL (cx ρ) call yc false 46 lim k c46 [x0, x1, (.tup []), (.tup []), (.tup []), (.tup []), (.tup []), (.tup []), (.tup []), (.tup []), (.tup []), (.tup []), (.tup []), (.tup []), (.tup []), (.tup []), (.tup []), (.tup []), (.tup []), (.tup []), (.tup []), (.tup []), (.tup []), (.tup []), (.tup []), (.tup []), (.tup []), (.tup []), (.tup []), (.tup []), (.tup []), (.tup []), (.tup []), (.tup []), (.tup [])] H (kk none (fun s H => (retC (cx ρ) [some 39]) (([4] : List Nat).map fun t => s.getD t (.tup [])) H) [] (retC (cx ρ) [some 39]) [4]) = L46 ρ call yc lim k x0 x1 H := by
  rw [evL_X, L46_x]
  simp only [← evL_X, L46, N46_1_eq]
theorem E46 (ρ : Addr → Option Value) (k lim : Nat) (x0 x1 : AV) (H : Heap) : evCall (cx ρ) (k + 1) lim 46 [x0, x1] H = L46 ρ (evCall (cx ρ) k) (evCY (cx ρ) k).2 lim k x0 x1 H := by
  rw [evCall_cells (cx ρ) k lim 46 _ H Try.f46 c46 [4] [some 39] (by kernel_rfl) (by kernel_rfl) (by kernel_rfl) (by kernel_rfl) (by kernel_rfl) (by kernel_rfl)]
  exact G46 ρ (evCall (cx ρ) k) (evCY (cx ρ) k).2 lim k x0 x1 H
-- slices.IndexFunc[[]int,int]
noncomputable def c47 : Code := Code.of Try.prog 47
noncomputable def N47_1 (ρ : Addr → Option Value) (call : CallF) (yc : YieldF) (lim k : Nat) (H : Heap) (R : List AV → Heap → Res) : Res :=
  R [(.int .i64 (-1))] H
theorem N47_1_eq (ρ : Addr → Option Value) (call : CallF) (yc : YieldF) (lim k : Nat) (H : Heap) (R : List AV → Heap → Res) :
    evL (cx ρ) call yc false 47 lim k (Code.at [1, 1] c47) (sp 19 []) H (kk none (fun s H => R (([4] : List Nat).map fun t => s.getD t (.tup [])) H) [] R [4]) = N47_1 ρ call yc lim k H R := by
  kernel_rfl
noncomputable def N47_3b (ρ : Addr → Option Value) (call : CallF) (yc : YieldF) (lim k : Nat) (x0 x1 x7 x8 : AV) (H : Heap) (kn : AV → Heap → Res) (k0 : Heap → Res) (R : List AV → Heap → Res) : Res :=
  purK (binA Try.prog H .lss 3 x8 x7) fun x9_1 =>
  condK x9_1
  (
    purK (ixS 1 x0 x8) fun x14_1 =>
    purK (ld1 ρ H x14_1) fun x15_1 =>
    valK call yc lim x1 [x15_1] H fun x16_1 H =>
    condK x16_1
    (
      R [x8] H)
    (
      purK (binA Try.prog H .add 3 x8 (.int .i64 1)) fun x18_1 =>
      kn x18_1 H))
  (
    k0 H)
theorem N47_3b_eq (ρ : Addr → Option Value) (call : CallF) (yc : YieldF) (lim k : Nat) (x0 x1 x7 x8 : AV) (H : Heap) (kn : KS) (k0 : KS) (R : List AV → Heap → Res) :
    evL (cx ρ) call yc false 47 lim k (Code.at [1, 0, 1, 0, 0] c47) (sp 19 [(0, x0), (1, x1), (7, x7), (8, x8)]) H (kk (some [0, 1, 7, 8]) kn [(0, (some []), k0)] R [4]) = N47_3b ρ call yc lim k x0 x1 x7 x8 H (fun x8 H => kn (sp 19 [(0, x0), (1, x1), (7, x7), (8, x8)]) H) (fun H => k0 (sp 19 []) H) R := by
  kernel_rfl
noncomputable def N47_3 (ρ : Addr → Option Value) (call : CallF) (yc : YieldF) (lim k : Nat) (x0 x1 x7 x8 : AV) (H : Heap) (k0 : Heap → Res) (R : List AV → Heap → Res) : Res :=
  loopL (fun (x : AV) H kn => N47_3b ρ call yc lim k x0 x1 x7 x H (fun x8 H => kn x8 H) k0 R) k x8 H
theorem N47_3_eq (ρ : Addr → Option Value) (call : CallF) (yc : YieldF) (lim k : Nat) (x0 x1 x7 x8 : AV) (H : Heap) (kn : KS) (k0 : KS) (R : List AV → Heap → Res) :
    evL (cx ρ) call yc false 47 lim k (Code.at [1, 0, 1, 0] c47) (sp 19 [(0, x0), (1, x1), (7, x7), (8, x8)]) H (kk (some []) kn [(0, (some []), k0)] R [4]) = N47_3 ρ call yc lim k x0 x1 x7 x8 H (fun H => k0 (sp 19 []) H) R := by
  have e : Code.at [1, 0, 1, 0] c47 = .loop (Code.at [1, 0, 1, 0, 0] c47) := by kernel_rfl
  rw [e]
  unfold N47_3
  exact loop_node [0, 1, 7, 8] (fun x : AV => (sp 19 [(0, x0), (1, x1), (7, x7), (8, (x))])) (fun (x : AV) H kn => N47_3b ρ call yc lim k x0 x1 x7 x H (fun x8 H => kn x8 H) (fun H => k0 (sp 19 []) H) R) (by kernel_rfl) (fun x => by kernel_rfl) (fun x H kn => N47_3b_eq ρ call yc lim k x0 x1 x7 (x) H kn k0 R) x8 (sp 19 [(0, x0), (1, x1), (7, x7), (8, x8)]) H (by kernel_rfl)
noncomputable def N47_2 (ρ : Addr → Option Value) (call : CallF) (yc : YieldF) (lim k : Nat) (x0 x1 x7 x8 : AV) (H : Heap) (kn : Heap → Res) (R : List AV → Heap → Res) : Res :=
  N47_3 ρ call yc lim k x0 x1 x7 x8 H kn R
theorem N47_2_x (ρ : Addr → Option Value) (call : CallF) (yc : YieldF) (lim k : Nat) (J : CodeF) (x0 x1 x7 x8 : AV) (H : Heap) (kn : KS) (R : List AV → Heap → Res) :
    evX (cx ρ) call yc false 47 lim k J (Code.at [1, 0, 1] c47) (sp 19 [(0, x0), (1, x1), (7, x7), (8, x8)]) H (kk (some []) kn [] R [4]) =
  J (Code.at [1, 0, 1, 0] c47) (sp 19 [(0, x0), (1, x1), (7, x7), (8, x8)]) H (kk (some []) kn [(0, (some []), kn)] R [4]) := by
  kernel_rfl
theorem N47_2_eq (ρ : Addr → Option Value) (call : CallF) (yc : YieldF) (lim k : Nat) (x0 x1 x7 x8 : AV) (H : Heap) (kn : KS) (R : List AV → Heap → Res) :
    evL (cx ρ) call yc false 47 lim k (Code.at [1, 0, 1] c47) (sp 19 [(0, x0), (1, x1), (7, x7), (8, x8)]) H (kk (some []) kn [] R [4]) = N47_2 ρ call yc lim k x0 x1 x7 x8 H (fun H => kn (sp 19 []) H) R := by
  rw [evL_X, N47_2_x]
  simp only [← evL_X, N47_2, N47_3_eq]
noncomputable def L47 (ρ : Addr → Option Value) (call : CallF) (yc : YieldF) (lim k : Nat) (x0 x1 : AV) (H : Heap) : Res :=
  purK (lenS x0) fun x7 =>
  N47_2 ρ call yc lim k x0 x1 x7 (.int .i64 0) H (fun H =>
    N47_1 ρ call yc lim k H retK) retK
theorem L47_x (ρ : Addr → Option Value) (call : CallF) (yc : YieldF) (lim k : Nat) (J : CodeF) (x0 x1 : AV) (H : Heap) :
    evX (cx ρ) call yc false 47 lim k J c47 [x0, x1, (.tup []), (.tup []), (.tup []), (.tup []), (.tup []), (.tup []), (.tup []), (.tup []), (.tup []), (.tup []), (.tup []), (.tup []), (.tup []), (.tup []), (.tup []), (.tup []), (.tup [])] H (kk none (fun s H => retK (([4] : List Nat).map fun t => s.getD t (.tup [])) H) [] retK [4]) =
  purK (lenS x0) fun x7 =>
  J (Code.at [1, 0, 1] c47) (sp 19 [(0, x0), (1, x1), (7, x7), (8, (.int .i64 0))]) H (kk (some []) (fun s H => J (Code.at [1, 1] c47) s H (kk none (fun s H => retK (([4] : List Nat).map fun t => s.getD t (.tup [])) H) [] retK [4])) [] retK [4]) := by
  kernel_rfl
theorem G47 (ρ : Addr → Option Value) (call : CallF) (yc : YieldF) (lim k : Nat) (x0 x1 : AV) (H : Heap) :
    evL (cx ρ) call yc false 47 lim k c47 [x0, x1, (.tup []), (.tup []), (.tup []), (.tup []), (.tup []), (.tup []), (.tup []), (.tup []), (.tup []), (.tup []), (.tup []), (.tup []), (.tup []), (.tup []), (.tup []), (.tup []), (.tup [])] H (kk none (fun s H => retK (([4] : List Nat).map fun t => s.getD t (.tup [])) H) [] retK [4]) = L47 ρ call yc lim k x0 x1 H := by
  rw [evL_X, L47_x]
  simp only [← evL_X, L47, N47_1_eq, N47_2_eq]
theorem E47 (ρ : Addr → Option Value) (k lim : Nat) (x0 x1 : AV) (H : Heap) : evCall (cx ρ) (k + 1) lim 47 [x0, x1] H = L47 ρ (evCall (cx ρ) k) (evCY (cx ρ) k).2 lim k x0 x1 H := by
  rw [evCall_body (cx ρ) k lim 47 _ H Try.f47 c47 [4] (by kernel_rfl) (by kernel_rfl) (by kernel_rfl) (by kernel_rfl) (by kernel_rfl)]
  exact G47 ρ (evCall (cx ρ) k) (evCY (cx ρ) k).2 lim k x0 x1 H
-- slices.IndexFunc[[]haycroft/api.Step,haycroft/api.Step]
noncomputable def c48 : Code := Code.of Try.prog 48
noncomputable def N48_1 (ρ : Addr → Option Value) (call : CallF) (yc : YieldF) (lim k : Nat) (H : Heap) (R : List AV → Heap → Res) : Res :=
  R [(.int .i64 (-1))] H
theorem N48_1_eq (ρ : Addr → Option Value) (call : CallF) (yc : YieldF) (lim k : Nat) (H : Heap) (R : List AV → Heap → Res) :
    evL (cx ρ) call yc false 48 lim k (Code.at [1, 1] c48) (sp 19 []) H (kk none (fun s H => R (([4] : List Nat).map fun t => s.getD t (.tup [])) H) [] R [4]) = N48_1 ρ call yc lim k H R := by
  kernel_rfl
noncomputable def N48_3b (ρ : Addr → Option Value) (call : CallF) (yc : YieldF) (lim k : Nat) (x0 x1 x7 x8 : AV) (H : Heap) (kn : AV → Heap → Res) (k0 : Heap → Res) (R : List AV → Heap → Res) : Res :=
  purK (binA Try.prog H .lss 3 x8 x7) fun x9_1 =>
  condK x9_1
  (
    purK (ixS 8 x0 x8) fun x14_1 =>
    purK (ldN ρ H 8 x14_1) fun x15_1 =>
    valK call yc lim x1 [x15_1] H fun x16_1 H =>
    condK x16_1
    (
      R [x8] H)
    (
      purK (binA Try.prog H .add 3 x8 (.int .i64 1)) fun x18_1 =>
      kn x18_1 H))
  (
    k0 H)
theorem N48_3b_eq (ρ : Addr → Option Value) (call : CallF) (yc : YieldF) (lim k : Nat) (x0 x1 x7 x8 : AV) (H : Heap) (kn : KS) (k0 : KS) (R : List AV → Heap → Res) :
    evL (cx ρ) call yc false 48 lim k (Code.at [1, 0, 1, 0, 0] c48) (sp 19 [(0, x0), (1, x1), (7, x7), (8, x8)]) H (kk (some [0, 1, 7, 8]) kn [(0, (some []), k0)] R [4]) = N48_3b ρ call yc lim k x0 x1 x7 x8 H (fun x8 H => kn (sp 19 [(0, x0), (1, x1), (7, x7), (8, x8)]) H) (fun H => k0 (sp 19 []) H) R := by
  kernel_rfl
noncomputable def N48_3 (ρ : Addr → Option Value) (call : CallF) (yc : YieldF) (lim k : Nat) (x0 x1 x7 x8 : AV) (H : Heap) (k0 : Heap → Res) (R : List AV → Heap → Res) : Res :=
  loopL (fun (x : AV) H kn => N48_3b ρ call yc lim k x0 x1 x7 x H (fun x8 H => kn x8 H) k0 R) k x8 H
theorem N48_3_eq (ρ : Addr → Option Value) (call : CallF) (yc : YieldF) (lim k : Nat) (x0 x1 x7 x8 : AV) (H : Heap) (kn : KS) (k0 : KS) (R : List AV → Heap → Res) :
    evL (cx ρ) call yc false 48 lim k (Code.at [1, 0, 1, 0] c48) (sp 19 [(0, x0), (1, x1), (7, x7), (8, x8)]) H (kk (some []) kn [(0, (some []), k0)] R [4]) = N48_3 ρ call yc lim k x0 x1 x7 x8 H (fun H => k0 (sp 19 []) H) R := by
  have e : Code.at [1, 0, 1, 0] c48 = .loop (Code.at [1, 0, 1, 0, 0] c48) := by kernel_rfl
  rw [e]
  unfold N48_3
  exact loop_node [0, 1, 7, 8] (fun x : AV => (sp 19 [(0, x0), (1, x1), (7, x7), (8, (x))])) (fun (x : AV) H kn => N48_3b ρ call yc lim k x0 x1 x7 x H (fun x8 H => kn x8 H) (fun H => k0 (sp 19 []) H) R) (by kernel_rfl) (fun x => by kernel_rfl) (fun x H kn => N48_3b_eq ρ call yc lim k x0 x1 x7 (x) H kn k0 R) x8 (sp 19 [(0, x0), (1, x1), (7, x7), (8, x8)]) H (by kernel_rfl)
noncomputable def N48_2 (ρ : Addr → Option Value) (call : CallF) (yc : YieldF) (lim k : Nat) (x0 x1 x7 x8 : AV) (H : Heap) (kn : Heap → Res) (R : List AV → Heap → Res) : Res :=
  N48_3 ρ call yc lim k x0 x1 x7 x8 H kn R
theorem N48_2_x (ρ : Addr → Option Value) (call : CallF) (yc : YieldF) (lim k : Nat) (J : CodeF) (x0 x1 x7 x8 : AV) (H : Heap) (kn : KS) (R : List AV → Heap → Res) :
    evX (cx ρ) call yc false 48 lim k J (Code.at [1, 0, 1] c48) (sp 19 [(0, x0), (1, x1), (7, x7), (8, x8)]) H (kk (some []) kn [] R [4]) =
  J (Code.at [1, 0, 1, 0] c48) (sp 19 [(0, x0), (1, x1), (7, x7), (8, x8)]) H (kk (some []) kn [(0, (some []), kn)] R [4]) := by
  kernel_rfl
theorem N48_2_eq (ρ : Addr → Option Value) (call : CallF) (yc : YieldF) (lim k : Nat) (x0 x1 x7 x8 : AV) (H : Heap) (kn : KS) (R : List AV → Heap → Res) :
    evL (cx ρ) call yc false 48 lim k (Code.at [1, 0, 1] c48) (sp 19 [(0, x0), (1, x1), (7, x7), (8, x8)]) H (kk (some []) kn [] R [4]) = N48_2 ρ call yc lim k x0 x1 x7 x8 H (fun H => kn (sp 19 []) H) R := by
  rw [evL_X, N48_2_x]
  simp only [← evL_X, N48_2, N48_3_eq]
noncomputable def L48 (ρ : Addr → Option Value) (call : CallF) (yc : YieldF) (lim k : Nat) (x0 x1 : AV) (H : Heap) : Res :=
  purK (lenS x0) fun x7 =>
  N48_2 ρ call yc lim k x0 x1 x7 (.int .i64 0) H (fun H =>
    N48_1 ρ call yc lim k H retK) retK
theorem L48_x (ρ : Addr → Option Value) (call : CallF) (yc : YieldF) (lim k : Nat) (J : CodeF) (x0 x1 : AV) (H : Heap) :
    evX (cx ρ) call yc false 48 lim k J c48 [x0, x1, (.tup []), (.tup []), (.tup []), (.tup []), (.tup []), (.tup []), (.tup []), (.tup []), (.tup []), (.tup []), (.tup []), (.tup []), (.tup []), (.tup []), (.tup []), (.tup []), (.tup [])] H (kk none (fun s H => retK (([4] : List Nat).map fun t => s.getD t (.tup [])) H) [] retK [4]) =
  purK (lenS x0) fun x7 =>
  J (Code.at [1, 0, 1] c48) (sp 19 [(0, x0), (1, x1), (7, x7), (8, (.int .i64 0))]) H (kk (some []) (fun s H => J (Code.at [1, 1] c48) s H (kk none (fun s H => retK (([4] : List Nat).map fun t => s.getD t (.tup [])) H) [] retK [4])) [] retK [4]) := by
  kernel_rfl
theorem G48 (ρ : Addr → Option Value) (call : CallF) (yc : YieldF) (lim k : Nat) (x0 x1 : AV) (H : Heap) :
    evL (cx ρ) call yc false 48 lim k c48 [x0, x1, (.tup []), (.tup []), (.tup []), (.tup []), (.tup []), (.tup []), (.tup []), (.tup []), (.tup []), (.tup []), (.tup []), (.tup []), (.tup []), (.tup []), (.tup []), (.tup []), (.tup [])] H (kk none (fun s H => retK (([4] : List Nat).map fun t => s.getD t (.tup [])) H) [] retK [4]) = L48 ρ call yc lim k x0 x1 H := by
  rw [evL_X, L48_x]
  simp only [← evL_X, L48, N48_1_eq, N48_2_eq]
theorem E48 (ρ : Addr → Option Value) (k lim : Nat) (x0 x1 : AV) (H : Heap) : evCall (cx ρ) (k + 1) lim 48 [x0, x1] H = L48 ρ (evCall (cx ρ) k) (evCY (cx ρ) k).2 lim k x0 x1 H := by
  rw [evCall_body (cx ρ) k lim 48 _ H Try.f48 c48 [4] (by kernel_rfl) (by kernel_rfl) (by kernel_rfl) (by kernel_rfl) (by kernel_rfl)]
  exact G48 ρ (evCall (cx ρ) k) (evCY (cx ρ) k).2 lim k x0 x1 H
end Go.Proofs.Ytcjicmabhejllaa
