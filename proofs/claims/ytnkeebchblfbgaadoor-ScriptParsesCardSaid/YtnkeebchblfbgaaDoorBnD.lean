/- Part 4: ScTab Sc0 Sc1 Sc2 Sc3. -/
import Derived.Test.YtnkeebchblfbgaaDoorBnB
import Derived.Test.YtnkeebchblfbgaaDoorProg
import Derived.KernelRfl
-- part ScTab
/- The tables of the program: what is live, how draws go. Printed by a program of this repo. -/
set_option linter.unusedVariables false
namespace Go.Proofs.YtnkeebchblfbgaaDoor
open Go.Ev Go.RowKit
def dr : FuncId → Nat → Option (List (Nat × Bool))
  | 11, 11 => some [(0, true), (1, true), (3, true), (4, true), (2, false), (5, false), (6, true), (7, true)]
  | 12, 12 => some [(0, true), (1, true), (2, true), (3, true), (6, true), (7, true), (8, true), (9, true), (4, false), (5, true), (10, false), (11, true), (12, true), (13, true)]
  | 13, 7 => some [(0, true), (1, true), (2, true), (3, true), (4, true), (6, true), (7, true), (8, true), (9, true), (5, false), (10, false), (11, true), (12, false), (13, false)]
  | 16, 23 => some [(0, true), (1, true), (2, true), (3, true), (4, true), (5, true), (6, true), (7, true), (8, true), (9, true), (10, true), (11, true), (12, false), (13, true), (14, false)]
  | 18, 2 => some [(5, true), (0, true), (1, true), (2, false), (3, false), (4, true), (6, false)]
  | 25, 1 => some [(0, true), (1, true), (2, true), (3, true), (5, true), (6, true), (7, true), (8, true), (9, true), (4, false), (10, false), (11, true)]
  | 31, 6 => some [(0, true), (1, true), (2, true), (4, true), (5, true), (6, true), (7, true), (8, true), (9, true), (10, true), (11, true), (12, true), (13, true), (3, false), (14, false), (15, true), (16, false), (17, false)]
  | 74, 0 => some [(0, true), (1, true), (2, true), (3, true), (4, true), (5, true), (6, true), (7, true), (9, true), (10, true), (11, true), (12, true), (13, true), (8, false), (14, true), (15, true)]
  | 90, 1 => some [(0, true), (1, true), (3, true), (2, false), (4, true), (5, false), (6, true)]
  | 91, 1 => some [(0, true), (1, true), (3, true), (2, false), (4, true), (5, false), (6, true)]
  | _, _ => none
def xk : FuncId → Option XK
  | 56 => some (.same)
  | 58 => some (.idxB)
  | 78 => some (.cntB)
  | 86 => some (.nozero #[3] 52)
  | _ => none
def lv3 : Nat → Option (List Nat)
  | 7 => some [3, 4, 5, 6, 7, 8]
  | _ => none
def lv7 : Nat → Option (List Nat)
  | 5 => some [0, 5, 6]
  | 6 => some [0, 5, 6]
  | 11 => some [0, 5, 6, 9, 10, 11]
  | 14 => some [5]
  | _ => none
def lv8 : Nat → Option (List Nat)
  | 6 => some [5, 6, 7]
  | 7 => some [5, 6, 7]
  | 10 => some [5, 6, 7, 8]
  | 14 => some [6]
  | _ => none
def lv9 : Nat → Option (List Nat)
  | 4 => some [0, 1, 5]
  | 5 => some [0, 1, 5]
  | 8 => some []
  | 1000007 => some [0, 1, 5, 80]
  | _ => none
def lv11 : Nat → Option (List Nat)
  | 5 => some [4, 6]
  | 13 => some [4, 6, 7, 8, 9]
  | 18 => some [4, 6, 7]
  | 19 => some [6]
  | _ => none
def lv12 : Nat → Option (List Nat)
  | 5 => some [0, 4, 5]
  | 6 => some [0, 4, 5]
  | 12 => some [0, 4, 5]
  | 16 => some [0, 4, 5]
  | 17 => some [4]
  | 1000011 => some [0, 4, 5, 55]
  | _ => none
def lv18 : Nat → Option (List Nat)
  | 17 => some [2, 4, 5]
  | 21 => some [2, 4, 5]
  | 1000004 => some [2, 4, 5, 64]
  | 1000010 => some [2, 4, 5, 16, 28]
  | 1000013 => some [2, 4, 5, 16, 34]
  | 1000015 => some [2, 4, 5, 16, 34]
  | 1000017 => some [2, 4, 5, 16, 42]
  | _ => none
def lv19 : Nat → Option (List Nat)
  | 4 => some [0, 1, 5, 6, 7]
  | 5 => some [0, 1, 5, 6, 7]
  | 9 => some [0, 5, 6]
  | _ => none
def lv20 : Nat → Option (List Nat)
  | 7 => some [2, 4, 5, 6]
  | 8 => some [2, 4, 5, 6]
  | 13 => some [2, 5]
  | 14 => some [2, 4, 5]
  | 16 => some [2, 4, 5]
  | 21 => some [2, 4, 5, 9]
  | 24 => some [2, 4, 5]
  | 27 => some [2, 5, 10]
  | 1000015 => some [2, 4, 5, 61]
  | _ => none
def lv21 : Nat → Option (List Nat)
  | 4 => some [0, 1, 5]
  | 8 => some []
  | _ => none
def lv38 : Nat → Option (List Nat)
  | 2 => some [0, 1, 7, 8]
  | 7 => some []
  | _ => none
def lv39 : Nat → Option (List Nat)
  | 6 => some [3]
  | _ => none
def lv41 : Nat → Option (List Nat)
  | 10 => some [0, 2, 4, 5, 6]
  | 12 => some [2, 4]
  | _ => none
def lv42 : Nat → Option (List Nat)
  | 3 => some [0, 3, 4]
  | 7 => some []
  | _ => none
def lv43 : Nat → Option (List Nat)
  | 5 => some [0, 1, 6, 7]
  | 6 => some [0, 1, 6, 7]
  | 12 => some [0, 1, 6, 7, 8]
  | 13 => some [6]
  | 1000011 => some [0, 1, 6, 7, 8, 58]
  | _ => none
def lv44 : Nat → Option (List Nat)
  | 5 => some [0, 2, 4, 5, 6]
  | 12 => some [0, 2, 4]
  | 13 => some [0, 2, 4]
  | 19 => some [0, 2, 4]
  | 21 => some [0, 2, 4, 6]
  | 1000016 => some [0, 2, 4, 56]
  | _ => none
def lv52 : Nat → Option (List Nat)
  | 10 => some [0, 1, 5]
  | 12 => some [0, 1, 5, 6, 7]
  | 15 => some [0, 1, 5, 6, 7, 8, 9, 10]
  | 21 => some [0, 1, 5, 6, 7, 8, 9, 10]
  | 23 => some [0, 1, 5, 6, 7, 8, 9, 10]
  | 29 => some []
  | 35 => some []
  | 1000009 => some [0, 1, 5, 36]
  | 1000022 => some [0, 1, 5, 6, 7, 8, 9, 10, 93]
  | 1000028 => some [8, 12, 114]
  | 1000031 => some [0, 1, 5, 6, 7, 8, 9, 10, 132]
  | _ => none
def lv53 : Nat → Option (List Nat)
  | 7 => some [0, 1, 2, 3]
  | 9 => some [0, 1, 2, 3, 9]
  | 11 => some [0, 1, 2, 3, 9, 10]
  | 16 => some [0, 1, 2, 3, 9, 10]
  | 17 => some [0, 9, 10]
  | _ => none
def lv60 : Nat → Option (List Nat)
  | 9 => some [8]
  | _ => none
def lv66 : Nat → Option (List Nat)
  | 6 => some [0, 1, 5]
  | _ => none
def lv72 : Nat → Option (List Nat)
  | 1 => some [0, 1, 4]
  | 7 => some [0, 1, 4, 8, 9, 10, 11]
  | 9 => some [0, 1, 4, 10, 11]
  | 11 => some [0, 1, 4]
  | 12 => some [0, 1, 4]
  | 18 => some [0, 4, 12, 14]
  | 20 => some [0, 4, 12]
  | 23 => some [0, 4, 12, 16]
  | 25 => some [0, 4, 12]
  | _ => none
def lv79 : Nat → Option (List Nat)
  | 21 => some [0, 1, 2, 8, 9]
  | 25 => some [0, 1, 2, 8, 9]
  | 32 => some [0, 1, 2, 8, 9, 10]
  | 33 => some [0, 1, 8, 9, 10, 11]
  | 36 => some [1, 8, 9, 10, 11, 12, 13, 99, 100, 101]
  | 46 => some [1, 8, 9, 10, 11, 12, 13, 16, 99, 100, 101]
  | 48 => some [1, 8, 9, 10, 11, 12, 13, 16, 99, 100, 101]
  | 54 => some [1, 8, 9, 10, 11, 12, 17, 99, 100, 101]
  | 55 => some [1, 8, 9, 10, 11, 12, 13, 99, 100, 101]
  | 56 => some [9, 12, 13]
  | 1000012 => some [0, 1, 2, 8, 9, 37]
  | 1000019 => some [0, 2, 8, 9, 64]
  | 1000045 => some [1, 8, 9, 10, 11, 12, 13, 15, 99, 100, 101, 121]
  | 1000047 => some [1, 8, 9, 10, 11, 12, 13, 16, 99, 100, 101, 137]
  | 1000053 => some [1, 8, 9, 10, 11, 12, 17, 99, 100, 101, 159]
  | _ => none
def lv82 : Nat → Option (List Nat)
  | 4 => some [0, 2]
  | 7 => some [0, 2]
  | 10 => some [0, 2]
  | _ => none
def lv : FuncId → Nat → Option (List Nat)
  | 3 => lv3
  | 7 => lv7
  | 8 => lv8
  | 9 => lv9
  | 11 => lv11
  | 12 => lv12
  | 18 => lv18
  | 19 => lv19
  | 20 => lv20
  | 21 => lv21
  | 38 => lv38
  | 39 => lv39
  | 41 => lv41
  | 42 => lv42
  | 43 => lv43
  | 44 => lv44
  | 52 => lv52
  | 53 => lv53
  | 60 => lv60
  | 66 => lv66
  | 72 => lv72
  | 79 => lv79
  | 82 => lv82
  | _ => fun _ => none
noncomputable def cx (ρ : Addr → Option Value) : Ctx := { P := Tryd.prog, ext := xk, ρ := ρ, live := lv, draw := dr, pur := fun _ => false, strict := false }
end Go.Proofs.YtnkeebchblfbgaaDoor

-- part Sc0
/- Functions, lifted. Printed by a program of this repo. -/
set_option linter.unusedVariables false
set_option linter.unusedSimpArgs false
set_option maxRecDepth 100000
set_option maxHeartbeats 4000000
namespace Go.Proofs.YtnkeebchblfbgaaDoor
open Go.Ev Go.RowKit
-- haycroft/haycroftlaw27.ScriptParses
noncomputable def c3 : Code := Code.of Tryd.prog 3
noncomputable def N3_1 (ρ : Addr → Option Value) (call : CallF) (yc : YieldF) (lim k : Nat) (x3 x4 x5 x6 x7 x8 : AV) (H : Heap) (R : List AV → Heap → Res) : Res :=
  resK (call lim 9 [x3, x6] H) fun x33_1 H =>
  purK (gPur (wantV x33_1 true) (some x4)) fun x35_1 =>
  purK (gPur (wantV x33_1 true) (some x7)) fun x36_1 =>
  purK (gPur (wantV x33_1 true) (binA Tryd.prog H .eql 3 x35_1 x36_1)) fun x37_1 =>
  purK (pickA x33_1 x37_1 (.bool false)) fun x38_1 =>
  purK (gPur (wantV x38_1 true) (some x5)) fun x40_1 =>
  purK (gPur (wantV x38_1 true) (some x8)) fun x41_1 =>
  purK (gPur (wantV x38_1 true) (binA Tryd.prog H .eql 24 x40_1 x41_1)) fun x42_1 =>
  purK (pickA x38_1 x42_1 (.bool false)) fun x43_1 =>
  R [x43_1] H
theorem N3_1_eq (ρ : Addr → Option Value) (call : CallF) (yc : YieldF) (lim k : Nat) (x3 x4 x5 x6 x7 x8 : AV) (H : Heap) (R : List AV → Heap → Res) :
    evL (cx ρ) call yc false 3 lim k (Code.at [1, 1, 1, 1, 1] c3) (sp 44 [(3, x3), (4, x4), (5, x5), (6, x6), (7, x7), (8, x8)]) H (kk none (fun s H => R (([2] : List Nat).map fun t => s.getD t (.tup [])) H) [] R [2]) = N3_1 ρ call yc lim k x3 x4 x5 x6 x7 x8 H R := by
  kernel_rfl
noncomputable def L3 (ρ : Addr → Option Value) (call : CallF) (yc : YieldF) (lim k : Nat) (x0 : AV) (H : Heap) : Res :=
  resK (call lim 6 [] H) fun x9 H =>
  purK (unA .not x9) fun x10 =>
  condK x10
  (
    retK [(.bool false)] H)
  (
    purK (lenT x0) fun x12 =>
    purK (binA Tryd.prog H .gtr 3 x12 (.int .i64 5000)) fun x13 =>
    purK (gPur (wantV x13 true) (some x0)) fun x15 =>
    purK (gPur (wantV x13 true) (lenT x15)) fun x16 =>
    purK (gPur (wantV x13 true) (binA Tryd.prog H .leq 3 x16 (.int .i64 100000))) fun x17 =>
    purK (pickA x13 x17 (.bool false)) fun x18 =>
    condK x18
    (
      retK [(.bool true)] H)
    (
      resK (call lim 7 [x0] H) fun x21 H =>
      purK (extA 0 x21) fun x22 =>
      purK (extA 1 x21) fun x23 =>
      purK (extA 2 x21) fun x24 =>
      resK (call lim 8 [x0] H) fun x27 H =>
      purK (extA 0 x27) fun x28 =>
      purK (extA 1 x27) fun x29 =>
      purK (extA 2 x27) fun x30 =>
      N3_1 ρ call yc lim k x22 x23 x24 x28 x29 x30 H retK))
theorem L3_x (ρ : Addr → Option Value) (call : CallF) (yc : YieldF) (lim k : Nat) (J : CodeF) (x0 : AV) (H : Heap) :
    evX (cx ρ) call yc false 3 lim k J c3 [x0, (.tup []), (.tup []), (.tup []), (.tup []), (.tup []), (.tup []), (.tup []), (.tup []), (.tup []), (.tup []), (.tup []), (.tup []), (.tup []), (.tup []), (.tup []), (.tup []), (.tup []), (.tup []), (.tup []), (.tup []), (.tup []), (.tup []), (.tup []), (.tup []), (.tup []), (.tup []), (.tup []), (.tup []), (.tup []), (.tup []), (.tup []), (.tup []), (.tup []), (.tup []), (.tup []), (.tup []), (.tup []), (.tup []), (.tup []), (.tup []), (.tup []), (.tup []), (.tup [])] H (kk none (fun s H => retK (([2] : List Nat).map fun t => s.getD t (.tup [])) H) [] retK [2]) =
  resK (call lim 6 [] H) fun x9 H =>
  purK (unA .not x9) fun x10 =>
  condK x10
  (
    retK [(.bool false)] H)
  (
    purK (lenT x0) fun x12 =>
    purK (binA Tryd.prog H .gtr 3 x12 (.int .i64 5000)) fun x13 =>
    purK (gPur (wantV x13 true) (some x0)) fun x15 =>
    purK (gPur (wantV x13 true) (lenT x15)) fun x16 =>
    purK (gPur (wantV x13 true) (binA Tryd.prog H .leq 3 x16 (.int .i64 100000))) fun x17 =>
    purK (pickA x13 x17 (.bool false)) fun x18 =>
    condK x18
    (
      retK [(.bool true)] H)
    (
      resK (call lim 7 [x0] H) fun x21 H =>
      purK (extA 0 x21) fun x22 =>
      purK (extA 1 x21) fun x23 =>
      purK (extA 2 x21) fun x24 =>
      resK (call lim 8 [x0] H) fun x27 H =>
      purK (extA 0 x27) fun x28 =>
      purK (extA 1 x27) fun x29 =>
      purK (extA 2 x27) fun x30 =>
      J (Code.at [1, 1, 1, 1, 1] c3) (sp 44 [(3, x22), (4, x23), (5, x24), (6, x28), (7, x29), (8, x30)]) H (kk none (fun s H => retK (([2] : List Nat).map fun t => s.getD t (.tup [])) H) [] retK [2]))) := by
  kernel_rfl
theorem G3 (ρ : Addr → Option Value) (call : CallF) (yc : YieldF) (lim k : Nat) (x0 : AV) (H : Heap) :
    evL (cx ρ) call yc false 3 lim k c3 [x0, (.tup []), (.tup []), (.tup []), (.tup []), (.tup []), (.tup []), (.tup []), (.tup []), (.tup []), (.tup []), (.tup []), (.tup []), (.tup []), (.tup []), (.tup []), (.tup []), (.tup []), (.tup []), (.tup []), (.tup []), (.tup []), (.tup []), (.tup []), (.tup []), (.tup []), (.tup []), (.tup []), (.tup []), (.tup []), (.tup []), (.tup []), (.tup []), (.tup []), (.tup []), (.tup []), (.tup []), (.tup []), (.tup []), (.tup []), (.tup []), (.tup []), (.tup []), (.tup [])] H (kk none (fun s H => retK (([2] : List Nat).map fun t => s.getD t (.tup [])) H) [] retK [2]) = L3 ρ call yc lim k x0 H := by
  rw [evL_X, L3_x]
  simp only [← evL_X, L3, N3_1_eq]
theorem E3 (ρ : Addr → Option Value) (k lim : Nat) (x0 : AV) (H : Heap) : evCall (cx ρ) (k + 1) lim 3 [x0] H = L3 ρ (evCall (cx ρ) k) (evCY (cx ρ) k).2 lim k x0 H := by
  rw [evCall_body (cx ρ) k lim 3 _ H Tryd.f3 c3 [2] (by kernel_rfl) (by kernel_rfl) (by kernel_rfl) (by kernel_rfl) (by kernel_rfl)]
  exact G3 ρ (evCall (cx ρ) k) (evCY (cx ρ) k).2 lim k x0 H
-- haycroft/haycroftlaw27.awake
noncomputable def c6 : Code := Code.of Tryd.prog 6
noncomputable def L6 (ρ : Addr → Option Value) (call : CallF) (yc : YieldF) (lim k : Nat) (H : Heap) : Res :=
  resK (call lim 7 [(.str (ByteArray.mk #[97, 115, 107, 32, 48, 32, 97, 100, 100, 32, 61, 107, 32, 53, 10]))] H) fun x7 H =>
  purK (extA 0 x7) fun x8 =>
  purK (extA 1 x7) fun x9 =>
  purK (extA 2 x7) fun x10 =>
  resK (call lim 11 [(.str (ByteArray.mk #[61, 37, 52, 49]))] H) fun x12 H =>
  purK (extA 0 x12) fun x13 =>
  purK (extA 1 x12) fun x14 =>
  purK (lenS x8) fun x16 =>
  purK (binA Tryd.prog H .eql 3 x16 (.int .i64 1)) fun x17 =>
  purK (gPur (wantV x17 true) (some x9)) fun x19 =>
  purK (gPur (wantV x17 true) (binA Tryd.prog H .eql 3 x19 (.int .i64 0))) fun x20 =>
  purK (pickA x17 x20 (.bool false)) fun x21 =>
  purK (gPur (wantV x21 true) (some x10)) fun x23 =>
  purK (gPur (wantV x21 true) (binA Tryd.prog H .eql 24 x23 (.int .i64 0))) fun x24 =>
  purK (pickA x21 x24 (.bool false)) fun x25 =>
  purK (gPur (wantV x25 true) (some x8)) fun x27 =>
  purK (gPur (wantV x25 true) (ixS 8 x27 (.int .i64 0))) fun x28 =>
  purK (gPur (wantV x25 true) (addA 3 x28)) fun x29 =>
  purK (gPur (wantV x25 true) (addA 3 x29)) fun x30 =>
  purK (gPur (wantV x25 true) (ld1 ρ H x30)) fun x31 =>
  purK (gPur (wantV x25 true) (binA Tryd.prog H .eql 38 x31 (.int .u64 5))) fun x32 =>
  purK (pickA x25 x32 (.bool false)) fun x33 =>
  purK (gPur (wantV x33 true) (some x14)) fun x35 =>
  purK (gPur (wantV x33 true) (binA Tryd.prog H .eql 24 x35 (.int .i64 4))) fun x36 =>
  purK (pickA x33 x36 (.bool false)) fun x37 =>
  retK [x37] H
theorem G6 (ρ : Addr → Option Value) (call : CallF) (yc : YieldF) (lim k : Nat) (H : Heap) :
    evL (cx ρ) call yc false 6 lim k c6 [(.tup []), (.tup []), (.tup []), (.tup []), (.tup []), (.tup []), (.tup []), (.tup []), (.tup []), (.tup []), (.tup []), (.tup []), (.tup []), (.tup []), (.tup []), (.tup []), (.tup []), (.tup []), (.tup []), (.tup []), (.tup []), (.tup []), (.tup []), (.tup []), (.tup []), (.tup []), (.tup []), (.tup []), (.tup []), (.tup []), (.tup []), (.tup []), (.tup []), (.tup []), (.tup []), (.tup []), (.tup []), (.tup [])] H (kk none (fun s H => retK (([0] : List Nat).map fun t => s.getD t (.tup [])) H) [] retK [0]) = L6 ρ call yc lim k H := by
  kernel_rfl
theorem E6 (ρ : Addr → Option Value) (k lim : Nat) (H : Heap) : evCall (cx ρ) (k + 1) lim 6 [] H = L6 ρ (evCall (cx ρ) k) (evCY (cx ρ) k).2 lim k H := by
  rw [evCall_body (cx ρ) k lim 6 _ H Tryd.f6 c6 [0] (by kernel_rfl) (by kernel_rfl) (by kernel_rfl) (by kernel_rfl) (by kernel_rfl)]
  exact G6 ρ (evCall (cx ρ) k) (evCY (cx ρ) k).2 lim k H
-- haycroft/script.Parse
noncomputable def c7 : Code := Code.of Tryd.prog 7
noncomputable def N7_1 (ρ : Addr → Option Value) (call : CallF) (yc : YieldF) (lim k : Nat) (x5 : AV) (H : Heap) (R : List AV → Heap → Res) : Res :=
  R [x5, (.int .i64 0), (.int .i64 0)] H
theorem N7_1_eq (ρ : Addr → Option Value) (call : CallF) (yc : YieldF) (lim k : Nat) (x5 : AV) (H : Heap) (R : List AV → Heap → Res) :
    evL (cx ρ) call yc false 7 lim k (Code.at [1, 1, 1, 1] c7) (sp 53 [(5, x5)]) H (kk none (fun s H => R (([2, 3, 4] : List Nat).map fun t => s.getD t (.tup [])) H) [] R [2, 3, 4]) = N7_1 ρ call yc lim k x5 H R := by
  kernel_rfl
noncomputable def N7_4 (ρ : Addr → Option Value) (call : CallF) (yc : YieldF) (lim k : Nat) (x0 x5 x6 : AV) (H : Heap) (kn : AV → AV → AV → Heap → Res) : Res :=
  purK (binA Tryd.prog H .add 3 x6 (.int .i64 1)) fun x18_1 =>
  kn x0 x5 x18_1 H
theorem N7_4_eq (ρ : Addr → Option Value) (call : CallF) (yc : YieldF) (lim k : Nat) (x0 x5 x6 : AV) (H : Heap) (kn : KS) (k0 : KS) (R : List AV → Heap → Res) :
    evL (cx ρ) call yc false 7 lim k (Code.at [1, 1, 1, 0, 1, 0, 0, 1, 1] c7) (sp 53 [(0, x0), (5, x5), (6, x6)]) H (kk (some [0, 5, 6]) kn [(0, (some [5]), k0)] R [2, 3, 4]) = N7_4 ρ call yc lim k x0 x5 x6 H (fun x0 x5 x6 H => kn (sp 53 [(0, x0), (5, x5), (6, x6)]) H) := by
  kernel_rfl
noncomputable def N7_5 (ρ : Addr → Option Value) (call : CallF) (yc : YieldF) (lim k : Nat) (x0 x5 x6 x9 x10 x11 : AV) (H : Heap) (kn : AV → AV → AV → Heap → Res) (R : List AV → Heap → Res) : Res :=
  purK (unA .not x11) fun x42_1 =>
  purK (gPur (wantV x42_1 false) (some x9)) fun x44_1 =>
  purK (gPur (wantV x42_1 false) (unA .not x44_1)) fun x45_1 =>
  purK (pickA x42_1 (.bool true) x45_1) fun x46_1 =>
  condK x46_1
  (
    R [.nils, x6, (.int .i64 4)] H)
  (
    purK (ldN ρ H 8 x10) fun x49_1 =>
    effK H (bldS H 43 8 [.int .i64 0, .int .i64 0, .int .i64 0, .int .i64 0, .str ByteArray.empty, .str ByteArray.empty, .int .u64 0, .nils] 1 [(0, 8, x49_1)]) fun x50_1 H =>
    effK H (apA ρ lim H 43 8 96 x5 x50_1) fun x51_1 H =>
    kn x0 x51_1 x6 H)
theorem N7_5_eq (ρ : Addr → Option Value) (call : CallF) (yc : YieldF) (lim k : Nat) (x0 x5 x6 x9 x10 x11 : AV) (H : Heap) (kn : KS) (k1 : KS) (k0 : KS) (R : List AV → Heap → Res) :
    evL (cx ρ) call yc false 7 lim k (Code.at [1, 1, 1, 0, 1, 0, 0, 1, 0, 0, 1, 1, 1, 1] c7) (sp 53 [(0, x0), (5, x5), (6, x6), (9, x9), (10, x10), (11, x11)]) H (kk (some [0, 5, 6]) kn [(1, (some [0, 5, 6]), k1), (0, (some [5]), k0)] R [2, 3, 4]) = N7_5 ρ call yc lim k x0 x5 x6 x9 x10 x11 H (fun x0 x5 x6 H => kn (sp 53 [(0, x0), (5, x5), (6, x6)]) H) R := by
  kernel_rfl
noncomputable def N7_3b (ρ : Addr → Option Value) (call : CallF) (yc : YieldF) (lim k : Nat) (x0 x5 x6 : AV) (H : Heap) (kn : AV → AV → AV → Heap → Res) (k0 : AV → Heap → Res) (R : List AV → Heap → Res) : Res :=
  purK (binA Tryd.prog H .neq 9 x0 (.str (ByteArray.mk #[]))) fun x16_1 =>
  condK x16_1
  (
    resK (call lim 17 [x0, (.str (ByteArray.mk #[10]))] H) fun x21_1 H =>
    purK (extA 0 x21_1) fun x22_1 =>
    purK (extA 1 x21_1) fun x23_1 =>
    purK (extA 2 x21_1) fun x24_1 =>
    purK (gPur (wantV x24_1 true) (some x22_1)) fun x28_1 =>
    purK (gPur (wantV x24_1 true) (binA Tryd.prog H .eql 9 x28_1 (.str (ByteArray.mk #[])))) fun x29_1 =>
    purK (gPur (wantV x24_1 true) (some x29_1)) fun x30_1 =>
    purK (gPur (wantV x30_1 false) (some x22_1)) fun x31_1 =>
    purK (gPur (wantV x30_1 false) (ixT x31_1 (.int .i64 0))) fun x32_1 =>
    purK (gPur (wantV x30_1 false) (binA Tryd.prog H .eql 5 x32_1 (.int .u8 35))) fun x33_1 =>
    purK (gPur (wantV x24_1 true) (pickA x30_1 (.bool true) x33_1)) fun x34_1 =>
    purK (pickA x24_1 x34_1 (.bool false)) fun x35_1 =>
    condK x35_1
    (
      N7_4 ρ call yc lim k x23_1 x5 x6 H kn)
    (
      resK (call lim 18 [x22_1] H) fun x38_1 H =>
      purK (extA 0 x38_1) fun x39_1 =>
      purK (extA 1 x38_1) fun x40_1 =>
      effK H (some (.ptr H.sz 0 0, .new (newCells 43 false [.int .i64 0, .int .i64 0, .int .i64 0, .int .i64 0, .str ByteArray.empty, .str ByteArray.empty, .int .u64 0, .nils]))) fun x10_1 H =>
      effK H (stA lim H 8 x10_1 x39_1) fun _ H =>
      N7_5 ρ call yc lim k x23_1 x5 x6 x24_1 x10_1 x40_1 H (fun x0_1 x5_1 x6_1 H =>
        N7_4 ρ call yc lim k x0_1 x5_1 x6_1 H kn) R))
  (
    k0 x5 H)
theorem N7_3b_x (ρ : Addr → Option Value) (call : CallF) (yc : YieldF) (lim k : Nat) (J : CodeF) (x0 x5 x6 : AV) (H : Heap) (kn : KS) (k0 : KS) (R : List AV → Heap → Res) :
    evX (cx ρ) call yc false 7 lim k J (Code.at [1, 1, 1, 0, 1, 0, 0] c7) (sp 53 [(0, x0), (5, x5), (6, x6)]) H (kk (some [0, 5, 6]) kn [(0, (some [5]), k0)] R [2, 3, 4]) =
  purK (binA Tryd.prog H .neq 9 x0 (.str (ByteArray.mk #[]))) fun x16_1 =>
  condK x16_1
  (
    resK (call lim 17 [x0, (.str (ByteArray.mk #[10]))] H) fun x21_1 H =>
    purK (extA 0 x21_1) fun x22_1 =>
    purK (extA 1 x21_1) fun x23_1 =>
    purK (extA 2 x21_1) fun x24_1 =>
    purK (gPur (wantV x24_1 true) (some x22_1)) fun x28_1 =>
    purK (gPur (wantV x24_1 true) (binA Tryd.prog H .eql 9 x28_1 (.str (ByteArray.mk #[])))) fun x29_1 =>
    purK (gPur (wantV x24_1 true) (some x29_1)) fun x30_1 =>
    purK (gPur (wantV x30_1 false) (some x22_1)) fun x31_1 =>
    purK (gPur (wantV x30_1 false) (ixT x31_1 (.int .i64 0))) fun x32_1 =>
    purK (gPur (wantV x30_1 false) (binA Tryd.prog H .eql 5 x32_1 (.int .u8 35))) fun x33_1 =>
    purK (gPur (wantV x24_1 true) (pickA x30_1 (.bool true) x33_1)) fun x34_1 =>
    purK (pickA x24_1 x34_1 (.bool false)) fun x35_1 =>
    condK x35_1
    (
      J (Code.at [1, 1, 1, 0, 1, 0, 0, 1, 1] c7) (sp 53 [(0, x23_1), (5, x5), (6, x6)]) H (kk (some [0, 5, 6]) kn [(0, (some [5]), k0)] R [2, 3, 4]))
    (
      resK (call lim 18 [x22_1] H) fun x38_1 H =>
      purK (extA 0 x38_1) fun x39_1 =>
      purK (extA 1 x38_1) fun x40_1 =>
      effK H (some (.ptr H.sz 0 0, .new (newCells 43 false [.int .i64 0, .int .i64 0, .int .i64 0, .int .i64 0, .str ByteArray.empty, .str ByteArray.empty, .int .u64 0, .nils]))) fun x10_1 H =>
      effK H (stA lim H 8 x10_1 x39_1) fun _ H =>
      J (Code.at [1, 1, 1, 0, 1, 0, 0, 1, 0, 0, 1, 1, 1, 1] c7) (sp 53 [(0, x23_1), (5, x5), (6, x6), (9, x24_1), (10, x10_1), (11, x40_1)]) H (kk (some [0, 5, 6]) (fun s H => J (Code.at [1, 1, 1, 0, 1, 0, 0, 1, 1] c7) s H (kk (some [0, 5, 6]) kn [(0, (some [5]), k0)] R [2, 3, 4])) [(1, (some [0, 5, 6]), (fun s H => J (Code.at [1, 1, 1, 0, 1, 0, 0, 1, 1] c7) s H (kk (some [0, 5, 6]) kn [(0, (some [5]), k0)] R [2, 3, 4]))), (0, (some [5]), k0)] R [2, 3, 4])))
  (
    k0 (sp 53 [(5, x5)]) H) := by
  kernel_rfl
theorem N7_3b_eq (ρ : Addr → Option Value) (call : CallF) (yc : YieldF) (lim k : Nat) (x0 x5 x6 : AV) (H : Heap) (kn : KS) (k0 : KS) (R : List AV → Heap → Res) :
    evL (cx ρ) call yc false 7 lim k (Code.at [1, 1, 1, 0, 1, 0, 0] c7) (sp 53 [(0, x0), (5, x5), (6, x6)]) H (kk (some [0, 5, 6]) kn [(0, (some [5]), k0)] R [2, 3, 4]) = N7_3b ρ call yc lim k x0 x5 x6 H (fun x0 x5 x6 H => kn (sp 53 [(0, x0), (5, x5), (6, x6)]) H) (fun x5 H => k0 (sp 53 [(5, x5)]) H) R := by
  rw [evL_X, N7_3b_x]
  simp only [← evL_X, N7_3b, N7_4_eq, N7_5_eq]
noncomputable def N7_3 (ρ : Addr → Option Value) (call : CallF) (yc : YieldF) (lim k : Nat) (x0 x5 x6 : AV) (H : Heap) (k0 : AV → Heap → Res) (R : List AV → Heap → Res) : Res :=
  loopL (fun (x : AV × AV × AV) H kn => N7_3b ρ call yc lim k x.1 x.2.1 x.2.2 H (fun x0 x5 x6 H => kn (x0, x5, x6) H) k0 R) k (x0, x5, x6) H
theorem N7_3_eq (ρ : Addr → Option Value) (call : CallF) (yc : YieldF) (lim k : Nat) (x0 x5 x6 : AV) (H : Heap) (kn : KS) (k0 : KS) (R : List AV → Heap → Res) :
    evL (cx ρ) call yc false 7 lim k (Code.at [1, 1, 1, 0, 1, 0] c7) (sp 53 [(0, x0), (5, x5), (6, x6)]) H (kk (some [5]) kn [(0, (some [5]), k0)] R [2, 3, 4]) = N7_3 ρ call yc lim k x0 x5 x6 H (fun x5 H => k0 (sp 53 [(5, x5)]) H) R := by
  have e : Code.at [1, 1, 1, 0, 1, 0] c7 = .loop (Code.at [1, 1, 1, 0, 1, 0, 0] c7) := by kernel_rfl
  rw [e]
  unfold N7_3
  exact loop_node [0, 5, 6] (fun x : AV × AV × AV => (sp 53 [(0, (x.1)), (5, (x.2.1)), (6, (x.2.2))])) (fun (x : AV × AV × AV) H kn => N7_3b ρ call yc lim k x.1 x.2.1 x.2.2 H (fun x0 x5 x6 H => kn (x0, x5, x6) H) (fun x5 H => k0 (sp 53 [(5, x5)]) H) R) (by kernel_rfl) (fun x => by kernel_rfl) (fun x H kn => N7_3b_eq ρ call yc lim k (x.1) (x.2.1) (x.2.2) H kn k0 R) (x0, x5, x6) (sp 53 [(0, x0), (5, x5), (6, x6)]) H (by kernel_rfl)
noncomputable def N7_2 (ρ : Addr → Option Value) (call : CallF) (yc : YieldF) (lim k : Nat) (x0 x5 x6 : AV) (H : Heap) (kn : AV → Heap → Res) (R : List AV → Heap → Res) : Res :=
  N7_3 ρ call yc lim k x0 x5 x6 H kn R
theorem N7_2_x (ρ : Addr → Option Value) (call : CallF) (yc : YieldF) (lim k : Nat) (J : CodeF) (x0 x5 x6 : AV) (H : Heap) (kn : KS) (R : List AV → Heap → Res) :
    evX (cx ρ) call yc false 7 lim k J (Code.at [1, 1, 1, 0, 1] c7) (sp 53 [(0, x0), (5, x5), (6, x6)]) H (kk (some [5]) kn [] R [2, 3, 4]) =
  J (Code.at [1, 1, 1, 0, 1, 0] c7) (sp 53 [(0, x0), (5, x5), (6, x6)]) H (kk (some [5]) kn [(0, (some [5]), kn)] R [2, 3, 4]) := by
  kernel_rfl
theorem N7_2_eq (ρ : Addr → Option Value) (call : CallF) (yc : YieldF) (lim k : Nat) (x0 x5 x6 : AV) (H : Heap) (kn : KS) (R : List AV → Heap → Res) :
    evL (cx ρ) call yc false 7 lim k (Code.at [1, 1, 1, 0, 1] c7) (sp 53 [(0, x0), (5, x5), (6, x6)]) H (kk (some [5]) kn [] R [2, 3, 4]) = N7_2 ρ call yc lim k x0 x5 x6 H (fun x5 H => kn (sp 53 [(5, x5)]) H) R := by
  rw [evL_X, N7_2_x]
  simp only [← evL_X, N7_2, N7_3_eq]
noncomputable def L7 (ρ : Addr → Option Value) (call : CallF) (yc : YieldF) (lim k : Nat) (x0 : AV) (H : Heap) : Res :=
  purK (lenT x0) fun x13 =>
  purK (binA Tryd.prog H .gtr 3 x13 (.int .i64 100000)) fun x14 =>
  condK x14
  (
    retK [.nils, (.int .i64 0), (.int .i64 5)] H)
  (
    N7_2 ρ call yc lim k x0 .nils (.int .i64 1) H (fun x5 H =>
      N7_1 ρ call yc lim k x5 H retK) retK)
theorem L7_x (ρ : Addr → Option Value) (call : CallF) (yc : YieldF) (lim k : Nat) (J : CodeF) (x0 : AV) (H : Heap) :
    evX (cx ρ) call yc false 7 lim k J c7 [x0, (.tup []), (.tup []), (.tup []), (.tup []), (.tup []), (.tup []), (.tup []), (.tup []), (.tup []), (.tup []), (.tup []), (.tup []), (.tup []), (.tup []), (.tup []), (.tup []), (.tup []), (.tup []), (.tup []), (.tup []), (.tup []), (.tup []), (.tup []), (.tup []), (.tup []), (.tup []), (.tup []), (.tup []), (.tup []), (.tup []), (.tup []), (.tup []), (.tup []), (.tup []), (.tup []), (.tup []), (.tup []), (.tup []), (.tup []), (.tup []), (.tup []), (.tup []), (.tup []), (.tup []), (.tup []), (.tup []), (.tup []), (.tup []), (.tup []), (.tup []), (.tup []), (.tup [])] H (kk none (fun s H => retK (([2, 3, 4] : List Nat).map fun t => s.getD t (.tup [])) H) [] retK [2, 3, 4]) =
  purK (lenT x0) fun x13 =>
  purK (binA Tryd.prog H .gtr 3 x13 (.int .i64 100000)) fun x14 =>
  condK x14
  (
    retK [.nils, (.int .i64 0), (.int .i64 5)] H)
  (
    J (Code.at [1, 1, 1, 0, 1] c7) (sp 53 [(0, x0), (5, .nils), (6, (.int .i64 1))]) H (kk (some [5]) (fun s H => J (Code.at [1, 1, 1, 1] c7) s H (kk none (fun s H => retK (([2, 3, 4] : List Nat).map fun t => s.getD t (.tup [])) H) [] retK [2, 3, 4])) [] retK [2, 3, 4])) := by
  kernel_rfl
theorem G7 (ρ : Addr → Option Value) (call : CallF) (yc : YieldF) (lim k : Nat) (x0 : AV) (H : Heap) :
    evL (cx ρ) call yc false 7 lim k c7 [x0, (.tup []), (.tup []), (.tup []), (.tup []), (.tup []), (.tup []), (.tup []), (.tup []), (.tup []), (.tup []), (.tup []), (.tup []), (.tup []), (.tup []), (.tup []), (.tup []), (.tup []), (.tup []), (.tup []), (.tup []), (.tup []), (.tup []), (.tup []), (.tup []), (.tup []), (.tup []), (.tup []), (.tup []), (.tup []), (.tup []), (.tup []), (.tup []), (.tup []), (.tup []), (.tup []), (.tup []), (.tup []), (.tup []), (.tup []), (.tup []), (.tup []), (.tup []), (.tup []), (.tup []), (.tup []), (.tup []), (.tup []), (.tup []), (.tup []), (.tup []), (.tup []), (.tup [])] H (kk none (fun s H => retK (([2, 3, 4] : List Nat).map fun t => s.getD t (.tup [])) H) [] retK [2, 3, 4]) = L7 ρ call yc lim k x0 H := by
  rw [evL_X, L7_x]
  simp only [← evL_X, L7, N7_1_eq, N7_2_eq]
theorem E7 (ρ : Addr → Option Value) (k lim : Nat) (x0 : AV) (H : Heap) : evCall (cx ρ) (k + 1) lim 7 [x0] H = L7 ρ (evCall (cx ρ) k) (evCY (cx ρ) k).2 lim k x0 H := by
  rw [evCall_body (cx ρ) k lim 7 _ H Tryd.f7 c7 [2, 3, 4] (by kernel_rfl) (by kernel_rfl) (by kernel_rfl) (by kernel_rfl) (by kernel_rfl)]
  exact G7 ρ (evCall (cx ρ) k) (evCY (cx ρ) k).2 lim k x0 H
-- haycroft/haycroftref27.Parse
noncomputable def c8 : Code := Code.of Tryd.prog 8
noncomputable def N8_1 (ρ : Addr → Option Value) (call : CallF) (yc : YieldF) (lim k : Nat) (x6 : AV) (H : Heap) (R : List AV → Heap → Res) : Res :=
  R [x6, (.int .i64 0), (.int .i64 0)] H
theorem N8_1_eq (ρ : Addr → Option Value) (call : CallF) (yc : YieldF) (lim k : Nat) (x6 : AV) (H : Heap) (R : List AV → Heap → Res) :
    evL (cx ρ) call yc false 8 lim k (Code.at [1, 1, 1, 1, 1] c8) (sp 65 [(6, x6)]) H (kk none (fun s H => R (([2, 3, 4] : List Nat).map fun t => s.getD t (.tup [])) H) [] R [2, 3, 4]) = N8_1 ρ call yc lim k x6 H R := by
  kernel_rfl
noncomputable def N8_4 (ρ : Addr → Option Value) (call : CallF) (yc : YieldF) (lim k : Nat) (x5 x6 x7 : AV) (H : Heap) (kn : AV → AV → Heap → Res) : Res :=
  purK (binA Tryd.prog H .add 3 x7 (.int .i64 1)) fun x22_1 =>
  kn x6 x22_1 H
theorem N8_4_eq (ρ : Addr → Option Value) (call : CallF) (yc : YieldF) (lim k : Nat) (x5 x6 x7 : AV) (H : Heap) (kn : KS) (k0 : KS) (R : List AV → Heap → Res) :
    evL (cx ρ) call yc false 8 lim k (Code.at [1, 1, 1, 1, 0, 1, 0, 0, 1, 1] c8) (sp 65 [(5, x5), (6, x6), (7, x7)]) H (kk (some [5, 6, 7]) kn [(0, (some [6]), k0)] R [2, 3, 4]) = N8_4 ρ call yc lim k x5 x6 x7 H (fun x6 x7 H => kn (sp 65 [(5, x5), (6, x6), (7, x7)]) H) := by
  kernel_rfl
noncomputable def N8_5 (ρ : Addr → Option Value) (call : CallF) (yc : YieldF) (lim k : Nat) (x5 x6 x7 x8 : AV) (H : Heap) (kn : AV → AV → Heap → Res) (R : List AV → Heap → Res) : Res :=
  purK (ixS 1 x5 x7) fun x48_1 =>
  purK (ld1 ρ H x48_1) fun x49_1 =>
  resK (call lim 20 [x49_1] H) fun x50_1 H =>
  purK (extA 0 x50_1) fun x51_1 =>
  purK (extA 1 x50_1) fun x52_1 =>
  effK H (some (.ptr H.sz 0 0, .new (newCells 43 false [.int .i64 0, .int .i64 0, .int .i64 0, .int .i64 0, .str ByteArray.empty, .str ByteArray.empty, .int .u64 0, .nils]))) fun x9_1 H =>
  effK H (stA lim H 8 x9_1 x51_1) fun _ H =>
  purK (unA .not x52_1) fun x54_1 =>
  purK (gPur (wantV x54_1 false) (some x8)) fun x56_1 =>
  purK (pickA x54_1 (.bool true) x56_1) fun x57_1 =>
  condK x57_1
  (
    purK (binA Tryd.prog H .add 3 x7 (.int .i64 1)) fun x59_1 =>
    R [.nils, x59_1, (.int .i64 4)] H)
  (
    purK (ldN ρ H 8 x9_1) fun x61_1 =>
    effK H (bldS H 43 8 [.int .i64 0, .int .i64 0, .int .i64 0, .int .i64 0, .str ByteArray.empty, .str ByteArray.empty, .int .u64 0, .nils] 1 [(0, 8, x61_1)]) fun x62_1 H =>
    effK H (apA ρ lim H 43 8 96 x6 x62_1) fun x63_1 H =>
    kn x63_1 x7 H)
theorem N8_5_eq (ρ : Addr → Option Value) (call : CallF) (yc : YieldF) (lim k : Nat) (x5 x6 x7 x8 : AV) (H : Heap) (kn : KS) (k1 : KS) (k0 : KS) (R : List AV → Heap → Res) :
    evL (cx ρ) call yc false 8 lim k (Code.at [1, 1, 1, 1, 0, 1, 0, 0, 1, 0, 0, 1, 1] c8) (sp 65 [(5, x5), (6, x6), (7, x7), (8, x8)]) H (kk (some [5, 6, 7]) kn [(1, (some [5, 6, 7]), k1), (0, (some [6]), k0)] R [2, 3, 4]) = N8_5 ρ call yc lim k x5 x6 x7 x8 H (fun x6 x7 H => kn (sp 65 [(5, x5), (6, x6), (7, x7)]) H) R := by
  kernel_rfl
noncomputable def N8_3b (ρ : Addr → Option Value) (call : CallF) (yc : YieldF) (lim k : Nat) (x5 x6 x7 : AV) (H : Heap) (kn : AV → AV → Heap → Res) (k0 : AV → Heap → Res) (R : List AV → Heap → Res) : Res :=
  purK (lenS x5) fun x19_1 =>
  purK (binA Tryd.prog H .lss 3 x7 x19_1) fun x20_1 =>
  condK x20_1
  (
    purK (lenS x5) fun x25_1 =>
    purK (binA Tryd.prog H .sub 3 x25_1 (.int .i64 1)) fun x26_1 =>
    purK (binA Tryd.prog H .eql 3 x7 x26_1) fun x27_1 =>
    purK (ixS 1 x5 x7) fun x30_1 =>
    purK (ld1 ρ H x30_1) fun x31_1 =>
    purK (binA Tryd.prog H .eql 9 x31_1 (.str (ByteArray.mk #[]))) fun x32_1 =>
    purK (gPur (wantV x32_1 false) (some x27_1)) fun x34_1 =>
    purK (gPur (wantV x32_1 false) (unA .not x34_1)) fun x35_1 =>
    purK (gPur (wantV x32_1 false) (some x35_1)) fun x36_1 =>
    purK (gPur (wantV x36_1 true) (some x5)) fun x37_1 =>
    purK (gPur (wantV x36_1 true) (some x7)) fun x38_1 =>
    purK (gPur (wantV x36_1 true) (ixS 1 x37_1 x38_1)) fun x39_1 =>
    purK (gPur (wantV x36_1 true) (ld1 ρ H x39_1)) fun x40_1 =>
    purK (gPur (wantV x36_1 true) (ixT x40_1 (.int .i64 0))) fun x41_1 =>
    purK (gPur (wantV x36_1 true) (binA Tryd.prog H .eql 5 x41_1 (.int .u8 35))) fun x42_1 =>
    purK (gPur (wantV x32_1 false) (pickA x36_1 x42_1 (.bool false))) fun x43_1 =>
    purK (pickA x32_1 (.bool true) x43_1) fun x44_1 =>
    condK x44_1
    (
      N8_4 ρ call yc lim k x5 x6 x7 H kn)
    (
      N8_5 ρ call yc lim k x5 x6 x7 x27_1 H (fun x6_1 x7_1 H =>
        N8_4 ρ call yc lim k x5 x6_1 x7_1 H kn) R))
  (
    k0 x6 H)
theorem N8_3b_x (ρ : Addr → Option Value) (call : CallF) (yc : YieldF) (lim k : Nat) (J : CodeF) (x5 x6 x7 : AV) (H : Heap) (kn : KS) (k0 : KS) (R : List AV → Heap → Res) :
    evX (cx ρ) call yc false 8 lim k J (Code.at [1, 1, 1, 1, 0, 1, 0, 0] c8) (sp 65 [(5, x5), (6, x6), (7, x7)]) H (kk (some [5, 6, 7]) kn [(0, (some [6]), k0)] R [2, 3, 4]) =
  purK (lenS x5) fun x19_1 =>
  purK (binA Tryd.prog H .lss 3 x7 x19_1) fun x20_1 =>
  condK x20_1
  (
    purK (lenS x5) fun x25_1 =>
    purK (binA Tryd.prog H .sub 3 x25_1 (.int .i64 1)) fun x26_1 =>
    purK (binA Tryd.prog H .eql 3 x7 x26_1) fun x27_1 =>
    purK (ixS 1 x5 x7) fun x30_1 =>
    purK (ld1 ρ H x30_1) fun x31_1 =>
    purK (binA Tryd.prog H .eql 9 x31_1 (.str (ByteArray.mk #[]))) fun x32_1 =>
    purK (gPur (wantV x32_1 false) (some x27_1)) fun x34_1 =>
    purK (gPur (wantV x32_1 false) (unA .not x34_1)) fun x35_1 =>
    purK (gPur (wantV x32_1 false) (some x35_1)) fun x36_1 =>
    purK (gPur (wantV x36_1 true) (some x5)) fun x37_1 =>
    purK (gPur (wantV x36_1 true) (some x7)) fun x38_1 =>
    purK (gPur (wantV x36_1 true) (ixS 1 x37_1 x38_1)) fun x39_1 =>
    purK (gPur (wantV x36_1 true) (ld1 ρ H x39_1)) fun x40_1 =>
    purK (gPur (wantV x36_1 true) (ixT x40_1 (.int .i64 0))) fun x41_1 =>
    purK (gPur (wantV x36_1 true) (binA Tryd.prog H .eql 5 x41_1 (.int .u8 35))) fun x42_1 =>
    purK (gPur (wantV x32_1 false) (pickA x36_1 x42_1 (.bool false))) fun x43_1 =>
    purK (pickA x32_1 (.bool true) x43_1) fun x44_1 =>
    condK x44_1
    (
      J (Code.at [1, 1, 1, 1, 0, 1, 0, 0, 1, 1] c8) (sp 65 [(5, x5), (6, x6), (7, x7)]) H (kk (some [5, 6, 7]) kn [(0, (some [6]), k0)] R [2, 3, 4]))
    (
      J (Code.at [1, 1, 1, 1, 0, 1, 0, 0, 1, 0, 0, 1, 1] c8) (sp 65 [(5, x5), (6, x6), (7, x7), (8, x27_1)]) H (kk (some [5, 6, 7]) (fun s H => J (Code.at [1, 1, 1, 1, 0, 1, 0, 0, 1, 1] c8) s H (kk (some [5, 6, 7]) kn [(0, (some [6]), k0)] R [2, 3, 4])) [(1, (some [5, 6, 7]), (fun s H => J (Code.at [1, 1, 1, 1, 0, 1, 0, 0, 1, 1] c8) s H (kk (some [5, 6, 7]) kn [(0, (some [6]), k0)] R [2, 3, 4]))), (0, (some [6]), k0)] R [2, 3, 4])))
  (
    k0 (sp 65 [(6, x6)]) H) := by
  kernel_rfl
theorem N8_3b_eq (ρ : Addr → Option Value) (call : CallF) (yc : YieldF) (lim k : Nat) (x5 x6 x7 : AV) (H : Heap) (kn : KS) (k0 : KS) (R : List AV → Heap → Res) :
    evL (cx ρ) call yc false 8 lim k (Code.at [1, 1, 1, 1, 0, 1, 0, 0] c8) (sp 65 [(5, x5), (6, x6), (7, x7)]) H (kk (some [5, 6, 7]) kn [(0, (some [6]), k0)] R [2, 3, 4]) = N8_3b ρ call yc lim k x5 x6 x7 H (fun x6 x7 H => kn (sp 65 [(5, x5), (6, x6), (7, x7)]) H) (fun x6 H => k0 (sp 65 [(6, x6)]) H) R := by
  rw [evL_X, N8_3b_x]
  simp only [← evL_X, N8_3b, N8_4_eq, N8_5_eq]
noncomputable def N8_3 (ρ : Addr → Option Value) (call : CallF) (yc : YieldF) (lim k : Nat) (x5 x6 x7 : AV) (H : Heap) (k0 : AV → Heap → Res) (R : List AV → Heap → Res) : Res :=
  loopL (fun (x : AV × AV) H kn => N8_3b ρ call yc lim k x5 x.1 x.2 H (fun x6 x7 H => kn (x6, x7) H) k0 R) k (x6, x7) H
theorem N8_3_eq (ρ : Addr → Option Value) (call : CallF) (yc : YieldF) (lim k : Nat) (x5 x6 x7 : AV) (H : Heap) (kn : KS) (k0 : KS) (R : List AV → Heap → Res) :
    evL (cx ρ) call yc false 8 lim k (Code.at [1, 1, 1, 1, 0, 1, 0] c8) (sp 65 [(5, x5), (6, x6), (7, x7)]) H (kk (some [6]) kn [(0, (some [6]), k0)] R [2, 3, 4]) = N8_3 ρ call yc lim k x5 x6 x7 H (fun x6 H => k0 (sp 65 [(6, x6)]) H) R := by
  have e : Code.at [1, 1, 1, 1, 0, 1, 0] c8 = .loop (Code.at [1, 1, 1, 1, 0, 1, 0, 0] c8) := by kernel_rfl
  rw [e]
  unfold N8_3
  exact loop_node [5, 6, 7] (fun x : AV × AV => (sp 65 [(5, x5), (6, (x.1)), (7, (x.2))])) (fun (x : AV × AV) H kn => N8_3b ρ call yc lim k x5 x.1 x.2 H (fun x6 x7 H => kn (x6, x7) H) (fun x6 H => k0 (sp 65 [(6, x6)]) H) R) (by kernel_rfl) (fun x => by kernel_rfl) (fun x H kn => N8_3b_eq ρ call yc lim k x5 (x.1) (x.2) H kn k0 R) (x6, x7) (sp 65 [(5, x5), (6, x6), (7, x7)]) H (by kernel_rfl)
noncomputable def N8_2 (ρ : Addr → Option Value) (call : CallF) (yc : YieldF) (lim k : Nat) (x5 x6 x7 : AV) (H : Heap) (kn : AV → Heap → Res) (R : List AV → Heap → Res) : Res :=
  N8_3 ρ call yc lim k x5 x6 x7 H kn R
theorem N8_2_x (ρ : Addr → Option Value) (call : CallF) (yc : YieldF) (lim k : Nat) (J : CodeF) (x5 x6 x7 : AV) (H : Heap) (kn : KS) (R : List AV → Heap → Res) :
    evX (cx ρ) call yc false 8 lim k J (Code.at [1, 1, 1, 1, 0, 1] c8) (sp 65 [(5, x5), (6, x6), (7, x7)]) H (kk (some [6]) kn [] R [2, 3, 4]) =
  J (Code.at [1, 1, 1, 1, 0, 1, 0] c8) (sp 65 [(5, x5), (6, x6), (7, x7)]) H (kk (some [6]) kn [(0, (some [6]), kn)] R [2, 3, 4]) := by
  kernel_rfl
theorem N8_2_eq (ρ : Addr → Option Value) (call : CallF) (yc : YieldF) (lim k : Nat) (x5 x6 x7 : AV) (H : Heap) (kn : KS) (R : List AV → Heap → Res) :
    evL (cx ρ) call yc false 8 lim k (Code.at [1, 1, 1, 1, 0, 1] c8) (sp 65 [(5, x5), (6, x6), (7, x7)]) H (kk (some [6]) kn [] R [2, 3, 4]) = N8_2 ρ call yc lim k x5 x6 x7 H (fun x6 H => kn (sp 65 [(6, x6)]) H) R := by
  rw [evL_X, N8_2_x]
  simp only [← evL_X, N8_2, N8_3_eq]
noncomputable def L8 (ρ : Addr → Option Value) (call : CallF) (yc : YieldF) (lim k : Nat) (x0 : AV) (H : Heap) : Res :=
  purK (lenT x0) fun x12 =>
  purK (binA Tryd.prog H .gtr 3 x12 (.int .i64 100000)) fun x13 =>
  condK x13
  (
    retK [.nils, (.int .i64 0), (.int .i64 5)] H)
  (
    resK (call lim 19 [x0, (.int .u8 10)] H) fun x15 H =>
    effK H (bldS H 43 8 [.int .i64 0, .int .i64 0, .int .i64 0, .int .i64 0, .str ByteArray.empty, .str ByteArray.empty, .int .u64 0, .nils] 0 []) fun x16 H =>
    N8_2 ρ call yc lim k x15 x16 (.int .i64 0) H (fun x6 H =>
      N8_1 ρ call yc lim k x6 H retK) retK)
theorem L8_x (ρ : Addr → Option Value) (call : CallF) (yc : YieldF) (lim k : Nat) (J : CodeF) (x0 : AV) (H : Heap) :
    evX (cx ρ) call yc false 8 lim k J c8 [x0, (.tup []), (.tup []), (.tup []), (.tup []), (.tup []), (.tup []), (.tup []), (.tup []), (.tup []), (.tup []), (.tup []), (.tup []), (.tup []), (.tup []), (.tup []), (.tup []), (.tup []), (.tup []), (.tup []), (.tup []), (.tup []), (.tup []), (.tup []), (.tup []), (.tup []), (.tup []), (.tup []), (.tup []), (.tup []), (.tup []), (.tup []), (.tup []), (.tup []), (.tup []), (.tup []), (.tup []), (.tup []), (.tup []), (.tup []), (.tup []), (.tup []), (.tup []), (.tup []), (.tup []), (.tup []), (.tup []), (.tup []), (.tup []), (.tup []), (.tup []), (.tup []), (.tup []), (.tup []), (.tup []), (.tup []), (.tup []), (.tup []), (.tup []), (.tup []), (.tup []), (.tup []), (.tup []), (.tup []), (.tup [])] H (kk none (fun s H => retK (([2, 3, 4] : List Nat).map fun t => s.getD t (.tup [])) H) [] retK [2, 3, 4]) =
  purK (lenT x0) fun x12 =>
  purK (binA Tryd.prog H .gtr 3 x12 (.int .i64 100000)) fun x13 =>
  condK x13
  (
    retK [.nils, (.int .i64 0), (.int .i64 5)] H)
  (
    resK (call lim 19 [x0, (.int .u8 10)] H) fun x15 H =>
    effK H (bldS H 43 8 [.int .i64 0, .int .i64 0, .int .i64 0, .int .i64 0, .str ByteArray.empty, .str ByteArray.empty, .int .u64 0, .nils] 0 []) fun x16 H =>
    J (Code.at [1, 1, 1, 1, 0, 1] c8) (sp 65 [(5, x15), (6, x16), (7, (.int .i64 0))]) H (kk (some [6]) (fun s H => J (Code.at [1, 1, 1, 1, 1] c8) s H (kk none (fun s H => retK (([2, 3, 4] : List Nat).map fun t => s.getD t (.tup [])) H) [] retK [2, 3, 4])) [] retK [2, 3, 4])) := by
  kernel_rfl
theorem G8 (ρ : Addr → Option Value) (call : CallF) (yc : YieldF) (lim k : Nat) (x0 : AV) (H : Heap) :
    evL (cx ρ) call yc false 8 lim k c8 [x0, (.tup []), (.tup []), (.tup []), (.tup []), (.tup []), (.tup []), (.tup []), (.tup []), (.tup []), (.tup []), (.tup []), (.tup []), (.tup []), (.tup []), (.tup []), (.tup []), (.tup []), (.tup []), (.tup []), (.tup []), (.tup []), (.tup []), (.tup []), (.tup []), (.tup []), (.tup []), (.tup []), (.tup []), (.tup []), (.tup []), (.tup []), (.tup []), (.tup []), (.tup []), (.tup []), (.tup []), (.tup []), (.tup []), (.tup []), (.tup []), (.tup []), (.tup []), (.tup []), (.tup []), (.tup []), (.tup []), (.tup []), (.tup []), (.tup []), (.tup []), (.tup []), (.tup []), (.tup []), (.tup []), (.tup []), (.tup []), (.tup []), (.tup []), (.tup []), (.tup []), (.tup []), (.tup []), (.tup []), (.tup [])] H (kk none (fun s H => retK (([2, 3, 4] : List Nat).map fun t => s.getD t (.tup [])) H) [] retK [2, 3, 4]) = L8 ρ call yc lim k x0 H := by
  rw [evL_X, L8_x]
  simp only [← evL_X, L8, N8_1_eq, N8_2_eq]
theorem E8 (ρ : Addr → Option Value) (k lim : Nat) (x0 : AV) (H : Heap) : evCall (cx ρ) (k + 1) lim 8 [x0] H = L8 ρ (evCall (cx ρ) k) (evCY (cx ρ) k).2 lim k x0 H := by
  rw [evCall_body (cx ρ) k lim 8 _ H Tryd.f8 c8 [2, 3, 4] (by kernel_rfl) (by kernel_rfl) (by kernel_rfl) (by kernel_rfl) (by kernel_rfl)]
  exact G8 ρ (evCall (cx ρ) k) (evCY (cx ρ) k).2 lim k x0 H
-- haycroft/haycroftref27.Same
noncomputable def c9 : Code := Code.of Tryd.prog 9
noncomputable def N9_1 (ρ : Addr → Option Value) (call : CallF) (yc : YieldF) (lim k : Nat) (H : Heap) (R : List AV → Heap → Res) : Res :=
  R [(.bool true)] H
theorem N9_1_eq (ρ : Addr → Option Value) (call : CallF) (yc : YieldF) (lim k : Nat) (H : Heap) (R : List AV → Heap → Res) :
    evL (cx ρ) call yc false 9 lim k (Code.at [1, 1, 1] c9) (sp 81 []) H (kk none (fun s H => R (([4] : List Nat).map fun t => s.getD t (.tup [])) H) [] R [4]) = N9_1 ρ call yc lim k H R := by
  kernel_rfl
noncomputable def N9_4 (ρ : Addr → Option Value) (call : CallF) (yc : YieldF) (lim k : Nat) (x0 x1 x5 : AV) (H : Heap) (kn : AV → Heap → Res) : Res :=
  purK (binA Tryd.prog H .add 3 x5 (.int .i64 1)) fun x16_1 =>
  kn x16_1 H
theorem N9_4_eq (ρ : Addr → Option Value) (call : CallF) (yc : YieldF) (lim k : Nat) (x0 x1 x5 : AV) (H : Heap) (kn : KS) (k0 : KS) (R : List AV → Heap → Res) :
    evL (cx ρ) call yc false 9 lim k (Code.at [1, 1, 0, 1, 0, 0, 1, 1] c9) (sp 81 [(0, x0), (1, x1), (5, x5)]) H (kk (some [0, 1, 5]) kn [(0, (some []), k0)] R [4]) = N9_4 ρ call yc lim k x0 x1 x5 H (fun x5 H => kn (sp 81 [(0, x0), (1, x1), (5, x5)]) H) := by
  kernel_rfl
noncomputable def N9_5 (ρ : Addr → Option Value) (call : CallF) (yc : YieldF) (lim k : Nat) (x0 x1 x5 x80 : AV) (H : Heap) (kn : AV → Heap → Res) (R : List AV → Heap → Res) : Res :=
  condK x80
  (
    R [(.bool false)] H)
  (
    kn x5 H)
theorem N9_5_eq (ρ : Addr → Option Value) (call : CallF) (yc : YieldF) (lim k : Nat) (x0 x1 x5 x80 : AV) (H : Heap) (kn : KS) (k1 : KS) (k0 : KS) (R : List AV → Heap → Res) :
    evL (cx ρ) call yc false 9 lim k (Code.at [1, 1, 0, 1, 0, 0, 1, 0, 0, 1] c9) (sp 81 [(0, x0), (1, x1), (5, x5), (80, x80)]) H (kk (some [0, 1, 5]) kn [(1, (some [0, 1, 5]), k1), (0, (some []), k0)] R [4]) = N9_5 ρ call yc lim k x0 x1 x5 x80 H (fun x5 H => kn (sp 81 [(0, x0), (1, x1), (5, x5)]) H) R := by
  kernel_rfl
noncomputable def N9_3b (ρ : Addr → Option Value) (call : CallF) (yc : YieldF) (lim k : Nat) (x0 x1 x5 : AV) (H : Heap) (kn : AV → Heap → Res) (k0 : Heap → Res) (R : List AV → Heap → Res) : Res :=
  purK (lenS x0) fun x13_1 =>
  purK (binA Tryd.prog H .lss 3 x5 x13_1) fun x14_1 =>
  condK x14_1
  (
    purK (ixS 8 x0 x5) fun x19_1 =>
    purK (addA 0 x19_1) fun x20_1 =>
    purK (ld1 ρ H x20_1) fun x21_1 =>
    purK (ixS 8 x1 x5) fun x24_1 =>
    purK (addA 0 x24_1) fun x25_1 =>
    purK (ld1 ρ H x25_1) fun x26_1 =>
    purK (binA Tryd.prog H .neq 3 x21_1 x26_1) fun x27_1 =>
    boolK (wantV x27_1 false) fun b1 => purK (bif b1 then some x0 else some (.tup [])) fun x29_1 =>
    boolK (wantV x27_1 false) fun b2 => purK (bif b2 then some x5 else some (.tup [])) fun x30_1 =>
    boolK (wantV x27_1 false) fun b3 => purK (bif b3 then ixS 8 x29_1 x30_1 else some (.tup [])) fun x31_1 =>
    boolK (wantV x27_1 false) fun b4 => purK (bif b4 then addA 1 x31_1 else some (.tup [])) fun x32_1 =>
    boolK (wantV x27_1 false) fun b5 => purK (bif b5 then ld1 ρ H x32_1 else some (.tup [])) fun x33_1 =>
    boolK (wantV x27_1 false) fun b6 => purK (bif b6 then some x1 else some (.tup [])) fun x34_1 =>
    boolK (wantV x27_1 false) fun b7 => purK (bif b7 then some x5 else some (.tup [])) fun x35_1 =>
    boolK (wantV x27_1 false) fun b8 => purK (bif b8 then ixS 8 x34_1 x35_1 else some (.tup [])) fun x36_1 =>
    boolK (wantV x27_1 false) fun b9 => purK (bif b9 then addA 1 x36_1 else some (.tup [])) fun x37_1 =>
    boolK (wantV x27_1 false) fun b10 => purK (bif b10 then ld1 ρ H x37_1 else some (.tup [])) fun x38_1 =>
    boolK (wantV x27_1 false) fun b11 => purK (bif b11 then binA Tryd.prog H .neq 3 x33_1 x38_1 else some (.tup [])) fun x39_1 =>
    purK (pickA x27_1 (.bool true) x39_1) fun x40_1 =>
    boolK (wantV x40_1 false) fun b12 => purK (bif b12 then some x0 else some (.tup [])) fun x42_1 =>
    boolK (wantV x40_1 false) fun b13 => purK (bif b13 then some x5 else some (.tup [])) fun x43_1 =>
    boolK (wantV x40_1 false) fun b14 => purK (bif b14 then ixS 8 x42_1 x43_1 else some (.tup [])) fun x44_1 =>
    boolK (wantV x40_1 false) fun b15 => purK (bif b15 then addA 2 x44_1 else some (.tup [])) fun x45_1 =>
    boolK (wantV x40_1 false) fun b16 => purK (bif b16 then ld1 ρ H x45_1 else some (.tup [])) fun x46_1 =>
    boolK (wantV x40_1 false) fun b17 => purK (bif b17 then some x1 else some (.tup [])) fun x47_1 =>
    boolK (wantV x40_1 false) fun b18 => purK (bif b18 then some x5 else some (.tup [])) fun x48_1 =>
    boolK (wantV x40_1 false) fun b19 => purK (bif b19 then ixS 8 x47_1 x48_1 else some (.tup [])) fun x49_1 =>
    boolK (wantV x40_1 false) fun b20 => purK (bif b20 then addA 2 x49_1 else some (.tup [])) fun x50_1 =>
    boolK (wantV x40_1 false) fun b21 => purK (bif b21 then ld1 ρ H x50_1 else some (.tup [])) fun x51_1 =>
    boolK (wantV x40_1 false) fun b22 => purK (bif b22 then binA Tryd.prog H .neq 3 x46_1 x51_1 else some (.tup [])) fun x52_1 =>
    purK (pickA x40_1 (.bool true) x52_1) fun x53_1 =>
    boolK (wantV x53_1 false) fun b23 => purK (bif b23 then some x0 else some (.tup [])) fun x55_1 =>
    boolK (wantV x53_1 false) fun b24 => purK (bif b24 then some x5 else some (.tup [])) fun x56_1 =>
    boolK (wantV x53_1 false) fun b25 => purK (bif b25 then ixS 8 x55_1 x56_1 else some (.tup [])) fun x57_1 =>
    boolK (wantV x53_1 false) fun b26 => purK (bif b26 then addA 3 x57_1 else some (.tup [])) fun x58_1 =>
    boolK (wantV x53_1 false) fun b27 => purK (bif b27 then ldN ρ H 4 x58_1 else some (.tup [])) fun x59_1 =>
    boolK (wantV x53_1 false) fun b28 => purK (bif b28 then some x1 else some (.tup [])) fun x60_1 =>
    boolK (wantV x53_1 false) fun b29 => purK (bif b29 then some x5 else some (.tup [])) fun x61_1 =>
    boolK (wantV x53_1 false) fun b30 => purK (bif b30 then ixS 8 x60_1 x61_1 else some (.tup [])) fun x62_1 =>
    boolK (wantV x53_1 false) fun b31 => purK (bif b31 then addA 3 x62_1 else some (.tup [])) fun x63_1 =>
    boolK (wantV x53_1 false) fun b32 => purK (bif b32 then ldN ρ H 4 x63_1 else some (.tup [])) fun x64_1 =>
    boolK (wantV x53_1 false) fun b33 => purK (bif b33 then binA Tryd.prog H .neq 40 x59_1 x64_1 else some (.tup [])) fun x65_1 =>
    purK (pickA x53_1 (.bool true) x65_1) fun x66_1 =>
    boolK (wantV x66_1 false) fun b34 => purK (bif b34 then some x0 else some (.tup [])) fun x68_1 =>
    boolK (wantV x66_1 false) fun b35 => purK (bif b35 then some x5 else some (.tup [])) fun x69_1 =>
    boolK (wantV x66_1 false) fun b36 => purK (bif b36 then ixS 8 x68_1 x69_1 else some (.tup [])) fun x70_1 =>
    boolK (wantV x66_1 false) fun b37 => purK (bif b37 then addA 7 x70_1 else some (.tup [])) fun x71_1 =>
    boolK (wantV x66_1 false) fun b38 => purK (bif b38 then ld1 ρ H x71_1 else some (.tup [])) fun x72_1 =>
    boolK (wantV x66_1 false) fun b39 => purK (bif b39 then some x1 else some (.tup [])) fun x73_1 =>
    boolK (wantV x66_1 false) fun b40 => purK (bif b40 then some x5 else some (.tup [])) fun x74_1 =>
    boolK (wantV x66_1 false) fun b41 => purK (bif b41 then ixS 8 x73_1 x74_1 else some (.tup [])) fun x75_1 =>
    boolK (wantV x66_1 false) fun b42 => purK (bif b42 then addA 7 x75_1 else some (.tup [])) fun x76_1 =>
    boolK (wantV x66_1 false) fun b43 => purK (bif b43 then ld1 ρ H x76_1 else some (.tup [])) fun x77_1 =>
    boolK (wantV x66_1 false) fun b44 => resK (gRes (some b44) H (call lim 21 [x72_1, x77_1] H)) fun x78_1 H => bif !b44 || ((!b43 || true) && ((!b38 || true) && ((!b33 || true) && ((!b32 || true) && ((!b27 || true) && ((!b22 || true) && ((!b21 || true) && ((!b16 || true) && ((!b11 || true) && ((!b10 || true) && ((!b5 || true) && true))))))))))) then
      purK (gPur (wantV x66_1 false) (unA .not x78_1)) fun x79_1 =>
      purK (pickA x66_1 (.bool true) x79_1) fun x80_1 =>
      N9_5 ρ call yc lim k x0 x1 x5 x80_1 H (fun x5_1 H =>
        N9_4 ρ call yc lim k x0 x1 x5_1 H kn) R
    else none)
  (
    k0 H)
theorem N9_3b_x (ρ : Addr → Option Value) (call : CallF) (yc : YieldF) (lim k : Nat) (J : CodeF) (x0 x1 x5 : AV) (H : Heap) (kn : KS) (k0 : KS) (R : List AV → Heap → Res) :
    evX (cx ρ) call yc false 9 lim k J (Code.at [1, 1, 0, 1, 0, 0] c9) (sp 81 [(0, x0), (1, x1), (5, x5)]) H (kk (some [0, 1, 5]) kn [(0, (some []), k0)] R [4]) =
  purK (lenS x0) fun x13_1 =>
  purK (binA Tryd.prog H .lss 3 x5 x13_1) fun x14_1 =>
  condK x14_1
  (
    purK (ixS 8 x0 x5) fun x19_1 =>
    purK (addA 0 x19_1) fun x20_1 =>
    purK (ld1 ρ H x20_1) fun x21_1 =>
    purK (ixS 8 x1 x5) fun x24_1 =>
    purK (addA 0 x24_1) fun x25_1 =>
    purK (ld1 ρ H x25_1) fun x26_1 =>
    purK (binA Tryd.prog H .neq 3 x21_1 x26_1) fun x27_1 =>
    boolK (wantV x27_1 false) fun b1 => purK (bif b1 then some x0 else some (.tup [])) fun x29_1 =>
    boolK (wantV x27_1 false) fun b2 => purK (bif b2 then some x5 else some (.tup [])) fun x30_1 =>
    boolK (wantV x27_1 false) fun b3 => purK (bif b3 then ixS 8 x29_1 x30_1 else some (.tup [])) fun x31_1 =>
    boolK (wantV x27_1 false) fun b4 => purK (bif b4 then addA 1 x31_1 else some (.tup [])) fun x32_1 =>
    boolK (wantV x27_1 false) fun b5 => purK (bif b5 then ld1 ρ H x32_1 else some (.tup [])) fun x33_1 =>
    boolK (wantV x27_1 false) fun b6 => purK (bif b6 then some x1 else some (.tup [])) fun x34_1 =>
    boolK (wantV x27_1 false) fun b7 => purK (bif b7 then some x5 else some (.tup [])) fun x35_1 =>
    boolK (wantV x27_1 false) fun b8 => purK (bif b8 then ixS 8 x34_1 x35_1 else some (.tup [])) fun x36_1 =>
    boolK (wantV x27_1 false) fun b9 => purK (bif b9 then addA 1 x36_1 else some (.tup [])) fun x37_1 =>
    boolK (wantV x27_1 false) fun b10 => purK (bif b10 then ld1 ρ H x37_1 else some (.tup [])) fun x38_1 =>
    boolK (wantV x27_1 false) fun b11 => purK (bif b11 then binA Tryd.prog H .neq 3 x33_1 x38_1 else some (.tup [])) fun x39_1 =>
    purK (pickA x27_1 (.bool true) x39_1) fun x40_1 =>
    boolK (wantV x40_1 false) fun b12 => purK (bif b12 then some x0 else some (.tup [])) fun x42_1 =>
    boolK (wantV x40_1 false) fun b13 => purK (bif b13 then some x5 else some (.tup [])) fun x43_1 =>
    boolK (wantV x40_1 false) fun b14 => purK (bif b14 then ixS 8 x42_1 x43_1 else some (.tup [])) fun x44_1 =>
    boolK (wantV x40_1 false) fun b15 => purK (bif b15 then addA 2 x44_1 else some (.tup [])) fun x45_1 =>
    boolK (wantV x40_1 false) fun b16 => purK (bif b16 then ld1 ρ H x45_1 else some (.tup [])) fun x46_1 =>
    boolK (wantV x40_1 false) fun b17 => purK (bif b17 then some x1 else some (.tup [])) fun x47_1 =>
    boolK (wantV x40_1 false) fun b18 => purK (bif b18 then some x5 else some (.tup [])) fun x48_1 =>
    boolK (wantV x40_1 false) fun b19 => purK (bif b19 then ixS 8 x47_1 x48_1 else some (.tup [])) fun x49_1 =>
    boolK (wantV x40_1 false) fun b20 => purK (bif b20 then addA 2 x49_1 else some (.tup [])) fun x50_1 =>
    boolK (wantV x40_1 false) fun b21 => purK (bif b21 then ld1 ρ H x50_1 else some (.tup [])) fun x51_1 =>
    boolK (wantV x40_1 false) fun b22 => purK (bif b22 then binA Tryd.prog H .neq 3 x46_1 x51_1 else some (.tup [])) fun x52_1 =>
    purK (pickA x40_1 (.bool true) x52_1) fun x53_1 =>
    boolK (wantV x53_1 false) fun b23 => purK (bif b23 then some x0 else some (.tup [])) fun x55_1 =>
    boolK (wantV x53_1 false) fun b24 => purK (bif b24 then some x5 else some (.tup [])) fun x56_1 =>
    boolK (wantV x53_1 false) fun b25 => purK (bif b25 then ixS 8 x55_1 x56_1 else some (.tup [])) fun x57_1 =>
    boolK (wantV x53_1 false) fun b26 => purK (bif b26 then addA 3 x57_1 else some (.tup [])) fun x58_1 =>
    boolK (wantV x53_1 false) fun b27 => purK (bif b27 then ldN ρ H 4 x58_1 else some (.tup [])) fun x59_1 =>
    boolK (wantV x53_1 false) fun b28 => purK (bif b28 then some x1 else some (.tup [])) fun x60_1 =>
    boolK (wantV x53_1 false) fun b29 => purK (bif b29 then some x5 else some (.tup [])) fun x61_1 =>
    boolK (wantV x53_1 false) fun b30 => purK (bif b30 then ixS 8 x60_1 x61_1 else some (.tup [])) fun x62_1 =>
    boolK (wantV x53_1 false) fun b31 => purK (bif b31 then addA 3 x62_1 else some (.tup [])) fun x63_1 =>
    boolK (wantV x53_1 false) fun b32 => purK (bif b32 then ldN ρ H 4 x63_1 else some (.tup [])) fun x64_1 =>
    boolK (wantV x53_1 false) fun b33 => purK (bif b33 then binA Tryd.prog H .neq 40 x59_1 x64_1 else some (.tup [])) fun x65_1 =>
    purK (pickA x53_1 (.bool true) x65_1) fun x66_1 =>
    boolK (wantV x66_1 false) fun b34 => purK (bif b34 then some x0 else some (.tup [])) fun x68_1 =>
    boolK (wantV x66_1 false) fun b35 => purK (bif b35 then some x5 else some (.tup [])) fun x69_1 =>
    boolK (wantV x66_1 false) fun b36 => purK (bif b36 then ixS 8 x68_1 x69_1 else some (.tup [])) fun x70_1 =>
    boolK (wantV x66_1 false) fun b37 => purK (bif b37 then addA 7 x70_1 else some (.tup [])) fun x71_1 =>
    boolK (wantV x66_1 false) fun b38 => purK (bif b38 then ld1 ρ H x71_1 else some (.tup [])) fun x72_1 =>
    boolK (wantV x66_1 false) fun b39 => purK (bif b39 then some x1 else some (.tup [])) fun x73_1 =>
    boolK (wantV x66_1 false) fun b40 => purK (bif b40 then some x5 else some (.tup [])) fun x74_1 =>
    boolK (wantV x66_1 false) fun b41 => purK (bif b41 then ixS 8 x73_1 x74_1 else some (.tup [])) fun x75_1 =>
    boolK (wantV x66_1 false) fun b42 => purK (bif b42 then addA 7 x75_1 else some (.tup [])) fun x76_1 =>
    boolK (wantV x66_1 false) fun b43 => purK (bif b43 then ld1 ρ H x76_1 else some (.tup [])) fun x77_1 =>
    boolK (wantV x66_1 false) fun b44 => resK (gRes (some b44) H (call lim 21 [x72_1, x77_1] H)) fun x78_1 H => bif !b44 || ((!b43 || true) && ((!b38 || true) && ((!b33 || true) && ((!b32 || true) && ((!b27 || true) && ((!b22 || true) && ((!b21 || true) && ((!b16 || true) && ((!b11 || true) && ((!b10 || true) && ((!b5 || true) && true))))))))))) then
      purK (gPur (wantV x66_1 false) (unA .not x78_1)) fun x79_1 =>
      purK (pickA x66_1 (.bool true) x79_1) fun x80_1 =>
      J (Code.at [1, 1, 0, 1, 0, 0, 1, 0, 0, 1] c9) (sp 81 [(0, x0), (1, x1), (5, x5), (80, x80_1)]) H (kk (some [0, 1, 5]) (fun s H => J (Code.at [1, 1, 0, 1, 0, 0, 1, 1] c9) s H (kk (some [0, 1, 5]) kn [(0, (some []), k0)] R [4])) [(1, (some [0, 1, 5]), (fun s H => J (Code.at [1, 1, 0, 1, 0, 0, 1, 1] c9) s H (kk (some [0, 1, 5]) kn [(0, (some []), k0)] R [4]))), (0, (some []), k0)] R [4])
    else none)
  (
    k0 (sp 81 []) H) := by
  kernel_rfl
theorem N9_3b_eq (ρ : Addr → Option Value) (call : CallF) (yc : YieldF) (lim k : Nat) (x0 x1 x5 : AV) (H : Heap) (kn : KS) (k0 : KS) (R : List AV → Heap → Res) :
    evL (cx ρ) call yc false 9 lim k (Code.at [1, 1, 0, 1, 0, 0] c9) (sp 81 [(0, x0), (1, x1), (5, x5)]) H (kk (some [0, 1, 5]) kn [(0, (some []), k0)] R [4]) = N9_3b ρ call yc lim k x0 x1 x5 H (fun x5 H => kn (sp 81 [(0, x0), (1, x1), (5, x5)]) H) (fun H => k0 (sp 81 []) H) R := by
  rw [evL_X, N9_3b_x]
  simp only [← evL_X, N9_3b, N9_4_eq, N9_5_eq]
noncomputable def N9_3 (ρ : Addr → Option Value) (call : CallF) (yc : YieldF) (lim k : Nat) (x0 x1 x5 : AV) (H : Heap) (k0 : Heap → Res) (R : List AV → Heap → Res) : Res :=
  loopL (fun (x : AV) H kn => N9_3b ρ call yc lim k x0 x1 x H (fun x5 H => kn x5 H) k0 R) k x5 H
theorem N9_3_eq (ρ : Addr → Option Value) (call : CallF) (yc : YieldF) (lim k : Nat) (x0 x1 x5 : AV) (H : Heap) (kn : KS) (k0 : KS) (R : List AV → Heap → Res) :
    evL (cx ρ) call yc false 9 lim k (Code.at [1, 1, 0, 1, 0] c9) (sp 81 [(0, x0), (1, x1), (5, x5)]) H (kk (some []) kn [(0, (some []), k0)] R [4]) = N9_3 ρ call yc lim k x0 x1 x5 H (fun H => k0 (sp 81 []) H) R := by
  have e : Code.at [1, 1, 0, 1, 0] c9 = .loop (Code.at [1, 1, 0, 1, 0, 0] c9) := by kernel_rfl
  rw [e]
  unfold N9_3
  exact loop_node [0, 1, 5] (fun x : AV => (sp 81 [(0, x0), (1, x1), (5, (x))])) (fun (x : AV) H kn => N9_3b ρ call yc lim k x0 x1 x H (fun x5 H => kn x5 H) (fun H => k0 (sp 81 []) H) R) (by kernel_rfl) (fun x => by kernel_rfl) (fun x H kn => N9_3b_eq ρ call yc lim k x0 x1 (x) H kn k0 R) x5 (sp 81 [(0, x0), (1, x1), (5, x5)]) H (by kernel_rfl)
noncomputable def N9_2 (ρ : Addr → Option Value) (call : CallF) (yc : YieldF) (lim k : Nat) (x0 x1 x5 : AV) (H : Heap) (kn : Heap → Res) (R : List AV → Heap → Res) : Res :=
  N9_3 ρ call yc lim k x0 x1 x5 H kn R
theorem N9_2_x (ρ : Addr → Option Value) (call : CallF) (yc : YieldF) (lim k : Nat) (J : CodeF) (x0 x1 x5 : AV) (H : Heap) (kn : KS) (R : List AV → Heap → Res) :
    evX (cx ρ) call yc false 9 lim k J (Code.at [1, 1, 0, 1] c9) (sp 81 [(0, x0), (1, x1), (5, x5)]) H (kk (some []) kn [] R [4]) =
  J (Code.at [1, 1, 0, 1, 0] c9) (sp 81 [(0, x0), (1, x1), (5, x5)]) H (kk (some []) kn [(0, (some []), kn)] R [4]) := by
  kernel_rfl
theorem N9_2_eq (ρ : Addr → Option Value) (call : CallF) (yc : YieldF) (lim k : Nat) (x0 x1 x5 : AV) (H : Heap) (kn : KS) (R : List AV → Heap → Res) :
    evL (cx ρ) call yc false 9 lim k (Code.at [1, 1, 0, 1] c9) (sp 81 [(0, x0), (1, x1), (5, x5)]) H (kk (some []) kn [] R [4]) = N9_2 ρ call yc lim k x0 x1 x5 H (fun H => kn (sp 81 []) H) R := by
  rw [evL_X, N9_2_x]
  simp only [← evL_X, N9_2, N9_3_eq]
noncomputable def L9 (ρ : Addr → Option Value) (call : CallF) (yc : YieldF) (lim k : Nat) (x0 x1 : AV) (H : Heap) : Res :=
  purK (lenS x0) fun x7 =>
  purK (lenS x1) fun x9 =>
  purK (binA Tryd.prog H .neq 3 x7 x9) fun x10 =>
  condK x10
  (
    retK [(.bool false)] H)
  (
    N9_2 ρ call yc lim k x0 x1 (.int .i64 0) H (fun H =>
      N9_1 ρ call yc lim k H retK) retK)
theorem L9_x (ρ : Addr → Option Value) (call : CallF) (yc : YieldF) (lim k : Nat) (J : CodeF) (x0 x1 : AV) (H : Heap) :
    evX (cx ρ) call yc false 9 lim k J c9 [x0, x1, (.tup []), (.tup []), (.tup []), (.tup []), (.tup []), (.tup []), (.tup []), (.tup []), (.tup []), (.tup []), (.tup []), (.tup []), (.tup []), (.tup []), (.tup []), (.tup []), (.tup []), (.tup []), (.tup []), (.tup []), (.tup []), (.tup []), (.tup []), (.tup []), (.tup []), (.tup []), (.tup []), (.tup []), (.tup []), (.tup []), (.tup []), (.tup []), (.tup []), (.tup []), (.tup []), (.tup []), (.tup []), (.tup []), (.tup []), (.tup []), (.tup []), (.tup []), (.tup []), (.tup []), (.tup []), (.tup []), (.tup []), (.tup []), (.tup []), (.tup []), (.tup []), (.tup []), (.tup []), (.tup []), (.tup []), (.tup []), (.tup []), (.tup []), (.tup []), (.tup []), (.tup []), (.tup []), (.tup []), (.tup []), (.tup []), (.tup []), (.tup []), (.tup []), (.tup []), (.tup []), (.tup []), (.tup []), (.tup []), (.tup []), (.tup []), (.tup []), (.tup []), (.tup []), (.tup [])] H (kk none (fun s H => retK (([4] : List Nat).map fun t => s.getD t (.tup [])) H) [] retK [4]) =
  purK (lenS x0) fun x7 =>
  purK (lenS x1) fun x9 =>
  purK (binA Tryd.prog H .neq 3 x7 x9) fun x10 =>
  condK x10
  (
    retK [(.bool false)] H)
  (
    J (Code.at [1, 1, 0, 1] c9) (sp 81 [(0, x0), (1, x1), (5, (.int .i64 0))]) H (kk (some []) (fun s H => J (Code.at [1, 1, 1] c9) s H (kk none (fun s H => retK (([4] : List Nat).map fun t => s.getD t (.tup [])) H) [] retK [4])) [] retK [4])) := by
  kernel_rfl
theorem G9 (ρ : Addr → Option Value) (call : CallF) (yc : YieldF) (lim k : Nat) (x0 x1 : AV) (H : Heap) :
    evL (cx ρ) call yc false 9 lim k c9 [x0, x1, (.tup []), (.tup []), (.tup []), (.tup []), (.tup []), (.tup []), (.tup []), (.tup []), (.tup []), (.tup []), (.tup []), (.tup []), (.tup []), (.tup []), (.tup []), (.tup []), (.tup []), (.tup []), (.tup []), (.tup []), (.tup []), (.tup []), (.tup []), (.tup []), (.tup []), (.tup []), (.tup []), (.tup []), (.tup []), (.tup []), (.tup []), (.tup []), (.tup []), (.tup []), (.tup []), (.tup []), (.tup []), (.tup []), (.tup []), (.tup []), (.tup []), (.tup []), (.tup []), (.tup []), (.tup []), (.tup []), (.tup []), (.tup []), (.tup []), (.tup []), (.tup []), (.tup []), (.tup []), (.tup []), (.tup []), (.tup []), (.tup []), (.tup []), (.tup []), (.tup []), (.tup []), (.tup []), (.tup []), (.tup []), (.tup []), (.tup []), (.tup []), (.tup []), (.tup []), (.tup []), (.tup []), (.tup []), (.tup []), (.tup []), (.tup []), (.tup []), (.tup []), (.tup []), (.tup [])] H (kk none (fun s H => retK (([4] : List Nat).map fun t => s.getD t (.tup [])) H) [] retK [4]) = L9 ρ call yc lim k x0 x1 H := by
  rw [evL_X, L9_x]
  simp only [← evL_X, L9, N9_1_eq, N9_2_eq]
theorem E9 (ρ : Addr → Option Value) (k lim : Nat) (x0 x1 : AV) (H : Heap) : evCall (cx ρ) (k + 1) lim 9 [x0, x1] H = L9 ρ (evCall (cx ρ) k) (evCY (cx ρ) k).2 lim k x0 x1 H := by
  rw [evCall_body (cx ρ) k lim 9 _ H Tryd.f9 c9 [4] (by kernel_rfl) (by kernel_rfl) (by kernel_rfl) (by kernel_rfl) (by kernel_rfl)]
  exact G9 ρ (evCall (cx ρ) k) (evCY (cx ρ) k).2 lim k x0 x1 H
end Go.Proofs.YtnkeebchblfbgaaDoor

-- part Sc1
/- Functions, lifted. Printed by a program of this repo. -/
set_option linter.unusedVariables false
set_option linter.unusedSimpArgs false
set_option maxRecDepth 100000
set_option maxHeartbeats 4000000
namespace Go.Proofs.YtnkeebchblfbgaaDoor
open Go.Ev Go.RowKit
-- haycroft/script.Unquote
noncomputable def c11 : Code := Code.of Tryd.prog 11
noncomputable def N11_2 (ρ : Addr → Option Value) (call : CallF) (yc : YieldF) (lim k : Nat) (x6 : AV) (H : Heap) (R : List AV → Heap → Res) : Res :=
  resK (call lim 25 [x6] H) fun x56_1 H =>
  R [x56_1, (.int .i64 0)] H
theorem N11_2_eq (ρ : Addr → Option Value) (call : CallF) (yc : YieldF) (lim k : Nat) (x6 : AV) (H : Heap) (R : List AV → Heap → Res) :
    evL (cx ρ) call yc false 11 lim k (Code.at [1, 1, 1, 1, 1] c11) (sp 57 [(6, x6)]) H (kk none (fun s H => R (([2, 3] : List Nat).map fun t => s.getD t (.tup [])) H) [] R [2, 3]) = N11_2 ρ call yc lim k x6 H R := by
  kernel_rfl
noncomputable def N11_4 (ρ : Addr → Option Value) (call : CallF) (yc : YieldF) (lim k : Nat) (x4 x6 x7 : AV) (H : Heap) (kn : AV → Heap → Res) : Res :=
  resK (call lim 22 [x6, x7] H) fun x55_1 H =>
  kn x4 H
theorem N11_4_eq (ρ : Addr → Option Value) (call : CallF) (yc : YieldF) (lim k : Nat) (x4 x6 x7 : AV) (H : Heap) (kn : KS) (k1 : KS) (k0 : KS) (R : List AV → Heap → Res) :
    evL (cx ρ) call yc false 11 lim k (Code.at [1, 1, 1, 1, 0, 0, 0, 1, 0, 1, 1, 1] c11) (sp 57 [(4, x4), (6, x6), (7, x7)]) H (kk (some [4, 6]) kn [(1, (some [4, 6]), k1), (0, (some [6]), k0)] R [2, 3]) = N11_4 ρ call yc lim k x4 x6 x7 H (fun x4 H => kn (sp 57 [(4, x4), (6, x6)]) H) := by
  kernel_rfl
noncomputable def N11_5 (ρ : Addr → Option Value) (call : CallF) (yc : YieldF) (lim k : Nat) (x4 x6 x7 x8 x9 : AV) (H : Heap) (kn : AV → AV → Heap → Res) (R : List AV → Heap → Res) : Res :=
  purK (binA Tryd.prog H .lss 3 x8 (.int .i64 0)) fun x40_1 =>
  purK (gPur (wantV x40_1 false) (some x9)) fun x42_1 =>
  purK (gPur (wantV x40_1 false) (binA Tryd.prog H .lss 3 x42_1 (.int .i64 0))) fun x43_1 =>
  purK (pickA x40_1 (.bool true) x43_1) fun x44_1 =>
  purK (gPur (wantV x44_1 false) (some x7)) fun x46_1 =>
  resK (gRes (wantV x44_1 false) H (call lim 23 [x46_1] H)) fun x47_1 H =>
  purK (pickA x44_1 (.bool true) x47_1) fun x48_1 =>
  condK x48_1
  (
    R [(.str (ByteArray.mk #[])), (.int .i64 4)] H)
  (
    purK (slT x4 (some (.int .i64 2)) none) fun x50_1 =>
    kn x50_1 x7 H)
theorem N11_5_eq (ρ : Addr → Option Value) (call : CallF) (yc : YieldF) (lim k : Nat) (x4 x6 x7 x8 x9 : AV) (H : Heap) (kn : KS) (k1 : KS) (k0 : KS) (R : List AV → Heap → Res) :
    evL (cx ρ) call yc false 11 lim k (Code.at [1, 1, 1, 1, 0, 0, 0, 1, 0, 1, 1, 0, 1, 0, 1, 1, 1] c11) (sp 57 [(4, x4), (6, x6), (7, x7), (8, x8), (9, x9)]) H (kk (some [4, 6, 7]) kn [(1, (some [4, 6]), k1), (0, (some [6]), k0)] R [2, 3]) = N11_5 ρ call yc lim k x4 x6 x7 x8 x9 H (fun x4 x7 H => kn (sp 57 [(4, x4), (6, x6), (7, x7)]) H) R := by
  kernel_rfl
noncomputable def N11_3b (ρ : Addr → Option Value) (call : CallF) (yc : YieldF) (lim k : Nat) (x4 x6 : AV) (H : Heap) (kn : AV → Heap → Res) (k0 : AV → Heap → Res) (R : List AV → Heap → Res) : Res :=
  purK (binA Tryd.prog H .neq 9 x4 (.str (ByteArray.mk #[]))) fun x18_1 =>
  condK x18_1
  (
    purK (ixT x4 (.int .i64 0)) fun x20_1 =>
    purK (slT x4 (some (.int .i64 1)) none) fun x22_1 =>
    purK (binA Tryd.prog H .eql 5 x20_1 (.int .u8 37)) fun x24_1 =>
    condK x24_1
    (
      purK (lenT x22_1) fun x26_1 =>
      purK (binA Tryd.prog H .lss 3 x26_1 (.int .i64 2)) fun x27_1 =>
      condK x27_1
      (
        R [(.str (ByteArray.mk #[])), (.int .i64 4)] H)
      (
        purK (ixT x22_1 (.int .i64 0)) fun x29_1 =>
        purK (ixT x22_1 (.int .i64 1)) fun x32_1 =>
        resK (call lim 27 [(.str (ByteArray.mk #[48, 49, 50, 51, 52, 53, 54, 55, 56, 57, 65, 66, 67, 68, 69, 70])), x29_1] H) fun x30_1 H =>
        resK (call lim 27 [(.str (ByteArray.mk #[48, 49, 50, 51, 52, 53, 54, 55, 56, 57, 65, 66, 67, 68, 69, 70])), x32_1] H) fun x33_1 H =>
        purK (binA Tryd.prog H .shl 3 x30_1 (.int .u64 4)) fun x35_1 =>
        purK (binA Tryd.prog H .or 3 x35_1 x33_1) fun x37_1 =>
        purK (cvI .u8 x37_1) fun x38_1 =>
        N11_5 ρ call yc lim k x22_1 x6 x38_1 x30_1 x33_1 H (fun x4_1 x7_1 H =>
          N11_4 ρ call yc lim k x4_1 x6 x7_1 H kn) R))
    (
      resK (call lim 23 [x20_1] H) fun x52_1 H =>
      purK (unA .not x52_1) fun x53_1 =>
      condK x53_1
      (
        R [(.str (ByteArray.mk #[])), (.int .i64 4)] H)
      (
        N11_4 ρ call yc lim k x22_1 x6 x20_1 H kn)))
  (
    k0 x6 H)
theorem N11_3b_x (ρ : Addr → Option Value) (call : CallF) (yc : YieldF) (lim k : Nat) (J : CodeF) (x4 x6 : AV) (H : Heap) (kn : KS) (k0 : KS) (R : List AV → Heap → Res) :
    evX (cx ρ) call yc false 11 lim k J (Code.at [1, 1, 1, 1, 0, 0, 0] c11) (sp 57 [(4, x4), (6, x6)]) H (kk (some [4, 6]) kn [(0, (some [6]), k0)] R [2, 3]) =
  purK (binA Tryd.prog H .neq 9 x4 (.str (ByteArray.mk #[]))) fun x18_1 =>
  condK x18_1
  (
    purK (ixT x4 (.int .i64 0)) fun x20_1 =>
    purK (slT x4 (some (.int .i64 1)) none) fun x22_1 =>
    purK (binA Tryd.prog H .eql 5 x20_1 (.int .u8 37)) fun x24_1 =>
    condK x24_1
    (
      purK (lenT x22_1) fun x26_1 =>
      purK (binA Tryd.prog H .lss 3 x26_1 (.int .i64 2)) fun x27_1 =>
      condK x27_1
      (
        R [(.str (ByteArray.mk #[])), (.int .i64 4)] H)
      (
        purK (ixT x22_1 (.int .i64 0)) fun x29_1 =>
        purK (ixT x22_1 (.int .i64 1)) fun x32_1 =>
        resK (call lim 27 [(.str (ByteArray.mk #[48, 49, 50, 51, 52, 53, 54, 55, 56, 57, 65, 66, 67, 68, 69, 70])), x29_1] H) fun x30_1 H =>
        resK (call lim 27 [(.str (ByteArray.mk #[48, 49, 50, 51, 52, 53, 54, 55, 56, 57, 65, 66, 67, 68, 69, 70])), x32_1] H) fun x33_1 H =>
        purK (binA Tryd.prog H .shl 3 x30_1 (.int .u64 4)) fun x35_1 =>
        purK (binA Tryd.prog H .or 3 x35_1 x33_1) fun x37_1 =>
        purK (cvI .u8 x37_1) fun x38_1 =>
        J (Code.at [1, 1, 1, 1, 0, 0, 0, 1, 0, 1, 1, 0, 1, 0, 1, 1, 1] c11) (sp 57 [(4, x22_1), (6, x6), (7, x38_1), (8, x30_1), (9, x33_1)]) H (kk (some [4, 6, 7]) (fun s H => J (Code.at [1, 1, 1, 1, 0, 0, 0, 1, 0, 1, 1, 1] c11) s H (kk (some [4, 6]) kn [(1, (some [4, 6]), kn), (0, (some [6]), k0)] R [2, 3])) [(1, (some [4, 6]), kn), (0, (some [6]), k0)] R [2, 3])))
    (
      resK (call lim 23 [x20_1] H) fun x52_1 H =>
      purK (unA .not x52_1) fun x53_1 =>
      condK x53_1
      (
        R [(.str (ByteArray.mk #[])), (.int .i64 4)] H)
      (
        J (Code.at [1, 1, 1, 1, 0, 0, 0, 1, 0, 1, 1, 1] c11) (sp 57 [(4, x22_1), (6, x6), (7, x20_1)]) H (kk (some [4, 6]) kn [(1, (some [4, 6]), kn), (0, (some [6]), k0)] R [2, 3]))))
  (
    k0 (sp 57 [(6, x6)]) H) := by
  kernel_rfl
theorem N11_3b_eq (ρ : Addr → Option Value) (call : CallF) (yc : YieldF) (lim k : Nat) (x4 x6 : AV) (H : Heap) (kn : KS) (k0 : KS) (R : List AV → Heap → Res) :
    evL (cx ρ) call yc false 11 lim k (Code.at [1, 1, 1, 1, 0, 0, 0] c11) (sp 57 [(4, x4), (6, x6)]) H (kk (some [4, 6]) kn [(0, (some [6]), k0)] R [2, 3]) = N11_3b ρ call yc lim k x4 x6 H (fun x4 H => kn (sp 57 [(4, x4), (6, x6)]) H) (fun x6 H => k0 (sp 57 [(6, x6)]) H) R := by
  rw [evL_X, N11_3b_x]
  simp only [← evL_X, N11_3b, N11_4_eq, N11_5_eq]
noncomputable def N11_3 (ρ : Addr → Option Value) (call : CallF) (yc : YieldF) (lim k : Nat) (x4 x6 : AV) (H : Heap) (k0 : AV → Heap → Res) (R : List AV → Heap → Res) : Res :=
  loopL (fun (x : AV) H kn => N11_3b ρ call yc lim k x x6 H (fun x4 H => kn x4 H) k0 R) k x4 H
theorem N11_3_eq (ρ : Addr → Option Value) (call : CallF) (yc : YieldF) (lim k : Nat) (x4 x6 : AV) (H : Heap) (kn : KS) (k0 : KS) (R : List AV → Heap → Res) :
    evL (cx ρ) call yc false 11 lim k (Code.at [1, 1, 1, 1, 0, 0] c11) (sp 57 [(4, x4), (6, x6)]) H (kk (some [6]) kn [(0, (some [6]), k0)] R [2, 3]) = N11_3 ρ call yc lim k x4 x6 H (fun x6 H => k0 (sp 57 [(6, x6)]) H) R := by
  have e : Code.at [1, 1, 1, 1, 0, 0] c11 = .loop (Code.at [1, 1, 1, 1, 0, 0, 0] c11) := by kernel_rfl
  rw [e]
  unfold N11_3
  exact loop_node [4, 6] (fun x : AV => (sp 57 [(4, (x)), (6, x6)])) (fun (x : AV) H kn => N11_3b ρ call yc lim k x x6 H (fun x4 H => kn x4 H) (fun x6 H => k0 (sp 57 [(6, x6)]) H) R) (by kernel_rfl) (fun x => by kernel_rfl) (fun x H kn => N11_3b_eq ρ call yc lim k (x) x6 H kn k0 R) x4 (sp 57 [(4, x4), (6, x6)]) H (by kernel_rfl)
noncomputable def N11_1 (ρ : Addr → Option Value) (call : CallF) (yc : YieldF) (lim k : Nat) (x4 x6 : AV) (H : Heap) (R : List AV → Heap → Res) : Res :=
  N11_3 ρ call yc lim k x4 x6 H (fun x6_1 H =>
    N11_2 ρ call yc lim k x6_1 H R) R
theorem N11_1_x (ρ : Addr → Option Value) (call : CallF) (yc : YieldF) (lim k : Nat) (J : CodeF) (x4 x6 : AV) (H : Heap) (R : List AV → Heap → Res) :
    evX (cx ρ) call yc false 11 lim k J (Code.at [1, 1, 1, 1] c11) (sp 57 [(4, x4), (6, x6)]) H (kk none (fun s H => R (([2, 3] : List Nat).map fun t => s.getD t (.tup [])) H) [] R [2, 3]) =
  J (Code.at [1, 1, 1, 1, 0, 0] c11) (sp 57 [(4, x4), (6, x6)]) H (kk (some [6]) (fun s H => J (Code.at [1, 1, 1, 1, 1] c11) s H (kk none (fun s H => R (([2, 3] : List Nat).map fun t => s.getD t (.tup [])) H) [] R [2, 3])) [(0, (some [6]), (fun s H => J (Code.at [1, 1, 1, 1, 1] c11) s H (kk none (fun s H => R (([2, 3] : List Nat).map fun t => s.getD t (.tup [])) H) [] R [2, 3])))] R [2, 3]) := by
  kernel_rfl
theorem N11_1_eq (ρ : Addr → Option Value) (call : CallF) (yc : YieldF) (lim k : Nat) (x4 x6 : AV) (H : Heap) (R : List AV → Heap → Res) :
    evL (cx ρ) call yc false 11 lim k (Code.at [1, 1, 1, 1] c11) (sp 57 [(4, x4), (6, x6)]) H (kk none (fun s H => R (([2, 3] : List Nat).map fun t => s.getD t (.tup [])) H) [] R [2, 3]) = N11_1 ρ call yc lim k x4 x6 H R := by
  rw [evL_X, N11_1_x]
  simp only [← evL_X, N11_1, N11_2_eq, N11_3_eq]
noncomputable def L11 (ρ : Addr → Option Value) (call : CallF) (yc : YieldF) (lim k : Nat) (x0 : AV) (H : Heap) : Res :=
  resK (call lim 26 [x0, (.str (ByteArray.mk #[61]))] H) fun x12 H =>
  purK (extA 0 x12) fun x13 =>
  purK (extA 1 x12) fun x14 =>
  purK (unA .not x14) fun x16 =>
  condK x16
  (
    retK [(.str (ByteArray.mk #[])), (.int .i64 4)] H)
  (
    effK H (some (.ptr H.sz 0 0, .new (newCells 54 false [.nilp, .nils]))) fun x6 H =>
    N11_1 ρ call yc lim k x13 x6 H retK)
theorem L11_x (ρ : Addr → Option Value) (call : CallF) (yc : YieldF) (lim k : Nat) (J : CodeF) (x0 : AV) (H : Heap) :
    evX (cx ρ) call yc false 11 lim k J c11 [x0, (.tup []), (.tup []), (.tup []), (.tup []), (.tup []), (.tup []), (.tup []), (.tup []), (.tup []), (.tup []), (.tup []), (.tup []), (.tup []), (.tup []), (.tup []), (.tup []), (.tup []), (.tup []), (.tup []), (.tup []), (.tup []), (.tup []), (.tup []), (.tup []), (.tup []), (.tup []), (.tup []), (.tup []), (.tup []), (.tup []), (.tup []), (.tup []), (.tup []), (.tup []), (.tup []), (.tup []), (.tup []), (.tup []), (.tup []), (.tup []), (.tup []), (.tup []), (.tup []), (.tup []), (.tup []), (.tup []), (.tup []), (.tup []), (.tup []), (.tup []), (.tup []), (.tup []), (.tup []), (.tup []), (.tup []), (.tup [])] H (kk none (fun s H => retK (([2, 3] : List Nat).map fun t => s.getD t (.tup [])) H) [] retK [2, 3]) =
  resK (call lim 26 [x0, (.str (ByteArray.mk #[61]))] H) fun x12 H =>
  purK (extA 0 x12) fun x13 =>
  purK (extA 1 x12) fun x14 =>
  purK (unA .not x14) fun x16 =>
  condK x16
  (
    retK [(.str (ByteArray.mk #[])), (.int .i64 4)] H)
  (
    effK H (some (.ptr H.sz 0 0, .new (newCells 54 false [.nilp, .nils]))) fun x6 H =>
    J (Code.at [1, 1, 1, 1] c11) (sp 57 [(4, x13), (6, x6)]) H (kk none (fun s H => retK (([2, 3] : List Nat).map fun t => s.getD t (.tup [])) H) [] retK [2, 3])) := by
  kernel_rfl
theorem G11 (ρ : Addr → Option Value) (call : CallF) (yc : YieldF) (lim k : Nat) (x0 : AV) (H : Heap) :
    evL (cx ρ) call yc false 11 lim k c11 [x0, (.tup []), (.tup []), (.tup []), (.tup []), (.tup []), (.tup []), (.tup []), (.tup []), (.tup []), (.tup []), (.tup []), (.tup []), (.tup []), (.tup []), (.tup []), (.tup []), (.tup []), (.tup []), (.tup []), (.tup []), (.tup []), (.tup []), (.tup []), (.tup []), (.tup []), (.tup []), (.tup []), (.tup []), (.tup []), (.tup []), (.tup []), (.tup []), (.tup []), (.tup []), (.tup []), (.tup []), (.tup []), (.tup []), (.tup []), (.tup []), (.tup []), (.tup []), (.tup []), (.tup []), (.tup []), (.tup []), (.tup []), (.tup []), (.tup []), (.tup []), (.tup []), (.tup []), (.tup []), (.tup []), (.tup []), (.tup [])] H (kk none (fun s H => retK (([2, 3] : List Nat).map fun t => s.getD t (.tup [])) H) [] retK [2, 3]) = L11 ρ call yc lim k x0 H := by
  rw [evL_X, L11_x]
  simp only [← evL_X, L11, N11_1_eq]
theorem E11 (ρ : Addr → Option Value) (k lim : Nat) (x0 : AV) (H : Heap) : evCall (cx ρ) (k + 1) lim 11 [x0] H = L11 ρ (evCall (cx ρ) k) (evCY (cx ρ) k).2 lim k x0 H := by
  rw [evCall_body (cx ρ) k lim 11 _ H Tryd.f11 c11 [2, 3] (by kernel_rfl) (by kernel_rfl) (by kernel_rfl) (by kernel_rfl) (by kernel_rfl)]
  exact G11 ρ (evCall (cx ρ) k) (evCY (cx ρ) k).2 lim k x0 H
-- haycroft/haycroftref27.Unquote
noncomputable def c12 : Code := Code.of Tryd.prog 12
noncomputable def N12_1 (ρ : Addr → Option Value) (call : CallF) (yc : YieldF) (lim k : Nat) (x4 : AV) (H : Heap) (R : List AV → Heap → Res) : Res :=
  purK (b2s ρ H x4) fun x78_1 =>
  R [x78_1, (.bool true)] H
theorem N12_1_eq (ρ : Addr → Option Value) (call : CallF) (yc : YieldF) (lim k : Nat) (x4 : AV) (H : Heap) (R : List AV → Heap → Res) :
    evL (cx ρ) call yc false 12 lim k (Code.at [1, 1, 1, 1] c12) (sp 79 [(4, x4)]) H (kk none (fun s H => R (([2, 3] : List Nat).map fun t => s.getD t (.tup [])) H) [] R [2, 3]) = N12_1 ρ call yc lim k x4 H R := by
  kernel_rfl
noncomputable def N12_4 (ρ : Addr → Option Value) (call : CallF) (yc : YieldF) (lim k : Nat) (x0 x4 x5 : AV) (H : Heap) (kn : AV → AV → Heap → Res) : Res :=
  purK (binA Tryd.prog H .add 3 x5 (.int .i64 1)) fun x21_1 =>
  kn x4 x21_1 H
theorem N12_4_eq (ρ : Addr → Option Value) (call : CallF) (yc : YieldF) (lim k : Nat) (x0 x4 x5 : AV) (H : Heap) (kn : KS) (k0 : KS) (R : List AV → Heap → Res) :
    evL (cx ρ) call yc false 12 lim k (Code.at [1, 1, 1, 0, 1, 0, 0, 1, 1] c12) (sp 79 [(0, x0), (4, x4), (5, x5)]) H (kk (some [0, 4, 5]) kn [(0, (some [4]), k0)] R [2, 3]) = N12_4 ρ call yc lim k x0 x4 x5 H (fun x4 x5 H => kn (sp 79 [(0, x0), (4, x4), (5, x5)]) H) := by
  kernel_rfl
noncomputable def N12_6 (ρ : Addr → Option Value) (call : CallF) (yc : YieldF) (lim k : Nat) (x0 x4 x5 : AV) (H : Heap) (kn : AV → AV → Heap → Res) : Res :=
  purK (binA Tryd.prog H .add 3 x5 (.int .i64 2)) fun x76_1 =>
  kn x4 x76_1 H
theorem N12_6_eq (ρ : Addr → Option Value) (call : CallF) (yc : YieldF) (lim k : Nat) (x0 x4 x5 : AV) (H : Heap) (kn : KS) (k1 : KS) (k0 : KS) (R : List AV → Heap → Res) :
    evL (cx ρ) call yc false 12 lim k (Code.at [1, 1, 1, 0, 1, 0, 0, 1, 0, 0, 1, 1, 1, 1, 1, 1] c12) (sp 79 [(0, x0), (4, x4), (5, x5)]) H (kk (some [0, 4, 5]) kn [(1, (some [0, 4, 5]), k1), (0, (some [4]), k0)] R [2, 3]) = N12_6 ρ call yc lim k x0 x4 x5 H (fun x4 x5 H => kn (sp 79 [(0, x0), (4, x4), (5, x5)]) H) := by
  kernel_rfl
noncomputable def N12_5 (ρ : Addr → Option Value) (call : CallF) (yc : YieldF) (lim k : Nat) (x0 x4 x5 : AV) (H : Heap) (kn : AV → AV → Heap → Res) (R : List AV → Heap → Res) : Res :=
  purK (binA Tryd.prog H .add 3 x5 (.int .i64 1)) fun x58_1 =>
  purK (ixT x0 x58_1) fun x59_1 =>
  purK (binA Tryd.prog H .add 3 x5 (.int .i64 2)) fun x64_1 =>
  purK (ixT x0 x64_1) fun x65_1 =>
  resK (call lim 29 [x59_1] H) fun x60_1 H => bif (agn (binA Tryd.prog H .add 3 x5 (.int .i64 2)) x64_1 && true) then
    purK (binA Tryd.prog H .mul 3 (.int .i64 16) x60_1) fun x61_1 =>
    resK (call lim 29 [x65_1] H) fun x66_1 H => bif (agn (binA Tryd.prog H .mul 3 (.int .i64 16) x60_1) x61_1 && true) then
      purK (binA Tryd.prog H .add 3 x61_1 x66_1) fun x67_1 =>
      purK (cvI .u8 x67_1) fun x68_1 =>
      resK (call lim 28 [x68_1] H) fun x70_1 H =>
      condK x70_1
      (
        R [(.str (ByteArray.mk #[])), (.bool false)] H)
      (
        effK H (bldS H 5 1 [.int .u8 0] 1 [(0, 1, x68_1)]) fun x73_1 H =>
        effK H (apA ρ lim H 5 1 1 x4 x73_1) fun x74_1 H =>
        N12_6 ρ call yc lim k x0 x74_1 x5 H kn)
    else none
  else none
theorem N12_5_x (ρ : Addr → Option Value) (call : CallF) (yc : YieldF) (lim k : Nat) (J : CodeF) (x0 x4 x5 : AV) (H : Heap) (kn : KS) (k1 : KS) (k0 : KS) (R : List AV → Heap → Res) :
    evX (cx ρ) call yc false 12 lim k J (Code.at [1, 1, 1, 0, 1, 0, 0, 1, 0, 0, 1, 1, 1] c12) (sp 79 [(0, x0), (4, x4), (5, x5)]) H (kk (some [0, 4, 5]) kn [(1, (some [0, 4, 5]), k1), (0, (some [4]), k0)] R [2, 3]) =
  purK (binA Tryd.prog H .add 3 x5 (.int .i64 1)) fun x58_1 =>
  purK (ixT x0 x58_1) fun x59_1 =>
  purK (binA Tryd.prog H .add 3 x5 (.int .i64 2)) fun x64_1 =>
  purK (ixT x0 x64_1) fun x65_1 =>
  resK (call lim 29 [x59_1] H) fun x60_1 H => bif (agn (binA Tryd.prog H .add 3 x5 (.int .i64 2)) x64_1 && true) then
    purK (binA Tryd.prog H .mul 3 (.int .i64 16) x60_1) fun x61_1 =>
    resK (call lim 29 [x65_1] H) fun x66_1 H => bif (agn (binA Tryd.prog H .mul 3 (.int .i64 16) x60_1) x61_1 && true) then
      purK (binA Tryd.prog H .add 3 x61_1 x66_1) fun x67_1 =>
      purK (cvI .u8 x67_1) fun x68_1 =>
      resK (call lim 28 [x68_1] H) fun x70_1 H =>
      condK x70_1
      (
        R [(.str (ByteArray.mk #[])), (.bool false)] H)
      (
        effK H (bldS H 5 1 [.int .u8 0] 1 [(0, 1, x68_1)]) fun x73_1 H =>
        effK H (apA ρ lim H 5 1 1 x4 x73_1) fun x74_1 H =>
        J (Code.at [1, 1, 1, 0, 1, 0, 0, 1, 0, 0, 1, 1, 1, 1, 1, 1] c12) (sp 79 [(0, x0), (4, x74_1), (5, x5)]) H (kk (some [0, 4, 5]) kn [(1, (some [0, 4, 5]), k1), (0, (some [4]), k0)] R [2, 3]))
    else none
  else none := by
  kernel_rfl
theorem N12_5_eq (ρ : Addr → Option Value) (call : CallF) (yc : YieldF) (lim k : Nat) (x0 x4 x5 : AV) (H : Heap) (kn : KS) (k1 : KS) (k0 : KS) (R : List AV → Heap → Res) :
    evL (cx ρ) call yc false 12 lim k (Code.at [1, 1, 1, 0, 1, 0, 0, 1, 0, 0, 1, 1, 1] c12) (sp 79 [(0, x0), (4, x4), (5, x5)]) H (kk (some [0, 4, 5]) kn [(1, (some [0, 4, 5]), k1), (0, (some [4]), k0)] R [2, 3]) = N12_5 ρ call yc lim k x0 x4 x5 H (fun x4 x5 H => kn (sp 79 [(0, x0), (4, x4), (5, x5)]) H) R := by
  rw [evL_X, N12_5_x]
  simp only [← evL_X, N12_5, N12_6_eq]
noncomputable def N12_7 (ρ : Addr → Option Value) (call : CallF) (yc : YieldF) (lim k : Nat) (x0 x4 x5 x55 : AV) (H : Heap) (kn : AV → AV → Heap → Res) (R : List AV → Heap → Res) : Res :=
  condK x55
  (
    R [(.str (ByteArray.mk #[])), (.bool false)] H)
  (
    kn x4 x5 H)
theorem N12_7_eq (ρ : Addr → Option Value) (call : CallF) (yc : YieldF) (lim k : Nat) (x0 x4 x5 x55 : AV) (H : Heap) (kn : KS) (k1 : KS) (k0 : KS) (R : List AV → Heap → Res) :
    evL (cx ρ) call yc false 12 lim k (Code.at [1, 1, 1, 0, 1, 0, 0, 1, 0, 0, 1, 1, 0, 1] c12) (sp 79 [(0, x0), (4, x4), (5, x5), (55, x55)]) H (kk (some [0, 4, 5]) kn [(1, (some [0, 4, 5]), k1), (0, (some [4]), k0)] R [2, 3]) = N12_7 ρ call yc lim k x0 x4 x5 x55 H (fun x4 x5 H => kn (sp 79 [(0, x0), (4, x4), (5, x5)]) H) R := by
  kernel_rfl
noncomputable def N12_3b (ρ : Addr → Option Value) (call : CallF) (yc : YieldF) (lim k : Nat) (x0 x4 x5 : AV) (H : Heap) (kn : AV → AV → Heap → Res) (k0 : AV → Heap → Res) (R : List AV → Heap → Res) : Res :=
  purK (lenT x0) fun x18_1 =>
  purK (binA Tryd.prog H .lss 3 x5 x18_1) fun x19_1 =>
  condK x19_1
  (
    purK (ixT x0 x5) fun x24_1 =>
    resK (call lim 28 [x24_1] H) fun x26_1 H =>
    condK x26_1
    (
      effK H (bldS H 5 1 [.int .u8 0] 1 [(0, 1, x24_1)]) fun x29_1 H =>
      effK H (apA ρ lim H 5 1 1 x4 x29_1) fun x30_1 H =>
      N12_4 ρ call yc lim k x0 x30_1 x5 H kn)
    (
      purK (binA Tryd.prog H .neq 5 x24_1 (.int .u8 37)) fun x32_1 =>
      purK (gPur (wantV x32_1 false) (some x5)) fun x34_1 =>
      purK (gPur (wantV x32_1 false) (some x0)) fun x35_1 =>
      purK (gPur (wantV x32_1 false) (lenT x35_1)) fun x36_1 =>
      purK (gPur (wantV x32_1 false) (binA Tryd.prog H .sub 3 x36_1 (.int .i64 2))) fun x37_1 =>
      purK (gPur (wantV x32_1 false) (binA Tryd.prog H .geq 3 x34_1 x37_1)) fun x38_1 =>
      purK (pickA x32_1 (.bool true) x38_1) fun x39_1 =>
      purK (gPur (wantV x39_1 false) (some x0)) fun x41_1 =>
      purK (gPur (wantV x39_1 false) (some x5)) fun x42_1 =>
      purK (gPur (wantV x39_1 false) (binA Tryd.prog H .add 3 x42_1 (.int .i64 1))) fun x43_1 =>
      purK (gPur (wantV x39_1 false) (ixT x41_1 x43_1)) fun x44_1 =>
      resK (gRes (wantV x39_1 false) H (call lim 29 [x44_1] H)) fun x45_1 H =>
      purK (gPur (wantV x39_1 false) (binA Tryd.prog H .gtr 3 x45_1 (.int .i64 15))) fun x46_1 =>
      purK (pickA x39_1 (.bool true) x46_1) fun x47_1 =>
      purK (gPur (wantV x47_1 false) (some x0)) fun x49_1 =>
      purK (gPur (wantV x47_1 false) (some x5)) fun x50_1 =>
      purK (gPur (wantV x47_1 false) (binA Tryd.prog H .add 3 x50_1 (.int .i64 2))) fun x51_1 =>
      purK (gPur (wantV x47_1 false) (ixT x49_1 x51_1)) fun x52_1 =>
      resK (gRes (wantV x47_1 false) H (call lim 29 [x52_1] H)) fun x53_1 H =>
      purK (gPur (wantV x47_1 false) (binA Tryd.prog H .gtr 3 x53_1 (.int .i64 15))) fun x54_1 =>
      purK (pickA x47_1 (.bool true) x54_1) fun x55_1 =>
      N12_7 ρ call yc lim k x0 x4 x5 x55_1 H (fun x4_1 x5_1 H =>
        N12_5 ρ call yc lim k x0 x4_1 x5_1 H (fun x4_2 x5_2 H =>
          N12_4 ρ call yc lim k x0 x4_2 x5_2 H kn) R) R))
  (
    k0 x4 H)
theorem N12_3b_x (ρ : Addr → Option Value) (call : CallF) (yc : YieldF) (lim k : Nat) (J : CodeF) (x0 x4 x5 : AV) (H : Heap) (kn : KS) (k0 : KS) (R : List AV → Heap → Res) :
    evX (cx ρ) call yc false 12 lim k J (Code.at [1, 1, 1, 0, 1, 0, 0] c12) (sp 79 [(0, x0), (4, x4), (5, x5)]) H (kk (some [0, 4, 5]) kn [(0, (some [4]), k0)] R [2, 3]) =
  purK (lenT x0) fun x18_1 =>
  purK (binA Tryd.prog H .lss 3 x5 x18_1) fun x19_1 =>
  condK x19_1
  (
    purK (ixT x0 x5) fun x24_1 =>
    resK (call lim 28 [x24_1] H) fun x26_1 H =>
    condK x26_1
    (
      effK H (bldS H 5 1 [.int .u8 0] 1 [(0, 1, x24_1)]) fun x29_1 H =>
      effK H (apA ρ lim H 5 1 1 x4 x29_1) fun x30_1 H =>
      J (Code.at [1, 1, 1, 0, 1, 0, 0, 1, 1] c12) (sp 79 [(0, x0), (4, x30_1), (5, x5)]) H (kk (some [0, 4, 5]) kn [(0, (some [4]), k0)] R [2, 3]))
    (
      purK (binA Tryd.prog H .neq 5 x24_1 (.int .u8 37)) fun x32_1 =>
      purK (gPur (wantV x32_1 false) (some x5)) fun x34_1 =>
      purK (gPur (wantV x32_1 false) (some x0)) fun x35_1 =>
      purK (gPur (wantV x32_1 false) (lenT x35_1)) fun x36_1 =>
      purK (gPur (wantV x32_1 false) (binA Tryd.prog H .sub 3 x36_1 (.int .i64 2))) fun x37_1 =>
      purK (gPur (wantV x32_1 false) (binA Tryd.prog H .geq 3 x34_1 x37_1)) fun x38_1 =>
      purK (pickA x32_1 (.bool true) x38_1) fun x39_1 =>
      purK (gPur (wantV x39_1 false) (some x0)) fun x41_1 =>
      purK (gPur (wantV x39_1 false) (some x5)) fun x42_1 =>
      purK (gPur (wantV x39_1 false) (binA Tryd.prog H .add 3 x42_1 (.int .i64 1))) fun x43_1 =>
      purK (gPur (wantV x39_1 false) (ixT x41_1 x43_1)) fun x44_1 =>
      resK (gRes (wantV x39_1 false) H (call lim 29 [x44_1] H)) fun x45_1 H =>
      purK (gPur (wantV x39_1 false) (binA Tryd.prog H .gtr 3 x45_1 (.int .i64 15))) fun x46_1 =>
      purK (pickA x39_1 (.bool true) x46_1) fun x47_1 =>
      purK (gPur (wantV x47_1 false) (some x0)) fun x49_1 =>
      purK (gPur (wantV x47_1 false) (some x5)) fun x50_1 =>
      purK (gPur (wantV x47_1 false) (binA Tryd.prog H .add 3 x50_1 (.int .i64 2))) fun x51_1 =>
      purK (gPur (wantV x47_1 false) (ixT x49_1 x51_1)) fun x52_1 =>
      resK (gRes (wantV x47_1 false) H (call lim 29 [x52_1] H)) fun x53_1 H =>
      purK (gPur (wantV x47_1 false) (binA Tryd.prog H .gtr 3 x53_1 (.int .i64 15))) fun x54_1 =>
      purK (pickA x47_1 (.bool true) x54_1) fun x55_1 =>
      J (Code.at [1, 1, 1, 0, 1, 0, 0, 1, 0, 0, 1, 1, 0, 1] c12) (sp 79 [(0, x0), (4, x4), (5, x5), (55, x55_1)]) H (kk (some [0, 4, 5]) (fun s H => J (Code.at [1, 1, 1, 0, 1, 0, 0, 1, 0, 0, 1, 1, 1] c12) s H (kk (some [0, 4, 5]) (fun s H => J (Code.at [1, 1, 1, 0, 1, 0, 0, 1, 1] c12) s H (kk (some [0, 4, 5]) kn [(0, (some [4]), k0)] R [2, 3])) [(1, (some [0, 4, 5]), (fun s H => J (Code.at [1, 1, 1, 0, 1, 0, 0, 1, 1] c12) s H (kk (some [0, 4, 5]) kn [(0, (some [4]), k0)] R [2, 3]))), (0, (some [4]), k0)] R [2, 3])) [(1, (some [0, 4, 5]), (fun s H => J (Code.at [1, 1, 1, 0, 1, 0, 0, 1, 1] c12) s H (kk (some [0, 4, 5]) kn [(0, (some [4]), k0)] R [2, 3]))), (0, (some [4]), k0)] R [2, 3])))
  (
    k0 (sp 79 [(4, x4)]) H) := by
  kernel_rfl
theorem N12_3b_eq (ρ : Addr → Option Value) (call : CallF) (yc : YieldF) (lim k : Nat) (x0 x4 x5 : AV) (H : Heap) (kn : KS) (k0 : KS) (R : List AV → Heap → Res) :
    evL (cx ρ) call yc false 12 lim k (Code.at [1, 1, 1, 0, 1, 0, 0] c12) (sp 79 [(0, x0), (4, x4), (5, x5)]) H (kk (some [0, 4, 5]) kn [(0, (some [4]), k0)] R [2, 3]) = N12_3b ρ call yc lim k x0 x4 x5 H (fun x4 x5 H => kn (sp 79 [(0, x0), (4, x4), (5, x5)]) H) (fun x4 H => k0 (sp 79 [(4, x4)]) H) R := by
  rw [evL_X, N12_3b_x]
  simp only [← evL_X, N12_3b, N12_4_eq, N12_5_eq, N12_7_eq]
noncomputable def N12_3 (ρ : Addr → Option Value) (call : CallF) (yc : YieldF) (lim k : Nat) (x0 x4 x5 : AV) (H : Heap) (k0 : AV → Heap → Res) (R : List AV → Heap → Res) : Res :=
  loopL (fun (x : AV × AV) H kn => N12_3b ρ call yc lim k x0 x.1 x.2 H (fun x4 x5 H => kn (x4, x5) H) k0 R) k (x4, x5) H
theorem N12_3_eq (ρ : Addr → Option Value) (call : CallF) (yc : YieldF) (lim k : Nat) (x0 x4 x5 : AV) (H : Heap) (kn : KS) (k0 : KS) (R : List AV → Heap → Res) :
    evL (cx ρ) call yc false 12 lim k (Code.at [1, 1, 1, 0, 1, 0] c12) (sp 79 [(0, x0), (4, x4), (5, x5)]) H (kk (some [4]) kn [(0, (some [4]), k0)] R [2, 3]) = N12_3 ρ call yc lim k x0 x4 x5 H (fun x4 H => k0 (sp 79 [(4, x4)]) H) R := by
  have e : Code.at [1, 1, 1, 0, 1, 0] c12 = .loop (Code.at [1, 1, 1, 0, 1, 0, 0] c12) := by kernel_rfl
  rw [e]
  unfold N12_3
  exact loop_node [0, 4, 5] (fun x : AV × AV => (sp 79 [(0, x0), (4, (x.1)), (5, (x.2))])) (fun (x : AV × AV) H kn => N12_3b ρ call yc lim k x0 x.1 x.2 H (fun x4 x5 H => kn (x4, x5) H) (fun x4 H => k0 (sp 79 [(4, x4)]) H) R) (by kernel_rfl) (fun x => by kernel_rfl) (fun x H kn => N12_3b_eq ρ call yc lim k x0 (x.1) (x.2) H kn k0 R) (x4, x5) (sp 79 [(0, x0), (4, x4), (5, x5)]) H (by kernel_rfl)
noncomputable def N12_2 (ρ : Addr → Option Value) (call : CallF) (yc : YieldF) (lim k : Nat) (x0 x4 x5 : AV) (H : Heap) (kn : AV → Heap → Res) (R : List AV → Heap → Res) : Res :=
  N12_3 ρ call yc lim k x0 x4 x5 H kn R
theorem N12_2_x (ρ : Addr → Option Value) (call : CallF) (yc : YieldF) (lim k : Nat) (J : CodeF) (x0 x4 x5 : AV) (H : Heap) (kn : KS) (R : List AV → Heap → Res) :
    evX (cx ρ) call yc false 12 lim k J (Code.at [1, 1, 1, 0, 1] c12) (sp 79 [(0, x0), (4, x4), (5, x5)]) H (kk (some [4]) kn [] R [2, 3]) =
  J (Code.at [1, 1, 1, 0, 1, 0] c12) (sp 79 [(0, x0), (4, x4), (5, x5)]) H (kk (some [4]) kn [(0, (some [4]), kn)] R [2, 3]) := by
  kernel_rfl
theorem N12_2_eq (ρ : Addr → Option Value) (call : CallF) (yc : YieldF) (lim k : Nat) (x0 x4 x5 : AV) (H : Heap) (kn : KS) (R : List AV → Heap → Res) :
    evL (cx ρ) call yc false 12 lim k (Code.at [1, 1, 1, 0, 1] c12) (sp 79 [(0, x0), (4, x4), (5, x5)]) H (kk (some [4]) kn [] R [2, 3]) = N12_2 ρ call yc lim k x0 x4 x5 H (fun x4 H => kn (sp 79 [(4, x4)]) H) R := by
  rw [evL_X, N12_2_x]
  simp only [← evL_X, N12_2, N12_3_eq]
noncomputable def L12 (ρ : Addr → Option Value) (call : CallF) (yc : YieldF) (lim k : Nat) (x0 : AV) (H : Heap) : Res :=
  purK (lenT x0) fun x8 =>
  purK (binA Tryd.prog H .eql 3 x8 (.int .i64 0)) fun x9 =>
  purK (gPur (wantV x9 false) (some x0)) fun x11 =>
  purK (gPur (wantV x9 false) (ixT x11 (.int .i64 0))) fun x12 =>
  purK (gPur (wantV x9 false) (binA Tryd.prog H .neq 5 x12 (.int .u8 61))) fun x13 =>
  purK (pickA x9 (.bool true) x13) fun x14 =>
  condK x14
  (
    retK [(.str (ByteArray.mk #[])), (.bool false)] H)
  (
    effK H (bldS H 5 1 [.int .u8 0] 0 []) fun x15 H =>
    N12_2 ρ call yc lim k x0 x15 (.int .i64 1) H (fun x4 H =>
      N12_1 ρ call yc lim k x4 H retK) retK)
theorem L12_x (ρ : Addr → Option Value) (call : CallF) (yc : YieldF) (lim k : Nat) (J : CodeF) (x0 : AV) (H : Heap) :
    evX (cx ρ) call yc false 12 lim k J c12 [x0, (.tup []), (.tup []), (.tup []), (.tup []), (.tup []), (.tup []), (.tup []), (.tup []), (.tup []), (.tup []), (.tup []), (.tup []), (.tup []), (.tup []), (.tup []), (.tup []), (.tup []), (.tup []), (.tup []), (.tup []), (.tup []), (.tup []), (.tup []), (.tup []), (.tup []), (.tup []), (.tup []), (.tup []), (.tup []), (.tup []), (.tup []), (.tup []), (.tup []), (.tup []), (.tup []), (.tup []), (.tup []), (.tup []), (.tup []), (.tup []), (.tup []), (.tup []), (.tup []), (.tup []), (.tup []), (.tup []), (.tup []), (.tup []), (.tup []), (.tup []), (.tup []), (.tup []), (.tup []), (.tup []), (.tup []), (.tup []), (.tup []), (.tup []), (.tup []), (.tup []), (.tup []), (.tup []), (.tup []), (.tup []), (.tup []), (.tup []), (.tup []), (.tup []), (.tup []), (.tup []), (.tup []), (.tup []), (.tup []), (.tup []), (.tup []), (.tup []), (.tup []), (.tup [])] H (kk none (fun s H => retK (([2, 3] : List Nat).map fun t => s.getD t (.tup [])) H) [] retK [2, 3]) =
  purK (lenT x0) fun x8 =>
  purK (binA Tryd.prog H .eql 3 x8 (.int .i64 0)) fun x9 =>
  purK (gPur (wantV x9 false) (some x0)) fun x11 =>
  purK (gPur (wantV x9 false) (ixT x11 (.int .i64 0))) fun x12 =>
  purK (gPur (wantV x9 false) (binA Tryd.prog H .neq 5 x12 (.int .u8 61))) fun x13 =>
  purK (pickA x9 (.bool true) x13) fun x14 =>
  condK x14
  (
    retK [(.str (ByteArray.mk #[])), (.bool false)] H)
  (
    effK H (bldS H 5 1 [.int .u8 0] 0 []) fun x15 H =>
    J (Code.at [1, 1, 1, 0, 1] c12) (sp 79 [(0, x0), (4, x15), (5, (.int .i64 1))]) H (kk (some [4]) (fun s H => J (Code.at [1, 1, 1, 1] c12) s H (kk none (fun s H => retK (([2, 3] : List Nat).map fun t => s.getD t (.tup [])) H) [] retK [2, 3])) [] retK [2, 3])) := by
  kernel_rfl
theorem G12 (ρ : Addr → Option Value) (call : CallF) (yc : YieldF) (lim k : Nat) (x0 : AV) (H : Heap) :
    evL (cx ρ) call yc false 12 lim k c12 [x0, (.tup []), (.tup []), (.tup []), (.tup []), (.tup []), (.tup []), (.tup []), (.tup []), (.tup []), (.tup []), (.tup []), (.tup []), (.tup []), (.tup []), (.tup []), (.tup []), (.tup []), (.tup []), (.tup []), (.tup []), (.tup []), (.tup []), (.tup []), (.tup []), (.tup []), (.tup []), (.tup []), (.tup []), (.tup []), (.tup []), (.tup []), (.tup []), (.tup []), (.tup []), (.tup []), (.tup []), (.tup []), (.tup []), (.tup []), (.tup []), (.tup []), (.tup []), (.tup []), (.tup []), (.tup []), (.tup []), (.tup []), (.tup []), (.tup []), (.tup []), (.tup []), (.tup []), (.tup []), (.tup []), (.tup []), (.tup []), (.tup []), (.tup []), (.tup []), (.tup []), (.tup []), (.tup []), (.tup []), (.tup []), (.tup []), (.tup []), (.tup []), (.tup []), (.tup []), (.tup []), (.tup []), (.tup []), (.tup []), (.tup []), (.tup []), (.tup []), (.tup []), (.tup [])] H (kk none (fun s H => retK (([2, 3] : List Nat).map fun t => s.getD t (.tup [])) H) [] retK [2, 3]) = L12 ρ call yc lim k x0 H := by
  rw [evL_X, L12_x]
  simp only [← evL_X, L12, N12_1_eq, N12_2_eq]
theorem E12 (ρ : Addr → Option Value) (k lim : Nat) (x0 : AV) (H : Heap) : evCall (cx ρ) (k + 1) lim 12 [x0] H = L12 ρ (evCall (cx ρ) k) (evCY (cx ρ) k).2 lim k x0 H := by
  rw [evCall_body (cx ρ) k lim 12 _ H Tryd.f12 c12 [2, 3] (by kernel_rfl) (by kernel_rfl) (by kernel_rfl) (by kernel_rfl) (by kernel_rfl)]
  exact G12 ρ (evCall (cx ρ) k) (evCY (cx ρ) k).2 lim k x0 H
-- strings.Cut
noncomputable def c17 : Code := Code.of Tryd.prog 17
noncomputable def L17 (ρ : Addr → Option Value) (call : CallF) (yc : YieldF) (lim k : Nat) (x0 x1 : AV) (H : Heap) : Res :=
  resK (call lim 36 [x0, x1] H) fun x9 H =>
  purK (extA 0 x9) fun x10 =>
  purK (extA 1 x9) fun x11 =>
  purK (extA 2 x9) fun x12 =>
  retK [x10, x11, x12] H
theorem G17 (ρ : Addr → Option Value) (call : CallF) (yc : YieldF) (lim k : Nat) (x0 x1 : AV) (H : Heap) :
    evL (cx ρ) call yc false 17 lim k c17 [x0, x1, (.tup []), (.tup []), (.tup []), (.tup []), (.tup []), (.tup []), (.tup []), (.tup []), (.tup []), (.tup []), (.tup [])] H (kk none (fun s H => retK (([4, 5, 6] : List Nat).map fun t => s.getD t (.tup [])) H) [] retK [4, 5, 6]) = L17 ρ call yc lim k x0 x1 H := by
  kernel_rfl
theorem E17 (ρ : Addr → Option Value) (k lim : Nat) (x0 x1 : AV) (H : Heap) : evCall (cx ρ) (k + 1) lim 17 [x0, x1] H = L17 ρ (evCall (cx ρ) k) (evCY (cx ρ) k).2 lim k x0 x1 H := by
  rw [evCall_body (cx ρ) k lim 17 _ H Tryd.f17 c17 [4, 5, 6] (by kernel_rfl) (by kernel_rfl) (by kernel_rfl) (by kernel_rfl) (by kernel_rfl)]
  exact G17 ρ (evCall (cx ρ) k) (evCY (cx ρ) k).2 lim k x0 x1 H
-- haycroft/script.step
noncomputable def c18 : Code := Code.of Tryd.prog 18
noncomputable def N18_1 (ρ : Addr → Option Value) (call : CallF) (yc : YieldF) (lim k : Nat) (x2 x4 x5 : AV) (H : Heap) (R : List AV → Heap → Res) : Res :=
  purK (ldN ρ H 8 x5) fun x67_1 =>
  purK (nilChkA x4) fun x69_1 =>
  purK (addA 1 x69_1) fun x70_1 =>
  purK (ld1 ρ H x70_1) fun x71_1 =>
  purK (unA .not x71_1) fun x72_1 =>
  boolK (wantV x72_1 true) fun b1 => purK (bif b1 then some x4 else some (.tup [])) fun x74_1 =>
  boolK (wantV x72_1 true) fun b2 => purK (bif b2 then nilChkA x74_1 else some (.tup [])) fun x75_1 =>
  boolK (wantV x72_1 true) fun b3 => purK (bif b3 then addA 0 x75_1 else some (.tup [])) fun x76_1 =>
  boolK (wantV x72_1 true) fun b4 => purK (bif b4 then ld1 ρ H x76_1 else some (.tup [])) fun x77_1 =>
  boolK (wantV x72_1 true) fun b5 => purK (bif b5 then lenS x77_1 else some (.tup [])) fun x78_1 =>
  boolK (wantV x72_1 true) fun b6 => purK (bif b6 then binA Tryd.prog H .eql 3 x78_1 (.int .i64 0) else some (.tup [])) fun x79_1 =>
  purK (pickA x72_1 x79_1 (.bool false)) fun x80_1 =>
  boolK (wantV x80_1 true) fun b7 => purK (bif b7 then addA 7 x5 else some (.tup [])) fun x82_1 =>
  boolK (wantV x80_1 true) fun b8 => purK (bif b8 then ld1 ρ H x82_1 else some (.tup [])) fun x83_1 =>
  boolK (wantV x80_1 true) fun b9 => purK (bif b9 then lenS x83_1 else some (.tup [])) fun x84_1 =>
  boolK (wantV x80_1 true) fun b10 => purK (bif b10 then binA Tryd.prog H .leq 3 x84_1 (.int .i64 32) else some (.tup [])) fun x85_1 =>
  purK (pickA x80_1 x85_1 (.bool false)) fun x86_1 =>
  effK H (stA lim H 8 x2 x67_1) fun _ H => bif ((!b10 || agn (binA Tryd.prog H .leq 3 x84_1 (.int .i64 32)) x85_1) && ((!b9 || agn (lenS x83_1) x84_1) && ((!b8 || agn (ld1 ρ H x82_1) x83_1) && ((!b6 || true) && ((!b5 || true) && ((!b4 || true) && true)))))) then
    R [x2, x86_1] H
  else none
theorem N18_1_eq (ρ : Addr → Option Value) (call : CallF) (yc : YieldF) (lim k : Nat) (x2 x4 x5 : AV) (H : Heap) (R : List AV → Heap → Res) :
    evL (cx ρ) call yc false 18 lim k (Code.at [1, 1, 1, 1] c18) (sp 87 [(2, x2), (4, x4), (5, x5)]) H (kk none (fun s H => R (([2, 3] : List Nat).map fun t => s.getD t (.tup [])) H) [] R [2, 3]) = N18_1 ρ call yc lim k x2 x4 x5 H R := by
  kernel_rfl
noncomputable def N18_5b (ρ : Addr → Option Value) (call : CallF) (yc : YieldF) (lim k : Nat) (x2 x4 x5 : AV) (H : Heap) (kn : Heap → Res) (k1 : AV → AV → AV → Heap → Res) : Res :=
  purK (nilChkA x4) fun x45_1 =>
  purK (addA 0 x45_1) fun x46_1 =>
  purK (ld1 ρ H x46_1) fun x47_1 =>
  purK (lenS x47_1) fun x48_1 =>
  purK (binA Tryd.prog H .gtr 3 x48_1 (.int .i64 0)) fun x49_1 =>
  purK (gPur (wantV x49_1 true) (some x4)) fun x51_1 =>
  purK (gPur (wantV x49_1 true) (nilChkA x51_1)) fun x52_1 =>
  purK (gPur (wantV x49_1 true) (addA 1 x52_1)) fun x53_1 =>
  purK (gPur (wantV x49_1 true) (ld1 ρ H x53_1)) fun x54_1 =>
  purK (gPur (wantV x49_1 true) (unA .not x54_1)) fun x55_1 =>
  purK (pickA x49_1 x55_1 (.bool false)) fun x56_1 =>
  condK x56_1
  (
    purK (addA 7 x5) fun x57_1 =>
    purK (ld1 ρ H x57_1) fun x58_1 =>
    resK (call lim 40 [x4] H) fun x60_1 H => bif (agn (ld1 ρ H x57_1) x58_1 && true) then
      mkK H (bldS H 3 1 [.int .i64 0] 1 [(0, 1, x60_1)]) true fun x61_1 H => bif (agn (ld1 ρ H x57_1) x58_1 && true) then
        effK H (apA ρ lim H 3 1 8 x58_1 x61_1) fun x62_1 H =>
        purK (addA 7 x5) fun x63_1 =>
        effK H (stA lim H 1 x63_1 x62_1) fun _ H =>
        kn H
      else none
    else none)
  (
    k1 x2 x4 x5 H)
theorem N18_5b_eq (ρ : Addr → Option Value) (call : CallF) (yc : YieldF) (lim k : Nat) (x2 x4 x5 : AV) (H : Heap) (kn : KS) (k1 : KS) (k0 : KS) (R : List AV → Heap → Res) :
    evL (cx ρ) call yc false 18 lim k (Code.at [1, 1, 1, 0, 1, 0, 1, 1, 1, 1, 1, 1, 1, 0, 0, 0] c18) (sp 87 [(2, x2), (4, x4), (5, x5)]) H (kk (some [2, 4, 5]) kn [(1, (some [2, 4, 5]), k1), (0, (some [2, 4, 5]), k0)] R [2, 3]) = N18_5b ρ call yc lim k x2 x4 x5 H (fun H => kn (sp 87 [(2, x2), (4, x4), (5, x5)]) H) (fun x2 x4 x5 H => k1 (sp 87 [(2, x2), (4, x4), (5, x5)]) H) := by
  kernel_rfl
noncomputable def N18_5 (ρ : Addr → Option Value) (call : CallF) (yc : YieldF) (lim k : Nat) (x2 x4 x5 : AV) (H : Heap) (k1 : AV → AV → AV → Heap → Res) : Res :=
  loopL (fun (x : Unit) H kn => N18_5b ρ call yc lim k x2 x4 x5 H (fun H => kn () H) k1) k () H
theorem N18_5_eq (ρ : Addr → Option Value) (call : CallF) (yc : YieldF) (lim k : Nat) (x0 x1 x2 x3 x4 x5 x6 x7 x8 x9 x10 x11 x12 x13 x14 x15 x16 x17 x18 x19 x20 x21 x22 x23 x24 x25 x26 x27 x28 x29 x30 x31 x32 x33 x34 x35 x36 x37 x38 x39 x40 x41 x42 x43 x44 x45 x46 x47 x48 x49 x50 x51 x52 x53 x54 x55 x56 x57 x58 x59 x60 x61 x62 x63 x64 x65 x66 x67 x68 x69 x70 x71 x72 x73 x74 x75 x76 x77 x78 x79 x80 x81 x82 x83 x84 x85 x86 : AV) (H : Heap) (kn : KS) (k1 : KS) (k0 : KS) (R : List AV → Heap → Res) :
    evL (cx ρ) call yc false 18 lim k (Code.at [1, 1, 1, 0, 1, 0, 1, 1, 1, 1, 1, 1, 1, 0, 0] c18) [x0, x1, x2, x3, x4, x5, x6, x7, x8, x9, x10, x11, x12, x13, x14, x15, x16, x17, x18, x19, x20, x21, x22, x23, x24, x25, x26, x27, x28, x29, x30, x31, x32, x33, x34, x35, x36, x37, x38, x39, x40, x41, x42, x43, x44, x45, x46, x47, x48, x49, x50, x51, x52, x53, x54, x55, x56, x57, x58, x59, x60, x61, x62, x63, x64, x65, x66, x67, x68, x69, x70, x71, x72, x73, x74, x75, x76, x77, x78, x79, x80, x81, x82, x83, x84, x85, x86] H (kk (some [2, 4, 5]) kn [(1, (some [2, 4, 5]), k1), (0, (some [2, 4, 5]), k0)] R [2, 3]) = N18_5 ρ call yc lim k x2 x4 x5 H (fun x2 x4 x5 H => k1 (sp 87 [(2, x2), (4, x4), (5, x5)]) H) := by
  have e : Code.at [1, 1, 1, 0, 1, 0, 1, 1, 1, 1, 1, 1, 1, 0, 0] c18 = .loop (Code.at [1, 1, 1, 0, 1, 0, 1, 1, 1, 1, 1, 1, 1, 0, 0, 0] c18) := by kernel_rfl
  rw [e]
  unfold N18_5
  exact loop_node [2, 4, 5] (fun x : Unit => (sp 87 [(2, x2), (4, x4), (5, x5)])) (fun (x : Unit) H kn => N18_5b ρ call yc lim k x2 x4 x5 H (fun H => kn () H) (fun x2 x4 x5 H => k1 (sp 87 [(2, x2), (4, x4), (5, x5)]) H)) (by kernel_rfl) (fun x => by kernel_rfl) (fun x H kn => N18_5b_eq ρ call yc lim k x2 x4 x5 H kn k1 k0 R) () [x0, x1, x2, x3, x4, x5, x6, x7, x8, x9, x10, x11, x12, x13, x14, x15, x16, x17, x18, x19, x20, x21, x22, x23, x24, x25, x26, x27, x28, x29, x30, x31, x32, x33, x34, x35, x36, x37, x38, x39, x40, x41, x42, x43, x44, x45, x46, x47, x48, x49, x50, x51, x52, x53, x54, x55, x56, x57, x58, x59, x60, x61, x62, x63, x64, x65, x66, x67, x68, x69, x70, x71, x72, x73, x74, x75, x76, x77, x78, x79, x80, x81, x82, x83, x84, x85, x86] H (by kernel_rfl)
noncomputable def N18_6 (ρ : Addr → Option Value) (call : CallF) (yc : YieldF) (lim k : Nat) (x2 x4 x5 x64 : AV) (H : Heap) (kn : AV → AV → AV → Heap → Res) : Res :=
  condK x64
  (
    kn x2 x4 x5 H)
  (
    purK (nilChkA x4) fun x18_1 =>
    purK (addA 1 x18_1) fun x19_1 =>
    effK H (stA lim H 1 x19_1 (.bool true)) fun _ H =>
    kn x2 x4 x5 H)
theorem N18_6_eq (ρ : Addr → Option Value) (call : CallF) (yc : YieldF) (lim k : Nat) (x2 x4 x5 x64 : AV) (H : Heap) (kn : KS) (k0 : KS) (R : List AV → Heap → Res) :
    evL (cx ρ) call yc false 18 lim k (Code.at [1, 1, 1, 0, 1, 0, 1, 1, 1, 1, 1, 1, 1, 1, 1] c18) (sp 87 [(2, x2), (4, x4), (5, x5), (64, x64)]) H (kk (some [2, 4, 5]) kn [(0, (some [2, 4, 5]), k0)] R [2, 3]) = N18_6 ρ call yc lim k x2 x4 x5 x64 H (fun x2 x4 x5 H => kn (sp 87 [(2, x2), (4, x4), (5, x5)]) H) := by
  kernel_rfl
noncomputable def N18_4 (ρ : Addr → Option Value) (call : CallF) (yc : YieldF) (lim k : Nat) (x2 x4 x5 x16 x42 : AV) (H : Heap) (kn : AV → AV → AV → Heap → Res) : Res :=
  condK x42
  (
    N18_5 ρ call yc lim k x2 x4 x5 H kn)
  (
    purK (binA Tryd.prog H .eql 3 x16 (.int .i64 8)) fun x65_1 =>
    condK x65_1
    (
      N18_6 ρ call yc lim k x2 x4 x5 x65_1 H kn)
    (
      purK (binA Tryd.prog H .eql 3 x16 (.int .i64 10)) fun x66_1 =>
      N18_6 ρ call yc lim k x2 x4 x5 x66_1 H kn))
theorem N18_4_x (ρ : Addr → Option Value) (call : CallF) (yc : YieldF) (lim k : Nat) (J : CodeF) (x2 x4 x5 x16 x42 : AV) (H : Heap) (kn : KS) (k0 : KS) (R : List AV → Heap → Res) :
    evX (cx ρ) call yc false 18 lim k J (Code.at [1, 1, 1, 0, 1, 0, 1, 1, 1, 1, 1, 1, 1] c18) (sp 87 [(2, x2), (4, x4), (5, x5), (16, x16), (42, x42)]) H (kk (some [2, 4, 5]) kn [(0, (some [2, 4, 5]), k0)] R [2, 3]) =
  condK x42
  (
    J (Code.at [1, 1, 1, 0, 1, 0, 1, 1, 1, 1, 1, 1, 1, 0, 0] c18) [.any, .any, x2, .any, x4, x5, .any, .any, .any, .any, .any, .any, .any, .any, .any, .any, x16, .any, .any, .any, .any, .any, .any, .any, .any, .any, .any, .any, .any, .any, .any, .any, .any, .any, .any, .any, .any, .any, .any, .any, .any, .any, x42, .any, .any, .any, .any, .any, .any, .any, .any, .any, .any, .any, .any, .any, .any, .any, .any, .any, .any, .any, .any, .any, .any, .any, .any, .any, .any, .any, .any, .any, .any, .any, .any, .any, .any, .any, .any, .any, .any, .any, .any, .any, .any, .any, .any] H (kk (some [2, 4, 5]) kn [(1, (some [2, 4, 5]), kn), (0, (some [2, 4, 5]), k0)] R [2, 3]))
  (
    purK (binA Tryd.prog H .eql 3 x16 (.int .i64 8)) fun x65_1 =>
    condK x65_1
    (
      J (Code.at [1, 1, 1, 0, 1, 0, 1, 1, 1, 1, 1, 1, 1, 1, 1] c18) (sp 87 [(2, x2), (4, x4), (5, x5), (64, x65_1)]) H (kk (some [2, 4, 5]) kn [(0, (some [2, 4, 5]), k0)] R [2, 3]))
    (
      purK (binA Tryd.prog H .eql 3 x16 (.int .i64 10)) fun x66_1 =>
      J (Code.at [1, 1, 1, 0, 1, 0, 1, 1, 1, 1, 1, 1, 1, 1, 1] c18) (sp 87 [(2, x2), (4, x4), (5, x5), (64, x66_1)]) H (kk (some [2, 4, 5]) kn [(0, (some [2, 4, 5]), k0)] R [2, 3]))) := by
  kernel_rfl
theorem N18_4_eq (ρ : Addr → Option Value) (call : CallF) (yc : YieldF) (lim k : Nat) (x2 x4 x5 x16 x42 : AV) (H : Heap) (kn : KS) (k0 : KS) (R : List AV → Heap → Res) :
    evL (cx ρ) call yc false 18 lim k (Code.at [1, 1, 1, 0, 1, 0, 1, 1, 1, 1, 1, 1, 1] c18) (sp 87 [(2, x2), (4, x4), (5, x5), (16, x16), (42, x42)]) H (kk (some [2, 4, 5]) kn [(0, (some [2, 4, 5]), k0)] R [2, 3]) = N18_4 ρ call yc lim k x2 x4 x5 x16 x42 H (fun x2 x4 x5 H => kn (sp 87 [(2, x2), (4, x4), (5, x5)]) H) := by
  rw [evL_X, N18_4_x]
  simp only [← evL_X, N18_4, N18_5_eq, N18_6_eq]
noncomputable def N18_3 (ρ : Addr → Option Value) (call : CallF) (yc : YieldF) (lim k : Nat) (x2 x4 x5 x16 x34 : AV) (H : Heap) (kn : AV → AV → AV → Heap → Res) : Res :=
  condK x34
  (
    resK (call lim 40 [x4] H) fun x40_1 H =>
    purK (addA 2 x5) fun x41_1 =>
    effK H (stA lim H 1 x41_1 x40_1) fun _ H =>
    kn x2 x4 x5 H)
  (
    purK (binA Tryd.prog H .eql 3 x16 (.int .i64 9)) fun x43_1 =>
    N18_4 ρ call yc lim k x2 x4 x5 x16 x43_1 H kn)
theorem N18_3_x (ρ : Addr → Option Value) (call : CallF) (yc : YieldF) (lim k : Nat) (J : CodeF) (x2 x4 x5 x16 x34 : AV) (H : Heap) (kn : KS) (k0 : KS) (R : List AV → Heap → Res) :
    evX (cx ρ) call yc false 18 lim k J (Code.at [1, 1, 1, 0, 1, 0, 1, 1, 1, 1, 1] c18) (sp 87 [(2, x2), (4, x4), (5, x5), (16, x16), (34, x34)]) H (kk (some [2, 4, 5]) kn [(0, (some [2, 4, 5]), k0)] R [2, 3]) =
  condK x34
  (
    resK (call lim 40 [x4] H) fun x40_1 H =>
    purK (addA 2 x5) fun x41_1 =>
    effK H (stA lim H 1 x41_1 x40_1) fun _ H =>
    kn (sp 87 [(2, x2), (4, x4), (5, x5)]) H)
  (
    purK (binA Tryd.prog H .eql 3 x16 (.int .i64 9)) fun x43_1 =>
    J (Code.at [1, 1, 1, 0, 1, 0, 1, 1, 1, 1, 1, 1, 1] c18) (sp 87 [(2, x2), (4, x4), (5, x5), (16, x16), (42, x43_1)]) H (kk (some [2, 4, 5]) kn [(0, (some [2, 4, 5]), k0)] R [2, 3])) := by
  kernel_rfl
theorem N18_3_eq (ρ : Addr → Option Value) (call : CallF) (yc : YieldF) (lim k : Nat) (x2 x4 x5 x16 x34 : AV) (H : Heap) (kn : KS) (k0 : KS) (R : List AV → Heap → Res) :
    evL (cx ρ) call yc false 18 lim k (Code.at [1, 1, 1, 0, 1, 0, 1, 1, 1, 1, 1] c18) (sp 87 [(2, x2), (4, x4), (5, x5), (16, x16), (34, x34)]) H (kk (some [2, 4, 5]) kn [(0, (some [2, 4, 5]), k0)] R [2, 3]) = N18_3 ρ call yc lim k x2 x4 x5 x16 x34 H (fun x2 x4 x5 H => kn (sp 87 [(2, x2), (4, x4), (5, x5)]) H) := by
  rw [evL_X, N18_3_x]
  simp only [← evL_X, N18_3, N18_4_eq]
noncomputable def N18_7 (ρ : Addr → Option Value) (call : CallF) (yc : YieldF) (lim k : Nat) (x2 x4 x5 x16 x34 : AV) (H : Heap) (kn : AV → AV → AV → AV → AV → Heap → Res) : Res :=
  condK x34
  (
    kn x2 x4 x5 x16 x34 H)
  (
    purK (binA Tryd.prog H .eql 3 x16 (.int .i64 6)) fun x37_1 =>
    condK x37_1
    (
      kn x2 x4 x5 x16 x37_1 H)
    (
      purK (binA Tryd.prog H .eql 3 x16 (.int .i64 7)) fun x38_1 =>
      kn x2 x4 x5 x16 x38_1 H))
theorem N18_7_eq (ρ : Addr → Option Value) (call : CallF) (yc : YieldF) (lim k : Nat) (x2 x4 x5 x16 x34 : AV) (H : Heap) (kn : KS) (k0 : KS) (R : List AV → Heap → Res) :
    evL (cx ρ) call yc false 18 lim k (Code.at [1, 1, 1, 0, 1, 0, 1, 1, 1, 1, 0, 1, 1, 1] c18) (sp 87 [(2, x2), (4, x4), (5, x5), (16, x16), (34, x34)]) H (kk (some [2, 4, 5, 16, 34]) kn [(0, (some [2, 4, 5]), k0)] R [2, 3]) = N18_7 ρ call yc lim k x2 x4 x5 x16 x34 H (fun x2 x4 x5 x16 x34 H => kn (sp 87 [(2, x2), (4, x4), (5, x5), (16, x16), (34, x34)]) H) := by
  kernel_rfl
noncomputable def N18_2 (ρ : Addr → Option Value) (call : CallF) (yc : YieldF) (lim k : Nat) (x2 x4 x5 x16 x28 : AV) (H : Heap) (kn : AV → AV → AV → Heap → Res) : Res :=
  condK x28
  (
    resK (call lim 40 [x4] H) fun x32_1 H =>
    purK (addA 1 x5) fun x33_1 =>
    effK H (stA lim H 1 x33_1 x32_1) fun _ H =>
    kn x2 x4 x5 H)
  (
    purK (binA Tryd.prog H .eql 3 x16 (.int .i64 4)) fun x35_1 =>
    condK x35_1
    (
      N18_3 ρ call yc lim k x2 x4 x5 x16 x35_1 H kn)
    (
      purK (binA Tryd.prog H .eql 3 x16 (.int .i64 5)) fun x36_1 =>
      N18_7 ρ call yc lim k x2 x4 x5 x16 x36_1 H (fun x2_1 x4_1 x5_1 x16_1 x34_1 H =>
        N18_3 ρ call yc lim k x2_1 x4_1 x5_1 x16_1 x34_1 H kn)))
theorem N18_2_x (ρ : Addr → Option Value) (call : CallF) (yc : YieldF) (lim k : Nat) (J : CodeF) (x2 x4 x5 x16 x28 : AV) (H : Heap) (kn : KS) (k0 : KS) (R : List AV → Heap → Res) :
    evX (cx ρ) call yc false 18 lim k J (Code.at [1, 1, 1, 0, 1, 0, 1, 1, 1] c18) (sp 87 [(2, x2), (4, x4), (5, x5), (16, x16), (28, x28)]) H (kk (some [2, 4, 5]) kn [(0, (some [2, 4, 5]), k0)] R [2, 3]) =
  condK x28
  (
    resK (call lim 40 [x4] H) fun x32_1 H =>
    purK (addA 1 x5) fun x33_1 =>
    effK H (stA lim H 1 x33_1 x32_1) fun _ H =>
    kn (sp 87 [(2, x2), (4, x4), (5, x5)]) H)
  (
    purK (binA Tryd.prog H .eql 3 x16 (.int .i64 4)) fun x35_1 =>
    condK x35_1
    (
      J (Code.at [1, 1, 1, 0, 1, 0, 1, 1, 1, 1, 1] c18) (sp 87 [(2, x2), (4, x4), (5, x5), (16, x16), (34, x35_1)]) H (kk (some [2, 4, 5]) kn [(0, (some [2, 4, 5]), k0)] R [2, 3]))
    (
      purK (binA Tryd.prog H .eql 3 x16 (.int .i64 5)) fun x36_1 =>
      J (Code.at [1, 1, 1, 0, 1, 0, 1, 1, 1, 1, 0, 1, 1, 1] c18) (sp 87 [(2, x2), (4, x4), (5, x5), (16, x16), (34, x36_1)]) H (kk (some [2, 4, 5, 16, 34]) (fun s H => J (Code.at [1, 1, 1, 0, 1, 0, 1, 1, 1, 1, 1] c18) s H (kk (some [2, 4, 5]) kn [(0, (some [2, 4, 5]), k0)] R [2, 3])) [(0, (some [2, 4, 5]), k0)] R [2, 3]))) := by
  kernel_rfl
theorem N18_2_eq (ρ : Addr → Option Value) (call : CallF) (yc : YieldF) (lim k : Nat) (x2 x4 x5 x16 x28 : AV) (H : Heap) (kn : KS) (k0 : KS) (R : List AV → Heap → Res) :
    evL (cx ρ) call yc false 18 lim k (Code.at [1, 1, 1, 0, 1, 0, 1, 1, 1] c18) (sp 87 [(2, x2), (4, x4), (5, x5), (16, x16), (28, x28)]) H (kk (some [2, 4, 5]) kn [(0, (some [2, 4, 5]), k0)] R [2, 3]) = N18_2 ρ call yc lim k x2 x4 x5 x16 x28 H (fun x2 x4 x5 H => kn (sp 87 [(2, x2), (4, x4), (5, x5)]) H) := by
  rw [evL_X, N18_2_x]
  simp only [← evL_X, N18_2, N18_3_eq, N18_7_eq]
noncomputable def L18 (ρ : Addr → Option Value) (call : CallF) (yc : YieldF) (lim k : Nat) (x0 : AV) (H : Heap) : Res :=
  effK H (some (.ptr H.sz 0 0, .new (newCells 43 false [.int .i64 0, .int .i64 0, .int .i64 0, .int .i64 0, .str ByteArray.empty, .str ByteArray.empty, .int .u64 0, .nils]))) fun x2 H =>
  resK (call lim 37 [x0, (.str (ByteArray.mk #[32]))] H) fun x7 H =>
  purK (bldA [.nils, .bool false] [(0, 1, x7)]) fun x8 =>
  effK H (boxA H 75 x8) fun x9 H =>
  mkK H (some (.ptr H.sz 0 0, .new (newCells 43 false [.int .i64 0, .int .i64 0, .int .i64 0, .int .i64 0, .str ByteArray.empty, .str ByteArray.empty, .int .u64 0, .nils]))) true fun x5 H =>
  purK (slR 1 11 (.xp ⟨0, 0, none⟩) none none none) fun x10 =>
  resK (call lim 39 [x9] H) fun x12 H =>
  resK (call lim 38 [x10, x12] H) fun x13 H =>
  purK (bldA [.int .i64 0, .int .i64 0, .int .i64 0, .int .i64 0, .str ByteArray.empty, .str ByteArray.empty, .int .u64 0, .nils] [(0, 1, x13)]) fun x14 =>
  effK H (stA lim H 8 x5 x14) fun _ H =>
  purK (addA 0 x5) fun x15 =>
  purK (ld1 ρ H x15) fun x16 =>
  purK (binA Tryd.prog H .eql 3 x16 (.int .i64 1)) fun x21 =>
  condK x21
  (
    resK (call lim 40 [x9] H) fun x23 H =>
    purK (addA 1 x5) fun x24 =>
    effK H (stA lim H 1 x24 x23) fun _ H =>
    resK (call lim 41 [x9] H) fun x26 H =>
    purK (addA 3 x5) fun x27 =>
    effK H (stA lim H 4 x27 x26) fun _ H =>
    N18_1 ρ call yc lim k x2 x9 x5 H (retC (cx ρ) [some 43, none]))
  (
    purK (binA Tryd.prog H .eql 3 x16 (.int .i64 2)) fun x29 =>
    condK x29
    (
      N18_2 ρ call yc lim k x2 x9 x5 x16 x29 H (fun x2_1 x4 x5_1 H =>
        N18_1 ρ call yc lim k x2_1 x4 x5_1 H (retC (cx ρ) [some 43, none])))
    (
      purK (binA Tryd.prog H .eql 3 x16 (.int .i64 3)) fun x30 =>
      N18_2 ρ call yc lim k x2 x9 x5 x16 x30 H (fun x2_2 x4_1 x5_2 H =>
        N18_1 ρ call yc lim k x2_2 x4_1 x5_2 H (retC (cx ρ) [some 43, none]))))
theorem L18_x (ρ : Addr → Option Value) (call : CallF) (yc : YieldF) (lim k : Nat) (J : CodeF) (x0 : AV) (H : Heap) :
    evX (cx ρ) call yc false 18 lim k J c18 [x0, (.tup []), (.tup []), (.tup []), (.tup []), (.tup []), (.tup []), (.tup []), (.tup []), (.tup []), (.tup []), (.tup []), (.tup []), (.tup []), (.tup []), (.tup []), (.tup []), (.tup []), (.tup []), (.tup []), (.tup []), (.tup []), (.tup []), (.tup []), (.tup []), (.tup []), (.tup []), (.tup []), (.tup []), (.tup []), (.tup []), (.tup []), (.tup []), (.tup []), (.tup []), (.tup []), (.tup []), (.tup []), (.tup []), (.tup []), (.tup []), (.tup []), (.tup []), (.tup []), (.tup []), (.tup []), (.tup []), (.tup []), (.tup []), (.tup []), (.tup []), (.tup []), (.tup []), (.tup []), (.tup []), (.tup []), (.tup []), (.tup []), (.tup []), (.tup []), (.tup []), (.tup []), (.tup []), (.tup []), (.tup []), (.tup []), (.tup []), (.tup []), (.tup []), (.tup []), (.tup []), (.tup []), (.tup []), (.tup []), (.tup []), (.tup []), (.tup []), (.tup []), (.tup []), (.tup []), (.tup []), (.tup []), (.tup []), (.tup []), (.tup []), (.tup []), (.tup [])] H (kk none (fun s H => (retC (cx ρ) [some 43, none]) (([2, 3] : List Nat).map fun t => s.getD t (.tup [])) H) [] (retC (cx ρ) [some 43, none]) [2, 3]) =
  effK H (some (.ptr H.sz 0 0, .new (newCells 43 false [.int .i64 0, .int .i64 0, .int .i64 0, .int .i64 0, .str ByteArray.empty, .str ByteArray.empty, .int .u64 0, .nils]))) fun x2 H =>
  resK (call lim 37 [x0, (.str (ByteArray.mk #[32]))] H) fun x7 H =>
  purK (bldA [.nils, .bool false] [(0, 1, x7)]) fun x8 =>
  effK H (boxA H 75 x8) fun x9 H =>
  mkK H (some (.ptr H.sz 0 0, .new (newCells 43 false [.int .i64 0, .int .i64 0, .int .i64 0, .int .i64 0, .str ByteArray.empty, .str ByteArray.empty, .int .u64 0, .nils]))) true fun x5 H =>
  purK (slR 1 11 (.xp ⟨0, 0, none⟩) none none none) fun x10 =>
  resK (call lim 39 [x9] H) fun x12 H =>
  resK (call lim 38 [x10, x12] H) fun x13 H =>
  purK (bldA [.int .i64 0, .int .i64 0, .int .i64 0, .int .i64 0, .str ByteArray.empty, .str ByteArray.empty, .int .u64 0, .nils] [(0, 1, x13)]) fun x14 =>
  effK H (stA lim H 8 x5 x14) fun _ H =>
  purK (addA 0 x5) fun x15 =>
  purK (ld1 ρ H x15) fun x16 =>
  purK (binA Tryd.prog H .eql 3 x16 (.int .i64 1)) fun x21 =>
  condK x21
  (
    resK (call lim 40 [x9] H) fun x23 H =>
    purK (addA 1 x5) fun x24 =>
    effK H (stA lim H 1 x24 x23) fun _ H =>
    resK (call lim 41 [x9] H) fun x26 H =>
    purK (addA 3 x5) fun x27 =>
    effK H (stA lim H 4 x27 x26) fun _ H =>
    J (Code.at [1, 1, 1, 1] c18) (sp 87 [(2, x2), (4, x9), (5, x5)]) H (kk none (fun s H => (retC (cx ρ) [some 43, none]) (([2, 3] : List Nat).map fun t => s.getD t (.tup [])) H) [] (retC (cx ρ) [some 43, none]) [2, 3]))
  (
    purK (binA Tryd.prog H .eql 3 x16 (.int .i64 2)) fun x29 =>
    condK x29
    (
      J (Code.at [1, 1, 1, 0, 1, 0, 1, 1, 1] c18) (sp 87 [(2, x2), (4, x9), (5, x5), (16, x16), (28, x29)]) H (kk (some [2, 4, 5]) (fun s H => J (Code.at [1, 1, 1, 1] c18) s H (kk none (fun s H => (retC (cx ρ) [some 43, none]) (([2, 3] : List Nat).map fun t => s.getD t (.tup [])) H) [] (retC (cx ρ) [some 43, none]) [2, 3])) [(0, (some [2, 4, 5]), (fun s H => J (Code.at [1, 1, 1, 1] c18) s H (kk none (fun s H => (retC (cx ρ) [some 43, none]) (([2, 3] : List Nat).map fun t => s.getD t (.tup [])) H) [] (retC (cx ρ) [some 43, none]) [2, 3])))] (retC (cx ρ) [some 43, none]) [2, 3]))
    (
      purK (binA Tryd.prog H .eql 3 x16 (.int .i64 3)) fun x30 =>
      J (Code.at [1, 1, 1, 0, 1, 0, 1, 1, 1] c18) (sp 87 [(2, x2), (4, x9), (5, x5), (16, x16), (28, x30)]) H (kk (some [2, 4, 5]) (fun s H => J (Code.at [1, 1, 1, 1] c18) s H (kk none (fun s H => (retC (cx ρ) [some 43, none]) (([2, 3] : List Nat).map fun t => s.getD t (.tup [])) H) [] (retC (cx ρ) [some 43, none]) [2, 3])) [(0, (some [2, 4, 5]), (fun s H => J (Code.at [1, 1, 1, 1] c18) s H (kk none (fun s H => (retC (cx ρ) [some 43, none]) (([2, 3] : List Nat).map fun t => s.getD t (.tup [])) H) [] (retC (cx ρ) [some 43, none]) [2, 3])))] (retC (cx ρ) [some 43, none]) [2, 3]))) := by
  kernel_rfl
theorem G18 (ρ : Addr → Option Value) (call : CallF) (yc : YieldF) (lim k : Nat) (x0 : AV) (H : Heap) :
    evL (cx ρ) call yc false 18 lim k c18 [x0, (.tup []), (.tup []), (.tup []), (.tup []), (.tup []), (.tup []), (.tup []), (.tup []), (.tup []), (.tup []), (.tup []), (.tup []), (.tup []), (.tup []), (.tup []), (.tup []), (.tup []), (.tup []), (.tup []), (.tup []), (.tup []), (.tup []), (.tup []), (.tup []), (.tup []), (.tup []), (.tup []), (.tup []), (.tup []), (.tup []), (.tup []), (.tup []), (.tup []), (.tup []), (.tup []), (.tup []), (.tup []), (.tup []), (.tup []), (.tup []), (.tup []), (.tup []), (.tup []), (.tup []), (.tup []), (.tup []), (.tup []), (.tup []), (.tup []), (.tup []), (.tup []), (.tup []), (.tup []), (.tup []), (.tup []), (.tup []), (.tup []), (.tup []), (.tup []), (.tup []), (.tup []), (.tup []), (.tup []), (.tup []), (.tup []), (.tup []), (.tup []), (.tup []), (.tup []), (.tup []), (.tup []), (.tup []), (.tup []), (.tup []), (.tup []), (.tup []), (.tup []), (.tup []), (.tup []), (.tup []), (.tup []), (.tup []), (.tup []), (.tup []), (.tup []), (.tup [])] H (kk none (fun s H => (retC (cx ρ) [some 43, none]) (([2, 3] : List Nat).map fun t => s.getD t (.tup [])) H) [] (retC (cx ρ) [some 43, none]) [2, 3]) = L18 ρ call yc lim k x0 H := by
  rw [evL_X, L18_x]
  simp only [← evL_X, L18, N18_1_eq, N18_2_eq]
theorem E18 (ρ : Addr → Option Value) (k lim : Nat) (x0 : AV) (H : Heap) : evCall (cx ρ) (k + 1) lim 18 [x0] H = L18 ρ (evCall (cx ρ) k) (evCY (cx ρ) k).2 lim k x0 H := by
  rw [evCall_cells (cx ρ) k lim 18 _ H Tryd.f18 c18 [2, 3] [some 43, none] (by kernel_rfl) (by kernel_rfl) (by kernel_rfl) (by kernel_rfl) (by kernel_rfl) (by kernel_rfl)]
  exact G18 ρ (evCall (cx ρ) k) (evCY (cx ρ) k).2 lim k x0 H
end Go.Proofs.YtnkeebchblfbgaaDoor

-- part Sc2
/- Functions, lifted. Printed by a program of this repo. -/
set_option linter.unusedVariables false
set_option linter.unusedSimpArgs false
set_option maxRecDepth 100000
set_option maxHeartbeats 4000000
namespace Go.Proofs.YtnkeebchblfbgaaDoor
open Go.Ev Go.RowKit
-- haycroft/haycroftref27.Cut
noncomputable def c19 : Code := Code.of Tryd.prog 19
noncomputable def N19_1 (ρ : Addr → Option Value) (call : CallF) (yc : YieldF) (lim k : Nat) (x0 x5 x6 : AV) (H : Heap) (R : List AV → Heap → Res) : Res :=
  purK (slT x0 (some x6) none) fun x32_1 =>
  effK H (bldS H 9 1 [.str ByteArray.empty] 1 [(0, 1, x32_1)]) fun x33_1 H =>
  effK H (apA ρ lim H 9 1 16 x5 x33_1) fun x34_1 H =>
  R [x34_1] H
theorem N19_1_eq (ρ : Addr → Option Value) (call : CallF) (yc : YieldF) (lim k : Nat) (x0 x5 x6 : AV) (H : Heap) (R : List AV → Heap → Res) :
    evL (cx ρ) call yc false 19 lim k (Code.at [1, 1, 1, 1] c19) (sp 35 [(0, x0), (5, x5), (6, x6)]) H (kk none (fun s H => R (([4] : List Nat).map fun t => s.getD t (.tup [])) H) [] R [4]) = N19_1 ρ call yc lim k x0 x5 x6 H R := by
  kernel_rfl
noncomputable def N19_4 (ρ : Addr → Option Value) (call : CallF) (yc : YieldF) (lim k : Nat) (x0 x1 x5 x6 x7 : AV) (H : Heap) (kn : AV → AV → AV → Heap → Res) : Res :=
  purK (binA Tryd.prog H .add 3 x7 (.int .i64 1)) fun x14_1 =>
  kn x5 x6 x14_1 H
theorem N19_4_eq (ρ : Addr → Option Value) (call : CallF) (yc : YieldF) (lim k : Nat) (x0 x1 x5 x6 x7 : AV) (H : Heap) (kn : KS) (k0 : KS) (R : List AV → Heap → Res) :
    evL (cx ρ) call yc false 19 lim k (Code.at [1, 1, 1, 0, 1, 0, 0, 1, 1] c19) (sp 35 [(0, x0), (1, x1), (5, x5), (6, x6), (7, x7)]) H (kk (some [0, 1, 5, 6, 7]) kn [(0, (some [0, 5, 6]), k0)] R [4]) = N19_4 ρ call yc lim k x0 x1 x5 x6 x7 H (fun x5 x6 x7 H => kn (sp 35 [(0, x0), (1, x1), (5, x5), (6, x6), (7, x7)]) H) := by
  kernel_rfl
noncomputable def N19_3b (ρ : Addr → Option Value) (call : CallF) (yc : YieldF) (lim k : Nat) (x0 x1 x5 x6 x7 : AV) (H : Heap) (kn : AV → AV → AV → Heap → Res) (k0 : AV → AV → AV → Heap → Res) : Res :=
  purK (lenT x0) fun x11_1 =>
  purK (binA Tryd.prog H .lss 3 x7 x11_1) fun x12_1 =>
  condK x12_1
  (
    purK (ixT x0 x7) fun x17_1 =>
    purK (binA Tryd.prog H .eql 5 x17_1 x1) fun x19_1 =>
    condK x19_1
    (
      purK (slT x0 (some x6) (some x7)) fun x24_1 =>
      effK H (bldS H 9 1 [.str ByteArray.empty] 1 [(0, 1, x24_1)]) fun x25_1 H =>
      effK H (apA ρ lim H 9 1 16 x5 x25_1) fun x26_1 H =>
      purK (binA Tryd.prog H .add 3 x7 (.int .i64 1)) fun x28_1 =>
      N19_4 ρ call yc lim k x0 x1 x26_1 x28_1 x7 H kn)
    (
      N19_4 ρ call yc lim k x0 x1 x5 x6 x7 H kn))
  (
    k0 x0 x5 x6 H)
theorem N19_3b_x (ρ : Addr → Option Value) (call : CallF) (yc : YieldF) (lim k : Nat) (J : CodeF) (x0 x1 x5 x6 x7 : AV) (H : Heap) (kn : KS) (k0 : KS) (R : List AV → Heap → Res) :
    evX (cx ρ) call yc false 19 lim k J (Code.at [1, 1, 1, 0, 1, 0, 0] c19) (sp 35 [(0, x0), (1, x1), (5, x5), (6, x6), (7, x7)]) H (kk (some [0, 1, 5, 6, 7]) kn [(0, (some [0, 5, 6]), k0)] R [4]) =
  purK (lenT x0) fun x11_1 =>
  purK (binA Tryd.prog H .lss 3 x7 x11_1) fun x12_1 =>
  condK x12_1
  (
    purK (ixT x0 x7) fun x17_1 =>
    purK (binA Tryd.prog H .eql 5 x17_1 x1) fun x19_1 =>
    condK x19_1
    (
      purK (slT x0 (some x6) (some x7)) fun x24_1 =>
      effK H (bldS H 9 1 [.str ByteArray.empty] 1 [(0, 1, x24_1)]) fun x25_1 H =>
      effK H (apA ρ lim H 9 1 16 x5 x25_1) fun x26_1 H =>
      purK (binA Tryd.prog H .add 3 x7 (.int .i64 1)) fun x28_1 =>
      J (Code.at [1, 1, 1, 0, 1, 0, 0, 1, 1] c19) (sp 35 [(0, x0), (1, x1), (5, x26_1), (6, x28_1), (7, x7)]) H (kk (some [0, 1, 5, 6, 7]) kn [(0, (some [0, 5, 6]), k0)] R [4]))
    (
      J (Code.at [1, 1, 1, 0, 1, 0, 0, 1, 1] c19) (sp 35 [(0, x0), (1, x1), (5, x5), (6, x6), (7, x7)]) H (kk (some [0, 1, 5, 6, 7]) kn [(0, (some [0, 5, 6]), k0)] R [4])))
  (
    k0 (sp 35 [(0, x0), (5, x5), (6, x6)]) H) := by
  kernel_rfl
theorem N19_3b_eq (ρ : Addr → Option Value) (call : CallF) (yc : YieldF) (lim k : Nat) (x0 x1 x5 x6 x7 : AV) (H : Heap) (kn : KS) (k0 : KS) (R : List AV → Heap → Res) :
    evL (cx ρ) call yc false 19 lim k (Code.at [1, 1, 1, 0, 1, 0, 0] c19) (sp 35 [(0, x0), (1, x1), (5, x5), (6, x6), (7, x7)]) H (kk (some [0, 1, 5, 6, 7]) kn [(0, (some [0, 5, 6]), k0)] R [4]) = N19_3b ρ call yc lim k x0 x1 x5 x6 x7 H (fun x5 x6 x7 H => kn (sp 35 [(0, x0), (1, x1), (5, x5), (6, x6), (7, x7)]) H) (fun x0 x5 x6 H => k0 (sp 35 [(0, x0), (5, x5), (6, x6)]) H) := by
  rw [evL_X, N19_3b_x]
  simp only [← evL_X, N19_3b, N19_4_eq]
noncomputable def N19_3 (ρ : Addr → Option Value) (call : CallF) (yc : YieldF) (lim k : Nat) (x0 x1 x5 x6 x7 : AV) (H : Heap) (k0 : AV → AV → AV → Heap → Res) : Res :=
  loopL (fun (x : AV × AV × AV) H kn => N19_3b ρ call yc lim k x0 x1 x.1 x.2.1 x.2.2 H (fun x5 x6 x7 H => kn (x5, x6, x7) H) k0) k (x5, x6, x7) H
theorem N19_3_eq (ρ : Addr → Option Value) (call : CallF) (yc : YieldF) (lim k : Nat) (x0 x1 x5 x6 x7 : AV) (H : Heap) (kn : KS) (k0 : KS) (R : List AV → Heap → Res) :
    evL (cx ρ) call yc false 19 lim k (Code.at [1, 1, 1, 0, 1, 0] c19) (sp 35 [(0, x0), (1, x1), (5, x5), (6, x6), (7, x7)]) H (kk (some [0, 5, 6]) kn [(0, (some [0, 5, 6]), k0)] R [4]) = N19_3 ρ call yc lim k x0 x1 x5 x6 x7 H (fun x0 x5 x6 H => k0 (sp 35 [(0, x0), (5, x5), (6, x6)]) H) := by
  have e : Code.at [1, 1, 1, 0, 1, 0] c19 = .loop (Code.at [1, 1, 1, 0, 1, 0, 0] c19) := by kernel_rfl
  rw [e]
  unfold N19_3
  exact loop_node [0, 1, 5, 6, 7] (fun x : AV × AV × AV => (sp 35 [(0, x0), (1, x1), (5, (x.1)), (6, (x.2.1)), (7, (x.2.2))])) (fun (x : AV × AV × AV) H kn => N19_3b ρ call yc lim k x0 x1 x.1 x.2.1 x.2.2 H (fun x5 x6 x7 H => kn (x5, x6, x7) H) (fun x0 x5 x6 H => k0 (sp 35 [(0, x0), (5, x5), (6, x6)]) H)) (by kernel_rfl) (fun x => by kernel_rfl) (fun x H kn => N19_3b_eq ρ call yc lim k x0 x1 (x.1) (x.2.1) (x.2.2) H kn k0 R) (x5, x6, x7) (sp 35 [(0, x0), (1, x1), (5, x5), (6, x6), (7, x7)]) H (by kernel_rfl)
noncomputable def N19_2 (ρ : Addr → Option Value) (call : CallF) (yc : YieldF) (lim k : Nat) (x0 x1 x5 x6 x7 : AV) (H : Heap) (kn : AV → AV → AV → Heap → Res) : Res :=
  N19_3 ρ call yc lim k x0 x1 x5 x6 x7 H kn
theorem N19_2_x (ρ : Addr → Option Value) (call : CallF) (yc : YieldF) (lim k : Nat) (J : CodeF) (x0 x1 x5 x6 x7 : AV) (H : Heap) (kn : KS) (R : List AV → Heap → Res) :
    evX (cx ρ) call yc false 19 lim k J (Code.at [1, 1, 1, 0, 1] c19) (sp 35 [(0, x0), (1, x1), (5, x5), (6, x6), (7, x7)]) H (kk (some [0, 5, 6]) kn [] R [4]) =
  J (Code.at [1, 1, 1, 0, 1, 0] c19) (sp 35 [(0, x0), (1, x1), (5, x5), (6, x6), (7, x7)]) H (kk (some [0, 5, 6]) kn [(0, (some [0, 5, 6]), kn)] R [4]) := by
  kernel_rfl
theorem N19_2_eq (ρ : Addr → Option Value) (call : CallF) (yc : YieldF) (lim k : Nat) (x0 x1 x5 x6 x7 : AV) (H : Heap) (kn : KS) (R : List AV → Heap → Res) :
    evL (cx ρ) call yc false 19 lim k (Code.at [1, 1, 1, 0, 1] c19) (sp 35 [(0, x0), (1, x1), (5, x5), (6, x6), (7, x7)]) H (kk (some [0, 5, 6]) kn [] R [4]) = N19_2 ρ call yc lim k x0 x1 x5 x6 x7 H (fun x0 x5 x6 H => kn (sp 35 [(0, x0), (5, x5), (6, x6)]) H) := by
  rw [evL_X, N19_2_x]
  simp only [← evL_X, N19_2, N19_3_eq]
noncomputable def L19 (ρ : Addr → Option Value) (call : CallF) (yc : YieldF) (lim k : Nat) (x0 x1 : AV) (H : Heap) : Res :=
  effK H (bldS H 9 1 [.str ByteArray.empty] 0 []) fun x8 H =>
  N19_2 ρ call yc lim k x0 x1 x8 (.int .i64 0) (.int .i64 0) H (fun x0_1 x5 x6 H =>
    N19_1 ρ call yc lim k x0_1 x5 x6 H retK)
theorem L19_x (ρ : Addr → Option Value) (call : CallF) (yc : YieldF) (lim k : Nat) (J : CodeF) (x0 x1 : AV) (H : Heap) :
    evX (cx ρ) call yc false 19 lim k J c19 [x0, x1, (.tup []), (.tup []), (.tup []), (.tup []), (.tup []), (.tup []), (.tup []), (.tup []), (.tup []), (.tup []), (.tup []), (.tup []), (.tup []), (.tup []), (.tup []), (.tup []), (.tup []), (.tup []), (.tup []), (.tup []), (.tup []), (.tup []), (.tup []), (.tup []), (.tup []), (.tup []), (.tup []), (.tup []), (.tup []), (.tup []), (.tup []), (.tup []), (.tup [])] H (kk none (fun s H => retK (([4] : List Nat).map fun t => s.getD t (.tup [])) H) [] retK [4]) =
  effK H (bldS H 9 1 [.str ByteArray.empty] 0 []) fun x8 H =>
  J (Code.at [1, 1, 1, 0, 1] c19) (sp 35 [(0, x0), (1, x1), (5, x8), (6, (.int .i64 0)), (7, (.int .i64 0))]) H (kk (some [0, 5, 6]) (fun s H => J (Code.at [1, 1, 1, 1] c19) s H (kk none (fun s H => retK (([4] : List Nat).map fun t => s.getD t (.tup [])) H) [] retK [4])) [] retK [4]) := by
  kernel_rfl
theorem G19 (ρ : Addr → Option Value) (call : CallF) (yc : YieldF) (lim k : Nat) (x0 x1 : AV) (H : Heap) :
    evL (cx ρ) call yc false 19 lim k c19 [x0, x1, (.tup []), (.tup []), (.tup []), (.tup []), (.tup []), (.tup []), (.tup []), (.tup []), (.tup []), (.tup []), (.tup []), (.tup []), (.tup []), (.tup []), (.tup []), (.tup []), (.tup []), (.tup []), (.tup []), (.tup []), (.tup []), (.tup []), (.tup []), (.tup []), (.tup []), (.tup []), (.tup []), (.tup []), (.tup []), (.tup []), (.tup []), (.tup []), (.tup [])] H (kk none (fun s H => retK (([4] : List Nat).map fun t => s.getD t (.tup [])) H) [] retK [4]) = L19 ρ call yc lim k x0 x1 H := by
  rw [evL_X, L19_x]
  simp only [← evL_X, L19, N19_1_eq, N19_2_eq]
theorem E19 (ρ : Addr → Option Value) (k lim : Nat) (x0 x1 : AV) (H : Heap) : evCall (cx ρ) (k + 1) lim 19 [x0, x1] H = L19 ρ (evCall (cx ρ) k) (evCY (cx ρ) k).2 lim k x0 x1 H := by
  rw [evCall_body (cx ρ) k lim 19 _ H Tryd.f19 c19 [4] (by kernel_rfl) (by kernel_rfl) (by kernel_rfl) (by kernel_rfl) (by kernel_rfl)]
  exact G19 ρ (evCall (cx ρ) k) (evCY (cx ρ) k).2 lim k x0 x1 H
-- haycroft/haycroftref27.Step
noncomputable def c20 : Code := Code.of Tryd.prog 20
noncomputable def N20_5 (ρ : Addr → Option Value) (call : CallF) (yc : YieldF) (lim k : Nat) (x2 x5 x10 : AV) (H : Heap) (R : List AV → Heap → Res) : Res :=
  purK (ldN ρ H 8 x5) fun x103_1 =>
  effK H (stA lim H 8 x2 x103_1) fun _ H =>
  R [x2, x10] H
theorem N20_5_eq (ρ : Addr → Option Value) (call : CallF) (yc : YieldF) (lim k : Nat) (x2 x5 x10 : AV) (H : Heap) (R : List AV → Heap → Res) :
    evL (cx ρ) call yc false 20 lim k (Code.at [1, 1, 1, 1, 1, 1, 1, 1, 1, 1, 1, 1] c20) (sp 105 [(2, x2), (5, x5), (10, x10)]) H (kk none (fun s H => R (([2, 3] : List Nat).map fun t => s.getD t (.tup [])) H) [] R [2, 3]) = N20_5 ρ call yc lim k x2 x5 x10 H R := by
  kernel_rfl
noncomputable def N20_4 (ρ : Addr → Option Value) (call : CallF) (yc : YieldF) (lim k : Nat) (x2 x4 x5 : AV) (H : Heap) (R : List AV → Heap → Res) : Res :=
  purK (addA 0 x5) fun x89_1 =>
  purK (ld1 ρ H x89_1) fun x90_1 =>
  purK (binA Tryd.prog H .gtr 3 x90_1 (.int .i64 1)) fun x91_1 =>
  condK x91_1
  (
    purK (ldN ρ H 8 x5) fun x92_1 =>
    purK (lenS x4) fun x94_1 =>
    purK (binA Tryd.prog H .eql 3 x94_1 (.int .i64 2)) fun x95_1 =>
    effK H (stA lim H 8 x2 x92_1) fun _ H =>
    R [x2, x95_1] H)
  (
    purK (slS 1 x4 (some (.int .i64 2)) none none) fun x98_1 =>
    resK (call lim 44 [x98_1] H) fun x99_1 H =>
    purK (extA 0 x99_1) fun x100_1 =>
    purK (extA 1 x99_1) fun x101_1 =>
    purK (addA 3 x5) fun x102_1 =>
    effK H (stA lim H 4 x102_1 x100_1) fun _ H =>
    N20_5 ρ call yc lim k x2 x5 x101_1 H R)
theorem N20_4_x (ρ : Addr → Option Value) (call : CallF) (yc : YieldF) (lim k : Nat) (J : CodeF) (x2 x4 x5 : AV) (H : Heap) (R : List AV → Heap → Res) :
    evX (cx ρ) call yc false 20 lim k J (Code.at [1, 1, 1, 1, 1, 1, 1, 1, 1, 1] c20) (sp 105 [(2, x2), (4, x4), (5, x5)]) H (kk none (fun s H => R (([2, 3] : List Nat).map fun t => s.getD t (.tup [])) H) [] R [2, 3]) =
  purK (addA 0 x5) fun x89_1 =>
  purK (ld1 ρ H x89_1) fun x90_1 =>
  purK (binA Tryd.prog H .gtr 3 x90_1 (.int .i64 1)) fun x91_1 =>
  condK x91_1
  (
    purK (ldN ρ H 8 x5) fun x92_1 =>
    purK (lenS x4) fun x94_1 =>
    purK (binA Tryd.prog H .eql 3 x94_1 (.int .i64 2)) fun x95_1 =>
    effK H (stA lim H 8 x2 x92_1) fun _ H =>
    R [x2, x95_1] H)
  (
    purK (slS 1 x4 (some (.int .i64 2)) none none) fun x98_1 =>
    resK (call lim 44 [x98_1] H) fun x99_1 H =>
    purK (extA 0 x99_1) fun x100_1 =>
    purK (extA 1 x99_1) fun x101_1 =>
    purK (addA 3 x5) fun x102_1 =>
    effK H (stA lim H 4 x102_1 x100_1) fun _ H =>
    J (Code.at [1, 1, 1, 1, 1, 1, 1, 1, 1, 1, 1, 1] c20) (sp 105 [(2, x2), (5, x5), (10, x101_1)]) H (kk none (fun s H => R (([2, 3] : List Nat).map fun t => s.getD t (.tup [])) H) [] R [2, 3])) := by
  kernel_rfl
theorem N20_4_eq (ρ : Addr → Option Value) (call : CallF) (yc : YieldF) (lim k : Nat) (x2 x4 x5 : AV) (H : Heap) (R : List AV → Heap → Res) :
    evL (cx ρ) call yc false 20 lim k (Code.at [1, 1, 1, 1, 1, 1, 1, 1, 1, 1] c20) (sp 105 [(2, x2), (4, x4), (5, x5)]) H (kk none (fun s H => R (([2, 3] : List Nat).map fun t => s.getD t (.tup [])) H) [] R [2, 3]) = N20_4 ρ call yc lim k x2 x4 x5 H R := by
  rw [evL_X, N20_4_x]
  simp only [← evL_X, N20_4, N20_5_eq]
noncomputable def N20_3 (ρ : Addr → Option Value) (call : CallF) (yc : YieldF) (lim k : Nat) (x2 x4 x5 x9 : AV) (H : Heap) (R : List AV → Heap → Res) : Res :=
  purK (addA 0 x5) fun x80_1 =>
  purK (ld1 ρ H x80_1) fun x81_1 =>
  purK (binA Tryd.prog H .leq 3 x81_1 (.int .i64 3)) fun x82_1 =>
  condK x82_1
  (
    purK (cvI .i64 x9) fun x84_1 =>
    purK (addA 1 x5) fun x85_1 =>
    effK H (stA lim H 1 x85_1 x84_1) fun _ H =>
    N20_4 ρ call yc lim k x2 x4 x5 H R)
  (
    purK (cvI .i64 x9) fun x87_1 =>
    purK (addA 2 x5) fun x88_1 =>
    effK H (stA lim H 1 x88_1 x87_1) fun _ H =>
    N20_4 ρ call yc lim k x2 x4 x5 H R)
theorem N20_3_x (ρ : Addr → Option Value) (call : CallF) (yc : YieldF) (lim k : Nat) (J : CodeF) (x2 x4 x5 x9 : AV) (H : Heap) (R : List AV → Heap → Res) :
    evX (cx ρ) call yc false 20 lim k J (Code.at [1, 1, 1, 1, 1, 1, 1, 1, 1] c20) (sp 105 [(2, x2), (4, x4), (5, x5), (9, x9)]) H (kk none (fun s H => R (([2, 3] : List Nat).map fun t => s.getD t (.tup [])) H) [] R [2, 3]) =
  purK (addA 0 x5) fun x80_1 =>
  purK (ld1 ρ H x80_1) fun x81_1 =>
  purK (binA Tryd.prog H .leq 3 x81_1 (.int .i64 3)) fun x82_1 =>
  condK x82_1
  (
    purK (cvI .i64 x9) fun x84_1 =>
    purK (addA 1 x5) fun x85_1 =>
    effK H (stA lim H 1 x85_1 x84_1) fun _ H =>
    J (Code.at [1, 1, 1, 1, 1, 1, 1, 1, 1, 1] c20) (sp 105 [(2, x2), (4, x4), (5, x5)]) H (kk none (fun s H => R (([2, 3] : List Nat).map fun t => s.getD t (.tup [])) H) [] R [2, 3]))
  (
    purK (cvI .i64 x9) fun x87_1 =>
    purK (addA 2 x5) fun x88_1 =>
    effK H (stA lim H 1 x88_1 x87_1) fun _ H =>
    J (Code.at [1, 1, 1, 1, 1, 1, 1, 1, 1, 1] c20) (sp 105 [(2, x2), (4, x4), (5, x5)]) H (kk none (fun s H => R (([2, 3] : List Nat).map fun t => s.getD t (.tup [])) H) [] R [2, 3])) := by
  kernel_rfl
theorem N20_3_eq (ρ : Addr → Option Value) (call : CallF) (yc : YieldF) (lim k : Nat) (x2 x4 x5 x9 : AV) (H : Heap) (R : List AV → Heap → Res) :
    evL (cx ρ) call yc false 20 lim k (Code.at [1, 1, 1, 1, 1, 1, 1, 1, 1] c20) (sp 105 [(2, x2), (4, x4), (5, x5), (9, x9)]) H (kk none (fun s H => R (([2, 3] : List Nat).map fun t => s.getD t (.tup [])) H) [] R [2, 3]) = N20_3 ρ call yc lim k x2 x4 x5 x9 H R := by
  rw [evL_X, N20_3_x]
  simp only [← evL_X, N20_3, N20_4_eq]
noncomputable def N20_2 (ρ : Addr → Option Value) (call : CallF) (yc : YieldF) (lim k : Nat) (x2 x4 x5 : AV) (H : Heap) (R : List AV → Heap → Res) : Res :=
  purK (lenS x4) fun x67_1 =>
  purK (binA Tryd.prog H .lss 3 x67_1 (.int .i64 2)) fun x68_1 =>
  condK x68_1
  (
    purK (ldN ρ H 8 x5) fun x69_1 =>
    effK H (stA lim H 8 x2 x69_1) fun _ H =>
    R [x2, (.bool false)] H)
  (
    purK (ixS 1 x4 (.int .i64 1)) fun x72_1 =>
    purK (ld1 ρ H x72_1) fun x73_1 =>
    resK (call lim 43 [x73_1, (.int .u64 999999999)] H) fun x74_1 H =>
    purK (extA 0 x74_1) fun x75_1 =>
    purK (extA 1 x74_1) fun x76_1 =>
    purK (unA .not x76_1) fun x78_1 =>
    condK x78_1
    (
      purK (ldN ρ H 8 x5) fun x79_1 =>
      effK H (stA lim H 8 x2 x79_1) fun _ H =>
      R [x2, (.bool false)] H)
    (
      N20_3 ρ call yc lim k x2 x4 x5 x75_1 H R))
theorem N20_2_x (ρ : Addr → Option Value) (call : CallF) (yc : YieldF) (lim k : Nat) (J : CodeF) (x2 x4 x5 : AV) (H : Heap) (R : List AV → Heap → Res) :
    evX (cx ρ) call yc false 20 lim k J (Code.at [1, 1, 1, 1, 1, 1] c20) (sp 105 [(2, x2), (4, x4), (5, x5)]) H (kk none (fun s H => R (([2, 3] : List Nat).map fun t => s.getD t (.tup [])) H) [] R [2, 3]) =
  purK (lenS x4) fun x67_1 =>
  purK (binA Tryd.prog H .lss 3 x67_1 (.int .i64 2)) fun x68_1 =>
  condK x68_1
  (
    purK (ldN ρ H 8 x5) fun x69_1 =>
    effK H (stA lim H 8 x2 x69_1) fun _ H =>
    R [x2, (.bool false)] H)
  (
    purK (ixS 1 x4 (.int .i64 1)) fun x72_1 =>
    purK (ld1 ρ H x72_1) fun x73_1 =>
    resK (call lim 43 [x73_1, (.int .u64 999999999)] H) fun x74_1 H =>
    purK (extA 0 x74_1) fun x75_1 =>
    purK (extA 1 x74_1) fun x76_1 =>
    purK (unA .not x76_1) fun x78_1 =>
    condK x78_1
    (
      purK (ldN ρ H 8 x5) fun x79_1 =>
      effK H (stA lim H 8 x2 x79_1) fun _ H =>
      R [x2, (.bool false)] H)
    (
      J (Code.at [1, 1, 1, 1, 1, 1, 1, 1, 1] c20) (sp 105 [(2, x2), (4, x4), (5, x5), (9, x75_1)]) H (kk none (fun s H => R (([2, 3] : List Nat).map fun t => s.getD t (.tup [])) H) [] R [2, 3]))) := by
  kernel_rfl
theorem N20_2_eq (ρ : Addr → Option Value) (call : CallF) (yc : YieldF) (lim k : Nat) (x2 x4 x5 : AV) (H : Heap) (R : List AV → Heap → Res) :
    evL (cx ρ) call yc false 20 lim k (Code.at [1, 1, 1, 1, 1, 1] c20) (sp 105 [(2, x2), (4, x4), (5, x5)]) H (kk none (fun s H => R (([2, 3] : List Nat).map fun t => s.getD t (.tup [])) H) [] R [2, 3]) = N20_2 ρ call yc lim k x2 x4 x5 H R := by
  rw [evL_X, N20_2_x]
  simp only [← evL_X, N20_2, N20_3_eq]
noncomputable def N20_6 (ρ : Addr → Option Value) (call : CallF) (yc : YieldF) (lim k : Nat) (x2 x4 x5 x61 : AV) (H : Heap) (kn : AV → AV → AV → Heap → Res) (R : List AV → Heap → Res) : Res :=
  condK x61
  (
    purK (ldN ρ H 8 x5) fun x62_1 =>
    purK (lenS x4) fun x64_1 =>
    purK (binA Tryd.prog H .eql 3 x64_1 (.int .i64 1)) fun x65_1 =>
    effK H (stA lim H 8 x2 x62_1) fun _ H =>
    R [x2, x65_1] H)
  (
    kn x2 x4 x5 H)
theorem N20_6_eq (ρ : Addr → Option Value) (call : CallF) (yc : YieldF) (lim k : Nat) (x2 x4 x5 x61 : AV) (H : Heap) (kn : KS) (R : List AV → Heap → Res) :
    evL (cx ρ) call yc false 20 lim k (Code.at [1, 1, 1, 1, 1, 0, 1] c20) (sp 105 [(2, x2), (4, x4), (5, x5), (61, x61)]) H (kk (some [2, 4, 5]) kn [] R [2, 3]) = N20_6 ρ call yc lim k x2 x4 x5 x61 H (fun x2 x4 x5 H => kn (sp 105 [(2, x2), (4, x4), (5, x5)]) H) R := by
  kernel_rfl
noncomputable def N20_1 (ρ : Addr → Option Value) (call : CallF) (yc : YieldF) (lim k : Nat) (x2 x4 x5 : AV) (H : Heap) (R : List AV → Heap → Res) : Res :=
  purK (addA 0 x5) fun x54_1 =>
  purK (ld1 ρ H x54_1) fun x55_1 =>
  purK (binA Tryd.prog H .eql 3 x55_1 (.int .i64 8)) fun x56_1 =>
  purK (gPur (wantV x56_1 false) (addA 0 x5)) fun x58_1 =>
  purK (gPur (wantV x56_1 false) (ld1 ρ H x58_1)) fun x59_1 =>
  purK (gPur (wantV x56_1 false) (binA Tryd.prog H .eql 3 x59_1 (.int .i64 10))) fun x60_1 =>
  purK (pickA x56_1 (.bool true) x60_1) fun x61_1 =>
  N20_6 ρ call yc lim k x2 x4 x5 x61_1 H (fun x2_1 x4_1 x5_1 H =>
    N20_2 ρ call yc lim k x2_1 x4_1 x5_1 H R) R
theorem N20_1_x (ρ : Addr → Option Value) (call : CallF) (yc : YieldF) (lim k : Nat) (J : CodeF) (x2 x4 x5 : AV) (H : Heap) (R : List AV → Heap → Res) :
    evX (cx ρ) call yc false 20 lim k J (Code.at [1, 1, 1, 1, 1] c20) (sp 105 [(2, x2), (4, x4), (5, x5)]) H (kk none (fun s H => R (([2, 3] : List Nat).map fun t => s.getD t (.tup [])) H) [] R [2, 3]) =
  purK (addA 0 x5) fun x54_1 =>
  purK (ld1 ρ H x54_1) fun x55_1 =>
  purK (binA Tryd.prog H .eql 3 x55_1 (.int .i64 8)) fun x56_1 =>
  purK (gPur (wantV x56_1 false) (addA 0 x5)) fun x58_1 =>
  purK (gPur (wantV x56_1 false) (ld1 ρ H x58_1)) fun x59_1 =>
  purK (gPur (wantV x56_1 false) (binA Tryd.prog H .eql 3 x59_1 (.int .i64 10))) fun x60_1 =>
  purK (pickA x56_1 (.bool true) x60_1) fun x61_1 =>
  J (Code.at [1, 1, 1, 1, 1, 0, 1] c20) (sp 105 [(2, x2), (4, x4), (5, x5), (61, x61_1)]) H (kk (some [2, 4, 5]) (fun s H => J (Code.at [1, 1, 1, 1, 1, 1] c20) s H (kk none (fun s H => R (([2, 3] : List Nat).map fun t => s.getD t (.tup [])) H) [] R [2, 3])) [] R [2, 3]) := by
  kernel_rfl
theorem N20_1_eq (ρ : Addr → Option Value) (call : CallF) (yc : YieldF) (lim k : Nat) (x2 x4 x5 : AV) (H : Heap) (R : List AV → Heap → Res) :
    evL (cx ρ) call yc false 20 lim k (Code.at [1, 1, 1, 1, 1] c20) (sp 105 [(2, x2), (4, x4), (5, x5)]) H (kk none (fun s H => R (([2, 3] : List Nat).map fun t => s.getD t (.tup [])) H) [] R [2, 3]) = N20_1 ρ call yc lim k x2 x4 x5 H R := by
  rw [evL_X, N20_1_x]
  simp only [← evL_X, N20_1, N20_2_eq, N20_6_eq]
noncomputable def N20_7 (ρ : Addr → Option Value) (call : CallF) (yc : YieldF) (lim k : Nat) (x2 x5 : AV) (H : Heap) (R : List AV → Heap → Res) : Res :=
  purK (ldN ρ H 8 x5) fun x53_1 =>
  effK H (stA lim H 8 x2 x53_1) fun _ H =>
  R [x2, (.bool true)] H
theorem N20_7_eq (ρ : Addr → Option Value) (call : CallF) (yc : YieldF) (lim k : Nat) (x2 x5 : AV) (H : Heap) (kn : KS) (R : List AV → Heap → Res) :
    evL (cx ρ) call yc false 20 lim k (Code.at [1, 1, 1, 1, 0, 1, 0, 1] c20) (sp 105 [(2, x2), (5, x5)]) H (kk (some [2, 4, 5]) kn [] R [2, 3]) = N20_7 ρ call yc lim k x2 x5 H R := by
  kernel_rfl
noncomputable def N20_10 (ρ : Addr → Option Value) (call : CallF) (yc : YieldF) (lim k : Nat) (x2 x4 x5 x6 : AV) (H : Heap) (kn : AV → Heap → Res) : Res :=
  purK (binA Tryd.prog H .add 3 x6 (.int .i64 1)) fun x30_1 =>
  kn x30_1 H
theorem N20_10_eq (ρ : Addr → Option Value) (call : CallF) (yc : YieldF) (lim k : Nat) (x2 x4 x5 x6 : AV) (H : Heap) (kn : KS) (k0 : KS) (R : List AV → Heap → Res) :
    evL (cx ρ) call yc false 20 lim k (Code.at [1, 1, 1, 1, 0, 1, 0, 0, 1, 0, 0, 1, 1] c20) (sp 105 [(2, x2), (4, x4), (5, x5), (6, x6)]) H (kk (some [2, 4, 5, 6]) kn [(0, (some [2, 5]), k0)] R [2, 3]) = N20_10 ρ call yc lim k x2 x4 x5 x6 H (fun x6 H => kn (sp 105 [(2, x2), (4, x4), (5, x5), (6, x6)]) H) := by
  kernel_rfl
noncomputable def N20_9b (ρ : Addr → Option Value) (call : CallF) (yc : YieldF) (lim k : Nat) (x2 x4 x5 x6 : AV) (H : Heap) (kn : AV → Heap → Res) (k0 : AV → AV → Heap → Res) (R : List AV → Heap → Res) : Res :=
  purK (lenS x4) fun x27_1 =>
  purK (binA Tryd.prog H .lss 3 x6 x27_1) fun x28_1 =>
  condK x28_1
  (
    purK (ixS 1 x4 x6) fun x34_1 =>
    purK (ld1 ρ H x34_1) fun x35_1 =>
    resK (call lim 43 [x35_1, (.int .u64 999999999)] H) fun x36_1 H =>
    purK (extA 0 x36_1) fun x37_1 =>
    purK (extA 1 x36_1) fun x38_1 =>
    purK (unA .not x38_1) fun x40_1 =>
    purK (gPur (wantV x40_1 false) (some x6)) fun x42_1 =>
    purK (gPur (wantV x40_1 false) (binA Tryd.prog H .gtr 3 x42_1 (.int .i64 32))) fun x43_1 =>
    purK (pickA x40_1 (.bool true) x43_1) fun x44_1 =>
    condK x44_1
    (
      purK (ldN ρ H 8 x5) fun x45_1 =>
      effK H (stA lim H 8 x2 x45_1) fun _ H =>
      R [x2, (.bool false)] H)
    (
      purK (addA 7 x5) fun x46_1 =>
      purK (ld1 ρ H x46_1) fun x47_1 =>
      purK (cvI .i64 x37_1) fun x49_1 =>
      effK H (bldS H 3 1 [.int .i64 0] 1 [(0, 1, x49_1)]) fun x50_1 H =>
      effK H (apA ρ lim H 3 1 8 x47_1 x50_1) fun x51_1 H =>
      purK (addA 7 x5) fun x52_1 =>
      effK H (stA lim H 1 x52_1 x51_1) fun _ H =>
      N20_10 ρ call yc lim k x2 x4 x5 x6 H kn))
  (
    k0 x2 x5 H)
theorem N20_9b_x (ρ : Addr → Option Value) (call : CallF) (yc : YieldF) (lim k : Nat) (J : CodeF) (x2 x4 x5 x6 : AV) (H : Heap) (kn : KS) (k0 : KS) (R : List AV → Heap → Res) :
    evX (cx ρ) call yc false 20 lim k J (Code.at [1, 1, 1, 1, 0, 1, 0, 0, 1, 0, 0] c20) (sp 105 [(2, x2), (4, x4), (5, x5), (6, x6)]) H (kk (some [2, 4, 5, 6]) kn [(0, (some [2, 5]), k0)] R [2, 3]) =
  purK (lenS x4) fun x27_1 =>
  purK (binA Tryd.prog H .lss 3 x6 x27_1) fun x28_1 =>
  condK x28_1
  (
    purK (ixS 1 x4 x6) fun x34_1 =>
    purK (ld1 ρ H x34_1) fun x35_1 =>
    resK (call lim 43 [x35_1, (.int .u64 999999999)] H) fun x36_1 H =>
    purK (extA 0 x36_1) fun x37_1 =>
    purK (extA 1 x36_1) fun x38_1 =>
    purK (unA .not x38_1) fun x40_1 =>
    purK (gPur (wantV x40_1 false) (some x6)) fun x42_1 =>
    purK (gPur (wantV x40_1 false) (binA Tryd.prog H .gtr 3 x42_1 (.int .i64 32))) fun x43_1 =>
    purK (pickA x40_1 (.bool true) x43_1) fun x44_1 =>
    condK x44_1
    (
      purK (ldN ρ H 8 x5) fun x45_1 =>
      effK H (stA lim H 8 x2 x45_1) fun _ H =>
      R [x2, (.bool false)] H)
    (
      purK (addA 7 x5) fun x46_1 =>
      purK (ld1 ρ H x46_1) fun x47_1 =>
      purK (cvI .i64 x37_1) fun x49_1 =>
      effK H (bldS H 3 1 [.int .i64 0] 1 [(0, 1, x49_1)]) fun x50_1 H =>
      effK H (apA ρ lim H 3 1 8 x47_1 x50_1) fun x51_1 H =>
      purK (addA 7 x5) fun x52_1 =>
      effK H (stA lim H 1 x52_1 x51_1) fun _ H =>
      J (Code.at [1, 1, 1, 1, 0, 1, 0, 0, 1, 0, 0, 1, 1] c20) (sp 105 [(2, x2), (4, x4), (5, x5), (6, x6)]) H (kk (some [2, 4, 5, 6]) kn [(0, (some [2, 5]), k0)] R [2, 3])))
  (
    k0 (sp 105 [(2, x2), (5, x5)]) H) := by
  kernel_rfl
theorem N20_9b_eq (ρ : Addr → Option Value) (call : CallF) (yc : YieldF) (lim k : Nat) (x2 x4 x5 x6 : AV) (H : Heap) (kn : KS) (k0 : KS) (R : List AV → Heap → Res) :
    evL (cx ρ) call yc false 20 lim k (Code.at [1, 1, 1, 1, 0, 1, 0, 0, 1, 0, 0] c20) (sp 105 [(2, x2), (4, x4), (5, x5), (6, x6)]) H (kk (some [2, 4, 5, 6]) kn [(0, (some [2, 5]), k0)] R [2, 3]) = N20_9b ρ call yc lim k x2 x4 x5 x6 H (fun x6 H => kn (sp 105 [(2, x2), (4, x4), (5, x5), (6, x6)]) H) (fun x2 x5 H => k0 (sp 105 [(2, x2), (5, x5)]) H) R := by
  rw [evL_X, N20_9b_x]
  simp only [← evL_X, N20_9b, N20_10_eq]
noncomputable def N20_9 (ρ : Addr → Option Value) (call : CallF) (yc : YieldF) (lim k : Nat) (x2 x4 x5 x6 : AV) (H : Heap) (k0 : AV → AV → Heap → Res) (R : List AV → Heap → Res) : Res :=
  loopL (fun (x : AV) H kn => N20_9b ρ call yc lim k x2 x4 x5 x H (fun x6 H => kn x6 H) k0 R) k x6 H
theorem N20_9_eq (ρ : Addr → Option Value) (call : CallF) (yc : YieldF) (lim k : Nat) (x2 x4 x5 x6 : AV) (H : Heap) (kn : KS) (k0 : KS) (R : List AV → Heap → Res) :
    evL (cx ρ) call yc false 20 lim k (Code.at [1, 1, 1, 1, 0, 1, 0, 0, 1, 0] c20) (sp 105 [(2, x2), (4, x4), (5, x5), (6, x6)]) H (kk (some [2, 5]) kn [(0, (some [2, 5]), k0)] R [2, 3]) = N20_9 ρ call yc lim k x2 x4 x5 x6 H (fun x2 x5 H => k0 (sp 105 [(2, x2), (5, x5)]) H) R := by
  have e : Code.at [1, 1, 1, 1, 0, 1, 0, 0, 1, 0] c20 = .loop (Code.at [1, 1, 1, 1, 0, 1, 0, 0, 1, 0, 0] c20) := by kernel_rfl
  rw [e]
  unfold N20_9
  exact loop_node [2, 4, 5, 6] (fun x : AV => (sp 105 [(2, x2), (4, x4), (5, x5), (6, (x))])) (fun (x : AV) H kn => N20_9b ρ call yc lim k x2 x4 x5 x H (fun x6 H => kn x6 H) (fun x2 x5 H => k0 (sp 105 [(2, x2), (5, x5)]) H) R) (by kernel_rfl) (fun x => by kernel_rfl) (fun x H kn => N20_9b_eq ρ call yc lim k x2 x4 x5 (x) H kn k0 R) x6 (sp 105 [(2, x2), (4, x4), (5, x5), (6, x6)]) H (by kernel_rfl)
noncomputable def N20_8 (ρ : Addr → Option Value) (call : CallF) (yc : YieldF) (lim k : Nat) (x2 x4 x5 x6 : AV) (H : Heap) (kn : AV → AV → Heap → Res) (R : List AV → Heap → Res) : Res :=
  N20_9 ρ call yc lim k x2 x4 x5 x6 H kn R
theorem N20_8_x (ρ : Addr → Option Value) (call : CallF) (yc : YieldF) (lim k : Nat) (J : CodeF) (x2 x4 x5 x6 : AV) (H : Heap) (kn : KS) (R : List AV → Heap → Res) :
    evX (cx ρ) call yc false 20 lim k J (Code.at [1, 1, 1, 1, 0, 1, 0, 0, 1] c20) (sp 105 [(2, x2), (4, x4), (5, x5), (6, x6)]) H (kk (some [2, 5]) kn [] R [2, 3]) =
  J (Code.at [1, 1, 1, 1, 0, 1, 0, 0, 1, 0] c20) (sp 105 [(2, x2), (4, x4), (5, x5), (6, x6)]) H (kk (some [2, 5]) kn [(0, (some [2, 5]), kn)] R [2, 3]) := by
  kernel_rfl
theorem N20_8_eq (ρ : Addr → Option Value) (call : CallF) (yc : YieldF) (lim k : Nat) (x2 x4 x5 x6 : AV) (H : Heap) (kn : KS) (R : List AV → Heap → Res) :
    evL (cx ρ) call yc false 20 lim k (Code.at [1, 1, 1, 1, 0, 1, 0, 0, 1] c20) (sp 105 [(2, x2), (4, x4), (5, x5), (6, x6)]) H (kk (some [2, 5]) kn [] R [2, 3]) = N20_8 ρ call yc lim k x2 x4 x5 x6 H (fun x2 x5 H => kn (sp 105 [(2, x2), (5, x5)]) H) R := by
  rw [evL_X, N20_8_x]
  simp only [← evL_X, N20_8, N20_9_eq]
noncomputable def L20 (ρ : Addr → Option Value) (call : CallF) (yc : YieldF) (lim k : Nat) (x0 : AV) (H : Heap) : Res :=
  effK H (some (.ptr H.sz 0 0, .new (newCells 43 false [.int .i64 0, .int .i64 0, .int .i64 0, .int .i64 0, .str ByteArray.empty, .str ByteArray.empty, .int .u64 0, .nils]))) fun x2 H =>
  resK (call lim 19 [x0, (.int .u8 32)] H) fun x12 H =>
  purK (ixS 1 x12 (.int .i64 0)) fun x14 =>
  purK (ld1 ρ H x14) fun x15 =>
  resK (call lim 42 [x15] H) fun x16 H =>
  purK (bldA [.int .i64 0, .int .i64 0, .int .i64 0, .int .i64 0, .str ByteArray.empty, .str ByteArray.empty, .int .u64 0, .nils] [(0, 1, x16)]) fun x17 =>
  effK H (some (.ptr H.sz 0 0, .new (newCells 43 false [.int .i64 0, .int .i64 0, .int .i64 0, .int .i64 0, .str ByteArray.empty, .str ByteArray.empty, .int .u64 0, .nils]))) fun x5 H =>
  effK H (stA lim H 8 x5 x17) fun _ H =>
  purK (addA 0 x5) fun x18 =>
  purK (ld1 ρ H x18) fun x19 =>
  purK (binA Tryd.prog H .eql 3 x19 (.int .i64 0)) fun x20 =>
  condK x20
  (
    purK (ldN ρ H 8 x5) fun x21 =>
    effK H (stA lim H 8 x2 x21) fun _ H =>
    (retC (cx ρ) [some 43, none]) [x2, (.bool false)] H)
  (
    purK (addA 0 x5) fun x22 =>
    purK (ld1 ρ H x22) fun x23 =>
    purK (binA Tryd.prog H .eql 3 x23 (.int .i64 9)) fun x24 =>
    condK x24
    (
      N20_8 ρ call yc lim k x2 x12 x5 (.int .i64 1) H (fun x2_1 x5_1 H =>
        N20_7 ρ call yc lim k x2_1 x5_1 H (retC (cx ρ) [some 43, none])) (retC (cx ρ) [some 43, none]))
    (
      N20_1 ρ call yc lim k x2 x12 x5 H (retC (cx ρ) [some 43, none])))
theorem L20_x (ρ : Addr → Option Value) (call : CallF) (yc : YieldF) (lim k : Nat) (J : CodeF) (x0 : AV) (H : Heap) :
    evX (cx ρ) call yc false 20 lim k J c20 [x0, (.tup []), (.tup []), (.tup []), (.tup []), (.tup []), (.tup []), (.tup []), (.tup []), (.tup []), (.tup []), (.tup []), (.tup []), (.tup []), (.tup []), (.tup []), (.tup []), (.tup []), (.tup []), (.tup []), (.tup []), (.tup []), (.tup []), (.tup []), (.tup []), (.tup []), (.tup []), (.tup []), (.tup []), (.tup []), (.tup []), (.tup []), (.tup []), (.tup []), (.tup []), (.tup []), (.tup []), (.tup []), (.tup []), (.tup []), (.tup []), (.tup []), (.tup []), (.tup []), (.tup []), (.tup []), (.tup []), (.tup []), (.tup []), (.tup []), (.tup []), (.tup []), (.tup []), (.tup []), (.tup []), (.tup []), (.tup []), (.tup []), (.tup []), (.tup []), (.tup []), (.tup []), (.tup []), (.tup []), (.tup []), (.tup []), (.tup []), (.tup []), (.tup []), (.tup []), (.tup []), (.tup []), (.tup []), (.tup []), (.tup []), (.tup []), (.tup []), (.tup []), (.tup []), (.tup []), (.tup []), (.tup []), (.tup []), (.tup []), (.tup []), (.tup []), (.tup []), (.tup []), (.tup []), (.tup []), (.tup []), (.tup []), (.tup []), (.tup []), (.tup []), (.tup []), (.tup []), (.tup []), (.tup []), (.tup []), (.tup []), (.tup []), (.tup []), (.tup []), (.tup [])] H (kk none (fun s H => (retC (cx ρ) [some 43, none]) (([2, 3] : List Nat).map fun t => s.getD t (.tup [])) H) [] (retC (cx ρ) [some 43, none]) [2, 3]) =
  effK H (some (.ptr H.sz 0 0, .new (newCells 43 false [.int .i64 0, .int .i64 0, .int .i64 0, .int .i64 0, .str ByteArray.empty, .str ByteArray.empty, .int .u64 0, .nils]))) fun x2 H =>
  resK (call lim 19 [x0, (.int .u8 32)] H) fun x12 H =>
  purK (ixS 1 x12 (.int .i64 0)) fun x14 =>
  purK (ld1 ρ H x14) fun x15 =>
  resK (call lim 42 [x15] H) fun x16 H =>
  purK (bldA [.int .i64 0, .int .i64 0, .int .i64 0, .int .i64 0, .str ByteArray.empty, .str ByteArray.empty, .int .u64 0, .nils] [(0, 1, x16)]) fun x17 =>
  effK H (some (.ptr H.sz 0 0, .new (newCells 43 false [.int .i64 0, .int .i64 0, .int .i64 0, .int .i64 0, .str ByteArray.empty, .str ByteArray.empty, .int .u64 0, .nils]))) fun x5 H =>
  effK H (stA lim H 8 x5 x17) fun _ H =>
  purK (addA 0 x5) fun x18 =>
  purK (ld1 ρ H x18) fun x19 =>
  purK (binA Tryd.prog H .eql 3 x19 (.int .i64 0)) fun x20 =>
  condK x20
  (
    purK (ldN ρ H 8 x5) fun x21 =>
    effK H (stA lim H 8 x2 x21) fun _ H =>
    (retC (cx ρ) [some 43, none]) [x2, (.bool false)] H)
  (
    purK (addA 0 x5) fun x22 =>
    purK (ld1 ρ H x22) fun x23 =>
    purK (binA Tryd.prog H .eql 3 x23 (.int .i64 9)) fun x24 =>
    condK x24
    (
      J (Code.at [1, 1, 1, 1, 0, 1, 0, 0, 1] c20) (sp 105 [(2, x2), (4, x12), (5, x5), (6, (.int .i64 1))]) H (kk (some [2, 5]) (fun s H => J (Code.at [1, 1, 1, 1, 0, 1, 0, 1] c20) s H (kk (some [2, 4, 5]) (fun s H => J (Code.at [1, 1, 1, 1, 1] c20) s H (kk none (fun s H => (retC (cx ρ) [some 43, none]) (([2, 3] : List Nat).map fun t => s.getD t (.tup [])) H) [] (retC (cx ρ) [some 43, none]) [2, 3])) [] (retC (cx ρ) [some 43, none]) [2, 3])) [] (retC (cx ρ) [some 43, none]) [2, 3]))
    (
      J (Code.at [1, 1, 1, 1, 1] c20) (sp 105 [(2, x2), (4, x12), (5, x5)]) H (kk none (fun s H => (retC (cx ρ) [some 43, none]) (([2, 3] : List Nat).map fun t => s.getD t (.tup [])) H) [] (retC (cx ρ) [some 43, none]) [2, 3]))) := by
  kernel_rfl
theorem G20 (ρ : Addr → Option Value) (call : CallF) (yc : YieldF) (lim k : Nat) (x0 : AV) (H : Heap) :
    evL (cx ρ) call yc false 20 lim k c20 [x0, (.tup []), (.tup []), (.tup []), (.tup []), (.tup []), (.tup []), (.tup []), (.tup []), (.tup []), (.tup []), (.tup []), (.tup []), (.tup []), (.tup []), (.tup []), (.tup []), (.tup []), (.tup []), (.tup []), (.tup []), (.tup []), (.tup []), (.tup []), (.tup []), (.tup []), (.tup []), (.tup []), (.tup []), (.tup []), (.tup []), (.tup []), (.tup []), (.tup []), (.tup []), (.tup []), (.tup []), (.tup []), (.tup []), (.tup []), (.tup []), (.tup []), (.tup []), (.tup []), (.tup []), (.tup []), (.tup []), (.tup []), (.tup []), (.tup []), (.tup []), (.tup []), (.tup []), (.tup []), (.tup []), (.tup []), (.tup []), (.tup []), (.tup []), (.tup []), (.tup []), (.tup []), (.tup []), (.tup []), (.tup []), (.tup []), (.tup []), (.tup []), (.tup []), (.tup []), (.tup []), (.tup []), (.tup []), (.tup []), (.tup []), (.tup []), (.tup []), (.tup []), (.tup []), (.tup []), (.tup []), (.tup []), (.tup []), (.tup []), (.tup []), (.tup []), (.tup []), (.tup []), (.tup []), (.tup []), (.tup []), (.tup []), (.tup []), (.tup []), (.tup []), (.tup []), (.tup []), (.tup []), (.tup []), (.tup []), (.tup []), (.tup []), (.tup []), (.tup []), (.tup [])] H (kk none (fun s H => (retC (cx ρ) [some 43, none]) (([2, 3] : List Nat).map fun t => s.getD t (.tup [])) H) [] (retC (cx ρ) [some 43, none]) [2, 3]) = L20 ρ call yc lim k x0 H := by
  rw [evL_X, L20_x]
  simp only [← evL_X, L20, N20_1_eq, N20_7_eq, N20_8_eq]
theorem E20 (ρ : Addr → Option Value) (k lim : Nat) (x0 : AV) (H : Heap) : evCall (cx ρ) (k + 1) lim 20 [x0] H = L20 ρ (evCall (cx ρ) k) (evCY (cx ρ) k).2 lim k x0 H := by
  rw [evCall_cells (cx ρ) k lim 20 _ H Tryd.f20 c20 [2, 3] [some 43, none] (by kernel_rfl) (by kernel_rfl) (by kernel_rfl) (by kernel_rfl) (by kernel_rfl) (by kernel_rfl)]
  exact G20 ρ (evCall (cx ρ) k) (evCY (cx ρ) k).2 lim k x0 H
-- haycroft/haycroftref11.Ints
noncomputable def c21 : Code := Code.of Tryd.prog 21
noncomputable def N21_1 (ρ : Addr → Option Value) (call : CallF) (yc : YieldF) (lim k : Nat) (H : Heap) (R : List AV → Heap → Res) : Res :=
  R [(.bool true)] H
theorem N21_1_eq (ρ : Addr → Option Value) (call : CallF) (yc : YieldF) (lim k : Nat) (H : Heap) (R : List AV → Heap → Res) :
    evL (cx ρ) call yc false 21 lim k (Code.at [1, 1, 1] c21) (sp 26 []) H (kk none (fun s H => R (([4] : List Nat).map fun t => s.getD t (.tup [])) H) [] R [4]) = N21_1 ρ call yc lim k H R := by
  kernel_rfl
noncomputable def N21_3b (ρ : Addr → Option Value) (call : CallF) (yc : YieldF) (lim k : Nat) (x0 x1 x5 : AV) (H : Heap) (kn : AV → Heap → Res) (k0 : Heap → Res) (R : List AV → Heap → Res) : Res :=
  purK (lenS x0) fun x13_1 =>
  purK (binA Tryd.prog H .lss 3 x5 x13_1) fun x14_1 =>
  condK x14_1
  (
    purK (ixS 1 x0 x5) fun x19_1 =>
    purK (ld1 ρ H x19_1) fun x20_1 =>
    purK (ixS 1 x1 x5) fun x23_1 =>
    purK (ld1 ρ H x23_1) fun x24_1 =>
    purK (binA Tryd.prog H .neq 3 x20_1 x24_1) fun x25_1 =>
    condK x25_1
    (
      R [(.bool false)] H)
    (
      purK (binA Tryd.prog H .add 3 x5 (.int .i64 1)) fun x16_1 =>
      kn x16_1 H))
  (
    k0 H)
theorem N21_3b_eq (ρ : Addr → Option Value) (call : CallF) (yc : YieldF) (lim k : Nat) (x0 x1 x5 : AV) (H : Heap) (kn : KS) (k0 : KS) (R : List AV → Heap → Res) :
    evL (cx ρ) call yc false 21 lim k (Code.at [1, 1, 0, 1, 0, 0] c21) (sp 26 [(0, x0), (1, x1), (5, x5)]) H (kk (some [0, 1, 5]) kn [(0, (some []), k0)] R [4]) = N21_3b ρ call yc lim k x0 x1 x5 H (fun x5 H => kn (sp 26 [(0, x0), (1, x1), (5, x5)]) H) (fun H => k0 (sp 26 []) H) R := by
  kernel_rfl
noncomputable def N21_3 (ρ : Addr → Option Value) (call : CallF) (yc : YieldF) (lim k : Nat) (x0 x1 x5 : AV) (H : Heap) (k0 : Heap → Res) (R : List AV → Heap → Res) : Res :=
  loopL (fun (x : AV) H kn => N21_3b ρ call yc lim k x0 x1 x H (fun x5 H => kn x5 H) k0 R) k x5 H
theorem N21_3_eq (ρ : Addr → Option Value) (call : CallF) (yc : YieldF) (lim k : Nat) (x0 x1 x5 : AV) (H : Heap) (kn : KS) (k0 : KS) (R : List AV → Heap → Res) :
    evL (cx ρ) call yc false 21 lim k (Code.at [1, 1, 0, 1, 0] c21) (sp 26 [(0, x0), (1, x1), (5, x5)]) H (kk (some []) kn [(0, (some []), k0)] R [4]) = N21_3 ρ call yc lim k x0 x1 x5 H (fun H => k0 (sp 26 []) H) R := by
  have e : Code.at [1, 1, 0, 1, 0] c21 = .loop (Code.at [1, 1, 0, 1, 0, 0] c21) := by kernel_rfl
  rw [e]
  unfold N21_3
  exact loop_node [0, 1, 5] (fun x : AV => (sp 26 [(0, x0), (1, x1), (5, (x))])) (fun (x : AV) H kn => N21_3b ρ call yc lim k x0 x1 x H (fun x5 H => kn x5 H) (fun H => k0 (sp 26 []) H) R) (by kernel_rfl) (fun x => by kernel_rfl) (fun x H kn => N21_3b_eq ρ call yc lim k x0 x1 (x) H kn k0 R) x5 (sp 26 [(0, x0), (1, x1), (5, x5)]) H (by kernel_rfl)
noncomputable def N21_2 (ρ : Addr → Option Value) (call : CallF) (yc : YieldF) (lim k : Nat) (x0 x1 x5 : AV) (H : Heap) (kn : Heap → Res) (R : List AV → Heap → Res) : Res :=
  N21_3 ρ call yc lim k x0 x1 x5 H kn R
theorem N21_2_x (ρ : Addr → Option Value) (call : CallF) (yc : YieldF) (lim k : Nat) (J : CodeF) (x0 x1 x5 : AV) (H : Heap) (kn : KS) (R : List AV → Heap → Res) :
    evX (cx ρ) call yc false 21 lim k J (Code.at [1, 1, 0, 1] c21) (sp 26 [(0, x0), (1, x1), (5, x5)]) H (kk (some []) kn [] R [4]) =
  J (Code.at [1, 1, 0, 1, 0] c21) (sp 26 [(0, x0), (1, x1), (5, x5)]) H (kk (some []) kn [(0, (some []), kn)] R [4]) := by
  kernel_rfl
theorem N21_2_eq (ρ : Addr → Option Value) (call : CallF) (yc : YieldF) (lim k : Nat) (x0 x1 x5 : AV) (H : Heap) (kn : KS) (R : List AV → Heap → Res) :
    evL (cx ρ) call yc false 21 lim k (Code.at [1, 1, 0, 1] c21) (sp 26 [(0, x0), (1, x1), (5, x5)]) H (kk (some []) kn [] R [4]) = N21_2 ρ call yc lim k x0 x1 x5 H (fun H => kn (sp 26 []) H) R := by
  rw [evL_X, N21_2_x]
  simp only [← evL_X, N21_2, N21_3_eq]
noncomputable def L21 (ρ : Addr → Option Value) (call : CallF) (yc : YieldF) (lim k : Nat) (x0 x1 : AV) (H : Heap) : Res :=
  purK (lenS x0) fun x7 =>
  purK (lenS x1) fun x9 =>
  purK (binA Tryd.prog H .neq 3 x7 x9) fun x10 =>
  condK x10
  (
    retK [(.bool false)] H)
  (
    N21_2 ρ call yc lim k x0 x1 (.int .i64 0) H (fun H =>
      N21_1 ρ call yc lim k H retK) retK)
theorem L21_x (ρ : Addr → Option Value) (call : CallF) (yc : YieldF) (lim k : Nat) (J : CodeF) (x0 x1 : AV) (H : Heap) :
    evX (cx ρ) call yc false 21 lim k J c21 [x0, x1, (.tup []), (.tup []), (.tup []), (.tup []), (.tup []), (.tup []), (.tup []), (.tup []), (.tup []), (.tup []), (.tup []), (.tup []), (.tup []), (.tup []), (.tup []), (.tup []), (.tup []), (.tup []), (.tup []), (.tup []), (.tup []), (.tup []), (.tup []), (.tup [])] H (kk none (fun s H => retK (([4] : List Nat).map fun t => s.getD t (.tup [])) H) [] retK [4]) =
  purK (lenS x0) fun x7 =>
  purK (lenS x1) fun x9 =>
  purK (binA Tryd.prog H .neq 3 x7 x9) fun x10 =>
  condK x10
  (
    retK [(.bool false)] H)
  (
    J (Code.at [1, 1, 0, 1] c21) (sp 26 [(0, x0), (1, x1), (5, (.int .i64 0))]) H (kk (some []) (fun s H => J (Code.at [1, 1, 1] c21) s H (kk none (fun s H => retK (([4] : List Nat).map fun t => s.getD t (.tup [])) H) [] retK [4])) [] retK [4])) := by
  kernel_rfl
theorem G21 (ρ : Addr → Option Value) (call : CallF) (yc : YieldF) (lim k : Nat) (x0 x1 : AV) (H : Heap) :
    evL (cx ρ) call yc false 21 lim k c21 [x0, x1, (.tup []), (.tup []), (.tup []), (.tup []), (.tup []), (.tup []), (.tup []), (.tup []), (.tup []), (.tup []), (.tup []), (.tup []), (.tup []), (.tup []), (.tup []), (.tup []), (.tup []), (.tup []), (.tup []), (.tup []), (.tup []), (.tup []), (.tup []), (.tup [])] H (kk none (fun s H => retK (([4] : List Nat).map fun t => s.getD t (.tup [])) H) [] retK [4]) = L21 ρ call yc lim k x0 x1 H := by
  rw [evL_X, L21_x]
  simp only [← evL_X, L21, N21_1_eq, N21_2_eq]
theorem E21 (ρ : Addr → Option Value) (k lim : Nat) (x0 x1 : AV) (H : Heap) : evCall (cx ρ) (k + 1) lim 21 [x0, x1] H = L21 ρ (evCall (cx ρ) k) (evCY (cx ρ) k).2 lim k x0 x1 H := by
  rw [evCall_body (cx ρ) k lim 21 _ H Tryd.f21 c21 [4] (by kernel_rfl) (by kernel_rfl) (by kernel_rfl) (by kernel_rfl) (by kernel_rfl)]
  exact G21 ρ (evCall (cx ρ) k) (evCY (cx ρ) k).2 lim k x0 x1 H
-- (*strings.Builder).WriteByte
noncomputable def c22 : Code := Code.of Tryd.prog 22
noncomputable def L22 (ρ : Addr → Option Value) (call : CallF) (yc : YieldF) (lim k : Nat) (x0 x1 : AV) (H : Heap) : Res :=
  resK (call lim 45 [x0] H) fun x6 H =>
  purK (nilChkA x0) fun x9 =>
  purK (addA 1 x9) fun x10 =>
  purK (ld1 ρ H x10) fun x11 =>
  effK H (bldS H 5 1 [.int .u8 0] 1 [(0, 1, x1)]) fun x13 H =>
  effK H (apA ρ lim H 5 1 1 x11 x13) fun x14 H =>
  purK (nilChkA x0) fun x15 =>
  purK (addA 1 x15) fun x16 =>
  effK H (stA lim H 1 x16 x14) fun _ H =>
  retK [.nili] H
theorem G22 (ρ : Addr → Option Value) (call : CallF) (yc : YieldF) (lim k : Nat) (x0 x1 : AV) (H : Heap) :
    evL (cx ρ) call yc false 22 lim k c22 [x0, x1, (.tup []), (.tup []), (.tup []), (.tup []), (.tup []), (.tup []), (.tup []), (.tup []), (.tup []), (.tup []), (.tup []), (.tup []), (.tup []), (.tup []), (.tup [])] H (kk none (fun s H => retK (([4] : List Nat).map fun t => s.getD t (.tup [])) H) [] retK [4]) = L22 ρ call yc lim k x0 x1 H := by
  kernel_rfl
theorem E22 (ρ : Addr → Option Value) (k lim : Nat) (x0 x1 : AV) (H : Heap) : evCall (cx ρ) (k + 1) lim 22 [x0, x1] H = L22 ρ (evCall (cx ρ) k) (evCY (cx ρ) k).2 lim k x0 x1 H := by
  rw [evCall_body (cx ρ) k lim 22 _ H Tryd.f22 c22 [4] (by kernel_rfl) (by kernel_rfl) (by kernel_rfl) (by kernel_rfl) (by kernel_rfl)]
  exact G22 ρ (evCall (cx ρ) k) (evCY (cx ρ) k).2 lim k x0 x1 H
-- haycroft/script.plain
noncomputable def c23 : Code := Code.of Tryd.prog 23
noncomputable def L23 (ρ : Addr → Option Value) (call : CallF) (yc : YieldF) (lim k : Nat) (x0 : AV) (H : Heap) : Res :=
  purK (binA Tryd.prog H .geq 5 x0 (.int .u8 33)) fun x4 =>
  purK (gPur (wantV x4 true) (some x0)) fun x6 =>
  purK (gPur (wantV x4 true) (binA Tryd.prog H .leq 5 x6 (.int .u8 126))) fun x7 =>
  purK (pickA x4 x7 (.bool false)) fun x8 =>
  purK (gPur (wantV x8 true) (some x0)) fun x10 =>
  purK (gPur (wantV x8 true) (binA Tryd.prog H .neq 5 x10 (.int .u8 37))) fun x11 =>
  purK (pickA x8 x11 (.bool false)) fun x12 =>
  retK [x12] H
theorem G23 (ρ : Addr → Option Value) (call : CallF) (yc : YieldF) (lim k : Nat) (x0 : AV) (H : Heap) :
    evL (cx ρ) call yc false 23 lim k c23 [x0, (.tup []), (.tup []), (.tup []), (.tup []), (.tup []), (.tup []), (.tup []), (.tup []), (.tup []), (.tup []), (.tup []), (.tup [])] H (kk none (fun s H => retK (([2] : List Nat).map fun t => s.getD t (.tup [])) H) [] retK [2]) = L23 ρ call yc lim k x0 H := by
  kernel_rfl
theorem E23 (ρ : Addr → Option Value) (k lim : Nat) (x0 : AV) (H : Heap) : evCall (cx ρ) (k + 1) lim 23 [x0] H = L23 ρ (evCall (cx ρ) k) (evCY (cx ρ) k).2 lim k x0 H := by
  rw [evCall_body (cx ρ) k lim 23 _ H Tryd.f23 c23 [2] (by kernel_rfl) (by kernel_rfl) (by kernel_rfl) (by kernel_rfl) (by kernel_rfl)]
  exact G23 ρ (evCall (cx ρ) k) (evCY (cx ρ) k).2 lim k x0 H
-- (*strings.Builder).String
noncomputable def c25 : Code := Code.of Tryd.prog 25
noncomputable def L25 (ρ : Addr → Option Value) (call : CallF) (yc : YieldF) (lim k : Nat) (x0 : AV) (H : Heap) : Res :=
  purK (nilChkA x0) fun x4 =>
  purK (addA 1 x4) fun x5 =>
  purK (ld1 ρ H x5) fun x6 =>
  purK (nilChkA x0) fun x9 =>
  purK (addA 1 x9) fun x10 =>
  purK (ld1 ρ H x10) fun x11 =>
  purK (lenS x11) fun x12 =>
  effK H (builtinA (cx ρ) lim H .unsafeSliceData #[52] [x6]) fun x7 H => bif (agn (lenS x11) x12 && (agn (ld1 ρ H x10) x11 && true)) then
    effK H (builtinA (cx ρ) lim H .unsafeString #[84, 3] [x7, x12]) fun x13 H =>
    retK [x13] H
  else none
theorem G25 (ρ : Addr → Option Value) (call : CallF) (yc : YieldF) (lim k : Nat) (x0 : AV) (H : Heap) :
    evL (cx ρ) call yc false 25 lim k c25 [x0, (.tup []), (.tup []), (.tup []), (.tup []), (.tup []), (.tup []), (.tup []), (.tup []), (.tup []), (.tup []), (.tup []), (.tup []), (.tup [])] H (kk none (fun s H => retK (([2] : List Nat).map fun t => s.getD t (.tup [])) H) [] retK [2]) = L25 ρ call yc lim k x0 H := by
  kernel_rfl
theorem E25 (ρ : Addr → Option Value) (k lim : Nat) (x0 : AV) (H : Heap) : evCall (cx ρ) (k + 1) lim 25 [x0] H = L25 ρ (evCall (cx ρ) k) (evCY (cx ρ) k).2 lim k x0 H := by
  rw [evCall_body (cx ρ) k lim 25 _ H Tryd.f25 c25 [2] (by kernel_rfl) (by kernel_rfl) (by kernel_rfl) (by kernel_rfl) (by kernel_rfl)]
  exact G25 ρ (evCall (cx ρ) k) (evCY (cx ρ) k).2 lim k x0 H
-- strings.CutPrefix
noncomputable def c26 : Code := Code.of Tryd.prog 26
noncomputable def L26 (ρ : Addr → Option Value) (call : CallF) (yc : YieldF) (lim k : Nat) (x0 x1 : AV) (H : Heap) : Res :=
  resK (call lim 46 [x0, x1] H) fun x8 H =>
  purK (extA 0 x8) fun x9 =>
  purK (extA 1 x8) fun x10 =>
  retK [x9, x10] H
theorem G26 (ρ : Addr → Option Value) (call : CallF) (yc : YieldF) (lim k : Nat) (x0 x1 : AV) (H : Heap) :
    evL (cx ρ) call yc false 26 lim k c26 [x0, x1, (.tup []), (.tup []), (.tup []), (.tup []), (.tup []), (.tup []), (.tup []), (.tup []), (.tup [])] H (kk none (fun s H => retK (([4, 5] : List Nat).map fun t => s.getD t (.tup [])) H) [] retK [4, 5]) = L26 ρ call yc lim k x0 x1 H := by
  kernel_rfl
theorem E26 (ρ : Addr → Option Value) (k lim : Nat) (x0 x1 : AV) (H : Heap) : evCall (cx ρ) (k + 1) lim 26 [x0, x1] H = L26 ρ (evCall (cx ρ) k) (evCY (cx ρ) k).2 lim k x0 x1 H := by
  rw [evCall_body (cx ρ) k lim 26 _ H Tryd.f26 c26 [4, 5] (by kernel_rfl) (by kernel_rfl) (by kernel_rfl) (by kernel_rfl) (by kernel_rfl)]
  exact G26 ρ (evCall (cx ρ) k) (evCY (cx ρ) k).2 lim k x0 x1 H
-- strings.IndexByte
noncomputable def c27 : Code := Code.of Tryd.prog 27
noncomputable def L27 (ρ : Addr → Option Value) (call : CallF) (yc : YieldF) (lim k : Nat) (x0 x1 : AV) (H : Heap) : Res :=
  resK (call lim 47 [x0, x1] H) fun x7 H =>
  retK [x7] H
theorem G27 (ρ : Addr → Option Value) (call : CallF) (yc : YieldF) (lim k : Nat) (x0 x1 : AV) (H : Heap) :
    evL (cx ρ) call yc false 27 lim k c27 [x0, x1, (.tup []), (.tup []), (.tup []), (.tup []), (.tup []), (.tup [])] H (kk none (fun s H => retK (([4] : List Nat).map fun t => s.getD t (.tup [])) H) [] retK [4]) = L27 ρ call yc lim k x0 x1 H := by
  kernel_rfl
theorem E27 (ρ : Addr → Option Value) (k lim : Nat) (x0 x1 : AV) (H : Heap) : evCall (cx ρ) (k + 1) lim 27 [x0, x1] H = L27 ρ (evCall (cx ρ) k) (evCY (cx ρ) k).2 lim k x0 x1 H := by
  rw [evCall_body (cx ρ) k lim 27 _ H Tryd.f27 c27 [4] (by kernel_rfl) (by kernel_rfl) (by kernel_rfl) (by kernel_rfl) (by kernel_rfl)]
  exact G27 ρ (evCall (cx ρ) k) (evCY (cx ρ) k).2 lim k x0 x1 H
-- haycroft/haycroftref27.plain
noncomputable def c28 : Code := Code.of Tryd.prog 28
noncomputable def L28 (ρ : Addr → Option Value) (call : CallF) (yc : YieldF) (lim k : Nat) (x0 : AV) (H : Heap) : Res :=
  purK (binA Tryd.prog H .gtr 5 x0 (.int .u8 32)) fun x4 =>
  purK (gPur (wantV x4 true) (some x0)) fun x6 =>
  purK (gPur (wantV x4 true) (binA Tryd.prog H .lss 5 x6 (.int .u8 127))) fun x7 =>
  purK (pickA x4 x7 (.bool false)) fun x8 =>
  purK (gPur (wantV x8 true) (some x0)) fun x10 =>
  purK (gPur (wantV x8 true) (binA Tryd.prog H .neq 5 x10 (.int .u8 37))) fun x11 =>
  purK (pickA x8 x11 (.bool false)) fun x12 =>
  retK [x12] H
theorem G28 (ρ : Addr → Option Value) (call : CallF) (yc : YieldF) (lim k : Nat) (x0 : AV) (H : Heap) :
    evL (cx ρ) call yc false 28 lim k c28 [x0, (.tup []), (.tup []), (.tup []), (.tup []), (.tup []), (.tup []), (.tup []), (.tup []), (.tup []), (.tup []), (.tup []), (.tup [])] H (kk none (fun s H => retK (([2] : List Nat).map fun t => s.getD t (.tup [])) H) [] retK [2]) = L28 ρ call yc lim k x0 H := by
  kernel_rfl
theorem E28 (ρ : Addr → Option Value) (k lim : Nat) (x0 : AV) (H : Heap) : evCall (cx ρ) (k + 1) lim 28 [x0] H = L28 ρ (evCall (cx ρ) k) (evCY (cx ρ) k).2 lim k x0 H := by
  rw [evCall_body (cx ρ) k lim 28 _ H Tryd.f28 c28 [2] (by kernel_rfl) (by kernel_rfl) (by kernel_rfl) (by kernel_rfl) (by kernel_rfl)]
  exact G28 ρ (evCall (cx ρ) k) (evCY (cx ρ) k).2 lim k x0 H
-- haycroft/haycroftref27.worth
noncomputable def c29 : Code := Code.of Tryd.prog 29
noncomputable def L29 (ρ : Addr → Option Value) (call : CallF) (yc : YieldF) (lim k : Nat) (x0 : AV) (H : Heap) : Res :=
  purK (binA Tryd.prog H .geq 5 x0 (.int .u8 48)) fun x4 =>
  purK (gPur (wantV x4 true) (some x0)) fun x6 =>
  purK (gPur (wantV x4 true) (binA Tryd.prog H .leq 5 x6 (.int .u8 57))) fun x7 =>
  purK (pickA x4 x7 (.bool false)) fun x8 =>
  condK x8
  (
    purK (cvI .i64 x0) fun x10 =>
    purK (binA Tryd.prog H .sub 3 x10 (.int .i64 48)) fun x11 =>
    retK [x11] H)
  (
    purK (binA Tryd.prog H .geq 5 x0 (.int .u8 65)) fun x13 =>
    purK (gPur (wantV x13 true) (some x0)) fun x15 =>
    purK (gPur (wantV x13 true) (binA Tryd.prog H .leq 5 x15 (.int .u8 70))) fun x16 =>
    purK (pickA x13 x16 (.bool false)) fun x17 =>
    condK x17
    (
      purK (cvI .i64 x0) fun x19 =>
      purK (binA Tryd.prog H .sub 3 x19 (.int .i64 55)) fun x20 =>
      retK [x20] H)
    (
      retK [(.int .i64 99)] H))
theorem G29 (ρ : Addr → Option Value) (call : CallF) (yc : YieldF) (lim k : Nat) (x0 : AV) (H : Heap) :
    evL (cx ρ) call yc false 29 lim k c29 [x0, (.tup []), (.tup []), (.tup []), (.tup []), (.tup []), (.tup []), (.tup []), (.tup []), (.tup []), (.tup []), (.tup []), (.tup []), (.tup []), (.tup []), (.tup []), (.tup []), (.tup []), (.tup []), (.tup []), (.tup [])] H (kk none (fun s H => retK (([2] : List Nat).map fun t => s.getD t (.tup [])) H) [] retK [2]) = L29 ρ call yc lim k x0 H := by
  kernel_rfl
theorem E29 (ρ : Addr → Option Value) (k lim : Nat) (x0 : AV) (H : Heap) : evCall (cx ρ) (k + 1) lim 29 [x0] H = L29 ρ (evCall (cx ρ) k) (evCY (cx ρ) k).2 lim k x0 H := by
  rw [evCall_body (cx ρ) k lim 29 _ H Tryd.f29 c29 [2] (by kernel_rfl) (by kernel_rfl) (by kernel_rfl) (by kernel_rfl) (by kernel_rfl)]
  exact G29 ρ (evCall (cx ρ) k) (evCY (cx ρ) k).2 lim k x0 H
-- internal/stringslite.Cut
noncomputable def c36 : Code := Code.of Tryd.prog 36
noncomputable def L36 (ρ : Addr → Option Value) (call : CallF) (yc : YieldF) (lim k : Nat) (x0 x1 : AV) (H : Heap) : Res :=
  resK (call lim 52 [x0, x1] H) fun x10 H =>
  purK (binA Tryd.prog H .geq 3 x10 (.int .i64 0)) fun x12 =>
  condK x12
  (
    purK (slT x0 none (some x10)) fun x15 =>
    purK (lenT x1) fun x19 =>
    purK (binA Tryd.prog H .add 3 x10 x19) fun x20 =>
    purK (slT x0 (some x20) none) fun x21 =>
    retK [x15, x21, (.bool true)] H)
  (
    retK [x0, (.str (ByteArray.mk #[])), (.bool false)] H)
theorem G36 (ρ : Addr → Option Value) (call : CallF) (yc : YieldF) (lim k : Nat) (x0 x1 : AV) (H : Heap) :
    evL (cx ρ) call yc false 36 lim k c36 [x0, x1, (.tup []), (.tup []), (.tup []), (.tup []), (.tup []), (.tup []), (.tup []), (.tup []), (.tup []), (.tup []), (.tup []), (.tup []), (.tup []), (.tup []), (.tup []), (.tup []), (.tup []), (.tup []), (.tup []), (.tup []), (.tup [])] H (kk none (fun s H => retK (([4, 5, 6] : List Nat).map fun t => s.getD t (.tup [])) H) [] retK [4, 5, 6]) = L36 ρ call yc lim k x0 x1 H := by
  kernel_rfl
theorem E36 (ρ : Addr → Option Value) (k lim : Nat) (x0 x1 : AV) (H : Heap) : evCall (cx ρ) (k + 1) lim 36 [x0, x1] H = L36 ρ (evCall (cx ρ) k) (evCY (cx ρ) k).2 lim k x0 x1 H := by
  rw [evCall_body (cx ρ) k lim 36 _ H Tryd.f36 c36 [4, 5, 6] (by kernel_rfl) (by kernel_rfl) (by kernel_rfl) (by kernel_rfl) (by kernel_rfl)]
  exact G36 ρ (evCall (cx ρ) k) (evCY (cx ρ) k).2 lim k x0 x1 H
-- strings.Split
noncomputable def c37 : Code := Code.of Tryd.prog 37
noncomputable def L37 (ρ : Addr → Option Value) (call : CallF) (yc : YieldF) (lim k : Nat) (x0 x1 : AV) (H : Heap) : Res :=
  resK (call lim 53 [x0, x1, (.int .i64 0), (.int .i64 (-1))] H) fun x7 H =>
  retK [x7] H
theorem G37 (ρ : Addr → Option Value) (call : CallF) (yc : YieldF) (lim k : Nat) (x0 x1 : AV) (H : Heap) :
    evL (cx ρ) call yc false 37 lim k c37 [x0, x1, (.tup []), (.tup []), (.tup []), (.tup []), (.tup []), (.tup [])] H (kk none (fun s H => retK (([4] : List Nat).map fun t => s.getD t (.tup [])) H) [] retK [4]) = L37 ρ call yc lim k x0 x1 H := by
  kernel_rfl
theorem E37 (ρ : Addr → Option Value) (k lim : Nat) (x0 x1 : AV) (H : Heap) : evCall (cx ρ) (k + 1) lim 37 [x0, x1] H = L37 ρ (evCall (cx ρ) k) (evCY (cx ρ) k).2 lim k x0 x1 H := by
  rw [evCall_body (cx ρ) k lim 37 _ H Tryd.f37 c37 [4] (by kernel_rfl) (by kernel_rfl) (by kernel_rfl) (by kernel_rfl) (by kernel_rfl)]
  exact G37 ρ (evCall (cx ρ) k) (evCY (cx ρ) k).2 lim k x0 x1 H
-- slices.Index[[]string,string]
noncomputable def c38 : Code := Code.of Tryd.prog 38
noncomputable def N38_1 (ρ : Addr → Option Value) (call : CallF) (yc : YieldF) (lim k : Nat) (H : Heap) (R : List AV → Heap → Res) : Res :=
  R [(.int .i64 (-1))] H
theorem N38_1_eq (ρ : Addr → Option Value) (call : CallF) (yc : YieldF) (lim k : Nat) (H : Heap) (R : List AV → Heap → Res) :
    evL (cx ρ) call yc false 38 lim k (Code.at [1, 1] c38) (sp 19 []) H (kk none (fun s H => R (([4] : List Nat).map fun t => s.getD t (.tup [])) H) [] R [4]) = N38_1 ρ call yc lim k H R := by
  kernel_rfl
noncomputable def N38_3b (ρ : Addr → Option Value) (call : CallF) (yc : YieldF) (lim k : Nat) (x0 x1 x7 x8 : AV) (H : Heap) (kn : AV → Heap → Res) (k0 : Heap → Res) (R : List AV → Heap → Res) : Res :=
  purK (binA Tryd.prog H .lss 3 x8 x7) fun x9_1 =>
  condK x9_1
  (
    purK (ixS 1 x0 x8) fun x14_1 =>
    purK (ld1 ρ H x14_1) fun x15_1 =>
    purK (binA Tryd.prog H .eql 9 x1 x15_1) fun x16_1 =>
    condK x16_1
    (
      R [x8] H)
    (
      purK (binA Tryd.prog H .add 3 x8 (.int .i64 1)) fun x18_1 =>
      kn x18_1 H))
  (
    k0 H)
theorem N38_3b_eq (ρ : Addr → Option Value) (call : CallF) (yc : YieldF) (lim k : Nat) (x0 x1 x7 x8 : AV) (H : Heap) (kn : KS) (k0 : KS) (R : List AV → Heap → Res) :
    evL (cx ρ) call yc false 38 lim k (Code.at [1, 0, 1, 0, 0] c38) (sp 19 [(0, x0), (1, x1), (7, x7), (8, x8)]) H (kk (some [0, 1, 7, 8]) kn [(0, (some []), k0)] R [4]) = N38_3b ρ call yc lim k x0 x1 x7 x8 H (fun x8 H => kn (sp 19 [(0, x0), (1, x1), (7, x7), (8, x8)]) H) (fun H => k0 (sp 19 []) H) R := by
  kernel_rfl
noncomputable def N38_3 (ρ : Addr → Option Value) (call : CallF) (yc : YieldF) (lim k : Nat) (x0 x1 x7 x8 : AV) (H : Heap) (k0 : Heap → Res) (R : List AV → Heap → Res) : Res :=
  loopL (fun (x : AV) H kn => N38_3b ρ call yc lim k x0 x1 x7 x H (fun x8 H => kn x8 H) k0 R) k x8 H
theorem N38_3_eq (ρ : Addr → Option Value) (call : CallF) (yc : YieldF) (lim k : Nat) (x0 x1 x7 x8 : AV) (H : Heap) (kn : KS) (k0 : KS) (R : List AV → Heap → Res) :
    evL (cx ρ) call yc false 38 lim k (Code.at [1, 0, 1, 0] c38) (sp 19 [(0, x0), (1, x1), (7, x7), (8, x8)]) H (kk (some []) kn [(0, (some []), k0)] R [4]) = N38_3 ρ call yc lim k x0 x1 x7 x8 H (fun H => k0 (sp 19 []) H) R := by
  have e : Code.at [1, 0, 1, 0] c38 = .loop (Code.at [1, 0, 1, 0, 0] c38) := by kernel_rfl
  rw [e]
  unfold N38_3
  exact loop_node [0, 1, 7, 8] (fun x : AV => (sp 19 [(0, x0), (1, x1), (7, x7), (8, (x))])) (fun (x : AV) H kn => N38_3b ρ call yc lim k x0 x1 x7 x H (fun x8 H => kn x8 H) (fun H => k0 (sp 19 []) H) R) (by kernel_rfl) (fun x => by kernel_rfl) (fun x H kn => N38_3b_eq ρ call yc lim k x0 x1 x7 (x) H kn k0 R) x8 (sp 19 [(0, x0), (1, x1), (7, x7), (8, x8)]) H (by kernel_rfl)
noncomputable def N38_2 (ρ : Addr → Option Value) (call : CallF) (yc : YieldF) (lim k : Nat) (x0 x1 x7 x8 : AV) (H : Heap) (kn : Heap → Res) (R : List AV → Heap → Res) : Res :=
  N38_3 ρ call yc lim k x0 x1 x7 x8 H kn R
theorem N38_2_x (ρ : Addr → Option Value) (call : CallF) (yc : YieldF) (lim k : Nat) (J : CodeF) (x0 x1 x7 x8 : AV) (H : Heap) (kn : KS) (R : List AV → Heap → Res) :
    evX (cx ρ) call yc false 38 lim k J (Code.at [1, 0, 1] c38) (sp 19 [(0, x0), (1, x1), (7, x7), (8, x8)]) H (kk (some []) kn [] R [4]) =
  J (Code.at [1, 0, 1, 0] c38) (sp 19 [(0, x0), (1, x1), (7, x7), (8, x8)]) H (kk (some []) kn [(0, (some []), kn)] R [4]) := by
  kernel_rfl
theorem N38_2_eq (ρ : Addr → Option Value) (call : CallF) (yc : YieldF) (lim k : Nat) (x0 x1 x7 x8 : AV) (H : Heap) (kn : KS) (R : List AV → Heap → Res) :
    evL (cx ρ) call yc false 38 lim k (Code.at [1, 0, 1] c38) (sp 19 [(0, x0), (1, x1), (7, x7), (8, x8)]) H (kk (some []) kn [] R [4]) = N38_2 ρ call yc lim k x0 x1 x7 x8 H (fun H => kn (sp 19 []) H) R := by
  rw [evL_X, N38_2_x]
  simp only [← evL_X, N38_2, N38_3_eq]
noncomputable def L38 (ρ : Addr → Option Value) (call : CallF) (yc : YieldF) (lim k : Nat) (x0 x1 : AV) (H : Heap) : Res :=
  purK (lenS x0) fun x7 =>
  N38_2 ρ call yc lim k x0 x1 x7 (.int .i64 0) H (fun H =>
    N38_1 ρ call yc lim k H retK) retK
theorem L38_x (ρ : Addr → Option Value) (call : CallF) (yc : YieldF) (lim k : Nat) (J : CodeF) (x0 x1 : AV) (H : Heap) :
    evX (cx ρ) call yc false 38 lim k J c38 [x0, x1, (.tup []), (.tup []), (.tup []), (.tup []), (.tup []), (.tup []), (.tup []), (.tup []), (.tup []), (.tup []), (.tup []), (.tup []), (.tup []), (.tup []), (.tup []), (.tup []), (.tup [])] H (kk none (fun s H => retK (([4] : List Nat).map fun t => s.getD t (.tup [])) H) [] retK [4]) =
  purK (lenS x0) fun x7 =>
  J (Code.at [1, 0, 1] c38) (sp 19 [(0, x0), (1, x1), (7, x7), (8, (.int .i64 0))]) H (kk (some []) (fun s H => J (Code.at [1, 1] c38) s H (kk none (fun s H => retK (([4] : List Nat).map fun t => s.getD t (.tup [])) H) [] retK [4])) [] retK [4]) := by
  kernel_rfl
theorem G38 (ρ : Addr → Option Value) (call : CallF) (yc : YieldF) (lim k : Nat) (x0 x1 : AV) (H : Heap) :
    evL (cx ρ) call yc false 38 lim k c38 [x0, x1, (.tup []), (.tup []), (.tup []), (.tup []), (.tup []), (.tup []), (.tup []), (.tup []), (.tup []), (.tup []), (.tup []), (.tup []), (.tup []), (.tup []), (.tup []), (.tup []), (.tup [])] H (kk none (fun s H => retK (([4] : List Nat).map fun t => s.getD t (.tup [])) H) [] retK [4]) = L38 ρ call yc lim k x0 x1 H := by
  rw [evL_X, L38_x]
  simp only [← evL_X, L38, N38_1_eq, N38_2_eq]
theorem E38 (ρ : Addr → Option Value) (k lim : Nat) (x0 x1 : AV) (H : Heap) : evCall (cx ρ) (k + 1) lim 38 [x0, x1] H = L38 ρ (evCall (cx ρ) k) (evCY (cx ρ) k).2 lim k x0 x1 H := by
  rw [evCall_body (cx ρ) k lim 38 _ H Tryd.f38 c38 [4] (by kernel_rfl) (by kernel_rfl) (by kernel_rfl) (by kernel_rfl) (by kernel_rfl)]
  exact G38 ρ (evCall (cx ρ) k) (evCY (cx ρ) k).2 lim k x0 x1 H
end Go.Proofs.YtnkeebchblfbgaaDoor

-- part Sc3
/- Functions, lifted. Printed by a program of this repo. -/
set_option linter.unusedVariables false
set_option linter.unusedSimpArgs false
set_option maxRecDepth 100000
set_option maxHeartbeats 4000000
namespace Go.Proofs.YtnkeebchblfbgaaDoor
open Go.Ev Go.RowKit
-- (*haycroft/script.reader).word
noncomputable def c39 : Code := Code.of Tryd.prog 39
noncomputable def N39_1 (ρ : Addr → Option Value) (call : CallF) (yc : YieldF) (lim k : Nat) (x3 : AV) (H : Heap) (R : List AV → Heap → Res) : Res :=
  R [x3] H
theorem N39_1_eq (ρ : Addr → Option Value) (call : CallF) (yc : YieldF) (lim k : Nat) (x3 : AV) (H : Heap) (R : List AV → Heap → Res) :
    evL (cx ρ) call yc false 39 lim k (Code.at [1, 1, 1, 1] c39) (sp 28 [(3, x3)]) H (kk none (fun s H => R (([2] : List Nat).map fun t => s.getD t (.tup [])) H) [] R [2]) = N39_1 ρ call yc lim k x3 H R := by
  kernel_rfl
noncomputable def L39 (ρ : Addr → Option Value) (call : CallF) (yc : YieldF) (lim k : Nat) (x0 : AV) (H : Heap) : Res :=
  purK (nilChkA x0) fun x5 =>
  purK (addA 0 x5) fun x6 =>
  purK (ld1 ρ H x6) fun x7 =>
  purK (lenS x7) fun x8 =>
  purK (binA Tryd.prog H .eql 3 x8 (.int .i64 0)) fun x9 =>
  condK x9
  (
    purK (nilChkA x0) fun x11 =>
    purK (addA 1 x11) fun x12 =>
    effK H (stA lim H 1 x12 (.bool true)) fun _ H =>
    retK [(.str (ByteArray.mk #[]))] H)
  (
    purK (nilChkA x0) fun x14 =>
    purK (addA 0 x14) fun x15 =>
    purK (ld1 ρ H x15) fun x16 =>
    purK (ixS 1 x16 (.int .i64 0)) fun x17 =>
    purK (ld1 ρ H x17) fun x18 =>
    purK (nilChkA x0) fun x21 =>
    purK (addA 0 x21) fun x22 =>
    purK (ld1 ρ H x22) fun x23 =>
    purK (slS 1 x23 (some (.int .i64 1)) none none) fun x24 =>
    purK (nilChkA x0) fun x25 =>
    purK (addA 0 x25) fun x26 =>
    effK H (stA lim H 1 x26 x24) fun _ H =>
    N39_1 ρ call yc lim k x18 H retK)
theorem L39_x (ρ : Addr → Option Value) (call : CallF) (yc : YieldF) (lim k : Nat) (J : CodeF) (x0 : AV) (H : Heap) :
    evX (cx ρ) call yc false 39 lim k J c39 [x0, (.tup []), (.tup []), (.tup []), (.tup []), (.tup []), (.tup []), (.tup []), (.tup []), (.tup []), (.tup []), (.tup []), (.tup []), (.tup []), (.tup []), (.tup []), (.tup []), (.tup []), (.tup []), (.tup []), (.tup []), (.tup []), (.tup []), (.tup []), (.tup []), (.tup []), (.tup []), (.tup [])] H (kk none (fun s H => retK (([2] : List Nat).map fun t => s.getD t (.tup [])) H) [] retK [2]) =
  purK (nilChkA x0) fun x5 =>
  purK (addA 0 x5) fun x6 =>
  purK (ld1 ρ H x6) fun x7 =>
  purK (lenS x7) fun x8 =>
  purK (binA Tryd.prog H .eql 3 x8 (.int .i64 0)) fun x9 =>
  condK x9
  (
    purK (nilChkA x0) fun x11 =>
    purK (addA 1 x11) fun x12 =>
    effK H (stA lim H 1 x12 (.bool true)) fun _ H =>
    retK [(.str (ByteArray.mk #[]))] H)
  (
    purK (nilChkA x0) fun x14 =>
    purK (addA 0 x14) fun x15 =>
    purK (ld1 ρ H x15) fun x16 =>
    purK (ixS 1 x16 (.int .i64 0)) fun x17 =>
    purK (ld1 ρ H x17) fun x18 =>
    purK (nilChkA x0) fun x21 =>
    purK (addA 0 x21) fun x22 =>
    purK (ld1 ρ H x22) fun x23 =>
    purK (slS 1 x23 (some (.int .i64 1)) none none) fun x24 =>
    purK (nilChkA x0) fun x25 =>
    purK (addA 0 x25) fun x26 =>
    effK H (stA lim H 1 x26 x24) fun _ H =>
    J (Code.at [1, 1, 1, 1] c39) (sp 28 [(3, x18)]) H (kk none (fun s H => retK (([2] : List Nat).map fun t => s.getD t (.tup [])) H) [] retK [2])) := by
  kernel_rfl
theorem G39 (ρ : Addr → Option Value) (call : CallF) (yc : YieldF) (lim k : Nat) (x0 : AV) (H : Heap) :
    evL (cx ρ) call yc false 39 lim k c39 [x0, (.tup []), (.tup []), (.tup []), (.tup []), (.tup []), (.tup []), (.tup []), (.tup []), (.tup []), (.tup []), (.tup []), (.tup []), (.tup []), (.tup []), (.tup []), (.tup []), (.tup []), (.tup []), (.tup []), (.tup []), (.tup []), (.tup []), (.tup []), (.tup []), (.tup []), (.tup []), (.tup [])] H (kk none (fun s H => retK (([2] : List Nat).map fun t => s.getD t (.tup [])) H) [] retK [2]) = L39 ρ call yc lim k x0 H := by
  rw [evL_X, L39_x]
  simp only [← evL_X, L39, N39_1_eq]
theorem E39 (ρ : Addr → Option Value) (k lim : Nat) (x0 : AV) (H : Heap) : evCall (cx ρ) (k + 1) lim 39 [x0] H = L39 ρ (evCall (cx ρ) k) (evCY (cx ρ) k).2 lim k x0 H := by
  rw [evCall_body (cx ρ) k lim 39 _ H Tryd.f39 c39 [2] (by kernel_rfl) (by kernel_rfl) (by kernel_rfl) (by kernel_rfl) (by kernel_rfl)]
  exact G39 ρ (evCall (cx ρ) k) (evCY (cx ρ) k).2 lim k x0 H
-- (*haycroft/script.reader).number
noncomputable def c40 : Code := Code.of Tryd.prog 40
noncomputable def L40 (ρ : Addr → Option Value) (call : CallF) (yc : YieldF) (lim k : Nat) (x0 : AV) (H : Heap) : Res :=
  resK (call lim 39 [x0] H) fun x7 H =>
  resK (call lim 54 [x7, (.int .u64 999999999)] H) fun x8 H =>
  purK (extA 0 x8) fun x9 =>
  purK (extA 1 x8) fun x10 =>
  purK (nilChkA x0) fun x13 =>
  purK (addA 1 x13) fun x14 =>
  purK (ld1 ρ H x14) fun x15 =>
  purK (gPur (wantV x15 false) (some x10)) fun x17 =>
  purK (gPur (wantV x15 false) (unA .not x17)) fun x18 =>
  purK (pickA x15 (.bool true) x18) fun x19 =>
  purK (nilChkA x0) fun x20 =>
  purK (addA 1 x20) fun x21 =>
  effK H (stA lim H 1 x21 x19) fun _ H =>
  purK (cvI .i64 x9) fun x23 =>
  retK [x23] H
theorem G40 (ρ : Addr → Option Value) (call : CallF) (yc : YieldF) (lim k : Nat) (x0 : AV) (H : Heap) :
    evL (cx ρ) call yc false 40 lim k c40 [x0, (.tup []), (.tup []), (.tup []), (.tup []), (.tup []), (.tup []), (.tup []), (.tup []), (.tup []), (.tup []), (.tup []), (.tup []), (.tup []), (.tup []), (.tup []), (.tup []), (.tup []), (.tup []), (.tup []), (.tup []), (.tup []), (.tup []), (.tup [])] H (kk none (fun s H => retK (([2] : List Nat).map fun t => s.getD t (.tup [])) H) [] retK [2]) = L40 ρ call yc lim k x0 H := by
  kernel_rfl
theorem E40 (ρ : Addr → Option Value) (k lim : Nat) (x0 : AV) (H : Heap) : evCall (cx ρ) (k + 1) lim 40 [x0] H = L40 ρ (evCall (cx ρ) k) (evCY (cx ρ) k).2 lim k x0 H := by
  rw [evCall_body (cx ρ) k lim 40 _ H Tryd.f40 c40 [2] (by kernel_rfl) (by kernel_rfl) (by kernel_rfl) (by kernel_rfl) (by kernel_rfl)]
  exact G40 ρ (evCall (cx ρ) k) (evCY (cx ρ) k).2 lim k x0 H
-- (*haycroft/script.reader).op
noncomputable def c41 : Code := Code.of Tryd.prog 41
noncomputable def N41_1 (ρ : Addr → Option Value) (call : CallF) (yc : YieldF) (lim k : Nat) (x2 x4 : AV) (H : Heap) (R : List AV → Heap → Res) : Res :=
  purK (ldN ρ H 4 x4) fun x49_1 =>
  effK H (stA lim H 4 x2 x49_1) fun _ H =>
  R [x2] H
theorem N41_1_eq (ρ : Addr → Option Value) (call : CallF) (yc : YieldF) (lim k : Nat) (x2 x4 : AV) (H : Heap) (R : List AV → Heap → Res) :
    evL (cx ρ) call yc false 41 lim k (Code.at [1, 1, 1, 1] c41) (sp 50 [(2, x2), (4, x4)]) H (kk none (fun s H => R (([2] : List Nat).map fun t => s.getD t (.tup [])) H) [] R [2]) = N41_1 ρ call yc lim k x2 x4 H R := by
  kernel_rfl
noncomputable def N41_2 (ρ : Addr → Option Value) (call : CallF) (yc : YieldF) (lim k : Nat) (x0 x2 x4 x5 x6 : AV) (H : Heap) (kn : AV → AV → Heap → Res) : Res :=
  purK (addA 3 x4) fun x37_1 =>
  effK H (stA lim H 1 x37_1 x5) fun _ H =>
  purK (nilChkA x0) fun x40_1 =>
  purK (addA 1 x40_1) fun x41_1 =>
  purK (ld1 ρ H x41_1) fun x42_1 =>
  purK (gPur (wantV x42_1 false) (some x6)) fun x44_1 =>
  purK (gPur (wantV x42_1 false) (unA .not x44_1)) fun x45_1 =>
  purK (pickA x42_1 (.bool true) x45_1) fun x46_1 =>
  purK (nilChkA x0) fun x47_1 =>
  purK (addA 1 x47_1) fun x48_1 =>
  effK H (stA lim H 1 x48_1 x46_1) fun _ H =>
  kn x2 x4 H
theorem N41_2_eq (ρ : Addr → Option Value) (call : CallF) (yc : YieldF) (lim k : Nat) (x0 x2 x4 x5 x6 : AV) (H : Heap) (kn : KS) (k0 : KS) (R : List AV → Heap → Res) :
    evL (cx ρ) call yc false 41 lim k (Code.at [1, 1, 1, 0, 1, 0, 1, 1, 1, 1, 1, 0, 1] c41) (sp 50 [(0, x0), (2, x2), (4, x4), (5, x5), (6, x6)]) H (kk (some [2, 4]) kn [(0, (some [2, 4]), k0)] R [2]) = N41_2 ρ call yc lim k x0 x2 x4 x5 x6 H (fun x2 x4 H => kn (sp 50 [(2, x2), (4, x4)]) H) := by
  kernel_rfl
noncomputable def L41 (ρ : Addr → Option Value) (call : CallF) (yc : YieldF) (lim k : Nat) (x0 : AV) (H : Heap) : Res :=
  effK H (some (.ptr H.sz 0 0, .new (newCells 40 false [.int .i64 0, .str ByteArray.empty, .str ByteArray.empty, .int .u64 0]))) fun x2 H =>
  resK (call lim 39 [x0] H) fun x8 H =>
  purK (slR 1 5 (.xp ⟨1, 0, none⟩) none none none) fun x9 =>
  resK (call lim 38 [x9, x8] H) fun x11 H =>
  purK (foldsA maxA [x11, (.int .i64 0)]) fun x12 =>
  resK (call lim 55 [x0] H) fun x14 H =>
  purK (bldA [.int .i64 0, .str ByteArray.empty, .str ByteArray.empty, .int .u64 0] [(0, 1, x12), (1, 1, x14)]) fun x15 =>
  effK H (some (.ptr H.sz 0 0, .new (newCells 40 false [.int .i64 0, .str ByteArray.empty, .str ByteArray.empty, .int .u64 0]))) fun x4 H =>
  effK H (stA lim H 4 x4 x15) fun _ H =>
  purK (addA 0 x4) fun x16 =>
  purK (ld1 ρ H x16) fun x17 =>
  purK (binA Tryd.prog H .eql 3 x17 (.int .i64 0)) fun x19 =>
  condK x19
  (
    purK (nilChkA x0) fun x21 =>
    purK (addA 1 x21) fun x22 =>
    effK H (stA lim H 1 x22 (.bool true)) fun _ H =>
    N41_1 ρ call yc lim k x2 x4 H (retC (cx ρ) [some 40]))
  (
    purK (binA Tryd.prog H .eql 3 x17 (.int .i64 2)) fun x24 =>
    condK x24
    (
      resK (call lim 55 [x0] H) fun x26 H =>
      purK (addA 2 x4) fun x27 =>
      effK H (stA lim H 1 x27 x26) fun _ H =>
      N41_1 ρ call yc lim k x2 x4 H (retC (cx ρ) [some 40]))
    (
      purK (binA Tryd.prog H .eql 3 x17 (.int .i64 3)) fun x29 =>
      condK x29
      (
        resK (call lim 39 [x0] H) fun x32 H =>
        resK (call lim 54 [x32, (.int .u64 18446744073709551615)] H) fun x33 H =>
        purK (extA 0 x33) fun x34 =>
        purK (extA 1 x33) fun x35 =>
        N41_2 ρ call yc lim k x0 x2 x4 x34 x35 H (fun x2_1 x4_1 H =>
          N41_1 ρ call yc lim k x2_1 x4_1 H (retC (cx ρ) [some 40])))
      (
        N41_1 ρ call yc lim k x2 x4 H (retC (cx ρ) [some 40]))))
theorem L41_x (ρ : Addr → Option Value) (call : CallF) (yc : YieldF) (lim k : Nat) (J : CodeF) (x0 : AV) (H : Heap) :
    evX (cx ρ) call yc false 41 lim k J c41 [x0, (.tup []), (.tup []), (.tup []), (.tup []), (.tup []), (.tup []), (.tup []), (.tup []), (.tup []), (.tup []), (.tup []), (.tup []), (.tup []), (.tup []), (.tup []), (.tup []), (.tup []), (.tup []), (.tup []), (.tup []), (.tup []), (.tup []), (.tup []), (.tup []), (.tup []), (.tup []), (.tup []), (.tup []), (.tup []), (.tup []), (.tup []), (.tup []), (.tup []), (.tup []), (.tup []), (.tup []), (.tup []), (.tup []), (.tup []), (.tup []), (.tup []), (.tup []), (.tup []), (.tup []), (.tup []), (.tup []), (.tup []), (.tup []), (.tup [])] H (kk none (fun s H => (retC (cx ρ) [some 40]) (([2] : List Nat).map fun t => s.getD t (.tup [])) H) [] (retC (cx ρ) [some 40]) [2]) =
  effK H (some (.ptr H.sz 0 0, .new (newCells 40 false [.int .i64 0, .str ByteArray.empty, .str ByteArray.empty, .int .u64 0]))) fun x2 H =>
  resK (call lim 39 [x0] H) fun x8 H =>
  purK (slR 1 5 (.xp ⟨1, 0, none⟩) none none none) fun x9 =>
  resK (call lim 38 [x9, x8] H) fun x11 H =>
  purK (foldsA maxA [x11, (.int .i64 0)]) fun x12 =>
  resK (call lim 55 [x0] H) fun x14 H =>
  purK (bldA [.int .i64 0, .str ByteArray.empty, .str ByteArray.empty, .int .u64 0] [(0, 1, x12), (1, 1, x14)]) fun x15 =>
  effK H (some (.ptr H.sz 0 0, .new (newCells 40 false [.int .i64 0, .str ByteArray.empty, .str ByteArray.empty, .int .u64 0]))) fun x4 H =>
  effK H (stA lim H 4 x4 x15) fun _ H =>
  purK (addA 0 x4) fun x16 =>
  purK (ld1 ρ H x16) fun x17 =>
  purK (binA Tryd.prog H .eql 3 x17 (.int .i64 0)) fun x19 =>
  condK x19
  (
    purK (nilChkA x0) fun x21 =>
    purK (addA 1 x21) fun x22 =>
    effK H (stA lim H 1 x22 (.bool true)) fun _ H =>
    J (Code.at [1, 1, 1, 1] c41) (sp 50 [(2, x2), (4, x4)]) H (kk none (fun s H => (retC (cx ρ) [some 40]) (([2] : List Nat).map fun t => s.getD t (.tup [])) H) [] (retC (cx ρ) [some 40]) [2]))
  (
    purK (binA Tryd.prog H .eql 3 x17 (.int .i64 2)) fun x24 =>
    condK x24
    (
      resK (call lim 55 [x0] H) fun x26 H =>
      purK (addA 2 x4) fun x27 =>
      effK H (stA lim H 1 x27 x26) fun _ H =>
      J (Code.at [1, 1, 1, 1] c41) (sp 50 [(2, x2), (4, x4)]) H (kk none (fun s H => (retC (cx ρ) [some 40]) (([2] : List Nat).map fun t => s.getD t (.tup [])) H) [] (retC (cx ρ) [some 40]) [2]))
    (
      purK (binA Tryd.prog H .eql 3 x17 (.int .i64 3)) fun x29 =>
      condK x29
      (
        resK (call lim 39 [x0] H) fun x32 H =>
        resK (call lim 54 [x32, (.int .u64 18446744073709551615)] H) fun x33 H =>
        purK (extA 0 x33) fun x34 =>
        purK (extA 1 x33) fun x35 =>
        J (Code.at [1, 1, 1, 0, 1, 0, 1, 1, 1, 1, 1, 0, 1] c41) (sp 50 [(0, x0), (2, x2), (4, x4), (5, x34), (6, x35)]) H (kk (some [2, 4]) (fun s H => J (Code.at [1, 1, 1, 1] c41) s H (kk none (fun s H => (retC (cx ρ) [some 40]) (([2] : List Nat).map fun t => s.getD t (.tup [])) H) [] (retC (cx ρ) [some 40]) [2])) [(0, (some [2, 4]), (fun s H => J (Code.at [1, 1, 1, 1] c41) s H (kk none (fun s H => (retC (cx ρ) [some 40]) (([2] : List Nat).map fun t => s.getD t (.tup [])) H) [] (retC (cx ρ) [some 40]) [2])))] (retC (cx ρ) [some 40]) [2]))
      (
        J (Code.at [1, 1, 1, 1] c41) (sp 50 [(2, x2), (4, x4)]) H (kk none (fun s H => (retC (cx ρ) [some 40]) (([2] : List Nat).map fun t => s.getD t (.tup [])) H) [] (retC (cx ρ) [some 40]) [2])))) := by
  kernel_rfl
theorem G41 (ρ : Addr → Option Value) (call : CallF) (yc : YieldF) (lim k : Nat) (x0 : AV) (H : Heap) :
    evL (cx ρ) call yc false 41 lim k c41 [x0, (.tup []), (.tup []), (.tup []), (.tup []), (.tup []), (.tup []), (.tup []), (.tup []), (.tup []), (.tup []), (.tup []), (.tup []), (.tup []), (.tup []), (.tup []), (.tup []), (.tup []), (.tup []), (.tup []), (.tup []), (.tup []), (.tup []), (.tup []), (.tup []), (.tup []), (.tup []), (.tup []), (.tup []), (.tup []), (.tup []), (.tup []), (.tup []), (.tup []), (.tup []), (.tup []), (.tup []), (.tup []), (.tup []), (.tup []), (.tup []), (.tup []), (.tup []), (.tup []), (.tup []), (.tup []), (.tup []), (.tup []), (.tup []), (.tup [])] H (kk none (fun s H => (retC (cx ρ) [some 40]) (([2] : List Nat).map fun t => s.getD t (.tup [])) H) [] (retC (cx ρ) [some 40]) [2]) = L41 ρ call yc lim k x0 H := by
  rw [evL_X, L41_x]
  simp only [← evL_X, L41, N41_1_eq, N41_2_eq]
theorem E41 (ρ : Addr → Option Value) (k lim : Nat) (x0 : AV) (H : Heap) : evCall (cx ρ) (k + 1) lim 41 [x0] H = L41 ρ (evCall (cx ρ) k) (evCY (cx ρ) k).2 lim k x0 H := by
  rw [evCall_cells (cx ρ) k lim 41 _ H Tryd.f41 c41 [2] [some 40] (by kernel_rfl) (by kernel_rfl) (by kernel_rfl) (by kernel_rfl) (by kernel_rfl) (by kernel_rfl)]
  exact G41 ρ (evCall (cx ρ) k) (evCY (cx ρ) k).2 lim k x0 H
-- haycroft/haycroftref27.Kind
noncomputable def c42 : Code := Code.of Tryd.prog 42
noncomputable def N42_1 (ρ : Addr → Option Value) (call : CallF) (yc : YieldF) (lim k : Nat) (H : Heap) (R : List AV → Heap → Res) : Res :=
  R [(.int .i64 0)] H
theorem N42_1_eq (ρ : Addr → Option Value) (call : CallF) (yc : YieldF) (lim k : Nat) (H : Heap) (R : List AV → Heap → Res) :
    evL (cx ρ) call yc false 42 lim k (Code.at [1, 1, 1] c42) (sp 20 []) H (kk none (fun s H => R (([2] : List Nat).map fun t => s.getD t (.tup [])) H) [] R [2]) = N42_1 ρ call yc lim k H R := by
  kernel_rfl
noncomputable def N42_3b (ρ : Addr → Option Value) (call : CallF) (yc : YieldF) (lim k : Nat) (x0 x3 x4 : AV) (H : Heap) (kn : AV → Heap → Res) (k0 : Heap → Res) (R : List AV → Heap → Res) : Res :=
  purK (lenS x3) fun x8_1 =>
  purK (binA Tryd.prog H .lss 3 x4 x8_1) fun x9_1 =>
  condK x9_1
  (
    purK (ixS 1 x3 x4) fun x14_1 =>
    purK (ld1 ρ H x14_1) fun x15_1 =>
    purK (binA Tryd.prog H .eql 9 x15_1 x0) fun x17_1 =>
    condK x17_1
    (
      purK (binA Tryd.prog H .add 3 x4 (.int .i64 1)) fun x19_1 =>
      R [x19_1] H)
    (
      purK (binA Tryd.prog H .add 3 x4 (.int .i64 1)) fun x11_1 =>
      kn x11_1 H))
  (
    k0 H)
theorem N42_3b_eq (ρ : Addr → Option Value) (call : CallF) (yc : YieldF) (lim k : Nat) (x0 x3 x4 : AV) (H : Heap) (kn : KS) (k0 : KS) (R : List AV → Heap → Res) :
    evL (cx ρ) call yc false 42 lim k (Code.at [1, 1, 0, 1, 0, 0] c42) (sp 20 [(0, x0), (3, x3), (4, x4)]) H (kk (some [0, 3, 4]) kn [(0, (some []), k0)] R [2]) = N42_3b ρ call yc lim k x0 x3 x4 H (fun x4 H => kn (sp 20 [(0, x0), (3, x3), (4, x4)]) H) (fun H => k0 (sp 20 []) H) R := by
  kernel_rfl
noncomputable def N42_3 (ρ : Addr → Option Value) (call : CallF) (yc : YieldF) (lim k : Nat) (x0 x3 x4 : AV) (H : Heap) (k0 : Heap → Res) (R : List AV → Heap → Res) : Res :=
  loopL (fun (x : AV) H kn => N42_3b ρ call yc lim k x0 x3 x H (fun x4 H => kn x4 H) k0 R) k x4 H
theorem N42_3_eq (ρ : Addr → Option Value) (call : CallF) (yc : YieldF) (lim k : Nat) (x0 x3 x4 : AV) (H : Heap) (kn : KS) (k0 : KS) (R : List AV → Heap → Res) :
    evL (cx ρ) call yc false 42 lim k (Code.at [1, 1, 0, 1, 0] c42) (sp 20 [(0, x0), (3, x3), (4, x4)]) H (kk (some []) kn [(0, (some []), k0)] R [2]) = N42_3 ρ call yc lim k x0 x3 x4 H (fun H => k0 (sp 20 []) H) R := by
  have e : Code.at [1, 1, 0, 1, 0] c42 = .loop (Code.at [1, 1, 0, 1, 0, 0] c42) := by kernel_rfl
  rw [e]
  unfold N42_3
  exact loop_node [0, 3, 4] (fun x : AV => (sp 20 [(0, x0), (3, x3), (4, (x))])) (fun (x : AV) H kn => N42_3b ρ call yc lim k x0 x3 x H (fun x4 H => kn x4 H) (fun H => k0 (sp 20 []) H) R) (by kernel_rfl) (fun x => by kernel_rfl) (fun x H kn => N42_3b_eq ρ call yc lim k x0 x3 (x) H kn k0 R) x4 (sp 20 [(0, x0), (3, x3), (4, x4)]) H (by kernel_rfl)
noncomputable def N42_2 (ρ : Addr → Option Value) (call : CallF) (yc : YieldF) (lim k : Nat) (x0 x3 x4 : AV) (H : Heap) (kn : Heap → Res) (R : List AV → Heap → Res) : Res :=
  N42_3 ρ call yc lim k x0 x3 x4 H kn R
theorem N42_2_x (ρ : Addr → Option Value) (call : CallF) (yc : YieldF) (lim k : Nat) (J : CodeF) (x0 x3 x4 : AV) (H : Heap) (kn : KS) (R : List AV → Heap → Res) :
    evX (cx ρ) call yc false 42 lim k J (Code.at [1, 1, 0, 1] c42) (sp 20 [(0, x0), (3, x3), (4, x4)]) H (kk (some []) kn [] R [2]) =
  J (Code.at [1, 1, 0, 1, 0] c42) (sp 20 [(0, x0), (3, x3), (4, x4)]) H (kk (some []) kn [(0, (some []), kn)] R [2]) := by
  kernel_rfl
theorem N42_2_eq (ρ : Addr → Option Value) (call : CallF) (yc : YieldF) (lim k : Nat) (x0 x3 x4 : AV) (H : Heap) (kn : KS) (R : List AV → Heap → Res) :
    evL (cx ρ) call yc false 42 lim k (Code.at [1, 1, 0, 1] c42) (sp 20 [(0, x0), (3, x3), (4, x4)]) H (kk (some []) kn [] R [2]) = N42_2 ρ call yc lim k x0 x3 x4 H (fun H => kn (sp 20 []) H) R := by
  rw [evL_X, N42_2_x]
  simp only [← evL_X, N42_2, N42_3_eq]
noncomputable def L42 (ρ : Addr → Option Value) (call : CallF) (yc : YieldF) (lim k : Nat) (x0 : AV) (H : Heap) : Res :=
  effK H (bldS H 9 1 [.str ByteArray.empty] 10 [(0, 1, (.str (ByteArray.mk #[97, 115, 107]))), (1, 1, (.str (ByteArray.mk #[109, 111, 118, 101]))), (2, 1, (.str (ByteArray.mk #[114, 101, 115, 117, 109, 101]))), (3, 1, (.str (ByteArray.mk #[100, 111]))), (4, 1, (.str (ByteArray.mk #[114, 101, 97, 100, 111, 110, 108, 121]))), (5, 1, (.str (ByteArray.mk #[104, 101, 97, 100]))), (6, 1, (.str (ByteArray.mk #[102, 108, 117, 115, 104]))), (7, 1, (.str (ByteArray.mk #[115, 97, 118, 101]))), (8, 1, (.str (ByteArray.mk #[99, 114, 97, 115, 104]))), (9, 1, (.str (ByteArray.mk #[115, 116, 97, 114, 116])))]) fun x5 H =>
  N42_2 ρ call yc lim k x0 x5 (.int .i64 0) H (fun H =>
    N42_1 ρ call yc lim k H retK) retK
theorem L42_x (ρ : Addr → Option Value) (call : CallF) (yc : YieldF) (lim k : Nat) (J : CodeF) (x0 : AV) (H : Heap) :
    evX (cx ρ) call yc false 42 lim k J c42 [x0, (.tup []), (.tup []), (.tup []), (.tup []), (.tup []), (.tup []), (.tup []), (.tup []), (.tup []), (.tup []), (.tup []), (.tup []), (.tup []), (.tup []), (.tup []), (.tup []), (.tup []), (.tup []), (.tup [])] H (kk none (fun s H => retK (([2] : List Nat).map fun t => s.getD t (.tup [])) H) [] retK [2]) =
  effK H (bldS H 9 1 [.str ByteArray.empty] 10 [(0, 1, (.str (ByteArray.mk #[97, 115, 107]))), (1, 1, (.str (ByteArray.mk #[109, 111, 118, 101]))), (2, 1, (.str (ByteArray.mk #[114, 101, 115, 117, 109, 101]))), (3, 1, (.str (ByteArray.mk #[100, 111]))), (4, 1, (.str (ByteArray.mk #[114, 101, 97, 100, 111, 110, 108, 121]))), (5, 1, (.str (ByteArray.mk #[104, 101, 97, 100]))), (6, 1, (.str (ByteArray.mk #[102, 108, 117, 115, 104]))), (7, 1, (.str (ByteArray.mk #[115, 97, 118, 101]))), (8, 1, (.str (ByteArray.mk #[99, 114, 97, 115, 104]))), (9, 1, (.str (ByteArray.mk #[115, 116, 97, 114, 116])))]) fun x5 H =>
  J (Code.at [1, 1, 0, 1] c42) (sp 20 [(0, x0), (3, x5), (4, (.int .i64 0))]) H (kk (some []) (fun s H => J (Code.at [1, 1, 1] c42) s H (kk none (fun s H => retK (([2] : List Nat).map fun t => s.getD t (.tup [])) H) [] retK [2])) [] retK [2]) := by
  kernel_rfl
theorem G42 (ρ : Addr → Option Value) (call : CallF) (yc : YieldF) (lim k : Nat) (x0 : AV) (H : Heap) :
    evL (cx ρ) call yc false 42 lim k c42 [x0, (.tup []), (.tup []), (.tup []), (.tup []), (.tup []), (.tup []), (.tup []), (.tup []), (.tup []), (.tup []), (.tup []), (.tup []), (.tup []), (.tup []), (.tup []), (.tup []), (.tup []), (.tup []), (.tup [])] H (kk none (fun s H => retK (([2] : List Nat).map fun t => s.getD t (.tup [])) H) [] retK [2]) = L42 ρ call yc lim k x0 H := by
  rw [evL_X, L42_x]
  simp only [← evL_X, L42, N42_1_eq, N42_2_eq]
theorem E42 (ρ : Addr → Option Value) (k lim : Nat) (x0 : AV) (H : Heap) : evCall (cx ρ) (k + 1) lim 42 [x0] H = L42 ρ (evCall (cx ρ) k) (evCY (cx ρ) k).2 lim k x0 H := by
  rw [evCall_body (cx ρ) k lim 42 _ H Tryd.f42 c42 [2] (by kernel_rfl) (by kernel_rfl) (by kernel_rfl) (by kernel_rfl) (by kernel_rfl)]
  exact G42 ρ (evCall (cx ρ) k) (evCY (cx ρ) k).2 lim k x0 H
-- haycroft/haycroftref27.Number
noncomputable def c43 : Code := Code.of Tryd.prog 43
noncomputable def N43_1 (ρ : Addr → Option Value) (call : CallF) (yc : YieldF) (lim k : Nat) (x6 : AV) (H : Heap) (R : List AV → Heap → Res) : Res :=
  R [x6, (.bool true)] H
theorem N43_1_eq (ρ : Addr → Option Value) (call : CallF) (yc : YieldF) (lim k : Nat) (x6 : AV) (H : Heap) (R : List AV → Heap → Res) :
    evL (cx ρ) call yc false 43 lim k (Code.at [1, 1, 1, 1] c43) (sp 64 [(6, x6)]) H (kk none (fun s H => R (([4, 5] : List Nat).map fun t => s.getD t (.tup [])) H) [] R [4, 5]) = N43_1 ρ call yc lim k x6 H R := by
  kernel_rfl
noncomputable def N43_4 (ρ : Addr → Option Value) (call : CallF) (yc : YieldF) (lim k : Nat) (x0 x1 x6 x7 : AV) (H : Heap) (kn : AV → AV → Heap → Res) : Res :=
  purK (binA Tryd.prog H .add 3 x7 (.int .i64 1)) fun x32_1 =>
  kn x6 x32_1 H
theorem N43_4_eq (ρ : Addr → Option Value) (call : CallF) (yc : YieldF) (lim k : Nat) (x0 x1 x6 x7 : AV) (H : Heap) (kn : KS) (k0 : KS) (R : List AV → Heap → Res) :
    evL (cx ρ) call yc false 43 lim k (Code.at [1, 1, 1, 0, 1, 0, 0, 1, 1] c43) (sp 64 [(0, x0), (1, x1), (6, x6), (7, x7)]) H (kk (some [0, 1, 6, 7]) kn [(0, (some [6]), k0)] R [4, 5]) = N43_4 ρ call yc lim k x0 x1 x6 x7 H (fun x6 x7 H => kn (sp 64 [(0, x0), (1, x1), (6, x6), (7, x7)]) H) := by
  kernel_rfl
noncomputable def N43_5 (ρ : Addr → Option Value) (call : CallF) (yc : YieldF) (lim k : Nat) (x0 x1 x6 x7 x8 : AV) (H : Heap) (kn : AV → AV → Heap → Res) : Res :=
  purK (binA Tryd.prog H .mul 38 (.int .u64 10) x6) fun x60_1 =>
  purK (binA Tryd.prog H .add 38 x60_1 x8) fun x62_1 =>
  kn x62_1 x7 H
theorem N43_5_eq (ρ : Addr → Option Value) (call : CallF) (yc : YieldF) (lim k : Nat) (x0 x1 x6 x7 x8 : AV) (H : Heap) (kn : KS) (k1 : KS) (k0 : KS) (R : List AV → Heap → Res) :
    evL (cx ρ) call yc false 43 lim k (Code.at [1, 1, 1, 0, 1, 0, 0, 1, 0, 0, 1, 1, 1] c43) (sp 64 [(0, x0), (1, x1), (6, x6), (7, x7), (8, x8)]) H (kk (some [0, 1, 6, 7]) kn [(1, (some [0, 1, 6, 7]), k1), (0, (some [6]), k0)] R [4, 5]) = N43_5 ρ call yc lim k x0 x1 x6 x7 x8 H (fun x6 x7 H => kn (sp 64 [(0, x0), (1, x1), (6, x6), (7, x7)]) H) := by
  kernel_rfl
noncomputable def N43_6 (ρ : Addr → Option Value) (call : CallF) (yc : YieldF) (lim k : Nat) (x0 x1 x6 x7 x8 x58 : AV) (H : Heap) (kn : AV → AV → AV → Heap → Res) (R : List AV → Heap → Res) : Res :=
  condK x58
  (
    R [(.int .u64 0), (.bool false)] H)
  (
    kn x6 x7 x8 H)
theorem N43_6_eq (ρ : Addr → Option Value) (call : CallF) (yc : YieldF) (lim k : Nat) (x0 x1 x6 x7 x8 x58 : AV) (H : Heap) (kn : KS) (k1 : KS) (k0 : KS) (R : List AV → Heap → Res) :
    evL (cx ρ) call yc false 43 lim k (Code.at [1, 1, 1, 0, 1, 0, 0, 1, 0, 0, 1, 1, 0, 1] c43) (sp 64 [(0, x0), (1, x1), (6, x6), (7, x7), (8, x8), (58, x58)]) H (kk (some [0, 1, 6, 7, 8]) kn [(1, (some [0, 1, 6, 7]), k1), (0, (some [6]), k0)] R [4, 5]) = N43_6 ρ call yc lim k x0 x1 x6 x7 x8 x58 H (fun x6 x7 x8 H => kn (sp 64 [(0, x0), (1, x1), (6, x6), (7, x7), (8, x8)]) H) R := by
  kernel_rfl
noncomputable def N43_3b (ρ : Addr → Option Value) (call : CallF) (yc : YieldF) (lim k : Nat) (x0 x1 x6 x7 : AV) (H : Heap) (kn : AV → AV → Heap → Res) (k0 : AV → Heap → Res) (R : List AV → Heap → Res) : Res :=
  purK (lenT x0) fun x29_1 =>
  purK (binA Tryd.prog H .lss 3 x7 x29_1) fun x30_1 =>
  condK x30_1
  (
    purK (ixT x0 x7) fun x35_1 =>
    purK (binA Tryd.prog H .lss 5 x35_1 (.int .u8 48)) fun x36_1 =>
    purK (gPur (wantV x36_1 false) (some x0)) fun x38_1 =>
    purK (gPur (wantV x36_1 false) (some x7)) fun x39_1 =>
    purK (gPur (wantV x36_1 false) (ixT x38_1 x39_1)) fun x40_1 =>
    purK (gPur (wantV x36_1 false) (binA Tryd.prog H .gtr 5 x40_1 (.int .u8 57))) fun x41_1 =>
    purK (pickA x36_1 (.bool true) x41_1) fun x42_1 =>
    condK x42_1
    (
      R [(.int .u64 0), (.bool false)] H)
    (
      purK (ixT x0 x7) fun x45_1 =>
      purK (cvI .u64 x45_1) fun x46_1 =>
      purK (binA Tryd.prog H .sub 38 x46_1 (.int .u64 48)) fun x47_1 =>
      purK (binA Tryd.prog H .sub 38 x1 x47_1) fun x51_1 =>
      purK (binA Tryd.prog H .quo 38 x51_1 (.int .u64 10)) fun x52_1 =>
      purK (binA Tryd.prog H .gtr 38 x6 x52_1) fun x53_1 =>
      purK (gPur (wantV x53_1 false) (some x47_1)) fun x55_1 =>
      purK (gPur (wantV x53_1 false) (some x1)) fun x56_1 =>
      purK (gPur (wantV x53_1 false) (binA Tryd.prog H .gtr 38 x55_1 x56_1)) fun x57_1 =>
      purK (pickA x53_1 (.bool true) x57_1) fun x58_1 =>
      N43_6 ρ call yc lim k x0 x1 x6 x7 x47_1 x58_1 H (fun x6_1 x7_1 x8_1 H =>
        N43_5 ρ call yc lim k x0 x1 x6_1 x7_1 x8_1 H (fun x6_2 x7_2 H =>
          N43_4 ρ call yc lim k x0 x1 x6_2 x7_2 H kn)) R))
  (
    k0 x6 H)
theorem N43_3b_x (ρ : Addr → Option Value) (call : CallF) (yc : YieldF) (lim k : Nat) (J : CodeF) (x0 x1 x6 x7 : AV) (H : Heap) (kn : KS) (k0 : KS) (R : List AV → Heap → Res) :
    evX (cx ρ) call yc false 43 lim k J (Code.at [1, 1, 1, 0, 1, 0, 0] c43) (sp 64 [(0, x0), (1, x1), (6, x6), (7, x7)]) H (kk (some [0, 1, 6, 7]) kn [(0, (some [6]), k0)] R [4, 5]) =
  purK (lenT x0) fun x29_1 =>
  purK (binA Tryd.prog H .lss 3 x7 x29_1) fun x30_1 =>
  condK x30_1
  (
    purK (ixT x0 x7) fun x35_1 =>
    purK (binA Tryd.prog H .lss 5 x35_1 (.int .u8 48)) fun x36_1 =>
    purK (gPur (wantV x36_1 false) (some x0)) fun x38_1 =>
    purK (gPur (wantV x36_1 false) (some x7)) fun x39_1 =>
    purK (gPur (wantV x36_1 false) (ixT x38_1 x39_1)) fun x40_1 =>
    purK (gPur (wantV x36_1 false) (binA Tryd.prog H .gtr 5 x40_1 (.int .u8 57))) fun x41_1 =>
    purK (pickA x36_1 (.bool true) x41_1) fun x42_1 =>
    condK x42_1
    (
      R [(.int .u64 0), (.bool false)] H)
    (
      purK (ixT x0 x7) fun x45_1 =>
      purK (cvI .u64 x45_1) fun x46_1 =>
      purK (binA Tryd.prog H .sub 38 x46_1 (.int .u64 48)) fun x47_1 =>
      purK (binA Tryd.prog H .sub 38 x1 x47_1) fun x51_1 =>
      purK (binA Tryd.prog H .quo 38 x51_1 (.int .u64 10)) fun x52_1 =>
      purK (binA Tryd.prog H .gtr 38 x6 x52_1) fun x53_1 =>
      purK (gPur (wantV x53_1 false) (some x47_1)) fun x55_1 =>
      purK (gPur (wantV x53_1 false) (some x1)) fun x56_1 =>
      purK (gPur (wantV x53_1 false) (binA Tryd.prog H .gtr 38 x55_1 x56_1)) fun x57_1 =>
      purK (pickA x53_1 (.bool true) x57_1) fun x58_1 =>
      J (Code.at [1, 1, 1, 0, 1, 0, 0, 1, 0, 0, 1, 1, 0, 1] c43) (sp 64 [(0, x0), (1, x1), (6, x6), (7, x7), (8, x47_1), (58, x58_1)]) H (kk (some [0, 1, 6, 7, 8]) (fun s H => J (Code.at [1, 1, 1, 0, 1, 0, 0, 1, 0, 0, 1, 1, 1] c43) s H (kk (some [0, 1, 6, 7]) (fun s H => J (Code.at [1, 1, 1, 0, 1, 0, 0, 1, 1] c43) s H (kk (some [0, 1, 6, 7]) kn [(0, (some [6]), k0)] R [4, 5])) [(1, (some [0, 1, 6, 7]), (fun s H => J (Code.at [1, 1, 1, 0, 1, 0, 0, 1, 1] c43) s H (kk (some [0, 1, 6, 7]) kn [(0, (some [6]), k0)] R [4, 5]))), (0, (some [6]), k0)] R [4, 5])) [(1, (some [0, 1, 6, 7]), (fun s H => J (Code.at [1, 1, 1, 0, 1, 0, 0, 1, 1] c43) s H (kk (some [0, 1, 6, 7]) kn [(0, (some [6]), k0)] R [4, 5]))), (0, (some [6]), k0)] R [4, 5])))
  (
    k0 (sp 64 [(6, x6)]) H) := by
  kernel_rfl
theorem N43_3b_eq (ρ : Addr → Option Value) (call : CallF) (yc : YieldF) (lim k : Nat) (x0 x1 x6 x7 : AV) (H : Heap) (kn : KS) (k0 : KS) (R : List AV → Heap → Res) :
    evL (cx ρ) call yc false 43 lim k (Code.at [1, 1, 1, 0, 1, 0, 0] c43) (sp 64 [(0, x0), (1, x1), (6, x6), (7, x7)]) H (kk (some [0, 1, 6, 7]) kn [(0, (some [6]), k0)] R [4, 5]) = N43_3b ρ call yc lim k x0 x1 x6 x7 H (fun x6 x7 H => kn (sp 64 [(0, x0), (1, x1), (6, x6), (7, x7)]) H) (fun x6 H => k0 (sp 64 [(6, x6)]) H) R := by
  rw [evL_X, N43_3b_x]
  simp only [← evL_X, N43_3b, N43_4_eq, N43_5_eq, N43_6_eq]
noncomputable def N43_3 (ρ : Addr → Option Value) (call : CallF) (yc : YieldF) (lim k : Nat) (x0 x1 x6 x7 : AV) (H : Heap) (k0 : AV → Heap → Res) (R : List AV → Heap → Res) : Res :=
  loopL (fun (x : AV × AV) H kn => N43_3b ρ call yc lim k x0 x1 x.1 x.2 H (fun x6 x7 H => kn (x6, x7) H) k0 R) k (x6, x7) H
theorem N43_3_eq (ρ : Addr → Option Value) (call : CallF) (yc : YieldF) (lim k : Nat) (x0 x1 x6 x7 : AV) (H : Heap) (kn : KS) (k0 : KS) (R : List AV → Heap → Res) :
    evL (cx ρ) call yc false 43 lim k (Code.at [1, 1, 1, 0, 1, 0] c43) (sp 64 [(0, x0), (1, x1), (6, x6), (7, x7)]) H (kk (some [6]) kn [(0, (some [6]), k0)] R [4, 5]) = N43_3 ρ call yc lim k x0 x1 x6 x7 H (fun x6 H => k0 (sp 64 [(6, x6)]) H) R := by
  have e : Code.at [1, 1, 1, 0, 1, 0] c43 = .loop (Code.at [1, 1, 1, 0, 1, 0, 0] c43) := by kernel_rfl
  rw [e]
  unfold N43_3
  exact loop_node [0, 1, 6, 7] (fun x : AV × AV => (sp 64 [(0, x0), (1, x1), (6, (x.1)), (7, (x.2))])) (fun (x : AV × AV) H kn => N43_3b ρ call yc lim k x0 x1 x.1 x.2 H (fun x6 x7 H => kn (x6, x7) H) (fun x6 H => k0 (sp 64 [(6, x6)]) H) R) (by kernel_rfl) (fun x => by kernel_rfl) (fun x H kn => N43_3b_eq ρ call yc lim k x0 x1 (x.1) (x.2) H kn k0 R) (x6, x7) (sp 64 [(0, x0), (1, x1), (6, x6), (7, x7)]) H (by kernel_rfl)
noncomputable def N43_2 (ρ : Addr → Option Value) (call : CallF) (yc : YieldF) (lim k : Nat) (x0 x1 x6 x7 : AV) (H : Heap) (kn : AV → Heap → Res) (R : List AV → Heap → Res) : Res :=
  N43_3 ρ call yc lim k x0 x1 x6 x7 H kn R
theorem N43_2_x (ρ : Addr → Option Value) (call : CallF) (yc : YieldF) (lim k : Nat) (J : CodeF) (x0 x1 x6 x7 : AV) (H : Heap) (kn : KS) (R : List AV → Heap → Res) :
    evX (cx ρ) call yc false 43 lim k J (Code.at [1, 1, 1, 0, 1] c43) (sp 64 [(0, x0), (1, x1), (6, x6), (7, x7)]) H (kk (some [6]) kn [] R [4, 5]) =
  J (Code.at [1, 1, 1, 0, 1, 0] c43) (sp 64 [(0, x0), (1, x1), (6, x6), (7, x7)]) H (kk (some [6]) kn [(0, (some [6]), kn)] R [4, 5]) := by
  kernel_rfl
theorem N43_2_eq (ρ : Addr → Option Value) (call : CallF) (yc : YieldF) (lim k : Nat) (x0 x1 x6 x7 : AV) (H : Heap) (kn : KS) (R : List AV → Heap → Res) :
    evL (cx ρ) call yc false 43 lim k (Code.at [1, 1, 1, 0, 1] c43) (sp 64 [(0, x0), (1, x1), (6, x6), (7, x7)]) H (kk (some [6]) kn [] R [4, 5]) = N43_2 ρ call yc lim k x0 x1 x6 x7 H (fun x6 H => kn (sp 64 [(6, x6)]) H) R := by
  rw [evL_X, N43_2_x]
  simp only [← evL_X, N43_2, N43_3_eq]
noncomputable def L43 (ρ : Addr → Option Value) (call : CallF) (yc : YieldF) (lim k : Nat) (x0 x1 : AV) (H : Heap) : Res :=
  purK (lenT x0) fun x10 =>
  purK (binA Tryd.prog H .eql 3 x10 (.int .i64 0)) fun x11 =>
  purK (gPur (wantV x11 false) (some x0)) fun x13 =>
  purK (gPur (wantV x11 false) (lenT x13)) fun x14 =>
  purK (gPur (wantV x11 false) (binA Tryd.prog H .gtr 3 x14 (.int .i64 20))) fun x15 =>
  purK (pickA x11 (.bool true) x15) fun x16 =>
  purK (gPur (wantV x16 false) (some x0)) fun x18 =>
  purK (gPur (wantV x16 false) (lenT x18)) fun x19 =>
  purK (gPur (wantV x16 false) (binA Tryd.prog H .gtr 3 x19 (.int .i64 1))) fun x20 =>
  purK (gPur (wantV x16 false) (some x20)) fun x21 =>
  purK (gPur (wantV x21 true) (some x0)) fun x22 =>
  purK (gPur (wantV x21 true) (ixT x22 (.int .i64 0))) fun x23 =>
  purK (gPur (wantV x21 true) (binA Tryd.prog H .eql 5 x23 (.int .u8 48))) fun x24 =>
  purK (gPur (wantV x16 false) (pickA x21 x24 (.bool false))) fun x25 =>
  purK (pickA x16 (.bool true) x25) fun x26 =>
  condK x26
  (
    retK [(.int .u64 0), (.bool false)] H)
  (
    N43_2 ρ call yc lim k x0 x1 (.int .u64 0) (.int .i64 0) H (fun x6 H =>
      N43_1 ρ call yc lim k x6 H retK) retK)
theorem L43_x (ρ : Addr → Option Value) (call : CallF) (yc : YieldF) (lim k : Nat) (J : CodeF) (x0 x1 : AV) (H : Heap) :
    evX (cx ρ) call yc false 43 lim k J c43 [x0, x1, (.tup []), (.tup []), (.tup []), (.tup []), (.tup []), (.tup []), (.tup []), (.tup []), (.tup []), (.tup []), (.tup []), (.tup []), (.tup []), (.tup []), (.tup []), (.tup []), (.tup []), (.tup []), (.tup []), (.tup []), (.tup []), (.tup []), (.tup []), (.tup []), (.tup []), (.tup []), (.tup []), (.tup []), (.tup []), (.tup []), (.tup []), (.tup []), (.tup []), (.tup []), (.tup []), (.tup []), (.tup []), (.tup []), (.tup []), (.tup []), (.tup []), (.tup []), (.tup []), (.tup []), (.tup []), (.tup []), (.tup []), (.tup []), (.tup []), (.tup []), (.tup []), (.tup []), (.tup []), (.tup []), (.tup []), (.tup []), (.tup []), (.tup []), (.tup []), (.tup []), (.tup []), (.tup [])] H (kk none (fun s H => retK (([4, 5] : List Nat).map fun t => s.getD t (.tup [])) H) [] retK [4, 5]) =
  purK (lenT x0) fun x10 =>
  purK (binA Tryd.prog H .eql 3 x10 (.int .i64 0)) fun x11 =>
  purK (gPur (wantV x11 false) (some x0)) fun x13 =>
  purK (gPur (wantV x11 false) (lenT x13)) fun x14 =>
  purK (gPur (wantV x11 false) (binA Tryd.prog H .gtr 3 x14 (.int .i64 20))) fun x15 =>
  purK (pickA x11 (.bool true) x15) fun x16 =>
  purK (gPur (wantV x16 false) (some x0)) fun x18 =>
  purK (gPur (wantV x16 false) (lenT x18)) fun x19 =>
  purK (gPur (wantV x16 false) (binA Tryd.prog H .gtr 3 x19 (.int .i64 1))) fun x20 =>
  purK (gPur (wantV x16 false) (some x20)) fun x21 =>
  purK (gPur (wantV x21 true) (some x0)) fun x22 =>
  purK (gPur (wantV x21 true) (ixT x22 (.int .i64 0))) fun x23 =>
  purK (gPur (wantV x21 true) (binA Tryd.prog H .eql 5 x23 (.int .u8 48))) fun x24 =>
  purK (gPur (wantV x16 false) (pickA x21 x24 (.bool false))) fun x25 =>
  purK (pickA x16 (.bool true) x25) fun x26 =>
  condK x26
  (
    retK [(.int .u64 0), (.bool false)] H)
  (
    J (Code.at [1, 1, 1, 0, 1] c43) (sp 64 [(0, x0), (1, x1), (6, (.int .u64 0)), (7, (.int .i64 0))]) H (kk (some [6]) (fun s H => J (Code.at [1, 1, 1, 1] c43) s H (kk none (fun s H => retK (([4, 5] : List Nat).map fun t => s.getD t (.tup [])) H) [] retK [4, 5])) [] retK [4, 5])) := by
  kernel_rfl
theorem G43 (ρ : Addr → Option Value) (call : CallF) (yc : YieldF) (lim k : Nat) (x0 x1 : AV) (H : Heap) :
    evL (cx ρ) call yc false 43 lim k c43 [x0, x1, (.tup []), (.tup []), (.tup []), (.tup []), (.tup []), (.tup []), (.tup []), (.tup []), (.tup []), (.tup []), (.tup []), (.tup []), (.tup []), (.tup []), (.tup []), (.tup []), (.tup []), (.tup []), (.tup []), (.tup []), (.tup []), (.tup []), (.tup []), (.tup []), (.tup []), (.tup []), (.tup []), (.tup []), (.tup []), (.tup []), (.tup []), (.tup []), (.tup []), (.tup []), (.tup []), (.tup []), (.tup []), (.tup []), (.tup []), (.tup []), (.tup []), (.tup []), (.tup []), (.tup []), (.tup []), (.tup []), (.tup []), (.tup []), (.tup []), (.tup []), (.tup []), (.tup []), (.tup []), (.tup []), (.tup []), (.tup []), (.tup []), (.tup []), (.tup []), (.tup []), (.tup []), (.tup [])] H (kk none (fun s H => retK (([4, 5] : List Nat).map fun t => s.getD t (.tup [])) H) [] retK [4, 5]) = L43 ρ call yc lim k x0 x1 H := by
  rw [evL_X, L43_x]
  simp only [← evL_X, L43, N43_1_eq, N43_2_eq]
theorem E43 (ρ : Addr → Option Value) (k lim : Nat) (x0 x1 : AV) (H : Heap) : evCall (cx ρ) (k + 1) lim 43 [x0, x1] H = L43 ρ (evCall (cx ρ) k) (evCY (cx ρ) k).2 lim k x0 x1 H := by
  rw [evCall_body (cx ρ) k lim 43 _ H Tryd.f43 c43 [4, 5] (by kernel_rfl) (by kernel_rfl) (by kernel_rfl) (by kernel_rfl) (by kernel_rfl)]
  exact G43 ρ (evCall (cx ρ) k) (evCY (cx ρ) k).2 lim k x0 x1 H
-- haycroft/haycroftref27.Ask
noncomputable def c44 : Code := Code.of Tryd.prog 44
noncomputable def N44_4 (ρ : Addr → Option Value) (call : CallF) (yc : YieldF) (lim k : Nat) (x0 x2 x4 x6 : AV) (H : Heap) (R : List AV → Heap → Res) : Res :=
  purK (ldN ρ H 4 x4) fun x77_1 =>
  boolK (wantV x6 true) fun b1 => purK (bif b1 then some x0 else some (.tup [])) fun x80_1 =>
  boolK (wantV x6 true) fun b2 => purK (bif b2 then ixS 1 x80_1 (.int .i64 0) else some (.tup [])) fun x81_1 =>
  boolK (wantV x6 true) fun b3 => purK (bif b3 then ld1 ρ H x81_1 else some (.tup [])) fun x82_1 =>
  boolK (wantV x6 true) fun b4 => purK (bif b4 then binA Tryd.prog H .eql 9 x82_1 (.str (ByteArray.mk #[97, 100, 100])) else some (.tup [])) fun x83_1 =>
  purK (pickA x6 x83_1 (.bool false)) fun x84_1 =>
  effK H (stA lim H 4 x2 x77_1) fun _ H => bif ((!b4 || agn (binA Tryd.prog H .eql 9 x82_1 (.str (ByteArray.mk #[97, 100, 100]))) x83_1) && ((!b3 || agn (ld1 ρ H x81_1) x82_1) && true)) then
    R [x2, x84_1] H
  else none
theorem N44_4_eq (ρ : Addr → Option Value) (call : CallF) (yc : YieldF) (lim k : Nat) (x0 x2 x4 x6 : AV) (H : Heap) (R : List AV → Heap → Res) :
    evL (cx ρ) call yc false 44 lim k (Code.at [1, 1, 1, 1, 1, 1, 1, 1, 1, 1, 1] c44) (sp 85 [(0, x0), (2, x2), (4, x4), (6, x6)]) H (kk none (fun s H => R (([2, 3] : List Nat).map fun t => s.getD t (.tup [])) H) [] R [2, 3]) = N44_4 ρ call yc lim k x0 x2 x4 x6 H R := by
  kernel_rfl
noncomputable def N44_3 (ρ : Addr → Option Value) (call : CallF) (yc : YieldF) (lim k : Nat) (x0 x2 x4 : AV) (H : Heap) (R : List AV → Heap → Res) : Res :=
  purK (addA 0 x4) fun x68_1 =>
  effK H (stA lim H 1 x68_1 (.int .i64 3)) fun _ H =>
  purK (ixS 1 x0 (.int .i64 2)) fun x71_1 =>
  purK (ld1 ρ H x71_1) fun x72_1 =>
  resK (call lim 43 [x72_1, (.int .u64 18446744073709551615)] H) fun x73_1 H =>
  purK (extA 0 x73_1) fun x74_1 =>
  purK (extA 1 x73_1) fun x75_1 =>
  purK (addA 3 x4) fun x76_1 =>
  effK H (stA lim H 1 x76_1 x74_1) fun _ H =>
  N44_4 ρ call yc lim k x0 x2 x4 x75_1 H R
theorem N44_3_x (ρ : Addr → Option Value) (call : CallF) (yc : YieldF) (lim k : Nat) (J : CodeF) (x0 x2 x4 : AV) (H : Heap) (R : List AV → Heap → Res) :
    evX (cx ρ) call yc false 44 lim k J (Code.at [1, 1, 1, 1, 1, 1, 1, 1, 1] c44) (sp 85 [(0, x0), (2, x2), (4, x4)]) H (kk none (fun s H => R (([2, 3] : List Nat).map fun t => s.getD t (.tup [])) H) [] R [2, 3]) =
  purK (addA 0 x4) fun x68_1 =>
  effK H (stA lim H 1 x68_1 (.int .i64 3)) fun _ H =>
  purK (ixS 1 x0 (.int .i64 2)) fun x71_1 =>
  purK (ld1 ρ H x71_1) fun x72_1 =>
  resK (call lim 43 [x72_1, (.int .u64 18446744073709551615)] H) fun x73_1 H =>
  purK (extA 0 x73_1) fun x74_1 =>
  purK (extA 1 x73_1) fun x75_1 =>
  purK (addA 3 x4) fun x76_1 =>
  effK H (stA lim H 1 x76_1 x74_1) fun _ H =>
  J (Code.at [1, 1, 1, 1, 1, 1, 1, 1, 1, 1, 1] c44) (sp 85 [(0, x0), (2, x2), (4, x4), (6, x75_1)]) H (kk none (fun s H => R (([2, 3] : List Nat).map fun t => s.getD t (.tup [])) H) [] R [2, 3]) := by
  kernel_rfl
theorem N44_3_eq (ρ : Addr → Option Value) (call : CallF) (yc : YieldF) (lim k : Nat) (x0 x2 x4 : AV) (H : Heap) (R : List AV → Heap → Res) :
    evL (cx ρ) call yc false 44 lim k (Code.at [1, 1, 1, 1, 1, 1, 1, 1, 1] c44) (sp 85 [(0, x0), (2, x2), (4, x4)]) H (kk none (fun s H => R (([2, 3] : List Nat).map fun t => s.getD t (.tup [])) H) [] R [2, 3]) = N44_3 ρ call yc lim k x0 x2 x4 H R := by
  rw [evL_X, N44_3_x]
  simp only [← evL_X, N44_3, N44_4_eq]
noncomputable def N44_5 (ρ : Addr → Option Value) (call : CallF) (yc : YieldF) (lim k : Nat) (x0 x2 x4 x56 : AV) (H : Heap) (kn : AV → AV → AV → Heap → Res) (R : List AV → Heap → Res) : Res :=
  condK x56
  (
    purK (addA 0 x4) fun x57_1 =>
    effK H (stA lim H 1 x57_1 (.int .i64 2)) fun _ H =>
    purK (ixS 1 x0 (.int .i64 2)) fun x60_1 =>
    purK (ld1 ρ H x60_1) fun x61_1 =>
    resK (call lim 12 [x61_1] H) fun x62_1 H =>
    purK (extA 0 x62_1) fun x63_1 =>
    purK (extA 1 x62_1) fun x64_1 =>
    purK (addA 2 x4) fun x65_1 =>
    effK H (stA lim H 1 x65_1 x63_1) fun _ H =>
    purK (ldN ρ H 4 x4) fun x66_1 =>
    effK H (stA lim H 4 x2 x66_1) fun _ H =>
    R [x2, x64_1] H)
  (
    kn x0 x2 x4 H)
theorem N44_5_eq (ρ : Addr → Option Value) (call : CallF) (yc : YieldF) (lim k : Nat) (x0 x2 x4 x56 : AV) (H : Heap) (kn : KS) (R : List AV → Heap → Res) :
    evL (cx ρ) call yc false 44 lim k (Code.at [1, 1, 1, 1, 1, 1, 1, 1, 0, 1] c44) (sp 85 [(0, x0), (2, x2), (4, x4), (56, x56)]) H (kk (some [0, 2, 4]) kn [] R [2, 3]) = N44_5 ρ call yc lim k x0 x2 x4 x56 H (fun x0 x2 x4 H => kn (sp 85 [(0, x0), (2, x2), (4, x4)]) H) R := by
  kernel_rfl
noncomputable def N44_2 (ρ : Addr → Option Value) (call : CallF) (yc : YieldF) (lim k : Nat) (x0 x2 x4 : AV) (H : Heap) (R : List AV → Heap → Res) : Res :=
  purK (lenS x0) fun x50_1 =>
  purK (binA Tryd.prog H .neq 3 x50_1 (.int .i64 3)) fun x51_1 =>
  condK x51_1
  (
    purK (ldN ρ H 4 x4) fun x52_1 =>
    effK H (stA lim H 4 x2 x52_1) fun _ H =>
    R [x2, (.bool false)] H)
  (
    purK (ixS 1 x0 (.int .i64 0)) fun x54_1 =>
    purK (ld1 ρ H x54_1) fun x55_1 =>
    purK (binA Tryd.prog H .eql 9 x55_1 (.str (ByteArray.mk #[112, 117, 116]))) fun x56_1 =>
    N44_5 ρ call yc lim k x0 x2 x4 x56_1 H (fun x0_1 x2_1 x4_1 H =>
      N44_3 ρ call yc lim k x0_1 x2_1 x4_1 H R) R)
theorem N44_2_x (ρ : Addr → Option Value) (call : CallF) (yc : YieldF) (lim k : Nat) (J : CodeF) (x0 x2 x4 : AV) (H : Heap) (R : List AV → Heap → Res) :
    evX (cx ρ) call yc false 44 lim k J (Code.at [1, 1, 1, 1, 1, 1, 1] c44) (sp 85 [(0, x0), (2, x2), (4, x4)]) H (kk none (fun s H => R (([2, 3] : List Nat).map fun t => s.getD t (.tup [])) H) [] R [2, 3]) =
  purK (lenS x0) fun x50_1 =>
  purK (binA Tryd.prog H .neq 3 x50_1 (.int .i64 3)) fun x51_1 =>
  condK x51_1
  (
    purK (ldN ρ H 4 x4) fun x52_1 =>
    effK H (stA lim H 4 x2 x52_1) fun _ H =>
    R [x2, (.bool false)] H)
  (
    purK (ixS 1 x0 (.int .i64 0)) fun x54_1 =>
    purK (ld1 ρ H x54_1) fun x55_1 =>
    purK (binA Tryd.prog H .eql 9 x55_1 (.str (ByteArray.mk #[112, 117, 116]))) fun x56_1 =>
    J (Code.at [1, 1, 1, 1, 1, 1, 1, 1, 0, 1] c44) (sp 85 [(0, x0), (2, x2), (4, x4), (56, x56_1)]) H (kk (some [0, 2, 4]) (fun s H => J (Code.at [1, 1, 1, 1, 1, 1, 1, 1, 1] c44) s H (kk none (fun s H => R (([2, 3] : List Nat).map fun t => s.getD t (.tup [])) H) [] R [2, 3])) [] R [2, 3])) := by
  kernel_rfl
theorem N44_2_eq (ρ : Addr → Option Value) (call : CallF) (yc : YieldF) (lim k : Nat) (x0 x2 x4 : AV) (H : Heap) (R : List AV → Heap → Res) :
    evL (cx ρ) call yc false 44 lim k (Code.at [1, 1, 1, 1, 1, 1, 1] c44) (sp 85 [(0, x0), (2, x2), (4, x4)]) H (kk none (fun s H => R (([2, 3] : List Nat).map fun t => s.getD t (.tup [])) H) [] R [2, 3]) = N44_2 ρ call yc lim k x0 x2 x4 H R := by
  rw [evL_X, N44_2_x]
  simp only [← evL_X, N44_2, N44_3_eq, N44_5_eq]
noncomputable def N44_6 (ρ : Addr → Option Value) (call : CallF) (yc : YieldF) (lim k : Nat) (x0 x2 x4 : AV) (H : Heap) (R : List AV → Heap → Res) : Res :=
  purK (ldN ρ H 4 x4) fun x45_1 =>
  purK (lenS x0) fun x47_1 =>
  purK (binA Tryd.prog H .eql 3 x47_1 (.int .i64 2)) fun x48_1 =>
  effK H (stA lim H 4 x2 x45_1) fun _ H =>
  R [x2, x48_1] H
theorem N44_6_eq (ρ : Addr → Option Value) (call : CallF) (yc : YieldF) (lim k : Nat) (x0 x2 x4 : AV) (H : Heap) (kn : KS) (R : List AV → Heap → Res) :
    evL (cx ρ) call yc false 44 lim k (Code.at [1, 1, 1, 1, 1, 1, 0, 1, 0, 1, 1] c44) (sp 85 [(0, x0), (2, x2), (4, x4)]) H (kk (some [0, 2, 4]) kn [] R [2, 3]) = N44_6 ρ call yc lim k x0 x2 x4 H R := by
  kernel_rfl
noncomputable def N44_1 (ρ : Addr → Option Value) (call : CallF) (yc : YieldF) (lim k : Nat) (x0 x2 x4 x5 x6 : AV) (H : Heap) (R : List AV → Heap → Res) : Res :=
  purK (addA 1 x4) fun x25_1 =>
  effK H (stA lim H 1 x25_1 x5) fun _ H =>
  purK (unA .not x6) fun x27_1 =>
  condK x27_1
  (
    purK (ldN ρ H 4 x4) fun x28_1 =>
    effK H (stA lim H 4 x2 x28_1) fun _ H =>
    R [x2, (.bool false)] H)
  (
    purK (ixS 1 x0 (.int .i64 0)) fun x30_1 =>
    purK (ld1 ρ H x30_1) fun x31_1 =>
    purK (binA Tryd.prog H .eql 9 x31_1 (.str (ByteArray.mk #[114, 101, 97, 100]))) fun x32_1 =>
    purK (gPur (wantV x32_1 false) (some x0)) fun x34_1 =>
    purK (gPur (wantV x32_1 false) (ixS 1 x34_1 (.int .i64 0))) fun x35_1 =>
    purK (gPur (wantV x32_1 false) (ld1 ρ H x35_1)) fun x36_1 =>
    purK (gPur (wantV x32_1 false) (binA Tryd.prog H .eql 9 x36_1 (.str (ByteArray.mk #[100, 101, 108])))) fun x37_1 =>
    purK (pickA x32_1 (.bool true) x37_1) fun x38_1 =>
    condK x38_1
    (
      purK (addA 0 x4) fun x39_1 =>
      effK H (stA lim H 1 x39_1 (.int .i64 1)) fun _ H =>
      purK (ixS 1 x0 (.int .i64 0)) fun x41_1 =>
      purK (ld1 ρ H x41_1) fun x42_1 =>
      purK (binA Tryd.prog H .eql 9 x42_1 (.str (ByteArray.mk #[100, 101, 108]))) fun x43_1 =>
      condK x43_1
      (
        purK (addA 0 x4) fun x44_1 =>
        effK H (stA lim H 1 x44_1 (.int .i64 4)) fun _ H =>
        N44_6 ρ call yc lim k x0 x2 x4 H R)
      (
        N44_6 ρ call yc lim k x0 x2 x4 H R))
    (
      N44_2 ρ call yc lim k x0 x2 x4 H R))
theorem N44_1_x (ρ : Addr → Option Value) (call : CallF) (yc : YieldF) (lim k : Nat) (J : CodeF) (x0 x2 x4 x5 x6 : AV) (H : Heap) (R : List AV → Heap → Res) :
    evX (cx ρ) call yc false 44 lim k J (Code.at [1, 1, 1, 1] c44) (sp 85 [(0, x0), (2, x2), (4, x4), (5, x5), (6, x6)]) H (kk none (fun s H => R (([2, 3] : List Nat).map fun t => s.getD t (.tup [])) H) [] R [2, 3]) =
  purK (addA 1 x4) fun x25_1 =>
  effK H (stA lim H 1 x25_1 x5) fun _ H =>
  purK (unA .not x6) fun x27_1 =>
  condK x27_1
  (
    purK (ldN ρ H 4 x4) fun x28_1 =>
    effK H (stA lim H 4 x2 x28_1) fun _ H =>
    R [x2, (.bool false)] H)
  (
    purK (ixS 1 x0 (.int .i64 0)) fun x30_1 =>
    purK (ld1 ρ H x30_1) fun x31_1 =>
    purK (binA Tryd.prog H .eql 9 x31_1 (.str (ByteArray.mk #[114, 101, 97, 100]))) fun x32_1 =>
    purK (gPur (wantV x32_1 false) (some x0)) fun x34_1 =>
    purK (gPur (wantV x32_1 false) (ixS 1 x34_1 (.int .i64 0))) fun x35_1 =>
    purK (gPur (wantV x32_1 false) (ld1 ρ H x35_1)) fun x36_1 =>
    purK (gPur (wantV x32_1 false) (binA Tryd.prog H .eql 9 x36_1 (.str (ByteArray.mk #[100, 101, 108])))) fun x37_1 =>
    purK (pickA x32_1 (.bool true) x37_1) fun x38_1 =>
    condK x38_1
    (
      purK (addA 0 x4) fun x39_1 =>
      effK H (stA lim H 1 x39_1 (.int .i64 1)) fun _ H =>
      purK (ixS 1 x0 (.int .i64 0)) fun x41_1 =>
      purK (ld1 ρ H x41_1) fun x42_1 =>
      purK (binA Tryd.prog H .eql 9 x42_1 (.str (ByteArray.mk #[100, 101, 108]))) fun x43_1 =>
      condK x43_1
      (
        purK (addA 0 x4) fun x44_1 =>
        effK H (stA lim H 1 x44_1 (.int .i64 4)) fun _ H =>
        J (Code.at [1, 1, 1, 1, 1, 1, 0, 1, 0, 1, 1] c44) (sp 85 [(0, x0), (2, x2), (4, x4)]) H (kk (some [0, 2, 4]) (fun s H => J (Code.at [1, 1, 1, 1, 1, 1, 1] c44) s H (kk none (fun s H => R (([2, 3] : List Nat).map fun t => s.getD t (.tup [])) H) [] R [2, 3])) [] R [2, 3]))
      (
        J (Code.at [1, 1, 1, 1, 1, 1, 0, 1, 0, 1, 1] c44) (sp 85 [(0, x0), (2, x2), (4, x4)]) H (kk (some [0, 2, 4]) (fun s H => J (Code.at [1, 1, 1, 1, 1, 1, 1] c44) s H (kk none (fun s H => R (([2, 3] : List Nat).map fun t => s.getD t (.tup [])) H) [] R [2, 3])) [] R [2, 3])))
    (
      J (Code.at [1, 1, 1, 1, 1, 1, 1] c44) (sp 85 [(0, x0), (2, x2), (4, x4)]) H (kk none (fun s H => R (([2, 3] : List Nat).map fun t => s.getD t (.tup [])) H) [] R [2, 3]))) := by
  kernel_rfl
theorem N44_1_eq (ρ : Addr → Option Value) (call : CallF) (yc : YieldF) (lim k : Nat) (x0 x2 x4 x5 x6 : AV) (H : Heap) (R : List AV → Heap → Res) :
    evL (cx ρ) call yc false 44 lim k (Code.at [1, 1, 1, 1] c44) (sp 85 [(0, x0), (2, x2), (4, x4), (5, x5), (6, x6)]) H (kk none (fun s H => R (([2, 3] : List Nat).map fun t => s.getD t (.tup [])) H) [] R [2, 3]) = N44_1 ρ call yc lim k x0 x2 x4 x5 x6 H R := by
  rw [evL_X, N44_1_x]
  simp only [← evL_X, N44_1, N44_2_eq, N44_6_eq]
noncomputable def L44 (ρ : Addr → Option Value) (call : CallF) (yc : YieldF) (lim k : Nat) (x0 : AV) (H : Heap) : Res :=
  effK H (some (.ptr H.sz 0 0, .new (newCells 40 false [.int .i64 0, .str ByteArray.empty, .str ByteArray.empty, .int .u64 0]))) fun x2 H =>
  purK (bldA [.int .i64 0, .str ByteArray.empty, .str ByteArray.empty, .int .u64 0] []) fun x7 =>
  effK H (some (.ptr H.sz 0 0, .new (newCells 40 false [.int .i64 0, .str ByteArray.empty, .str ByteArray.empty, .int .u64 0]))) fun x4 H =>
  effK H (stA lim H 4 x4 x7) fun _ H =>
  purK (lenS x0) fun x9 =>
  purK (binA Tryd.prog H .lss 3 x9 (.int .i64 2)) fun x10 =>
  purK (gPur (wantV x10 false) (some x0)) fun x12 =>
  purK (gPur (wantV x10 false) (lenS x12)) fun x13 =>
  purK (gPur (wantV x10 false) (binA Tryd.prog H .gtr 3 x13 (.int .i64 3))) fun x14 =>
  purK (pickA x10 (.bool true) x14) fun x15 =>
  condK x15
  (
    purK (ldN ρ H 4 x4) fun x16 =>
    effK H (stA lim H 4 x2 x16) fun _ H =>
    (retC (cx ρ) [some 40, none]) [x2, (.bool false)] H)
  (
    purK (ixS 1 x0 (.int .i64 1)) fun x19 =>
    purK (ld1 ρ H x19) fun x20 =>
    resK (call lim 12 [x20] H) fun x21 H =>
    purK (extA 0 x21) fun x22 =>
    purK (extA 1 x21) fun x23 =>
    N44_1 ρ call yc lim k x0 x2 x4 x22 x23 H (retC (cx ρ) [some 40, none]))
theorem L44_x (ρ : Addr → Option Value) (call : CallF) (yc : YieldF) (lim k : Nat) (J : CodeF) (x0 : AV) (H : Heap) :
    evX (cx ρ) call yc false 44 lim k J c44 [x0, (.tup []), (.tup []), (.tup []), (.tup []), (.tup []), (.tup []), (.tup []), (.tup []), (.tup []), (.tup []), (.tup []), (.tup []), (.tup []), (.tup []), (.tup []), (.tup []), (.tup []), (.tup []), (.tup []), (.tup []), (.tup []), (.tup []), (.tup []), (.tup []), (.tup []), (.tup []), (.tup []), (.tup []), (.tup []), (.tup []), (.tup []), (.tup []), (.tup []), (.tup []), (.tup []), (.tup []), (.tup []), (.tup []), (.tup []), (.tup []), (.tup []), (.tup []), (.tup []), (.tup []), (.tup []), (.tup []), (.tup []), (.tup []), (.tup []), (.tup []), (.tup []), (.tup []), (.tup []), (.tup []), (.tup []), (.tup []), (.tup []), (.tup []), (.tup []), (.tup []), (.tup []), (.tup []), (.tup []), (.tup []), (.tup []), (.tup []), (.tup []), (.tup []), (.tup []), (.tup []), (.tup []), (.tup []), (.tup []), (.tup []), (.tup []), (.tup []), (.tup []), (.tup []), (.tup []), (.tup []), (.tup []), (.tup []), (.tup []), (.tup [])] H (kk none (fun s H => (retC (cx ρ) [some 40, none]) (([2, 3] : List Nat).map fun t => s.getD t (.tup [])) H) [] (retC (cx ρ) [some 40, none]) [2, 3]) =
  effK H (some (.ptr H.sz 0 0, .new (newCells 40 false [.int .i64 0, .str ByteArray.empty, .str ByteArray.empty, .int .u64 0]))) fun x2 H =>
  purK (bldA [.int .i64 0, .str ByteArray.empty, .str ByteArray.empty, .int .u64 0] []) fun x7 =>
  effK H (some (.ptr H.sz 0 0, .new (newCells 40 false [.int .i64 0, .str ByteArray.empty, .str ByteArray.empty, .int .u64 0]))) fun x4 H =>
  effK H (stA lim H 4 x4 x7) fun _ H =>
  purK (lenS x0) fun x9 =>
  purK (binA Tryd.prog H .lss 3 x9 (.int .i64 2)) fun x10 =>
  purK (gPur (wantV x10 false) (some x0)) fun x12 =>
  purK (gPur (wantV x10 false) (lenS x12)) fun x13 =>
  purK (gPur (wantV x10 false) (binA Tryd.prog H .gtr 3 x13 (.int .i64 3))) fun x14 =>
  purK (pickA x10 (.bool true) x14) fun x15 =>
  condK x15
  (
    purK (ldN ρ H 4 x4) fun x16 =>
    effK H (stA lim H 4 x2 x16) fun _ H =>
    (retC (cx ρ) [some 40, none]) [x2, (.bool false)] H)
  (
    purK (ixS 1 x0 (.int .i64 1)) fun x19 =>
    purK (ld1 ρ H x19) fun x20 =>
    resK (call lim 12 [x20] H) fun x21 H =>
    purK (extA 0 x21) fun x22 =>
    purK (extA 1 x21) fun x23 =>
    J (Code.at [1, 1, 1, 1] c44) (sp 85 [(0, x0), (2, x2), (4, x4), (5, x22), (6, x23)]) H (kk none (fun s H => (retC (cx ρ) [some 40, none]) (([2, 3] : List Nat).map fun t => s.getD t (.tup [])) H) [] (retC (cx ρ) [some 40, none]) [2, 3])) := by
  kernel_rfl
theorem G44 (ρ : Addr → Option Value) (call : CallF) (yc : YieldF) (lim k : Nat) (x0 : AV) (H : Heap) :
    evL (cx ρ) call yc false 44 lim k c44 [x0, (.tup []), (.tup []), (.tup []), (.tup []), (.tup []), (.tup []), (.tup []), (.tup []), (.tup []), (.tup []), (.tup []), (.tup []), (.tup []), (.tup []), (.tup []), (.tup []), (.tup []), (.tup []), (.tup []), (.tup []), (.tup []), (.tup []), (.tup []), (.tup []), (.tup []), (.tup []), (.tup []), (.tup []), (.tup []), (.tup []), (.tup []), (.tup []), (.tup []), (.tup []), (.tup []), (.tup []), (.tup []), (.tup []), (.tup []), (.tup []), (.tup []), (.tup []), (.tup []), (.tup []), (.tup []), (.tup []), (.tup []), (.tup []), (.tup []), (.tup []), (.tup []), (.tup []), (.tup []), (.tup []), (.tup []), (.tup []), (.tup []), (.tup []), (.tup []), (.tup []), (.tup []), (.tup []), (.tup []), (.tup []), (.tup []), (.tup []), (.tup []), (.tup []), (.tup []), (.tup []), (.tup []), (.tup []), (.tup []), (.tup []), (.tup []), (.tup []), (.tup []), (.tup []), (.tup []), (.tup []), (.tup []), (.tup []), (.tup []), (.tup [])] H (kk none (fun s H => (retC (cx ρ) [some 40, none]) (([2, 3] : List Nat).map fun t => s.getD t (.tup [])) H) [] (retC (cx ρ) [some 40, none]) [2, 3]) = L44 ρ call yc lim k x0 H := by
  rw [evL_X, L44_x]
  simp only [← evL_X, L44, N44_1_eq]
theorem E44 (ρ : Addr → Option Value) (k lim : Nat) (x0 : AV) (H : Heap) : evCall (cx ρ) (k + 1) lim 44 [x0] H = L44 ρ (evCall (cx ρ) k) (evCY (cx ρ) k).2 lim k x0 H := by
  rw [evCall_cells (cx ρ) k lim 44 _ H Tryd.f44 c44 [2, 3] [some 40, none] (by kernel_rfl) (by kernel_rfl) (by kernel_rfl) (by kernel_rfl) (by kernel_rfl) (by kernel_rfl)]
  exact G44 ρ (evCall (cx ρ) k) (evCY (cx ρ) k).2 lim k x0 H
-- (*strings.Builder).copyCheck
noncomputable def c45 : Code := Code.of Tryd.prog 45
noncomputable def L45 (ρ : Addr → Option Value) (call : CallF) (yc : YieldF) (lim k : Nat) (x0 : AV) (H : Heap) : Res :=
  purK (nilChkA x0) fun x3 =>
  purK (addA 0 x3) fun x4 =>
  purK (ld1 ρ H x4) fun x5 =>
  purK (binA Tryd.prog H .eql 51 x5 .nilp) fun x6 =>
  condK x6
  (
    purK (convXA (cx ρ) H 51 91 x0) fun x9 =>
    resK (call lim 56 [x9] H) fun x10 H =>
    purK (convXA (cx ρ) H 91 51 x10) fun x11 =>
    purK (nilChkA x0) fun x12 =>
    purK (addA 0 x12) fun x13 =>
    effK H (stA lim H 1 x13 x11) fun _ H =>
    retK [] H)
  (
    purK (nilChkA x0) fun x15 =>
    purK (addA 0 x15) fun x16 =>
    purK (ld1 ρ H x16) fun x17 =>
    purK (binA Tryd.prog H .neq 51 x17 x0) fun x19 =>
    condK x19
    (
      none)
    (
      retK [] H))
theorem G45 (ρ : Addr → Option Value) (call : CallF) (yc : YieldF) (lim k : Nat) (x0 : AV) (H : Heap) :
    evL (cx ρ) call yc false 45 lim k c45 [x0, (.tup []), (.tup []), (.tup []), (.tup []), (.tup []), (.tup []), (.tup []), (.tup []), (.tup []), (.tup []), (.tup []), (.tup []), (.tup []), (.tup []), (.tup []), (.tup []), (.tup []), (.tup []), (.tup [])] H (kk none (fun s H => retK (([] : List Nat).map fun t => s.getD t (.tup [])) H) [] retK []) = L45 ρ call yc lim k x0 H := by
  kernel_rfl
theorem E45 (ρ : Addr → Option Value) (k lim : Nat) (x0 : AV) (H : Heap) : evCall (cx ρ) (k + 1) lim 45 [x0] H = L45 ρ (evCall (cx ρ) k) (evCY (cx ρ) k).2 lim k x0 H := by
  rw [evCall_body (cx ρ) k lim 45 _ H Tryd.f45 c45 [] (by kernel_rfl) (by kernel_rfl) (by kernel_rfl) (by kernel_rfl) (by kernel_rfl)]
  exact G45 ρ (evCall (cx ρ) k) (evCY (cx ρ) k).2 lim k x0 H
-- internal/stringslite.CutPrefix
noncomputable def c46 : Code := Code.of Tryd.prog 46
noncomputable def L46 (ρ : Addr → Option Value) (call : CallF) (yc : YieldF) (lim k : Nat) (x0 x1 : AV) (H : Heap) : Res :=
  resK (call lim 57 [x0, x1] H) fun x8 H =>
  purK (unA .not x8) fun x9 =>
  condK x9
  (
    retK [x0, (.bool false)] H)
  (
    purK (lenT x1) fun x13 =>
    purK (slT x0 (some x13) none) fun x14 =>
    retK [x14, (.bool true)] H)
theorem G46 (ρ : Addr → Option Value) (call : CallF) (yc : YieldF) (lim k : Nat) (x0 x1 : AV) (H : Heap) :
    evL (cx ρ) call yc false 46 lim k c46 [x0, x1, (.tup []), (.tup []), (.tup []), (.tup []), (.tup []), (.tup []), (.tup []), (.tup []), (.tup []), (.tup []), (.tup []), (.tup []), (.tup [])] H (kk none (fun s H => retK (([4, 5] : List Nat).map fun t => s.getD t (.tup [])) H) [] retK [4, 5]) = L46 ρ call yc lim k x0 x1 H := by
  kernel_rfl
theorem E46 (ρ : Addr → Option Value) (k lim : Nat) (x0 x1 : AV) (H : Heap) : evCall (cx ρ) (k + 1) lim 46 [x0, x1] H = L46 ρ (evCall (cx ρ) k) (evCY (cx ρ) k).2 lim k x0 x1 H := by
  rw [evCall_body (cx ρ) k lim 46 _ H Tryd.f46 c46 [4, 5] (by kernel_rfl) (by kernel_rfl) (by kernel_rfl) (by kernel_rfl) (by kernel_rfl)]
  exact G46 ρ (evCall (cx ρ) k) (evCY (cx ρ) k).2 lim k x0 x1 H
-- internal/stringslite.IndexByte
noncomputable def c47 : Code := Code.of Tryd.prog 47
noncomputable def L47 (ρ : Addr → Option Value) (call : CallF) (yc : YieldF) (lim k : Nat) (x0 x1 : AV) (H : Heap) : Res :=
  resK (call lim 58 [x0, x1] H) fun x7 H =>
  retK [x7] H
theorem G47 (ρ : Addr → Option Value) (call : CallF) (yc : YieldF) (lim k : Nat) (x0 x1 : AV) (H : Heap) :
    evL (cx ρ) call yc false 47 lim k c47 [x0, x1, (.tup []), (.tup []), (.tup []), (.tup []), (.tup []), (.tup [])] H (kk none (fun s H => retK (([4] : List Nat).map fun t => s.getD t (.tup [])) H) [] retK [4]) = L47 ρ call yc lim k x0 x1 H := by
  kernel_rfl
theorem E47 (ρ : Addr → Option Value) (k lim : Nat) (x0 x1 : AV) (H : Heap) : evCall (cx ρ) (k + 1) lim 47 [x0, x1] H = L47 ρ (evCall (cx ρ) k) (evCY (cx ρ) k).2 lim k x0 x1 H := by
  rw [evCall_body (cx ρ) k lim 47 _ H Tryd.f47 c47 [4] (by kernel_rfl) (by kernel_rfl) (by kernel_rfl) (by kernel_rfl) (by kernel_rfl)]
  exact G47 ρ (evCall (cx ρ) k) (evCY (cx ρ) k).2 lim k x0 x1 H
-- strconv.FormatUint
noncomputable def c49 : Code := Code.of Tryd.prog 49
noncomputable def L49 (ρ : Addr → Option Value) (call : CallF) (yc : YieldF) (lim k : Nat) (x0 x1 : AV) (H : Heap) : Res :=
  resK (call lim 60 [x0, x1] H) fun x7 H =>
  retK [x7] H
theorem G49 (ρ : Addr → Option Value) (call : CallF) (yc : YieldF) (lim k : Nat) (x0 x1 : AV) (H : Heap) :
    evL (cx ρ) call yc false 49 lim k c49 [x0, x1, (.tup []), (.tup []), (.tup []), (.tup []), (.tup []), (.tup [])] H (kk none (fun s H => retK (([4] : List Nat).map fun t => s.getD t (.tup [])) H) [] retK [4]) = L49 ρ call yc lim k x0 x1 H := by
  kernel_rfl
theorem E49 (ρ : Addr → Option Value) (k lim : Nat) (x0 x1 : AV) (H : Heap) : evCall (cx ρ) (k + 1) lim 49 [x0, x1] H = L49 ρ (evCall (cx ρ) k) (evCY (cx ρ) k).2 lim k x0 x1 H := by
  rw [evCall_body (cx ρ) k lim 49 _ H Tryd.f49 c49 [4] (by kernel_rfl) (by kernel_rfl) (by kernel_rfl) (by kernel_rfl) (by kernel_rfl)]
  exact G49 ρ (evCall (cx ρ) k) (evCY (cx ρ) k).2 lim k x0 x1 H
end Go.Proofs.YtnkeebchblfbgaaDoor
