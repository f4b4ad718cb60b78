/- Part 4 of the proof of DumpPacks: DnTab Dn0 Dn1 Dn2 Dn3 Dn4. -/
import Derived.Test.YtkmohjddojpdjaaBnB
import Derived.Test.YtkmohjddojpdjaaProg
import Derived.KernelRfl
-- part DnTab
/- The tables of the program: what is live, how draws go. Printed by a program of this repo. -/
set_option linter.unusedVariables false
namespace Go.Proofs.Ytkmohjddojpdjaa
open Go.Ev Go.RowKit
def dr : FuncId → Nat → Option (List (Nat × Bool))
  | 5, 32 => some [(0, true), (1, true), (2, true), (3, true), (4, true), (5, true), (6, true), (7, true), (8, true), (9, true), (10, true), (11, true), (12, true), (13, true), (14, false)]
  | 7, 19 => some [(0, true), (1, true), (2, true), (3, true), (4, true), (5, true), (6, true), (7, true), (8, true), (9, true), (10, true), (11, true), (12, true), (13, false)]
  | 7, 29 => some [(0, true), (1, true), (2, true), (3, true), (4, true), (5, true), (6, true), (7, true), (8, true), (9, true), (10, true), (11, true), (12, true), (13, true), (14, true), (15, true), (16, true), (17, true), (18, true), (19, true), (20, false)]
  | 8, 17 => some [(0, true), (1, true), (2, true), (3, true), (4, true), (5, true), (6, true), (7, true), (8, true), (9, true), (10, true), (11, true), (12, true), (13, true), (14, true), (15, true), (16, true), (17, true), (18, true), (19, true), (20, true), (21, true), (22, false), (23, false)]
  | 8, 25 => some [(0, true), (1, true), (2, true), (3, true), (4, true), (5, true), (6, true), (7, true), (8, true), (9, true), (10, true), (11, true), (12, true), (13, true), (14, false)]
  | 12, 7 => some [(0, true), (1, true), (2, true), (3, true), (4, true), (5, true), (6, true), (7, true), (8, true), (9, true), (10, true), (11, true), (12, true), (13, true), (14, true), (15, true), (16, false), (17, false)]
  | 17, 17 => some [(0, true), (1, true), (2, true), (3, true), (4, true), (5, true), (6, true), (7, true), (8, true), (9, true), (10, true), (11, true), (12, true), (13, true), (14, true), (15, true), (16, true), (17, true), (18, true), (19, false), (20, false)]
  | 27, 20 => some [(10, true), (11, true), (0, true), (1, true), (2, true), (3, true), (4, true), (5, true), (6, false), (7, true), (8, true), (9, true), (12, false), (13, false)]
  | 28, 15 => some [(10, true), (11, true), (0, true), (1, true), (2, true), (3, true), (4, true), (5, true), (6, false), (7, true), (8, true), (9, true), (12, false), (13, false)]
  | 35, 1 => some [(0, true), (1, true), (2, true), (3, true), (5, true), (6, true), (7, true), (8, true), (9, true), (4, false), (10, false), (11, true)]
  | 40, 4 => some [(0, true), (1, true), (2, true), (5, true), (6, true), (7, true), (3, false), (4, false), (8, true), (9, true)]
  | 49, 8 => some [(0, true), (1, true), (2, true), (3, true), (4, true), (5, true), (6, true), (7, true), (9, true), (10, true), (11, true), (12, true), (13, true), (14, true), (8, false), (15, false), (16, true), (17, true), (18, false), (19, true), (20, true), (21, false)]
  | 51, 3 => some [(0, true), (1, true), (2, true), (3, true), (4, true), (5, true), (6, true), (7, true), (8, true), (9, true), (10, true), (11, true), (12, true), (13, true), (14, false), (15, false)]
  | 60, 4 => some [(0, true), (1, true), (2, true), (3, true), (4, true), (5, true), (7, true), (8, true), (9, true), (10, true), (11, true), (6, false), (12, false), (13, true)]
  | 101, 0 => some [(0, true), (1, true), (2, true), (3, true), (4, true), (5, true), (6, true), (7, true), (9, true), (10, true), (11, true), (12, true), (13, true), (8, false), (14, true), (15, true)]
  | _, _ => none
def xk : FuncId → Option XK
  | 76 => some (.same)
  | 108 => some (.nozero #[3] 65)
  | _ => none
def lv3 : Nat → Option (List Nat)
  | 9 => some [0, 3, 4]
  | 1000008 => some [0, 3, 4, 37]
  | _ => none
def lv4 : Nat → Option (List Nat)
  | 6 => some [0, 3]
  | 7 => some [0, 3]
  | 12 => some [0, 3]
  | 13 => some []
  | 1000011 => some [0, 3, 35]
  | _ => none
def lv10 : Nat → Option (List Nat)
  | 4 => some [0, 3]
  | 8 => some []
  | _ => none
def lv11 : Nat → Option (List Nat)
  | 7 => some [4, 20, 21, 22]
  | 14 => some [4]
  | _ => none
def lv12 : Nat → Option (List Nat)
  | 5 => some [0, 4, 5]
  | 6 => some [0, 4, 5]
  | 9 => some [0, 4, 5]
  | 10 => some [4]
  | _ => none
def lv14 : Nat → Option (List Nat)
  | 4 => some [0, 3]
  | 5 => some [0, 3]
  | 8 => some []
  | 1000007 => some [0, 3, 42]
  | _ => none
def lv15 : Nat → Option (List Nat)
  | 7 => some [6, 7]
  | 8 => some [6, 7, 8]
  | 9 => some [6, 7, 8]
  | 14 => some [6, 8]
  | _ => none
def lv16 : Nat → Option (List Nat)
  | 4 => some [0, 1, 5]
  | 8 => some []
  | _ => none
def lv17 : Nat → Option (List Nat)
  | 6 => some [0, 5]
  | 9 => some [0, 5, 6, 7, 8]
  | 10 => some [0, 5, 6, 7, 8]
  | 17 => some [0, 5, 6, 7, 8, 9, 10]
  | 19 => some [0, 6, 7]
  | 1000016 => some [0, 5, 6, 7, 8, 9, 10, 64]
  | _ => none
def lv18 : Nat → Option (List Nat)
  | 3 => some [0, 3, 4]
  | 7 => some [0]
  | _ => none
def lv39 : Nat → Option (List Nat)
  | 2 => some [0, 3]
  | 6 => some []
  | _ => none
def lv42 : Nat → Option (List Nat)
  | 6 => some [5]
  | _ => none
def lv43 : Nat → Option (List Nat)
  | 3 => some [0, 3, 4]
  | 4 => some [0, 3, 4]
  | 7 => some [0, 3, 4, 5]
  | 8 => some [0, 3, 4, 5]
  | 13 => some [3]
  | _ => none
def lv60 : Nat → Option (List Nat)
  | 2 => some [0, 1, 5]
  | 6 => some []
  | _ => none
def lv62 : Nat → Option (List Nat)
  | 2 => some [0, 1, 7, 8]
  | 7 => some []
  | _ => none
def lv63 : Nat → Option (List Nat)
  | 8 => some [0, 1]
  | 11 => some [0, 6]
  | 30 => some [0, 7]
  | 31 => some [0, 7, 8]
  | 35 => some [0, 7, 8]
  | 38 => some [7, 8, 9]
  | 41 => some [9]
  | 1000010 => some [0, 6, 34]
  | 1000020 => some [0, 7, 43]
  | 1000021 => some [0, 7, 49]
  | 1000029 => some [0, 7, 85]
  | _ => none
def lv77 : Nat → Option (List Nat)
  | 7 => some [0, 1, 6, 24, 25]
  | 11 => some [0, 1, 6]
  | 14 => some [1, 6, 51, 52, 53]
  | 19 => some [1, 6]
  | _ => none
def lv78 : Nat → Option (List Nat)
  | 3 => some [1, 5, 10, 11]
  | 7 => some [1, 5, 10, 11, 20]
  | 10 => some [1, 5, 10, 11]
  | 11 => some [5]
  | _ => none
def lv79 : Nat → Option (List Nat)
  | 4 => some [8, 9]
  | _ => none
def lv81 : Nat → Option (List Nat)
  | 3 => some [0, 1]
  | _ => none
def lv99 : Nat → Option (List Nat)
  | 7 => some [0, 1, 6, 7, 9, 11]
  | _ => none
def lv : FuncId → Nat → Option (List Nat)
  | 3 => lv3
  | 4 => lv4
  | 10 => lv10
  | 11 => lv11
  | 12 => lv12
  | 14 => lv14
  | 15 => lv15
  | 16 => lv16
  | 17 => lv17
  | 18 => lv18
  | 39 => lv39
  | 42 => lv42
  | 43 => lv43
  | 60 => lv60
  | 62 => lv62
  | 63 => lv63
  | 77 => lv77
  | 78 => lv78
  | 79 => lv79
  | 81 => lv81
  | 99 => lv99
  | _ => fun _ => none
noncomputable def cx (ρ : Addr → Option Value) : Ctx := { P := Try.prog, ext := xk, ρ := ρ, live := lv, draw := dr, pur := fun _ => false, strict := false }
end Go.Proofs.Ytkmohjddojpdjaa

-- part Dn0
/- Functions, lifted. Printed by a program of this repo. -/
set_option linter.unusedVariables false
set_option linter.unusedSimpArgs false
set_option maxRecDepth 100000
set_option maxHeartbeats 4000000
namespace Go.Proofs.Ytkmohjddojpdjaa
open Go.Ev Go.RowKit
-- haycroft/haycroftlaw31.DumpPacks
noncomputable def c3 : Code := Code.of Try.prog 3
noncomputable def N3_1 (ρ : Addr → Option Value) (call : CallF) (yc : YieldF) (lim k : Nat) (x0 x3 x4 : AV) (H : Heap) (R : List AV → Heap → Res) : Res :=
  purK (binA Try.prog H .neq 25 x4 (.int .i64 0)) fun x39_1 =>
  condK x39_1
  (
    R [(.bool true)] H)
  (
    resK (call lim 15 [x3] H) fun x42_1 H =>
    purK (extA 0 x42_1) fun x43_1 =>
    purK (extA 1 x42_1) fun x44_1 =>
    resK (call lim 16 [x43_1, x0] H) fun x47_1 H =>
    purK (gPur (wantV x47_1 true) (some x44_1)) fun x49_1 =>
    purK (gPur (wantV x47_1 true) (binA Try.prog H .eql 25 x49_1 (.int .i64 0))) fun x50_1 =>
    purK (pickA x47_1 x50_1 (.bool false)) fun x51_1 =>
    R [x51_1] H)
theorem N3_1_eq (ρ : Addr → Option Value) (call : CallF) (yc : YieldF) (lim k : Nat) (x0 x3 x4 : AV) (H : Heap) (R : List AV → Heap → Res) :
    evL (cx ρ) call yc false 3 lim k (Code.at [1, 1, 1, 1, 1, 1] c3) (sp 52 [(0, x0), (3, x3), (4, x4)]) H (kk none (fun s H => R (([2] : List Nat).map fun t => s.getD t (.tup [])) H) [] R [2]) = N3_1 ρ call yc lim k x0 x3 x4 H R := by
  kernel_rfl
noncomputable def N3_2 (ρ : Addr → Option Value) (call : CallF) (yc : YieldF) (lim k : Nat) (x0 x3 x4 x37 : AV) (H : Heap) (kn : AV → AV → AV → Heap → Res) (R : List AV → Heap → Res) : Res :=
  condK x37
  (
    R [(.bool false)] H)
  (
    kn x0 x3 x4 H)
theorem N3_2_eq (ρ : Addr → Option Value) (call : CallF) (yc : YieldF) (lim k : Nat) (x0 x3 x4 x37 : AV) (H : Heap) (kn : KS) (R : List AV → Heap → Res) :
    evL (cx ρ) call yc false 3 lim k (Code.at [1, 1, 1, 1, 1, 0, 1] c3) (sp 52 [(0, x0), (3, x3), (4, x4), (37, x37)]) H (kk (some [0, 3, 4]) kn [] R [2]) = N3_2 ρ call yc lim k x0 x3 x4 x37 H (fun x0 x3 x4 H => kn (sp 52 [(0, x0), (3, x3), (4, x4)]) H) R := by
  kernel_rfl
noncomputable def L3 (ρ : Addr → Option Value) (call : CallF) (yc : YieldF) (lim k : Nat) (x0 : AV) (H : Heap) : Res :=
  resK (call lim 9 [] H) fun x9 H =>
  purK (unA .not x9) fun x10 =>
  condK x10
  (
    retK [(.bool false)] H)
  (
    resK (call lim 10 [x0] H) fun x12 H =>
    condK x12
    (
      retK [(.bool true)] H)
    (
      resK (call lim 11 [x0] H) fun x15 H =>
      purK (extA 0 x15) fun x16 =>
      purK (extA 1 x15) fun x17 =>
      resK (call lim 12 [x0] H) fun x20 H =>
      purK (extA 0 x20) fun x21 =>
      purK (extA 1 x20) fun x22 =>
      purK (binA Try.prog H .neq 9 x16 x21) fun x25 =>
      purK (gPur (wantV x25 false) (some x17)) fun x27 =>
      purK (gPur (wantV x25 false) (some x22)) fun x28 =>
      purK (gPur (wantV x25 false) (binA Try.prog H .neq 25 x27 x28)) fun x29 =>
      purK (pickA x25 (.bool true) x29) fun x30 =>
      purK (gPur (wantV x30 false) (some x0)) fun x32 =>
      resK (gRes (wantV x30 false) H (call lim 13 [x32] H)) fun x33 H =>
      purK (gPur (wantV x30 false) (some x0)) fun x34 =>
      resK (gRes (wantV x30 false) H (call lim 14 [x34] H)) fun x35 H =>
      purK (gPur (wantV x30 false) (binA Try.prog H .neq 4 x33 x35)) fun x36 =>
      purK (pickA x30 (.bool true) x36) fun x37 =>
      N3_2 ρ call yc lim k x0 x16 x17 x37 H (fun x0_1 x3 x4 H =>
        N3_1 ρ call yc lim k x0_1 x3 x4 H retK) retK))
theorem L3_x (ρ : Addr → Option Value) (call : CallF) (yc : YieldF) (lim k : Nat) (J : CodeF) (x0 : AV) (H : Heap) :
    evX (cx ρ) call yc false 3 lim k J c3 [x0, (.tup []), (.tup []), (.tup []), (.tup []), (.tup []), (.tup []), (.tup []), (.tup []), (.tup []), (.tup []), (.tup []), (.tup []), (.tup []), (.tup []), (.tup []), (.tup []), (.tup []), (.tup []), (.tup []), (.tup []), (.tup []), (.tup []), (.tup []), (.tup []), (.tup []), (.tup []), (.tup []), (.tup []), (.tup []), (.tup []), (.tup []), (.tup []), (.tup []), (.tup []), (.tup []), (.tup []), (.tup []), (.tup []), (.tup []), (.tup []), (.tup []), (.tup []), (.tup []), (.tup []), (.tup []), (.tup []), (.tup []), (.tup []), (.tup []), (.tup []), (.tup [])] H (kk none (fun s H => retK (([2] : List Nat).map fun t => s.getD t (.tup [])) H) [] retK [2]) =
  resK (call lim 9 [] H) fun x9 H =>
  purK (unA .not x9) fun x10 =>
  condK x10
  (
    retK [(.bool false)] H)
  (
    resK (call lim 10 [x0] H) fun x12 H =>
    condK x12
    (
      retK [(.bool true)] H)
    (
      resK (call lim 11 [x0] H) fun x15 H =>
      purK (extA 0 x15) fun x16 =>
      purK (extA 1 x15) fun x17 =>
      resK (call lim 12 [x0] H) fun x20 H =>
      purK (extA 0 x20) fun x21 =>
      purK (extA 1 x20) fun x22 =>
      purK (binA Try.prog H .neq 9 x16 x21) fun x25 =>
      purK (gPur (wantV x25 false) (some x17)) fun x27 =>
      purK (gPur (wantV x25 false) (some x22)) fun x28 =>
      purK (gPur (wantV x25 false) (binA Try.prog H .neq 25 x27 x28)) fun x29 =>
      purK (pickA x25 (.bool true) x29) fun x30 =>
      purK (gPur (wantV x30 false) (some x0)) fun x32 =>
      resK (gRes (wantV x30 false) H (call lim 13 [x32] H)) fun x33 H =>
      purK (gPur (wantV x30 false) (some x0)) fun x34 =>
      resK (gRes (wantV x30 false) H (call lim 14 [x34] H)) fun x35 H =>
      purK (gPur (wantV x30 false) (binA Try.prog H .neq 4 x33 x35)) fun x36 =>
      purK (pickA x30 (.bool true) x36) fun x37 =>
      J (Code.at [1, 1, 1, 1, 1, 0, 1] c3) (sp 52 [(0, x0), (3, x16), (4, x17), (37, x37)]) H (kk (some [0, 3, 4]) (fun s H => J (Code.at [1, 1, 1, 1, 1, 1] c3) s H (kk none (fun s H => retK (([2] : List Nat).map fun t => s.getD t (.tup [])) H) [] retK [2])) [] retK [2]))) := by
  kernel_rfl
theorem G3 (ρ : Addr → Option Value) (call : CallF) (yc : YieldF) (lim k : Nat) (x0 : AV) (H : Heap) :
    evL (cx ρ) call yc false 3 lim k c3 [x0, (.tup []), (.tup []), (.tup []), (.tup []), (.tup []), (.tup []), (.tup []), (.tup []), (.tup []), (.tup []), (.tup []), (.tup []), (.tup []), (.tup []), (.tup []), (.tup []), (.tup []), (.tup []), (.tup []), (.tup []), (.tup []), (.tup []), (.tup []), (.tup []), (.tup []), (.tup []), (.tup []), (.tup []), (.tup []), (.tup []), (.tup []), (.tup []), (.tup []), (.tup []), (.tup []), (.tup []), (.tup []), (.tup []), (.tup []), (.tup []), (.tup []), (.tup []), (.tup []), (.tup []), (.tup []), (.tup []), (.tup []), (.tup []), (.tup []), (.tup []), (.tup [])] H (kk none (fun s H => retK (([2] : List Nat).map fun t => s.getD t (.tup [])) H) [] retK [2]) = L3 ρ call yc lim k x0 H := by
  rw [evL_X, L3_x]
  simp only [← evL_X, L3, N3_1_eq, N3_2_eq]
theorem E3 (ρ : Addr → Option Value) (k lim : Nat) (x0 : AV) (H : Heap) : evCall (cx ρ) (k + 1) lim 3 [x0] H = L3 ρ (evCall (cx ρ) k) (evCY (cx ρ) k).2 lim k x0 H := by
  rw [evCall_body (cx ρ) k lim 3 _ H Try.f3 c3 [2] (by kernel_rfl) (by kernel_rfl) (by kernel_rfl) (by kernel_rfl) (by kernel_rfl)]
  exact G3 ρ (evCall (cx ρ) k) (evCY (cx ρ) k).2 lim k x0 H
-- haycroft/haycroftlaw31.DumpReads
noncomputable def c4 : Code := Code.of Try.prog 4
noncomputable def N4_1 (ρ : Addr → Option Value) (call : CallF) (yc : YieldF) (lim k : Nat) (H : Heap) (R : List AV → Heap → Res) : Res :=
  R [(.bool true)] H
theorem N4_1_eq (ρ : Addr → Option Value) (call : CallF) (yc : YieldF) (lim k : Nat) (H : Heap) (R : List AV → Heap → Res) :
    evL (cx ρ) call yc false 4 lim k (Code.at [1, 1, 1, 1] c4) (sp 38 []) H (kk none (fun s H => R (([2] : List Nat).map fun t => s.getD t (.tup [])) H) [] R [2]) = N4_1 ρ call yc lim k H R := by
  kernel_rfl
noncomputable def N4_4 (ρ : Addr → Option Value) (call : CallF) (yc : YieldF) (lim k : Nat) (x0 x3 : AV) (H : Heap) (kn : AV → AV → Heap → Res) : Res :=
  purK (binA Try.prog H .add 3 x3 (.int .i64 1)) fun x16_1 =>
  kn x0 x16_1 H
theorem N4_4_eq (ρ : Addr → Option Value) (call : CallF) (yc : YieldF) (lim k : Nat) (x0 x3 : AV) (H : Heap) (kn : KS) (k0 : KS) (R : List AV → Heap → Res) :
    evL (cx ρ) call yc false 4 lim k (Code.at [1, 1, 1, 0, 1, 0, 0, 1, 1] c4) (sp 38 [(0, x0), (3, x3)]) H (kk (some [0, 3]) kn [(0, (some []), k0)] R [2]) = N4_4 ρ call yc lim k x0 x3 H (fun x0 x3 H => kn (sp 38 [(0, x0), (3, x3)]) H) := by
  kernel_rfl
noncomputable def N4_5 (ρ : Addr → Option Value) (call : CallF) (yc : YieldF) (lim k : Nat) (x0 x3 : AV) (H : Heap) (kn : AV → AV → Heap → Res) : Res :=
  resK (call lim 18 [x0] H) fun x37_1 H =>
  kn x37_1 x3 H
theorem N4_5_eq (ρ : Addr → Option Value) (call : CallF) (yc : YieldF) (lim k : Nat) (x0 x3 : AV) (H : Heap) (kn : KS) (k1 : KS) (k0 : KS) (R : List AV → Heap → Res) :
    evL (cx ρ) call yc false 4 lim k (Code.at [1, 1, 1, 0, 1, 0, 0, 1, 0, 0, 1, 1, 1] c4) (sp 38 [(0, x0), (3, x3)]) H (kk (some [0, 3]) kn [(1, (some [0, 3]), k1), (0, (some []), k0)] R [2]) = N4_5 ρ call yc lim k x0 x3 H (fun x0 x3 H => kn (sp 38 [(0, x0), (3, x3)]) H) := by
  kernel_rfl
noncomputable def N4_6 (ρ : Addr → Option Value) (call : CallF) (yc : YieldF) (lim k : Nat) (x0 x3 x35 : AV) (H : Heap) (kn : AV → AV → Heap → Res) (R : List AV → Heap → Res) : Res :=
  condK x35
  (
    R [(.bool false)] H)
  (
    kn x0 x3 H)
theorem N4_6_eq (ρ : Addr → Option Value) (call : CallF) (yc : YieldF) (lim k : Nat) (x0 x3 x35 : AV) (H : Heap) (kn : KS) (k1 : KS) (k0 : KS) (R : List AV → Heap → Res) :
    evL (cx ρ) call yc false 4 lim k (Code.at [1, 1, 1, 0, 1, 0, 0, 1, 0, 0, 1, 1, 0, 1] c4) (sp 38 [(0, x0), (3, x3), (35, x35)]) H (kk (some [0, 3]) kn [(1, (some [0, 3]), k1), (0, (some []), k0)] R [2]) = N4_6 ρ call yc lim k x0 x3 x35 H (fun x0 x3 H => kn (sp 38 [(0, x0), (3, x3)]) H) R := by
  kernel_rfl
noncomputable def N4_3b (ρ : Addr → Option Value) (call : CallF) (yc : YieldF) (lim k : Nat) (x0 x3 : AV) (H : Heap) (kn : AV → AV → Heap → Res) (k0 : Heap → Res) (R : List AV → Heap → Res) : Res :=
  purK (binA Try.prog H .lss 3 x3 (.int .i64 2)) fun x14_1 =>
  condK x14_1
  (
    resK (call lim 15 [x0] H) fun x19_1 H =>
    purK (extA 0 x19_1) fun x20_1 =>
    purK (extA 1 x19_1) fun x21_1 =>
    resK (call lim 17 [x0] H) fun x24_1 H =>
    purK (extA 0 x24_1) fun x25_1 =>
    purK (extA 1 x24_1) fun x26_1 =>
    resK (call lim 16 [x20_1, x25_1] H) fun x29_1 H =>
    purK (unA .not x29_1) fun x30_1 =>
    purK (gPur (wantV x30_1 false) (some x21_1)) fun x32_1 =>
    purK (gPur (wantV x30_1 false) (some x26_1)) fun x33_1 =>
    purK (gPur (wantV x30_1 false) (binA Try.prog H .neq 25 x32_1 x33_1)) fun x34_1 =>
    purK (pickA x30_1 (.bool true) x34_1) fun x35_1 =>
    N4_6 ρ call yc lim k x0 x3 x35_1 H (fun x0_1 x3_1 H =>
      N4_5 ρ call yc lim k x0_1 x3_1 H (fun x0_2 x3_2 H =>
        N4_4 ρ call yc lim k x0_2 x3_2 H kn)) R)
  (
    k0 H)
theorem N4_3b_x (ρ : Addr → Option Value) (call : CallF) (yc : YieldF) (lim k : Nat) (J : CodeF) (x0 x3 : AV) (H : Heap) (kn : KS) (k0 : KS) (R : List AV → Heap → Res) :
    evX (cx ρ) call yc false 4 lim k J (Code.at [1, 1, 1, 0, 1, 0, 0] c4) (sp 38 [(0, x0), (3, x3)]) H (kk (some [0, 3]) kn [(0, (some []), k0)] R [2]) =
  purK (binA Try.prog H .lss 3 x3 (.int .i64 2)) fun x14_1 =>
  condK x14_1
  (
    resK (call lim 15 [x0] H) fun x19_1 H =>
    purK (extA 0 x19_1) fun x20_1 =>
    purK (extA 1 x19_1) fun x21_1 =>
    resK (call lim 17 [x0] H) fun x24_1 H =>
    purK (extA 0 x24_1) fun x25_1 =>
    purK (extA 1 x24_1) fun x26_1 =>
    resK (call lim 16 [x20_1, x25_1] H) fun x29_1 H =>
    purK (unA .not x29_1) fun x30_1 =>
    purK (gPur (wantV x30_1 false) (some x21_1)) fun x32_1 =>
    purK (gPur (wantV x30_1 false) (some x26_1)) fun x33_1 =>
    purK (gPur (wantV x30_1 false) (binA Try.prog H .neq 25 x32_1 x33_1)) fun x34_1 =>
    purK (pickA x30_1 (.bool true) x34_1) fun x35_1 =>
    J (Code.at [1, 1, 1, 0, 1, 0, 0, 1, 0, 0, 1, 1, 0, 1] c4) (sp 38 [(0, x0), (3, x3), (35, x35_1)]) H (kk (some [0, 3]) (fun s H => J (Code.at [1, 1, 1, 0, 1, 0, 0, 1, 0, 0, 1, 1, 1] c4) s H (kk (some [0, 3]) (fun s H => J (Code.at [1, 1, 1, 0, 1, 0, 0, 1, 1] c4) s H (kk (some [0, 3]) kn [(0, (some []), k0)] R [2])) [(1, (some [0, 3]), (fun s H => J (Code.at [1, 1, 1, 0, 1, 0, 0, 1, 1] c4) s H (kk (some [0, 3]) kn [(0, (some []), k0)] R [2]))), (0, (some []), k0)] R [2])) [(1, (some [0, 3]), (fun s H => J (Code.at [1, 1, 1, 0, 1, 0, 0, 1, 1] c4) s H (kk (some [0, 3]) kn [(0, (some []), k0)] R [2]))), (0, (some []), k0)] R [2]))
  (
    k0 (sp 38 []) H) := by
  kernel_rfl
theorem N4_3b_eq (ρ : Addr → Option Value) (call : CallF) (yc : YieldF) (lim k : Nat) (x0 x3 : AV) (H : Heap) (kn : KS) (k0 : KS) (R : List AV → Heap → Res) :
    evL (cx ρ) call yc false 4 lim k (Code.at [1, 1, 1, 0, 1, 0, 0] c4) (sp 38 [(0, x0), (3, x3)]) H (kk (some [0, 3]) kn [(0, (some []), k0)] R [2]) = N4_3b ρ call yc lim k x0 x3 H (fun x0 x3 H => kn (sp 38 [(0, x0), (3, x3)]) H) (fun H => k0 (sp 38 []) H) R := by
  rw [evL_X, N4_3b_x]
  simp only [← evL_X, N4_3b, N4_4_eq, N4_5_eq, N4_6_eq]
noncomputable def N4_3 (ρ : Addr → Option Value) (call : CallF) (yc : YieldF) (lim k : Nat) (x0 x3 : AV) (H : Heap) (k0 : Heap → Res) (R : List AV → Heap → Res) : Res :=
  loopL (fun (x : AV × AV) H kn => N4_3b ρ call yc lim k x.1 x.2 H (fun x0 x3 H => kn (x0, x3) H) k0 R) k (x0, x3) H
theorem N4_3_eq (ρ : Addr → Option Value) (call : CallF) (yc : YieldF) (lim k : Nat) (x0 x3 : AV) (H : Heap) (kn : KS) (k0 : KS) (R : List AV → Heap → Res) :
    evL (cx ρ) call yc false 4 lim k (Code.at [1, 1, 1, 0, 1, 0] c4) (sp 38 [(0, x0), (3, x3)]) H (kk (some []) kn [(0, (some []), k0)] R [2]) = N4_3 ρ call yc lim k x0 x3 H (fun H => k0 (sp 38 []) H) R := by
  have e : Code.at [1, 1, 1, 0, 1, 0] c4 = .loop (Code.at [1, 1, 1, 0, 1, 0, 0] c4) := by kernel_rfl
  rw [e]
  unfold N4_3
  exact loop_node [0, 3] (fun x : AV × AV => (sp 38 [(0, (x.1)), (3, (x.2))])) (fun (x : AV × AV) H kn => N4_3b ρ call yc lim k x.1 x.2 H (fun x0 x3 H => kn (x0, x3) H) (fun H => k0 (sp 38 []) H) R) (by kernel_rfl) (fun x => by kernel_rfl) (fun x H kn => N4_3b_eq ρ call yc lim k (x.1) (x.2) H kn k0 R) (x0, x3) (sp 38 [(0, x0), (3, x3)]) H (by kernel_rfl)
noncomputable def N4_2 (ρ : Addr → Option Value) (call : CallF) (yc : YieldF) (lim k : Nat) (x0 x3 : AV) (H : Heap) (kn : Heap → Res) (R : List AV → Heap → Res) : Res :=
  N4_3 ρ call yc lim k x0 x3 H kn R
theorem N4_2_x (ρ : Addr → Option Value) (call : CallF) (yc : YieldF) (lim k : Nat) (J : CodeF) (x0 x3 : AV) (H : Heap) (kn : KS) (R : List AV → Heap → Res) :
    evX (cx ρ) call yc false 4 lim k J (Code.at [1, 1, 1, 0, 1] c4) (sp 38 [(0, x0), (3, x3)]) H (kk (some []) kn [] R [2]) =
  J (Code.at [1, 1, 1, 0, 1, 0] c4) (sp 38 [(0, x0), (3, x3)]) H (kk (some []) kn [(0, (some []), kn)] R [2]) := by
  kernel_rfl
theorem N4_2_eq (ρ : Addr → Option Value) (call : CallF) (yc : YieldF) (lim k : Nat) (x0 x3 : AV) (H : Heap) (kn : KS) (R : List AV → Heap → Res) :
    evL (cx ρ) call yc false 4 lim k (Code.at [1, 1, 1, 0, 1] c4) (sp 38 [(0, x0), (3, x3)]) H (kk (some []) kn [] R [2]) = N4_2 ρ call yc lim k x0 x3 H (fun H => kn (sp 38 []) H) R := by
  rw [evL_X, N4_2_x]
  simp only [← evL_X, N4_2, N4_3_eq]
noncomputable def L4 (ρ : Addr → Option Value) (call : CallF) (yc : YieldF) (lim k : Nat) (x0 : AV) (H : Heap) : Res :=
  resK (call lim 9 [] H) fun x8 H =>
  purK (unA .not x8) fun x9 =>
  condK x9
  (
    retK [(.bool false)] H)
  (
    purK (lenT x0) fun x11 =>
    purK (binA Try.prog H .gtr 3 x11 (.int .i64 3000)) fun x12 =>
    condK x12
    (
      retK [(.bool true)] H)
    (
      N4_2 ρ call yc lim k x0 (.int .i64 0) H (fun H =>
        N4_1 ρ call yc lim k H retK) retK))
theorem L4_x (ρ : Addr → Option Value) (call : CallF) (yc : YieldF) (lim k : Nat) (J : CodeF) (x0 : AV) (H : Heap) :
    evX (cx ρ) call yc false 4 lim k J c4 [x0, (.tup []), (.tup []), (.tup []), (.tup []), (.tup []), (.tup []), (.tup []), (.tup []), (.tup []), (.tup []), (.tup []), (.tup []), (.tup []), (.tup []), (.tup []), (.tup []), (.tup []), (.tup []), (.tup []), (.tup []), (.tup []), (.tup []), (.tup []), (.tup []), (.tup []), (.tup []), (.tup []), (.tup []), (.tup []), (.tup []), (.tup []), (.tup []), (.tup []), (.tup []), (.tup []), (.tup []), (.tup [])] H (kk none (fun s H => retK (([2] : List Nat).map fun t => s.getD t (.tup [])) H) [] retK [2]) =
  resK (call lim 9 [] H) fun x8 H =>
  purK (unA .not x8) fun x9 =>
  condK x9
  (
    retK [(.bool false)] H)
  (
    purK (lenT x0) fun x11 =>
    purK (binA Try.prog H .gtr 3 x11 (.int .i64 3000)) fun x12 =>
    condK x12
    (
      retK [(.bool true)] H)
    (
      J (Code.at [1, 1, 1, 0, 1] c4) (sp 38 [(0, x0), (3, (.int .i64 0))]) H (kk (some []) (fun s H => J (Code.at [1, 1, 1, 1] c4) s H (kk none (fun s H => retK (([2] : List Nat).map fun t => s.getD t (.tup [])) H) [] retK [2])) [] retK [2]))) := by
  kernel_rfl
theorem G4 (ρ : Addr → Option Value) (call : CallF) (yc : YieldF) (lim k : Nat) (x0 : AV) (H : Heap) :
    evL (cx ρ) call yc false 4 lim k c4 [x0, (.tup []), (.tup []), (.tup []), (.tup []), (.tup []), (.tup []), (.tup []), (.tup []), (.tup []), (.tup []), (.tup []), (.tup []), (.tup []), (.tup []), (.tup []), (.tup []), (.tup []), (.tup []), (.tup []), (.tup []), (.tup []), (.tup []), (.tup []), (.tup []), (.tup []), (.tup []), (.tup []), (.tup []), (.tup []), (.tup []), (.tup []), (.tup []), (.tup []), (.tup []), (.tup []), (.tup []), (.tup [])] H (kk none (fun s H => retK (([2] : List Nat).map fun t => s.getD t (.tup [])) H) [] retK [2]) = L4 ρ call yc lim k x0 H := by
  rw [evL_X, L4_x]
  simp only [← evL_X, L4, N4_1_eq, N4_2_eq]
theorem E4 (ρ : Addr → Option Value) (k lim : Nat) (x0 : AV) (H : Heap) : evCall (cx ρ) (k + 1) lim 4 [x0] H = L4 ρ (evCall (cx ρ) k) (evCY (cx ρ) k).2 lim k x0 H := by
  rw [evCall_body (cx ρ) k lim 4 _ H Try.f4 c4 [2] (by kernel_rfl) (by kernel_rfl) (by kernel_rfl) (by kernel_rfl) (by kernel_rfl)]
  exact G4 ρ (evCall (cx ρ) k) (evCY (cx ρ) k).2 lim k x0 H
-- haycroft/haycroftlaw31.awake
noncomputable def c9 : Code := Code.of Try.prog 9
noncomputable def L9 (ρ : Addr → Option Value) (call : CallF) (yc : YieldF) (lim k : Nat) (H : Heap) : Res :=
  resK (call lim 11 [.nils] H) fun x4 H =>
  purK (extA 0 x4) fun x5 =>
  purK (extA 1 x4) fun x6 =>
  purK (lenT x5) fun x8 =>
  purK (binA Try.prog H .eql 3 x8 (.int .i64 10)) fun x9 =>
  purK (gPur (wantV x9 true) (some x6)) fun x11 =>
  purK (gPur (wantV x9 true) (binA Try.prog H .eql 25 x11 (.int .i64 0))) fun x12 =>
  purK (pickA x9 x12 (.bool false)) fun x13 =>
  retK [x13] H
theorem G9 (ρ : Addr → Option Value) (call : CallF) (yc : YieldF) (lim k : Nat) (H : Heap) :
    evL (cx ρ) call yc false 9 lim k c9 [(.tup []), (.tup []), (.tup []), (.tup []), (.tup []), (.tup []), (.tup []), (.tup []), (.tup []), (.tup []), (.tup []), (.tup []), (.tup []), (.tup [])] H (kk none (fun s H => retK (([0] : List Nat).map fun t => s.getD t (.tup [])) H) [] retK [0]) = L9 ρ call yc lim k H := by
  kernel_rfl
theorem E9 (ρ : Addr → Option Value) (k lim : Nat) (H : Heap) : evCall (cx ρ) (k + 1) lim 9 [] H = L9 ρ (evCall (cx ρ) k) (evCY (cx ρ) k).2 lim k H := by
  rw [evCall_body (cx ρ) k lim 9 _ H Try.f9 c9 [0] (by kernel_rfl) (by kernel_rfl) (by kernel_rfl) (by kernel_rfl) (by kernel_rfl)]
  exact G9 ρ (evCall (cx ρ) k) (evCY (cx ρ) k).2 lim k H
-- haycroft/haycroftlaw31.far
noncomputable def c10 : Code := Code.of Try.prog 10
noncomputable def N10_1 (ρ : Addr → Option Value) (call : CallF) (yc : YieldF) (lim k : Nat) (H : Heap) (R : List AV → Heap → Res) : Res :=
  R [(.bool false)] H
theorem N10_1_eq (ρ : Addr → Option Value) (call : CallF) (yc : YieldF) (lim k : Nat) (H : Heap) (R : List AV → Heap → Res) :
    evL (cx ρ) call yc false 10 lim k (Code.at [1, 1, 1] c10) (sp 39 []) H (kk none (fun s H => R (([2] : List Nat).map fun t => s.getD t (.tup [])) H) [] R [2]) = N10_1 ρ call yc lim k H R := by
  kernel_rfl
noncomputable def N10_3b (ρ : Addr → Option Value) (call : CallF) (yc : YieldF) (lim k : Nat) (x0 x3 : AV) (H : Heap) (kn : AV → Heap → Res) (k0 : Heap → Res) (R : List AV → Heap → Res) : Res :=
  purK (lenS x0) fun x19_1 =>
  purK (binA Try.prog H .lss 3 x3 x19_1) fun x20_1 =>
  condK x20_1
  (
    purK (ixS 2 x0 x3) fun x25_1 =>
    purK (addA 0 x25_1) fun x26_1 =>
    purK (ld1 ρ H x26_1) fun x27_1 =>
    purK (lenT x27_1) fun x28_1 =>
    purK (binA Try.prog H .gtr 3 x28_1 (.int .i64 200)) fun x29_1 =>
    purK (gPur (wantV x29_1 false) (some x0)) fun x31_1 =>
    purK (gPur (wantV x29_1 false) (some x3)) fun x32_1 =>
    purK (gPur (wantV x29_1 false) (ixS 2 x31_1 x32_1)) fun x33_1 =>
    purK (gPur (wantV x29_1 false) (addA 1 x33_1)) fun x34_1 =>
    purK (gPur (wantV x29_1 false) (ld1 ρ H x34_1)) fun x35_1 =>
    purK (gPur (wantV x29_1 false) (lenT x35_1)) fun x36_1 =>
    purK (gPur (wantV x29_1 false) (binA Try.prog H .gtr 3 x36_1 (.int .i64 200))) fun x37_1 =>
    purK (pickA x29_1 (.bool true) x37_1) fun x38_1 =>
    condK x38_1
    (
      R [(.bool true)] H)
    (
      purK (binA Try.prog H .add 3 x3 (.int .i64 1)) fun x22_1 =>
      kn x22_1 H))
  (
    k0 H)
theorem N10_3b_eq (ρ : Addr → Option Value) (call : CallF) (yc : YieldF) (lim k : Nat) (x0 x3 : AV) (H : Heap) (kn : KS) (k0 : KS) (R : List AV → Heap → Res) :
    evL (cx ρ) call yc false 10 lim k (Code.at [1, 1, 0, 1, 0, 0] c10) (sp 39 [(0, x0), (3, x3)]) H (kk (some [0, 3]) kn [(0, (some []), k0)] R [2]) = N10_3b ρ call yc lim k x0 x3 H (fun x3 H => kn (sp 39 [(0, x0), (3, x3)]) H) (fun H => k0 (sp 39 []) H) R := by
  kernel_rfl
noncomputable def N10_3 (ρ : Addr → Option Value) (call : CallF) (yc : YieldF) (lim k : Nat) (x0 x3 : AV) (H : Heap) (k0 : Heap → Res) (R : List AV → Heap → Res) : Res :=
  loopL (fun (x : AV) H kn => N10_3b ρ call yc lim k x0 x H (fun x3 H => kn x3 H) k0 R) k x3 H
theorem N10_3_eq (ρ : Addr → Option Value) (call : CallF) (yc : YieldF) (lim k : Nat) (x0 x3 : AV) (H : Heap) (kn : KS) (k0 : KS) (R : List AV → Heap → Res) :
    evL (cx ρ) call yc false 10 lim k (Code.at [1, 1, 0, 1, 0] c10) (sp 39 [(0, x0), (3, x3)]) H (kk (some []) kn [(0, (some []), k0)] R [2]) = N10_3 ρ call yc lim k x0 x3 H (fun H => k0 (sp 39 []) H) R := by
  have e : Code.at [1, 1, 0, 1, 0] c10 = .loop (Code.at [1, 1, 0, 1, 0, 0] c10) := by kernel_rfl
  rw [e]
  unfold N10_3
  exact loop_node [0, 3] (fun x : AV => (sp 39 [(0, x0), (3, (x))])) (fun (x : AV) H kn => N10_3b ρ call yc lim k x0 x H (fun x3 H => kn x3 H) (fun H => k0 (sp 39 []) H) R) (by kernel_rfl) (fun x => by kernel_rfl) (fun x H kn => N10_3b_eq ρ call yc lim k x0 (x) H kn k0 R) x3 (sp 39 [(0, x0), (3, x3)]) H (by kernel_rfl)
noncomputable def N10_2 (ρ : Addr → Option Value) (call : CallF) (yc : YieldF) (lim k : Nat) (x0 x3 : AV) (H : Heap) (kn : Heap → Res) (R : List AV → Heap → Res) : Res :=
  N10_3 ρ call yc lim k x0 x3 H kn R
theorem N10_2_x (ρ : Addr → Option Value) (call : CallF) (yc : YieldF) (lim k : Nat) (J : CodeF) (x0 x3 : AV) (H : Heap) (kn : KS) (R : List AV → Heap → Res) :
    evX (cx ρ) call yc false 10 lim k J (Code.at [1, 1, 0, 1] c10) (sp 39 [(0, x0), (3, x3)]) H (kk (some []) kn [] R [2]) =
  J (Code.at [1, 1, 0, 1, 0] c10) (sp 39 [(0, x0), (3, x3)]) H (kk (some []) kn [(0, (some []), kn)] R [2]) := by
  kernel_rfl
theorem N10_2_eq (ρ : Addr → Option Value) (call : CallF) (yc : YieldF) (lim k : Nat) (x0 x3 : AV) (H : Heap) (kn : KS) (R : List AV → Heap → Res) :
    evL (cx ρ) call yc false 10 lim k (Code.at [1, 1, 0, 1] c10) (sp 39 [(0, x0), (3, x3)]) H (kk (some []) kn [] R [2]) = N10_2 ρ call yc lim k x0 x3 H (fun H => kn (sp 39 []) H) R := by
  rw [evL_X, N10_2_x]
  simp only [← evL_X, N10_2, N10_3_eq]
noncomputable def L10 (ρ : Addr → Option Value) (call : CallF) (yc : YieldF) (lim k : Nat) (x0 : AV) (H : Heap) : Res :=
  purK (lenS x0) fun x5 =>
  purK (binA Try.prog H .gtr 3 x5 (.int .i64 60)) fun x6 =>
  purK (gPur (wantV x6 true) (some x0)) fun x8 =>
  purK (gPur (wantV x6 true) (lenS x8)) fun x9 =>
  purK (gPur (wantV x6 true) (binA Try.prog H .leq 3 x9 (.int .i64 1000))) fun x10 =>
  purK (pickA x6 x10 (.bool false)) fun x11 =>
  purK (gPur (wantV x11 false) (some x0)) fun x13 =>
  purK (gPur (wantV x11 false) (lenS x13)) fun x14 =>
  purK (gPur (wantV x11 false) (binA Try.prog H .gtr 3 x14 (.int .i64 1100))) fun x15 =>
  purK (pickA x11 (.bool true) x15) fun x16 =>
  condK x16
  (
    retK [(.bool true)] H)
  (
    N10_2 ρ call yc lim k x0 (.int .i64 0) H (fun H =>
      N10_1 ρ call yc lim k H retK) retK)
theorem L10_x (ρ : Addr → Option Value) (call : CallF) (yc : YieldF) (lim k : Nat) (J : CodeF) (x0 : AV) (H : Heap) :
    evX (cx ρ) call yc false 10 lim k J c10 [x0, (.tup []), (.tup []), (.tup []), (.tup []), (.tup []), (.tup []), (.tup []), (.tup []), (.tup []), (.tup []), (.tup []), (.tup []), (.tup []), (.tup []), (.tup []), (.tup []), (.tup []), (.tup []), (.tup []), (.tup []), (.tup []), (.tup []), (.tup []), (.tup []), (.tup []), (.tup []), (.tup []), (.tup []), (.tup []), (.tup []), (.tup []), (.tup []), (.tup []), (.tup []), (.tup []), (.tup []), (.tup []), (.tup [])] H (kk none (fun s H => retK (([2] : List Nat).map fun t => s.getD t (.tup [])) H) [] retK [2]) =
  purK (lenS x0) fun x5 =>
  purK (binA Try.prog H .gtr 3 x5 (.int .i64 60)) fun x6 =>
  purK (gPur (wantV x6 true) (some x0)) fun x8 =>
  purK (gPur (wantV x6 true) (lenS x8)) fun x9 =>
  purK (gPur (wantV x6 true) (binA Try.prog H .leq 3 x9 (.int .i64 1000))) fun x10 =>
  purK (pickA x6 x10 (.bool false)) fun x11 =>
  purK (gPur (wantV x11 false) (some x0)) fun x13 =>
  purK (gPur (wantV x11 false) (lenS x13)) fun x14 =>
  purK (gPur (wantV x11 false) (binA Try.prog H .gtr 3 x14 (.int .i64 1100))) fun x15 =>
  purK (pickA x11 (.bool true) x15) fun x16 =>
  condK x16
  (
    retK [(.bool true)] H)
  (
    J (Code.at [1, 1, 0, 1] c10) (sp 39 [(0, x0), (3, (.int .i64 0))]) H (kk (some []) (fun s H => J (Code.at [1, 1, 1] c10) s H (kk none (fun s H => retK (([2] : List Nat).map fun t => s.getD t (.tup [])) H) [] retK [2])) [] retK [2])) := by
  kernel_rfl
theorem G10 (ρ : Addr → Option Value) (call : CallF) (yc : YieldF) (lim k : Nat) (x0 : AV) (H : Heap) :
    evL (cx ρ) call yc false 10 lim k c10 [x0, (.tup []), (.tup []), (.tup []), (.tup []), (.tup []), (.tup []), (.tup []), (.tup []), (.tup []), (.tup []), (.tup []), (.tup []), (.tup []), (.tup []), (.tup []), (.tup []), (.tup []), (.tup []), (.tup []), (.tup []), (.tup []), (.tup []), (.tup []), (.tup []), (.tup []), (.tup []), (.tup []), (.tup []), (.tup []), (.tup []), (.tup []), (.tup []), (.tup []), (.tup []), (.tup []), (.tup []), (.tup []), (.tup [])] H (kk none (fun s H => retK (([2] : List Nat).map fun t => s.getD t (.tup [])) H) [] retK [2]) = L10 ρ call yc lim k x0 H := by
  rw [evL_X, L10_x]
  simp only [← evL_X, L10, N10_1_eq, N10_2_eq]
theorem E10 (ρ : Addr → Option Value) (k lim : Nat) (x0 : AV) (H : Heap) : evCall (cx ρ) (k + 1) lim 10 [x0] H = L10 ρ (evCall (cx ρ) k) (evCY (cx ρ) k).2 lim k x0 H := by
  rw [evCall_body (cx ρ) k lim 10 _ H Try.f10 c10 [2] (by kernel_rfl) (by kernel_rfl) (by kernel_rfl) (by kernel_rfl) (by kernel_rfl)]
  exact G10 ρ (evCall (cx ρ) k) (evCY (cx ρ) k).2 lim k x0 H
-- haycroft/dump.Pack
noncomputable def c11 : Code := Code.of Try.prog 11
noncomputable def N11_1 (ρ : Addr → Option Value) (call : CallF) (yc : YieldF) (lim k : Nat) (x4 : AV) (H : Heap) (R : List AV → Heap → Res) : Res :=
  resK (call lim 35 [x4] H) fun x43_1 H =>
  resK (call lim 34 [x43_1] H) fun x44_1 H =>
  R [x44_1, (.int .i64 0)] H
theorem N11_1_eq (ρ : Addr → Option Value) (call : CallF) (yc : YieldF) (lim k : Nat) (x4 : AV) (H : Heap) (R : List AV → Heap → Res) :
    evL (cx ρ) call yc false 11 lim k (Code.at [1, 1, 1, 1, 1, 1] c11) (sp 45 [(4, x4)]) H (kk none (fun s H => R (([2, 3] : List Nat).map fun t => s.getD t (.tup [])) H) [] R [2, 3]) = N11_1 ρ call yc lim k x4 H R := by
  kernel_rfl
noncomputable def N11_3b (ρ : Addr → Option Value) (call : CallF) (yc : YieldF) (lim k : Nat) (x4 x20 x21 x22 : AV) (H : Heap) (kn : AV → Heap → Res) (k0 : AV → Heap → Res) : Res :=
  purK (binA Try.prog H .lss 3 x22 x21) fun x23_1 =>
  condK x23_1
  (
    purK (ixS 2 x20 x22) fun x24_1 =>
    purK (ldN ρ H 2 x24_1) fun x25_1 =>
    effK H (some (.ptr H.sz 0 0, .new (newCells 70 false [.str ByteArray.empty, .str ByteArray.empty]))) fun x6_1 H =>
    effK H (stA lim H 2 x6_1 x25_1) fun _ H =>
    purK (addA 0 x6_1) fun x26_1 =>
    purK (ld1 ρ H x26_1) fun x27_1 =>
    purK (lenT x27_1) fun x28_1 =>
    purK (cvI .u8 x28_1) fun x29_1 =>
    resK (call lim 32 [x4, x29_1] H) fun x30_1 H =>
    purK (addA 1 x6_1) fun x31_1 =>
    purK (ld1 ρ H x31_1) fun x32_1 =>
    purK (lenT x32_1) fun x33_1 =>
    purK (cvI .u8 x33_1) fun x34_1 =>
    resK (call lim 32 [x4, x34_1] H) fun x35_1 H =>
    purK (addA 0 x6_1) fun x36_1 =>
    purK (ld1 ρ H x36_1) fun x37_1 =>
    resK (call lim 33 [x4, x37_1] H) fun x38_1 H =>
    purK (addA 1 x6_1) fun x39_1 =>
    purK (ld1 ρ H x39_1) fun x40_1 =>
    resK (call lim 33 [x4, x40_1] H) fun x41_1 H =>
    purK (binA Try.prog H .add 3 x22 (.int .i64 1)) fun x42_1 =>
    kn x42_1 H)
  (
    k0 x4 H)
theorem N11_3b_eq (ρ : Addr → Option Value) (call : CallF) (yc : YieldF) (lim k : Nat) (x4 x20 x21 x22 : AV) (H : Heap) (kn : KS) (k0 : KS) (R : List AV → Heap → Res) :
    evL (cx ρ) call yc false 11 lim k (Code.at [1, 1, 1, 1, 1, 0, 1, 0, 0] c11) (sp 45 [(4, x4), (20, x20), (21, x21), (22, x22)]) H (kk (some [4, 20, 21, 22]) kn [(0, (some [4]), k0)] R [2, 3]) = N11_3b ρ call yc lim k x4 x20 x21 x22 H (fun x22 H => kn (sp 45 [(4, x4), (20, x20), (21, x21), (22, x22)]) H) (fun x4 H => k0 (sp 45 [(4, x4)]) H) := by
  kernel_rfl
noncomputable def N11_3 (ρ : Addr → Option Value) (call : CallF) (yc : YieldF) (lim k : Nat) (x4 x20 x21 x22 : AV) (H : Heap) (k0 : AV → Heap → Res) : Res :=
  loopL (fun (x : AV) H kn => N11_3b ρ call yc lim k x4 x20 x21 x H (fun x22 H => kn x22 H) k0) k x22 H
theorem N11_3_eq (ρ : Addr → Option Value) (call : CallF) (yc : YieldF) (lim k : Nat) (x4 x20 x21 x22 : AV) (H : Heap) (kn : KS) (k0 : KS) (R : List AV → Heap → Res) :
    evL (cx ρ) call yc false 11 lim k (Code.at [1, 1, 1, 1, 1, 0, 1, 0] c11) (sp 45 [(4, x4), (20, x20), (21, x21), (22, x22)]) H (kk (some [4]) kn [(0, (some [4]), k0)] R [2, 3]) = N11_3 ρ call yc lim k x4 x20 x21 x22 H (fun x4 H => k0 (sp 45 [(4, x4)]) H) := by
  have e : Code.at [1, 1, 1, 1, 1, 0, 1, 0] c11 = .loop (Code.at [1, 1, 1, 1, 1, 0, 1, 0, 0] c11) := by kernel_rfl
  rw [e]
  unfold N11_3
  exact loop_node [4, 20, 21, 22] (fun x : AV => (sp 45 [(4, x4), (20, x20), (21, x21), (22, (x))])) (fun (x : AV) H kn => N11_3b ρ call yc lim k x4 x20 x21 x H (fun x22 H => kn x22 H) (fun x4 H => k0 (sp 45 [(4, x4)]) H)) (by kernel_rfl) (fun x => by kernel_rfl) (fun x H kn => N11_3b_eq ρ call yc lim k x4 x20 x21 (x) H kn k0 R) x22 (sp 45 [(4, x4), (20, x20), (21, x21), (22, x22)]) H (by kernel_rfl)
noncomputable def N11_2 (ρ : Addr → Option Value) (call : CallF) (yc : YieldF) (lim k : Nat) (x4 x20 x21 x22 : AV) (H : Heap) (kn : AV → Heap → Res) : Res :=
  N11_3 ρ call yc lim k x4 x20 x21 x22 H kn
theorem N11_2_x (ρ : Addr → Option Value) (call : CallF) (yc : YieldF) (lim k : Nat) (J : CodeF) (x4 x20 x21 x22 : AV) (H : Heap) (kn : KS) (R : List AV → Heap → Res) :
    evX (cx ρ) call yc false 11 lim k J (Code.at [1, 1, 1, 1, 1, 0, 1] c11) (sp 45 [(4, x4), (20, x20), (21, x21), (22, x22)]) H (kk (some [4]) kn [] R [2, 3]) =
  J (Code.at [1, 1, 1, 1, 1, 0, 1, 0] c11) (sp 45 [(4, x4), (20, x20), (21, x21), (22, x22)]) H (kk (some [4]) kn [(0, (some [4]), kn)] R [2, 3]) := by
  kernel_rfl
theorem N11_2_eq (ρ : Addr → Option Value) (call : CallF) (yc : YieldF) (lim k : Nat) (x4 x20 x21 x22 : AV) (H : Heap) (kn : KS) (R : List AV → Heap → Res) :
    evL (cx ρ) call yc false 11 lim k (Code.at [1, 1, 1, 1, 1, 0, 1] c11) (sp 45 [(4, x4), (20, x20), (21, x21), (22, x22)]) H (kk (some [4]) kn [] R [2, 3]) = N11_2 ρ call yc lim k x4 x20 x21 x22 H (fun x4 H => kn (sp 45 [(4, x4)]) H) := by
  rw [evL_X, N11_2_x]
  simp only [← evL_X, N11_2, N11_3_eq]
noncomputable def L11 (ρ : Addr → Option Value) (call : CallF) (yc : YieldF) (lim k : Nat) (x0 : AV) (H : Heap) : Res :=
  resK (call lim 13 [x0] H) fun x8 H =>
  purK (unA .not x8) fun x9 =>
  condK x9
  (
    retK [(.str (ByteArray.mk #[])), (.int .i64 1)] H)
  (
    effK H (some (.ptr H.sz 0 0, .new (newCells 73 false [.nilp, .nils]))) fun x4 H =>
    purK (lenS x0) fun x11 =>
    purK (binA Try.prog H .rem 3 x11 (.int .i64 256)) fun x12 =>
    purK (cvI .u8 x12) fun x13 =>
    resK (call lim 32 [x4, x13] H) fun x14 H =>
    purK (lenS x0) fun x16 =>
    purK (binA Try.prog H .quo 3 x16 (.int .i64 256)) fun x17 =>
    purK (cvI .u8 x17) fun x18 =>
    resK (call lim 32 [x4, x18] H) fun x19 H =>
    purK (lenS x0) fun x21 =>
    N11_2 ρ call yc lim k x4 x0 x21 (.int .i64 0) H (fun x4_1 H =>
      N11_1 ρ call yc lim k x4_1 H retK))
theorem L11_x (ρ : Addr → Option Value) (call : CallF) (yc : YieldF) (lim k : Nat) (J : CodeF) (x0 : AV) (H : Heap) :
    evX (cx ρ) call yc false 11 lim k J c11 [x0, (.tup []), (.tup []), (.tup []), (.tup []), (.tup []), (.tup []), (.tup []), (.tup []), (.tup []), (.tup []), (.tup []), (.tup []), (.tup []), (.tup []), (.tup []), (.tup []), (.tup []), (.tup []), (.tup []), (.tup []), (.tup []), (.tup []), (.tup []), (.tup []), (.tup []), (.tup []), (.tup []), (.tup []), (.tup []), (.tup []), (.tup []), (.tup []), (.tup []), (.tup []), (.tup []), (.tup []), (.tup []), (.tup []), (.tup []), (.tup []), (.tup []), (.tup []), (.tup []), (.tup [])] H (kk none (fun s H => retK (([2, 3] : List Nat).map fun t => s.getD t (.tup [])) H) [] retK [2, 3]) =
  resK (call lim 13 [x0] H) fun x8 H =>
  purK (unA .not x8) fun x9 =>
  condK x9
  (
    retK [(.str (ByteArray.mk #[])), (.int .i64 1)] H)
  (
    effK H (some (.ptr H.sz 0 0, .new (newCells 73 false [.nilp, .nils]))) fun x4 H =>
    purK (lenS x0) fun x11 =>
    purK (binA Try.prog H .rem 3 x11 (.int .i64 256)) fun x12 =>
    purK (cvI .u8 x12) fun x13 =>
    resK (call lim 32 [x4, x13] H) fun x14 H =>
    purK (lenS x0) fun x16 =>
    purK (binA Try.prog H .quo 3 x16 (.int .i64 256)) fun x17 =>
    purK (cvI .u8 x17) fun x18 =>
    resK (call lim 32 [x4, x18] H) fun x19 H =>
    purK (lenS x0) fun x21 =>
    J (Code.at [1, 1, 1, 1, 1, 0, 1] c11) (sp 45 [(4, x4), (20, x0), (21, x21), (22, (.int .i64 0))]) H (kk (some [4]) (fun s H => J (Code.at [1, 1, 1, 1, 1, 1] c11) s H (kk none (fun s H => retK (([2, 3] : List Nat).map fun t => s.getD t (.tup [])) H) [] retK [2, 3])) [] retK [2, 3])) := by
  kernel_rfl
theorem G11 (ρ : Addr → Option Value) (call : CallF) (yc : YieldF) (lim k : Nat) (x0 : AV) (H : Heap) :
    evL (cx ρ) call yc false 11 lim k c11 [x0, (.tup []), (.tup []), (.tup []), (.tup []), (.tup []), (.tup []), (.tup []), (.tup []), (.tup []), (.tup []), (.tup []), (.tup []), (.tup []), (.tup []), (.tup []), (.tup []), (.tup []), (.tup []), (.tup []), (.tup []), (.tup []), (.tup []), (.tup []), (.tup []), (.tup []), (.tup []), (.tup []), (.tup []), (.tup []), (.tup []), (.tup []), (.tup []), (.tup []), (.tup []), (.tup []), (.tup []), (.tup []), (.tup []), (.tup []), (.tup []), (.tup []), (.tup []), (.tup []), (.tup [])] H (kk none (fun s H => retK (([2, 3] : List Nat).map fun t => s.getD t (.tup [])) H) [] retK [2, 3]) = L11 ρ call yc lim k x0 H := by
  rw [evL_X, L11_x]
  simp only [← evL_X, L11, N11_1_eq, N11_2_eq]
theorem E11 (ρ : Addr → Option Value) (k lim : Nat) (x0 : AV) (H : Heap) : evCall (cx ρ) (k + 1) lim 11 [x0] H = L11 ρ (evCall (cx ρ) k) (evCY (cx ρ) k).2 lim k x0 H := by
  rw [evCall_body (cx ρ) k lim 11 _ H Try.f11 c11 [2, 3] (by kernel_rfl) (by kernel_rfl) (by kernel_rfl) (by kernel_rfl) (by kernel_rfl)]
  exact G11 ρ (evCall (cx ρ) k) (evCY (cx ρ) k).2 lim k x0 H
-- haycroft/haycroftref31.Pack
noncomputable def c12 : Code := Code.of Try.prog 12
noncomputable def N12_1 (ρ : Addr → Option Value) (call : CallF) (yc : YieldF) (lim k : Nat) (x4 : AV) (H : Heap) (R : List AV → Heap → Res) : Res :=
  purK (b2s ρ H x4) fun x56_1 =>
  resK (call lim 18 [x56_1] H) fun x57_1 H =>
  R [x57_1, (.int .i64 0)] H
theorem N12_1_eq (ρ : Addr → Option Value) (call : CallF) (yc : YieldF) (lim k : Nat) (x4 : AV) (H : Heap) (R : List AV → Heap → Res) :
    evL (cx ρ) call yc false 12 lim k (Code.at [1, 1, 1, 1] c12) (sp 58 [(4, x4)]) H (kk none (fun s H => R (([2, 3] : List Nat).map fun t => s.getD t (.tup [])) H) [] R [2, 3]) = N12_1 ρ call yc lim k x4 H R := by
  kernel_rfl
noncomputable def N12_4 (ρ : Addr → Option Value) (call : CallF) (yc : YieldF) (lim k : Nat) (x0 x4 x5 : AV) (H : Heap) (kn : AV → AV → Heap → Res) : Res :=
  purK (binA Try.prog H .add 3 x5 (.int .i64 1)) fun x23_1 =>
  kn x4 x23_1 H
theorem N12_4_eq (ρ : Addr → Option Value) (call : CallF) (yc : YieldF) (lim k : Nat) (x0 x4 x5 : AV) (H : Heap) (kn : KS) (k0 : KS) (R : List AV → Heap → Res) :
    evL (cx ρ) call yc false 12 lim k (Code.at [1, 1, 1, 0, 1, 0, 0, 1, 1] c12) (sp 58 [(0, x0), (4, x4), (5, x5)]) H (kk (some [0, 4, 5]) kn [(0, (some [4]), k0)] R [2, 3]) = N12_4 ρ call yc lim k x0 x4 x5 H (fun x4 x5 H => kn (sp 58 [(0, x0), (4, x4), (5, x5)]) H) := by
  kernel_rfl
noncomputable def N12_5 (ρ : Addr → Option Value) (call : CallF) (yc : YieldF) (lim k : Nat) (x0 x4 x5 : AV) (H : Heap) (kn : AV → AV → Heap → Res) : Res :=
  purK (ixS 2 x0 x5) fun x51_1 =>
  purK (addA 1 x51_1) fun x52_1 =>
  purK (ld1 ρ H x52_1) fun x53_1 =>
  effK H (apA ρ lim H 5 1 1 x4 x53_1) fun x54_1 H =>
  kn x54_1 x5 H
theorem N12_5_eq (ρ : Addr → Option Value) (call : CallF) (yc : YieldF) (lim k : Nat) (x0 x4 x5 : AV) (H : Heap) (kn : KS) (k1 : KS) (k0 : KS) (R : List AV → Heap → Res) :
    evL (cx ρ) call yc false 12 lim k (Code.at [1, 1, 1, 0, 1, 0, 0, 1, 0, 0, 1, 1] c12) (sp 58 [(0, x0), (4, x4), (5, x5)]) H (kk (some [0, 4, 5]) kn [(1, (some [0, 4, 5]), k1), (0, (some [4]), k0)] R [2, 3]) = N12_5 ρ call yc lim k x0 x4 x5 H (fun x4 x5 H => kn (sp 58 [(0, x0), (4, x4), (5, x5)]) H) := by
  kernel_rfl
noncomputable def N12_3b (ρ : Addr → Option Value) (call : CallF) (yc : YieldF) (lim k : Nat) (x0 x4 x5 : AV) (H : Heap) (kn : AV → AV → Heap → Res) (k0 : AV → Heap → Res) : Res :=
  purK (lenS x0) fun x20_1 =>
  purK (binA Try.prog H .lss 3 x5 x20_1) fun x21_1 =>
  condK x21_1
  (
    purK (ixS 2 x0 x5) fun x27_1 =>
    purK (addA 0 x27_1) fun x28_1 =>
    purK (ld1 ρ H x28_1) fun x29_1 =>
    purK (lenT x29_1) fun x30_1 =>
    purK (cvI .u8 x30_1) fun x31_1 =>
    purK (ixS 2 x0 x5) fun x34_1 =>
    purK (addA 1 x34_1) fun x35_1 =>
    purK (ld1 ρ H x35_1) fun x36_1 =>
    purK (lenT x36_1) fun x37_1 =>
    purK (cvI .u8 x37_1) fun x38_1 =>
    mkK H (bldS H 5 1 [.int .u8 0] 2 [(0, 1, x31_1), (1, 1, x38_1)]) true fun x39_1 H => bif (agn (cvI .u8 x37_1) x38_1 && (agn (lenT x36_1) x37_1 && (agn (ld1 ρ H x35_1) x36_1 && (agn (cvI .u8 x30_1) x31_1 && (agn (lenT x29_1) x30_1 && (agn (ld1 ρ H x28_1) x29_1 && true)))))) then
      effK H (apA ρ lim H 5 1 1 x4 x39_1) fun x40_1 H =>
      purK (ixS 2 x0 x5) fun x44_1 =>
      purK (addA 0 x44_1) fun x45_1 =>
      purK (ld1 ρ H x45_1) fun x46_1 =>
      effK H (apA ρ lim H 5 1 1 x40_1 x46_1) fun x47_1 H =>
      N12_5 ρ call yc lim k x0 x47_1 x5 H (fun x4_2 x5_1 H =>
        N12_4 ρ call yc lim k x0 x4_2 x5_1 H kn)
    else none)
  (
    k0 x4 H)
theorem N12_3b_x (ρ : Addr → Option Value) (call : CallF) (yc : YieldF) (lim k : Nat) (J : CodeF) (x0 x4 x5 : AV) (H : Heap) (kn : KS) (k0 : KS) (R : List AV → Heap → Res) :
    evX (cx ρ) call yc false 12 lim k J (Code.at [1, 1, 1, 0, 1, 0, 0] c12) (sp 58 [(0, x0), (4, x4), (5, x5)]) H (kk (some [0, 4, 5]) kn [(0, (some [4]), k0)] R [2, 3]) =
  purK (lenS x0) fun x20_1 =>
  purK (binA Try.prog H .lss 3 x5 x20_1) fun x21_1 =>
  condK x21_1
  (
    purK (ixS 2 x0 x5) fun x27_1 =>
    purK (addA 0 x27_1) fun x28_1 =>
    purK (ld1 ρ H x28_1) fun x29_1 =>
    purK (lenT x29_1) fun x30_1 =>
    purK (cvI .u8 x30_1) fun x31_1 =>
    purK (ixS 2 x0 x5) fun x34_1 =>
    purK (addA 1 x34_1) fun x35_1 =>
    purK (ld1 ρ H x35_1) fun x36_1 =>
    purK (lenT x36_1) fun x37_1 =>
    purK (cvI .u8 x37_1) fun x38_1 =>
    mkK H (bldS H 5 1 [.int .u8 0] 2 [(0, 1, x31_1), (1, 1, x38_1)]) true fun x39_1 H => bif (agn (cvI .u8 x37_1) x38_1 && (agn (lenT x36_1) x37_1 && (agn (ld1 ρ H x35_1) x36_1 && (agn (cvI .u8 x30_1) x31_1 && (agn (lenT x29_1) x30_1 && (agn (ld1 ρ H x28_1) x29_1 && true)))))) then
      effK H (apA ρ lim H 5 1 1 x4 x39_1) fun x40_1 H =>
      purK (ixS 2 x0 x5) fun x44_1 =>
      purK (addA 0 x44_1) fun x45_1 =>
      purK (ld1 ρ H x45_1) fun x46_1 =>
      effK H (apA ρ lim H 5 1 1 x40_1 x46_1) fun x47_1 H =>
      J (Code.at [1, 1, 1, 0, 1, 0, 0, 1, 0, 0, 1, 1] c12) (sp 58 [(0, x0), (4, x47_1), (5, x5)]) H (kk (some [0, 4, 5]) (fun s H => J (Code.at [1, 1, 1, 0, 1, 0, 0, 1, 1] c12) s H (kk (some [0, 4, 5]) kn [(0, (some [4]), k0)] R [2, 3])) [(1, (some [0, 4, 5]), (fun s H => J (Code.at [1, 1, 1, 0, 1, 0, 0, 1, 1] c12) s H (kk (some [0, 4, 5]) kn [(0, (some [4]), k0)] R [2, 3]))), (0, (some [4]), k0)] R [2, 3])
    else none)
  (
    k0 (sp 58 [(4, x4)]) H) := by
  kernel_rfl
theorem N12_3b_eq (ρ : Addr → Option Value) (call : CallF) (yc : YieldF) (lim k : Nat) (x0 x4 x5 : AV) (H : Heap) (kn : KS) (k0 : KS) (R : List AV → Heap → Res) :
    evL (cx ρ) call yc false 12 lim k (Code.at [1, 1, 1, 0, 1, 0, 0] c12) (sp 58 [(0, x0), (4, x4), (5, x5)]) H (kk (some [0, 4, 5]) kn [(0, (some [4]), k0)] R [2, 3]) = N12_3b ρ call yc lim k x0 x4 x5 H (fun x4 x5 H => kn (sp 58 [(0, x0), (4, x4), (5, x5)]) H) (fun x4 H => k0 (sp 58 [(4, x4)]) H) := by
  rw [evL_X, N12_3b_x]
  simp only [← evL_X, N12_3b, N12_4_eq, N12_5_eq]
noncomputable def N12_3 (ρ : Addr → Option Value) (call : CallF) (yc : YieldF) (lim k : Nat) (x0 x4 x5 : AV) (H : Heap) (k0 : AV → Heap → Res) : Res :=
  loopL (fun (x : AV × AV) H kn => N12_3b ρ call yc lim k x0 x.1 x.2 H (fun x4 x5 H => kn (x4, x5) H) k0) k (x4, x5) H
theorem N12_3_eq (ρ : Addr → Option Value) (call : CallF) (yc : YieldF) (lim k : Nat) (x0 x4 x5 : AV) (H : Heap) (kn : KS) (k0 : KS) (R : List AV → Heap → Res) :
    evL (cx ρ) call yc false 12 lim k (Code.at [1, 1, 1, 0, 1, 0] c12) (sp 58 [(0, x0), (4, x4), (5, x5)]) H (kk (some [4]) kn [(0, (some [4]), k0)] R [2, 3]) = N12_3 ρ call yc lim k x0 x4 x5 H (fun x4 H => k0 (sp 58 [(4, x4)]) H) := by
  have e : Code.at [1, 1, 1, 0, 1, 0] c12 = .loop (Code.at [1, 1, 1, 0, 1, 0, 0] c12) := by kernel_rfl
  rw [e]
  unfold N12_3
  exact loop_node [0, 4, 5] (fun x : AV × AV => (sp 58 [(0, x0), (4, (x.1)), (5, (x.2))])) (fun (x : AV × AV) H kn => N12_3b ρ call yc lim k x0 x.1 x.2 H (fun x4 x5 H => kn (x4, x5) H) (fun x4 H => k0 (sp 58 [(4, x4)]) H)) (by kernel_rfl) (fun x => by kernel_rfl) (fun x H kn => N12_3b_eq ρ call yc lim k x0 (x.1) (x.2) H kn k0 R) (x4, x5) (sp 58 [(0, x0), (4, x4), (5, x5)]) H (by kernel_rfl)
noncomputable def N12_2 (ρ : Addr → Option Value) (call : CallF) (yc : YieldF) (lim k : Nat) (x0 x4 x5 : AV) (H : Heap) (kn : AV → Heap → Res) : Res :=
  N12_3 ρ call yc lim k x0 x4 x5 H kn
theorem N12_2_x (ρ : Addr → Option Value) (call : CallF) (yc : YieldF) (lim k : Nat) (J : CodeF) (x0 x4 x5 : AV) (H : Heap) (kn : KS) (R : List AV → Heap → Res) :
    evX (cx ρ) call yc false 12 lim k J (Code.at [1, 1, 1, 0, 1] c12) (sp 58 [(0, x0), (4, x4), (5, x5)]) H (kk (some [4]) kn [] R [2, 3]) =
  J (Code.at [1, 1, 1, 0, 1, 0] c12) (sp 58 [(0, x0), (4, x4), (5, x5)]) H (kk (some [4]) kn [(0, (some [4]), kn)] R [2, 3]) := by
  kernel_rfl
theorem N12_2_eq (ρ : Addr → Option Value) (call : CallF) (yc : YieldF) (lim k : Nat) (x0 x4 x5 : AV) (H : Heap) (kn : KS) (R : List AV → Heap → Res) :
    evL (cx ρ) call yc false 12 lim k (Code.at [1, 1, 1, 0, 1] c12) (sp 58 [(0, x0), (4, x4), (5, x5)]) H (kk (some [4]) kn [] R [2, 3]) = N12_2 ρ call yc lim k x0 x4 x5 H (fun x4 H => kn (sp 58 [(4, x4)]) H) := by
  rw [evL_X, N12_2_x]
  simp only [← evL_X, N12_2, N12_3_eq]
noncomputable def L12 (ρ : Addr → Option Value) (call : CallF) (yc : YieldF) (lim k : Nat) (x0 : AV) (H : Heap) : Res :=
  resK (call lim 14 [x0] H) fun x7 H =>
  purK (unA .not x7) fun x8 =>
  condK x8
  (
    retK [(.str (ByteArray.mk #[])), (.int .i64 1)] H)
  (
    purK (lenS x0) fun x10 =>
    purK (binA Try.prog H .rem 3 x10 (.int .i64 256)) fun x11 =>
    purK (cvI .u8 x11) fun x12 =>
    purK (lenS x0) fun x14 =>
    purK (binA Try.prog H .quo 3 x14 (.int .i64 256)) fun x15 =>
    purK (cvI .u8 x15) fun x16 =>
    effK H (bldS H 5 1 [.int .u8 0] 2 [(0, 1, x12), (1, 1, x16)]) fun x17 H =>
    N12_2 ρ call yc lim k x0 x17 (.int .i64 0) H (fun x4 H =>
      N12_1 ρ call yc lim k x4 H retK))
theorem L12_x (ρ : Addr → Option Value) (call : CallF) (yc : YieldF) (lim k : Nat) (J : CodeF) (x0 : AV) (H : Heap) :
    evX (cx ρ) call yc false 12 lim k J c12 [x0, (.tup []), (.tup []), (.tup []), (.tup []), (.tup []), (.tup []), (.tup []), (.tup []), (.tup []), (.tup []), (.tup []), (.tup []), (.tup []), (.tup []), (.tup []), (.tup []), (.tup []), (.tup []), (.tup []), (.tup []), (.tup []), (.tup []), (.tup []), (.tup []), (.tup []), (.tup []), (.tup []), (.tup []), (.tup []), (.tup []), (.tup []), (.tup []), (.tup []), (.tup []), (.tup []), (.tup []), (.tup []), (.tup []), (.tup []), (.tup []), (.tup []), (.tup []), (.tup []), (.tup []), (.tup []), (.tup []), (.tup []), (.tup []), (.tup []), (.tup []), (.tup []), (.tup []), (.tup []), (.tup []), (.tup []), (.tup []), (.tup [])] H (kk none (fun s H => retK (([2, 3] : List Nat).map fun t => s.getD t (.tup [])) H) [] retK [2, 3]) =
  resK (call lim 14 [x0] H) fun x7 H =>
  purK (unA .not x7) fun x8 =>
  condK x8
  (
    retK [(.str (ByteArray.mk #[])), (.int .i64 1)] H)
  (
    purK (lenS x0) fun x10 =>
    purK (binA Try.prog H .rem 3 x10 (.int .i64 256)) fun x11 =>
    purK (cvI .u8 x11) fun x12 =>
    purK (lenS x0) fun x14 =>
    purK (binA Try.prog H .quo 3 x14 (.int .i64 256)) fun x15 =>
    purK (cvI .u8 x15) fun x16 =>
    effK H (bldS H 5 1 [.int .u8 0] 2 [(0, 1, x12), (1, 1, x16)]) fun x17 H =>
    J (Code.at [1, 1, 1, 0, 1] c12) (sp 58 [(0, x0), (4, x17), (5, (.int .i64 0))]) H (kk (some [4]) (fun s H => J (Code.at [1, 1, 1, 1] c12) s H (kk none (fun s H => retK (([2, 3] : List Nat).map fun t => s.getD t (.tup [])) H) [] retK [2, 3])) [] retK [2, 3])) := by
  kernel_rfl
theorem G12 (ρ : Addr → Option Value) (call : CallF) (yc : YieldF) (lim k : Nat) (x0 : AV) (H : Heap) :
    evL (cx ρ) call yc false 12 lim k c12 [x0, (.tup []), (.tup []), (.tup []), (.tup []), (.tup []), (.tup []), (.tup []), (.tup []), (.tup []), (.tup []), (.tup []), (.tup []), (.tup []), (.tup []), (.tup []), (.tup []), (.tup []), (.tup []), (.tup []), (.tup []), (.tup []), (.tup []), (.tup []), (.tup []), (.tup []), (.tup []), (.tup []), (.tup []), (.tup []), (.tup []), (.tup []), (.tup []), (.tup []), (.tup []), (.tup []), (.tup []), (.tup []), (.tup []), (.tup []), (.tup []), (.tup []), (.tup []), (.tup []), (.tup []), (.tup []), (.tup []), (.tup []), (.tup []), (.tup []), (.tup []), (.tup []), (.tup []), (.tup []), (.tup []), (.tup []), (.tup []), (.tup [])] H (kk none (fun s H => retK (([2, 3] : List Nat).map fun t => s.getD t (.tup [])) H) [] retK [2, 3]) = L12 ρ call yc lim k x0 H := by
  rw [evL_X, L12_x]
  simp only [← evL_X, L12, N12_1_eq, N12_2_eq]
theorem E12 (ρ : Addr → Option Value) (k lim : Nat) (x0 : AV) (H : Heap) : evCall (cx ρ) (k + 1) lim 12 [x0] H = L12 ρ (evCall (cx ρ) k) (evCY (cx ρ) k).2 lim k x0 H := by
  rw [evCall_body (cx ρ) k lim 12 _ H Try.f12 c12 [2, 3] (by kernel_rfl) (by kernel_rfl) (by kernel_rfl) (by kernel_rfl) (by kernel_rfl)]
  exact G12 ρ (evCall (cx ρ) k) (evCY (cx ρ) k).2 lim k x0 H
-- haycroft/dump.Right
noncomputable def c13 : Code := Code.of Try.prog 13
noncomputable def L13 (ρ : Addr → Option Value) (call : CallF) (yc : YieldF) (lim k : Nat) (x0 : AV) (H : Heap) : Res :=
  purK (lenS x0) fun x5 =>
  purK (binA Try.prog H .leq 3 x5 (.int .i64 1000)) fun x6 =>
  purK (gPur (wantV x6 true) (some x0)) fun x8 =>
  resK (gRes (wantV x6 true) H (call lim 37 [x8] H)) fun x9 H =>
  purK (pickA x6 x9 (.bool false)) fun x10 =>
  purK (gPur (wantV x10 true) (some x0)) fun x12 =>
  purK (gPur (wantV x10 true) (some (.fn (.func 36) [] []))) fun x13 =>
  resK (gRes (wantV x10 true) H (call lim 38 [x12, x13] H)) fun x14 H =>
  purK (gPur (wantV x10 true) (unA .not x14)) fun x15 =>
  purK (pickA x10 x15 (.bool false)) fun x16 =>
  retK [x16] H
theorem G13 (ρ : Addr → Option Value) (call : CallF) (yc : YieldF) (lim k : Nat) (x0 : AV) (H : Heap) :
    evL (cx ρ) call yc false 13 lim k c13 [x0, (.tup []), (.tup []), (.tup []), (.tup []), (.tup []), (.tup []), (.tup []), (.tup []), (.tup []), (.tup []), (.tup []), (.tup []), (.tup []), (.tup []), (.tup []), (.tup [])] H (kk none (fun s H => retK (([2] : List Nat).map fun t => s.getD t (.tup [])) H) [] retK [2]) = L13 ρ call yc lim k x0 H := by
  kernel_rfl
theorem E13 (ρ : Addr → Option Value) (k lim : Nat) (x0 : AV) (H : Heap) : evCall (cx ρ) (k + 1) lim 13 [x0] H = L13 ρ (evCall (cx ρ) k) (evCY (cx ρ) k).2 lim k x0 H := by
  rw [evCall_body (cx ρ) k lim 13 _ H Try.f13 c13 [2] (by kernel_rfl) (by kernel_rfl) (by kernel_rfl) (by kernel_rfl) (by kernel_rfl)]
  exact G13 ρ (evCall (cx ρ) k) (evCY (cx ρ) k).2 lim k x0 H
end Go.Proofs.Ytkmohjddojpdjaa

-- part Dn1
/- Functions, lifted. Printed by a program of this repo. -/
set_option linter.unusedVariables false
set_option linter.unusedSimpArgs false
set_option maxRecDepth 100000
set_option maxHeartbeats 4000000
namespace Go.Proofs.Ytkmohjddojpdjaa
open Go.Ev Go.RowKit
-- haycroft/haycroftref31.Right
noncomputable def c14 : Code := Code.of Try.prog 14
noncomputable def N14_1 (ρ : Addr → Option Value) (call : CallF) (yc : YieldF) (lim k : Nat) (H : Heap) (R : List AV → Heap → Res) : Res :=
  R [(.bool true)] H
theorem N14_1_eq (ρ : Addr → Option Value) (call : CallF) (yc : YieldF) (lim k : Nat) (H : Heap) (R : List AV → Heap → Res) :
    evL (cx ρ) call yc false 14 lim k (Code.at [1, 1, 1] c14) (sp 43 []) H (kk none (fun s H => R (([2] : List Nat).map fun t => s.getD t (.tup [])) H) [] R [2]) = N14_1 ρ call yc lim k H R := by
  kernel_rfl
noncomputable def N14_4 (ρ : Addr → Option Value) (call : CallF) (yc : YieldF) (lim k : Nat) (x0 x3 : AV) (H : Heap) (kn : AV → Heap → Res) : Res :=
  purK (binA Try.prog H .add 3 x3 (.int .i64 1)) fun x17_1 =>
  kn x17_1 H
theorem N14_4_eq (ρ : Addr → Option Value) (call : CallF) (yc : YieldF) (lim k : Nat) (x0 x3 : AV) (H : Heap) (kn : KS) (k0 : KS) (R : List AV → Heap → Res) :
    evL (cx ρ) call yc false 14 lim k (Code.at [1, 1, 0, 1, 0, 0, 1, 1] c14) (sp 43 [(0, x0), (3, x3)]) H (kk (some [0, 3]) kn [(0, (some []), k0)] R [2]) = N14_4 ρ call yc lim k x0 x3 H (fun x3 H => kn (sp 43 [(0, x0), (3, x3)]) H) := by
  kernel_rfl
noncomputable def N14_5 (ρ : Addr → Option Value) (call : CallF) (yc : YieldF) (lim k : Nat) (x0 x3 x42 : AV) (H : Heap) (kn : AV → Heap → Res) (R : List AV → Heap → Res) : Res :=
  condK x42
  (
    R [(.bool false)] H)
  (
    kn x3 H)
theorem N14_5_eq (ρ : Addr → Option Value) (call : CallF) (yc : YieldF) (lim k : Nat) (x0 x3 x42 : AV) (H : Heap) (kn : KS) (k1 : KS) (k0 : KS) (R : List AV → Heap → Res) :
    evL (cx ρ) call yc false 14 lim k (Code.at [1, 1, 0, 1, 0, 0, 1, 0, 0, 1] c14) (sp 43 [(0, x0), (3, x3), (42, x42)]) H (kk (some [0, 3]) kn [(1, (some [0, 3]), k1), (0, (some []), k0)] R [2]) = N14_5 ρ call yc lim k x0 x3 x42 H (fun x3 H => kn (sp 43 [(0, x0), (3, x3)]) H) R := by
  kernel_rfl
noncomputable def N14_3b (ρ : Addr → Option Value) (call : CallF) (yc : YieldF) (lim k : Nat) (x0 x3 : AV) (H : Heap) (kn : AV → Heap → Res) (k0 : Heap → Res) (R : List AV → Heap → Res) : Res :=
  purK (lenS x0) fun x14_1 =>
  purK (binA Try.prog H .lss 3 x3 x14_1) fun x15_1 =>
  condK x15_1
  (
    purK (ixS 2 x0 x3) fun x20_1 =>
    purK (addA 0 x20_1) fun x21_1 =>
    purK (ld1 ρ H x21_1) fun x22_1 =>
    purK (lenT x22_1) fun x23_1 =>
    purK (binA Try.prog H .lss 3 x23_1 (.int .i64 1)) fun x24_1 =>
    purK (gPur (wantV x24_1 false) (some x0)) fun x26_1 =>
    purK (gPur (wantV x24_1 false) (some x3)) fun x27_1 =>
    purK (gPur (wantV x24_1 false) (ixS 2 x26_1 x27_1)) fun x28_1 =>
    purK (gPur (wantV x24_1 false) (addA 0 x28_1)) fun x29_1 =>
    purK (gPur (wantV x24_1 false) (ld1 ρ H x29_1)) fun x30_1 =>
    purK (gPur (wantV x24_1 false) (lenT x30_1)) fun x31_1 =>
    purK (gPur (wantV x24_1 false) (binA Try.prog H .gtr 3 x31_1 (.int .i64 64))) fun x32_1 =>
    purK (pickA x24_1 (.bool true) x32_1) fun x33_1 =>
    purK (gPur (wantV x33_1 false) (some x0)) fun x35_1 =>
    purK (gPur (wantV x33_1 false) (some x3)) fun x36_1 =>
    purK (gPur (wantV x33_1 false) (ixS 2 x35_1 x36_1)) fun x37_1 =>
    purK (gPur (wantV x33_1 false) (addA 1 x37_1)) fun x38_1 =>
    purK (gPur (wantV x33_1 false) (ld1 ρ H x38_1)) fun x39_1 =>
    purK (gPur (wantV x33_1 false) (lenT x39_1)) fun x40_1 =>
    purK (gPur (wantV x33_1 false) (binA Try.prog H .gtr 3 x40_1 (.int .i64 128))) fun x41_1 =>
    purK (pickA x33_1 (.bool true) x41_1) fun x42_1 =>
    N14_5 ρ call yc lim k x0 x3 x42_1 H (fun x3_1 H =>
      N14_4 ρ call yc lim k x0 x3_1 H kn) R)
  (
    k0 H)
theorem N14_3b_x (ρ : Addr → Option Value) (call : CallF) (yc : YieldF) (lim k : Nat) (J : CodeF) (x0 x3 : AV) (H : Heap) (kn : KS) (k0 : KS) (R : List AV → Heap → Res) :
    evX (cx ρ) call yc false 14 lim k J (Code.at [1, 1, 0, 1, 0, 0] c14) (sp 43 [(0, x0), (3, x3)]) H (kk (some [0, 3]) kn [(0, (some []), k0)] R [2]) =
  purK (lenS x0) fun x14_1 =>
  purK (binA Try.prog H .lss 3 x3 x14_1) fun x15_1 =>
  condK x15_1
  (
    purK (ixS 2 x0 x3) fun x20_1 =>
    purK (addA 0 x20_1) fun x21_1 =>
    purK (ld1 ρ H x21_1) fun x22_1 =>
    purK (lenT x22_1) fun x23_1 =>
    purK (binA Try.prog H .lss 3 x23_1 (.int .i64 1)) fun x24_1 =>
    purK (gPur (wantV x24_1 false) (some x0)) fun x26_1 =>
    purK (gPur (wantV x24_1 false) (some x3)) fun x27_1 =>
    purK (gPur (wantV x24_1 false) (ixS 2 x26_1 x27_1)) fun x28_1 =>
    purK (gPur (wantV x24_1 false) (addA 0 x28_1)) fun x29_1 =>
    purK (gPur (wantV x24_1 false) (ld1 ρ H x29_1)) fun x30_1 =>
    purK (gPur (wantV x24_1 false) (lenT x30_1)) fun x31_1 =>
    purK (gPur (wantV x24_1 false) (binA Try.prog H .gtr 3 x31_1 (.int .i64 64))) fun x32_1 =>
    purK (pickA x24_1 (.bool true) x32_1) fun x33_1 =>
    purK (gPur (wantV x33_1 false) (some x0)) fun x35_1 =>
    purK (gPur (wantV x33_1 false) (some x3)) fun x36_1 =>
    purK (gPur (wantV x33_1 false) (ixS 2 x35_1 x36_1)) fun x37_1 =>
    purK (gPur (wantV x33_1 false) (addA 1 x37_1)) fun x38_1 =>
    purK (gPur (wantV x33_1 false) (ld1 ρ H x38_1)) fun x39_1 =>
    purK (gPur (wantV x33_1 false) (lenT x39_1)) fun x40_1 =>
    purK (gPur (wantV x33_1 false) (binA Try.prog H .gtr 3 x40_1 (.int .i64 128))) fun x41_1 =>
    purK (pickA x33_1 (.bool true) x41_1) fun x42_1 =>
    J (Code.at [1, 1, 0, 1, 0, 0, 1, 0, 0, 1] c14) (sp 43 [(0, x0), (3, x3), (42, x42_1)]) H (kk (some [0, 3]) (fun s H => J (Code.at [1, 1, 0, 1, 0, 0, 1, 1] c14) s H (kk (some [0, 3]) kn [(0, (some []), k0)] R [2])) [(1, (some [0, 3]), (fun s H => J (Code.at [1, 1, 0, 1, 0, 0, 1, 1] c14) s H (kk (some [0, 3]) kn [(0, (some []), k0)] R [2]))), (0, (some []), k0)] R [2]))
  (
    k0 (sp 43 []) H) := by
  kernel_rfl
theorem N14_3b_eq (ρ : Addr → Option Value) (call : CallF) (yc : YieldF) (lim k : Nat) (x0 x3 : AV) (H : Heap) (kn : KS) (k0 : KS) (R : List AV → Heap → Res) :
    evL (cx ρ) call yc false 14 lim k (Code.at [1, 1, 0, 1, 0, 0] c14) (sp 43 [(0, x0), (3, x3)]) H (kk (some [0, 3]) kn [(0, (some []), k0)] R [2]) = N14_3b ρ call yc lim k x0 x3 H (fun x3 H => kn (sp 43 [(0, x0), (3, x3)]) H) (fun H => k0 (sp 43 []) H) R := by
  rw [evL_X, N14_3b_x]
  simp only [← evL_X, N14_3b, N14_4_eq, N14_5_eq]
noncomputable def N14_3 (ρ : Addr → Option Value) (call : CallF) (yc : YieldF) (lim k : Nat) (x0 x3 : AV) (H : Heap) (k0 : Heap → Res) (R : List AV → Heap → Res) : Res :=
  loopL (fun (x : AV) H kn => N14_3b ρ call yc lim k x0 x H (fun x3 H => kn x3 H) k0 R) k x3 H
theorem N14_3_eq (ρ : Addr → Option Value) (call : CallF) (yc : YieldF) (lim k : Nat) (x0 x3 : AV) (H : Heap) (kn : KS) (k0 : KS) (R : List AV → Heap → Res) :
    evL (cx ρ) call yc false 14 lim k (Code.at [1, 1, 0, 1, 0] c14) (sp 43 [(0, x0), (3, x3)]) H (kk (some []) kn [(0, (some []), k0)] R [2]) = N14_3 ρ call yc lim k x0 x3 H (fun H => k0 (sp 43 []) H) R := by
  have e : Code.at [1, 1, 0, 1, 0] c14 = .loop (Code.at [1, 1, 0, 1, 0, 0] c14) := by kernel_rfl
  rw [e]
  unfold N14_3
  exact loop_node [0, 3] (fun x : AV => (sp 43 [(0, x0), (3, (x))])) (fun (x : AV) H kn => N14_3b ρ call yc lim k x0 x H (fun x3 H => kn x3 H) (fun H => k0 (sp 43 []) H) R) (by kernel_rfl) (fun x => by kernel_rfl) (fun x H kn => N14_3b_eq ρ call yc lim k x0 (x) H kn k0 R) x3 (sp 43 [(0, x0), (3, x3)]) H (by kernel_rfl)
noncomputable def N14_2 (ρ : Addr → Option Value) (call : CallF) (yc : YieldF) (lim k : Nat) (x0 x3 : AV) (H : Heap) (kn : Heap → Res) (R : List AV → Heap → Res) : Res :=
  N14_3 ρ call yc lim k x0 x3 H kn R
theorem N14_2_x (ρ : Addr → Option Value) (call : CallF) (yc : YieldF) (lim k : Nat) (J : CodeF) (x0 x3 : AV) (H : Heap) (kn : KS) (R : List AV → Heap → Res) :
    evX (cx ρ) call yc false 14 lim k J (Code.at [1, 1, 0, 1] c14) (sp 43 [(0, x0), (3, x3)]) H (kk (some []) kn [] R [2]) =
  J (Code.at [1, 1, 0, 1, 0] c14) (sp 43 [(0, x0), (3, x3)]) H (kk (some []) kn [(0, (some []), kn)] R [2]) := by
  kernel_rfl
theorem N14_2_eq (ρ : Addr → Option Value) (call : CallF) (yc : YieldF) (lim k : Nat) (x0 x3 : AV) (H : Heap) (kn : KS) (R : List AV → Heap → Res) :
    evL (cx ρ) call yc false 14 lim k (Code.at [1, 1, 0, 1] c14) (sp 43 [(0, x0), (3, x3)]) H (kk (some []) kn [] R [2]) = N14_2 ρ call yc lim k x0 x3 H (fun H => kn (sp 43 []) H) R := by
  rw [evL_X, N14_2_x]
  simp only [← evL_X, N14_2, N14_3_eq]
noncomputable def L14 (ρ : Addr → Option Value) (call : CallF) (yc : YieldF) (lim k : Nat) (x0 : AV) (H : Heap) : Res :=
  purK (lenS x0) fun x5 =>
  purK (binA Try.prog H .gtr 3 x5 (.int .i64 1000)) fun x6 =>
  purK (gPur (wantV x6 false) (some x0)) fun x8 =>
  resK (gRes (wantV x6 false) H (call lim 39 [x8] H)) fun x9 H =>
  purK (gPur (wantV x6 false) (unA .not x9)) fun x10 =>
  purK (pickA x6 (.bool true) x10) fun x11 =>
  condK x11
  (
    retK [(.bool false)] H)
  (
    N14_2 ρ call yc lim k x0 (.int .i64 0) H (fun H =>
      N14_1 ρ call yc lim k H retK) retK)
theorem L14_x (ρ : Addr → Option Value) (call : CallF) (yc : YieldF) (lim k : Nat) (J : CodeF) (x0 : AV) (H : Heap) :
    evX (cx ρ) call yc false 14 lim k J c14 [x0, (.tup []), (.tup []), (.tup []), (.tup []), (.tup []), (.tup []), (.tup []), (.tup []), (.tup []), (.tup []), (.tup []), (.tup []), (.tup []), (.tup []), (.tup []), (.tup []), (.tup []), (.tup []), (.tup []), (.tup []), (.tup []), (.tup []), (.tup []), (.tup []), (.tup []), (.tup []), (.tup []), (.tup []), (.tup []), (.tup []), (.tup []), (.tup []), (.tup []), (.tup []), (.tup []), (.tup []), (.tup []), (.tup []), (.tup []), (.tup []), (.tup []), (.tup [])] H (kk none (fun s H => retK (([2] : List Nat).map fun t => s.getD t (.tup [])) H) [] retK [2]) =
  purK (lenS x0) fun x5 =>
  purK (binA Try.prog H .gtr 3 x5 (.int .i64 1000)) fun x6 =>
  purK (gPur (wantV x6 false) (some x0)) fun x8 =>
  resK (gRes (wantV x6 false) H (call lim 39 [x8] H)) fun x9 H =>
  purK (gPur (wantV x6 false) (unA .not x9)) fun x10 =>
  purK (pickA x6 (.bool true) x10) fun x11 =>
  condK x11
  (
    retK [(.bool false)] H)
  (
    J (Code.at [1, 1, 0, 1] c14) (sp 43 [(0, x0), (3, (.int .i64 0))]) H (kk (some []) (fun s H => J (Code.at [1, 1, 1] c14) s H (kk none (fun s H => retK (([2] : List Nat).map fun t => s.getD t (.tup [])) H) [] retK [2])) [] retK [2])) := by
  kernel_rfl
theorem G14 (ρ : Addr → Option Value) (call : CallF) (yc : YieldF) (lim k : Nat) (x0 : AV) (H : Heap) :
    evL (cx ρ) call yc false 14 lim k c14 [x0, (.tup []), (.tup []), (.tup []), (.tup []), (.tup []), (.tup []), (.tup []), (.tup []), (.tup []), (.tup []), (.tup []), (.tup []), (.tup []), (.tup []), (.tup []), (.tup []), (.tup []), (.tup []), (.tup []), (.tup []), (.tup []), (.tup []), (.tup []), (.tup []), (.tup []), (.tup []), (.tup []), (.tup []), (.tup []), (.tup []), (.tup []), (.tup []), (.tup []), (.tup []), (.tup []), (.tup []), (.tup []), (.tup []), (.tup []), (.tup []), (.tup []), (.tup [])] H (kk none (fun s H => retK (([2] : List Nat).map fun t => s.getD t (.tup [])) H) [] retK [2]) = L14 ρ call yc lim k x0 H := by
  rw [evL_X, L14_x]
  simp only [← evL_X, L14, N14_1_eq, N14_2_eq]
theorem E14 (ρ : Addr → Option Value) (k lim : Nat) (x0 : AV) (H : Heap) : evCall (cx ρ) (k + 1) lim 14 [x0] H = L14 ρ (evCall (cx ρ) k) (evCY (cx ρ) k).2 lim k x0 H := by
  rw [evCall_body (cx ρ) k lim 14 _ H Try.f14 c14 [2] (by kernel_rfl) (by kernel_rfl) (by kernel_rfl) (by kernel_rfl) (by kernel_rfl)]
  exact G14 ρ (evCall (cx ρ) k) (evCY (cx ρ) k).2 lim k x0 H
-- haycroft/dump.Unpack
noncomputable def c15 : Code := Code.of Try.prog 15
noncomputable def N15_3 (ρ : Addr → Option Value) (call : CallF) (yc : YieldF) (lim k : Nat) (x6 x8 : AV) (H : Heap) (R : List AV → Heap → Res) : Res :=
  purK (nilChkA x6) fun x56_1 =>
  purK (addA 1 x56_1) fun x57_1 =>
  purK (ld1 ρ H x57_1) fun x58_1 =>
  purK (gPur (wantV x58_1 false) (some x6)) fun x60_1 =>
  purK (gPur (wantV x58_1 false) (nilChkA x60_1)) fun x61_1 =>
  purK (gPur (wantV x58_1 false) (addA 0 x61_1)) fun x62_1 =>
  purK (gPur (wantV x58_1 false) (ld1 ρ H x62_1)) fun x63_1 =>
  purK (gPur (wantV x58_1 false) (binA Try.prog H .neq 9 x63_1 (.str (ByteArray.mk #[])))) fun x64_1 =>
  purK (pickA x58_1 (.bool true) x64_1) fun x65_1 =>
  purK (gPur (wantV x65_1 false) (some x8)) fun x67_1 =>
  resK (gRes (wantV x65_1 false) H (call lim 13 [x67_1] H)) fun x68_1 H =>
  purK (gPur (wantV x65_1 false) (unA .not x68_1)) fun x69_1 =>
  purK (pickA x65_1 (.bool true) x69_1) fun x70_1 =>
  condK x70_1
  (
    R [.nils, (.int .i64 4)] H)
  (
    R [x8, (.int .i64 0)] H)
theorem N15_3_eq (ρ : Addr → Option Value) (call : CallF) (yc : YieldF) (lim k : Nat) (x6 x8 : AV) (H : Heap) (R : List AV → Heap → Res) :
    evL (cx ρ) call yc false 15 lim k (Code.at [1, 1, 1, 1, 1, 1, 1, 1] c15) (sp 72 [(6, x6), (8, x8)]) H (kk none (fun s H => R (([2, 3] : List Nat).map fun t => s.getD t (.tup [])) H) [] R [2, 3]) = N15_3 ρ call yc lim k x6 x8 H R := by
  kernel_rfl
noncomputable def N15_5 (ρ : Addr → Option Value) (call : CallF) (yc : YieldF) (lim k : Nat) (x6 x7 x8 : AV) (H : Heap) (kn : AV → AV → Heap → Res) : Res :=
  purK (binA Try.prog H .sub 3 x7 (.int .i64 1)) fun x39_1 =>
  kn x39_1 x8 H
theorem N15_5_eq (ρ : Addr → Option Value) (call : CallF) (yc : YieldF) (lim k : Nat) (x6 x7 x8 : AV) (H : Heap) (kn : KS) (k0 : KS) (R : List AV → Heap → Res) :
    evL (cx ρ) call yc false 15 lim k (Code.at [1, 1, 1, 1, 1, 1, 1, 0, 0, 0, 1, 1] c15) (sp 72 [(6, x6), (7, x7), (8, x8)]) H (kk (some [6, 7, 8]) kn [(0, (some [6, 8]), k0)] R [2, 3]) = N15_5 ρ call yc lim k x6 x7 x8 H (fun x7 x8 H => kn (sp 72 [(6, x6), (7, x7), (8, x8)]) H) := by
  kernel_rfl
noncomputable def N15_4b (ρ : Addr → Option Value) (call : CallF) (yc : YieldF) (lim k : Nat) (x6 x7 x8 : AV) (H : Heap) (kn : AV → AV → Heap → Res) (k0 : AV → AV → Heap → Res) : Res :=
  purK (binA Try.prog H .gtr 3 x7 (.int .i64 0)) fun x30_1 =>
  purK (gPur (wantV x30_1 true) (some x6)) fun x32_1 =>
  purK (gPur (wantV x30_1 true) (nilChkA x32_1)) fun x33_1 =>
  purK (gPur (wantV x30_1 true) (addA 1 x33_1)) fun x34_1 =>
  purK (gPur (wantV x30_1 true) (ld1 ρ H x34_1)) fun x35_1 =>
  purK (gPur (wantV x30_1 true) (unA .not x35_1)) fun x36_1 =>
  purK (pickA x30_1 x36_1 (.bool false)) fun x37_1 =>
  condK x37_1
  (
    resK (call lim 41 [x6] H) fun x41_1 H =>
    resK (call lim 41 [x6] H) fun x43_1 H =>
    resK (call lim 42 [x6, x41_1] H) fun x46_1 H =>
    resK (call lim 42 [x6, x43_1] H) fun x51_1 H =>
    purK (bldA [.str ByteArray.empty, .str ByteArray.empty] [(0, 1, x46_1), (1, 1, x51_1)]) fun x52_1 =>
    effK H (bldS H 70 2 [.str ByteArray.empty, .str ByteArray.empty] 1 [(0, 2, x52_1)]) fun x53_1 H =>
    effK H (apA ρ lim H 70 2 32 x8 x53_1) fun x54_1 H =>
    N15_5 ρ call yc lim k x6 x7 x54_1 H kn)
  (
    k0 x6 x8 H)
theorem N15_4b_x (ρ : Addr → Option Value) (call : CallF) (yc : YieldF) (lim k : Nat) (J : CodeF) (x6 x7 x8 : AV) (H : Heap) (kn : KS) (k0 : KS) (R : List AV → Heap → Res) :
    evX (cx ρ) call yc false 15 lim k J (Code.at [1, 1, 1, 1, 1, 1, 1, 0, 0, 0] c15) (sp 72 [(6, x6), (7, x7), (8, x8)]) H (kk (some [6, 7, 8]) kn [(0, (some [6, 8]), k0)] R [2, 3]) =
  purK (binA Try.prog H .gtr 3 x7 (.int .i64 0)) fun x30_1 =>
  purK (gPur (wantV x30_1 true) (some x6)) fun x32_1 =>
  purK (gPur (wantV x30_1 true) (nilChkA x32_1)) fun x33_1 =>
  purK (gPur (wantV x30_1 true) (addA 1 x33_1)) fun x34_1 =>
  purK (gPur (wantV x30_1 true) (ld1 ρ H x34_1)) fun x35_1 =>
  purK (gPur (wantV x30_1 true) (unA .not x35_1)) fun x36_1 =>
  purK (pickA x30_1 x36_1 (.bool false)) fun x37_1 =>
  condK x37_1
  (
    resK (call lim 41 [x6] H) fun x41_1 H =>
    resK (call lim 41 [x6] H) fun x43_1 H =>
    resK (call lim 42 [x6, x41_1] H) fun x46_1 H =>
    resK (call lim 42 [x6, x43_1] H) fun x51_1 H =>
    purK (bldA [.str ByteArray.empty, .str ByteArray.empty] [(0, 1, x46_1), (1, 1, x51_1)]) fun x52_1 =>
    effK H (bldS H 70 2 [.str ByteArray.empty, .str ByteArray.empty] 1 [(0, 2, x52_1)]) fun x53_1 H =>
    effK H (apA ρ lim H 70 2 32 x8 x53_1) fun x54_1 H =>
    J (Code.at [1, 1, 1, 1, 1, 1, 1, 0, 0, 0, 1, 1] c15) (sp 72 [(6, x6), (7, x7), (8, x54_1)]) H (kk (some [6, 7, 8]) kn [(0, (some [6, 8]), k0)] R [2, 3]))
  (
    k0 (sp 72 [(6, x6), (8, x8)]) H) := by
  kernel_rfl
theorem N15_4b_eq (ρ : Addr → Option Value) (call : CallF) (yc : YieldF) (lim k : Nat) (x6 x7 x8 : AV) (H : Heap) (kn : KS) (k0 : KS) (R : List AV → Heap → Res) :
    evL (cx ρ) call yc false 15 lim k (Code.at [1, 1, 1, 1, 1, 1, 1, 0, 0, 0] c15) (sp 72 [(6, x6), (7, x7), (8, x8)]) H (kk (some [6, 7, 8]) kn [(0, (some [6, 8]), k0)] R [2, 3]) = N15_4b ρ call yc lim k x6 x7 x8 H (fun x7 x8 H => kn (sp 72 [(6, x6), (7, x7), (8, x8)]) H) (fun x6 x8 H => k0 (sp 72 [(6, x6), (8, x8)]) H) := by
  rw [evL_X, N15_4b_x]
  simp only [← evL_X, N15_4b, N15_5_eq]
noncomputable def N15_4 (ρ : Addr → Option Value) (call : CallF) (yc : YieldF) (lim k : Nat) (x6 x7 x8 : AV) (H : Heap) (k0 : AV → AV → Heap → Res) : Res :=
  loopL (fun (x : AV × AV) H kn => N15_4b ρ call yc lim k x6 x.1 x.2 H (fun x7 x8 H => kn (x7, x8) H) k0) k (x7, x8) H
theorem N15_4_eq (ρ : Addr → Option Value) (call : CallF) (yc : YieldF) (lim k : Nat) (x6 x7 x8 : AV) (H : Heap) (kn : KS) (k0 : KS) (R : List AV → Heap → Res) :
    evL (cx ρ) call yc false 15 lim k (Code.at [1, 1, 1, 1, 1, 1, 1, 0, 0] c15) (sp 72 [(6, x6), (7, x7), (8, x8)]) H (kk (some [6, 8]) kn [(0, (some [6, 8]), k0)] R [2, 3]) = N15_4 ρ call yc lim k x6 x7 x8 H (fun x6 x8 H => k0 (sp 72 [(6, x6), (8, x8)]) H) := by
  have e : Code.at [1, 1, 1, 1, 1, 1, 1, 0, 0] c15 = .loop (Code.at [1, 1, 1, 1, 1, 1, 1, 0, 0, 0] c15) := by kernel_rfl
  rw [e]
  unfold N15_4
  exact loop_node [6, 7, 8] (fun x : AV × AV => (sp 72 [(6, x6), (7, (x.1)), (8, (x.2))])) (fun (x : AV × AV) H kn => N15_4b ρ call yc lim k x6 x.1 x.2 H (fun x7 x8 H => kn (x7, x8) H) (fun x6 x8 H => k0 (sp 72 [(6, x6), (8, x8)]) H)) (by kernel_rfl) (fun x => by kernel_rfl) (fun x H kn => N15_4b_eq ρ call yc lim k x6 (x.1) (x.2) H kn k0 R) (x7, x8) (sp 72 [(6, x6), (7, x7), (8, x8)]) H (by kernel_rfl)
noncomputable def N15_2 (ρ : Addr → Option Value) (call : CallF) (yc : YieldF) (lim k : Nat) (x6 x7 x8 : AV) (H : Heap) (R : List AV → Heap → Res) : Res :=
  N15_4 ρ call yc lim k x6 x7 x8 H (fun x6_1 x8_1 H =>
    N15_3 ρ call yc lim k x6_1 x8_1 H R)
theorem N15_2_x (ρ : Addr → Option Value) (call : CallF) (yc : YieldF) (lim k : Nat) (J : CodeF) (x6 x7 x8 : AV) (H : Heap) (R : List AV → Heap → Res) :
    evX (cx ρ) call yc false 15 lim k J (Code.at [1, 1, 1, 1, 1, 1, 1] c15) (sp 72 [(6, x6), (7, x7), (8, x8)]) H (kk none (fun s H => R (([2, 3] : List Nat).map fun t => s.getD t (.tup [])) H) [] R [2, 3]) =
  J (Code.at [1, 1, 1, 1, 1, 1, 1, 0, 0] c15) (sp 72 [(6, x6), (7, x7), (8, x8)]) H (kk (some [6, 8]) (fun s H => J (Code.at [1, 1, 1, 1, 1, 1, 1, 1] c15) s H (kk none (fun s H => R (([2, 3] : List Nat).map fun t => s.getD t (.tup [])) H) [] R [2, 3])) [(0, (some [6, 8]), (fun s H => J (Code.at [1, 1, 1, 1, 1, 1, 1, 1] c15) s H (kk none (fun s H => R (([2, 3] : List Nat).map fun t => s.getD t (.tup [])) H) [] R [2, 3])))] R [2, 3]) := by
  kernel_rfl
theorem N15_2_eq (ρ : Addr → Option Value) (call : CallF) (yc : YieldF) (lim k : Nat) (x6 x7 x8 : AV) (H : Heap) (R : List AV → Heap → Res) :
    evL (cx ρ) call yc false 15 lim k (Code.at [1, 1, 1, 1, 1, 1, 1] c15) (sp 72 [(6, x6), (7, x7), (8, x8)]) H (kk none (fun s H => R (([2, 3] : List Nat).map fun t => s.getD t (.tup [])) H) [] R [2, 3]) = N15_2 ρ call yc lim k x6 x7 x8 H R := by
  rw [evL_X, N15_2_x]
  simp only [← evL_X, N15_2, N15_3_eq, N15_4_eq]
noncomputable def N15_1 (ρ : Addr → Option Value) (call : CallF) (yc : YieldF) (lim k : Nat) (x6 x7 : AV) (H : Heap) (R : List AV → Heap → Res) : Res :=
  N15_2 ρ call yc lim k x6 x7 .nils H R
theorem N15_1_x (ρ : Addr → Option Value) (call : CallF) (yc : YieldF) (lim k : Nat) (J : CodeF) (x6 x7 : AV) (H : Heap) (R : List AV → Heap → Res) :
    evX (cx ρ) call yc false 15 lim k J (Code.at [1, 1, 1, 1, 1, 1] c15) (sp 72 [(6, x6), (7, x7)]) H (kk none (fun s H => R (([2, 3] : List Nat).map fun t => s.getD t (.tup [])) H) [] R [2, 3]) =
  J (Code.at [1, 1, 1, 1, 1, 1, 1] c15) (sp 72 [(6, x6), (7, x7), (8, .nils)]) H (kk none (fun s H => R (([2, 3] : List Nat).map fun t => s.getD t (.tup [])) H) [] R [2, 3]) := by
  kernel_rfl
theorem N15_1_eq (ρ : Addr → Option Value) (call : CallF) (yc : YieldF) (lim k : Nat) (x6 x7 : AV) (H : Heap) (R : List AV → Heap → Res) :
    evL (cx ρ) call yc false 15 lim k (Code.at [1, 1, 1, 1, 1, 1] c15) (sp 72 [(6, x6), (7, x7)]) H (kk none (fun s H => R (([2, 3] : List Nat).map fun t => s.getD t (.tup [])) H) [] R [2, 3]) = N15_1 ρ call yc lim k x6 x7 H R := by
  rw [evL_X, N15_1_x]
  simp only [← evL_X, N15_1, N15_2_eq]
noncomputable def L15 (ρ : Addr → Option Value) (call : CallF) (yc : YieldF) (lim k : Nat) (x0 : AV) (H : Heap) : Res :=
  resK (call lim 40 [x0] H) fun x14 H =>
  purK (extA 0 x14) fun x15 =>
  purK (extA 1 x14) fun x16 =>
  purK (binA Try.prog H .neq 25 x16 (.int .i64 0)) fun x18 =>
  condK x18
  (
    retK [.nils, (.int .i64 4)] H)
  (
    purK (bldA [.str ByteArray.empty, .bool false] [(0, 1, x15)]) fun x20 =>
    effK H (boxA H 85 x20) fun x21 H =>
    resK (call lim 41 [x21] H) fun x23 H =>
    resK (call lim 41 [x21] H) fun x26 H =>
    purK (binA Try.prog H .mul 3 (.int .i64 256) x26) fun x27 =>
    purK (binA Try.prog H .add 3 x23 x27) fun x28 =>
    N15_1 ρ call yc lim k x21 x28 H retK)
theorem L15_x (ρ : Addr → Option Value) (call : CallF) (yc : YieldF) (lim k : Nat) (J : CodeF) (x0 : AV) (H : Heap) :
    evX (cx ρ) call yc false 15 lim k J c15 [x0, (.tup []), (.tup []), (.tup []), (.tup []), (.tup []), (.tup []), (.tup []), (.tup []), (.tup []), (.tup []), (.tup []), (.tup []), (.tup []), (.tup []), (.tup []), (.tup []), (.tup []), (.tup []), (.tup []), (.tup []), (.tup []), (.tup []), (.tup []), (.tup []), (.tup []), (.tup []), (.tup []), (.tup []), (.tup []), (.tup []), (.tup []), (.tup []), (.tup []), (.tup []), (.tup []), (.tup []), (.tup []), (.tup []), (.tup []), (.tup []), (.tup []), (.tup []), (.tup []), (.tup []), (.tup []), (.tup []), (.tup []), (.tup []), (.tup []), (.tup []), (.tup []), (.tup []), (.tup []), (.tup []), (.tup []), (.tup []), (.tup []), (.tup []), (.tup []), (.tup []), (.tup []), (.tup []), (.tup []), (.tup []), (.tup []), (.tup []), (.tup []), (.tup []), (.tup []), (.tup []), (.tup [])] H (kk none (fun s H => retK (([2, 3] : List Nat).map fun t => s.getD t (.tup [])) H) [] retK [2, 3]) =
  resK (call lim 40 [x0] H) fun x14 H =>
  purK (extA 0 x14) fun x15 =>
  purK (extA 1 x14) fun x16 =>
  purK (binA Try.prog H .neq 25 x16 (.int .i64 0)) fun x18 =>
  condK x18
  (
    retK [.nils, (.int .i64 4)] H)
  (
    purK (bldA [.str ByteArray.empty, .bool false] [(0, 1, x15)]) fun x20 =>
    effK H (boxA H 85 x20) fun x21 H =>
    resK (call lim 41 [x21] H) fun x23 H =>
    resK (call lim 41 [x21] H) fun x26 H =>
    purK (binA Try.prog H .mul 3 (.int .i64 256) x26) fun x27 =>
    purK (binA Try.prog H .add 3 x23 x27) fun x28 =>
    J (Code.at [1, 1, 1, 1, 1, 1] c15) (sp 72 [(6, x21), (7, x28)]) H (kk none (fun s H => retK (([2, 3] : List Nat).map fun t => s.getD t (.tup [])) H) [] retK [2, 3])) := by
  kernel_rfl
theorem G15 (ρ : Addr → Option Value) (call : CallF) (yc : YieldF) (lim k : Nat) (x0 : AV) (H : Heap) :
    evL (cx ρ) call yc false 15 lim k c15 [x0, (.tup []), (.tup []), (.tup []), (.tup []), (.tup []), (.tup []), (.tup []), (.tup []), (.tup []), (.tup []), (.tup []), (.tup []), (.tup []), (.tup []), (.tup []), (.tup []), (.tup []), (.tup []), (.tup []), (.tup []), (.tup []), (.tup []), (.tup []), (.tup []), (.tup []), (.tup []), (.tup []), (.tup []), (.tup []), (.tup []), (.tup []), (.tup []), (.tup []), (.tup []), (.tup []), (.tup []), (.tup []), (.tup []), (.tup []), (.tup []), (.tup []), (.tup []), (.tup []), (.tup []), (.tup []), (.tup []), (.tup []), (.tup []), (.tup []), (.tup []), (.tup []), (.tup []), (.tup []), (.tup []), (.tup []), (.tup []), (.tup []), (.tup []), (.tup []), (.tup []), (.tup []), (.tup []), (.tup []), (.tup []), (.tup []), (.tup []), (.tup []), (.tup []), (.tup []), (.tup []), (.tup [])] H (kk none (fun s H => retK (([2, 3] : List Nat).map fun t => s.getD t (.tup [])) H) [] retK [2, 3]) = L15 ρ call yc lim k x0 H := by
  rw [evL_X, L15_x]
  simp only [← evL_X, L15, N15_1_eq]
theorem E15 (ρ : Addr → Option Value) (k lim : Nat) (x0 : AV) (H : Heap) : evCall (cx ρ) (k + 1) lim 15 [x0] H = L15 ρ (evCall (cx ρ) k) (evCY (cx ρ) k).2 lim k x0 H := by
  rw [evCall_body (cx ρ) k lim 15 _ H Try.f15 c15 [2, 3] (by kernel_rfl) (by kernel_rfl) (by kernel_rfl) (by kernel_rfl) (by kernel_rfl)]
  exact G15 ρ (evCall (cx ρ) k) (evCY (cx ρ) k).2 lim k x0 H
-- haycroft/haycroftref30.Same
noncomputable def c16 : Code := Code.of Try.prog 16
noncomputable def N16_1 (ρ : Addr → Option Value) (call : CallF) (yc : YieldF) (lim k : Nat) (H : Heap) (R : List AV → Heap → Res) : Res :=
  R [(.bool true)] H
theorem N16_1_eq (ρ : Addr → Option Value) (call : CallF) (yc : YieldF) (lim k : Nat) (H : Heap) (R : List AV → Heap → Res) :
    evL (cx ρ) call yc false 16 lim k (Code.at [1, 1, 1] c16) (sp 26 []) H (kk none (fun s H => R (([4] : List Nat).map fun t => s.getD t (.tup [])) H) [] R [4]) = N16_1 ρ call yc lim k H R := by
  kernel_rfl
noncomputable def N16_3b (ρ : Addr → Option Value) (call : CallF) (yc : YieldF) (lim k : Nat) (x0 x1 x5 : AV) (H : Heap) (kn : AV → Heap → Res) (k0 : Heap → Res) (R : List AV → Heap → Res) : Res :=
  purK (lenS x0) fun x13_1 =>
  purK (binA Try.prog H .lss 3 x5 x13_1) fun x14_1 =>
  condK x14_1
  (
    purK (ixS 2 x0 x5) fun x19_1 =>
    purK (ldN ρ H 2 x19_1) fun x20_1 =>
    purK (ixS 2 x1 x5) fun x23_1 =>
    purK (ldN ρ H 2 x23_1) fun x24_1 =>
    purK (binA Try.prog H .neq 70 x20_1 x24_1) fun x25_1 =>
    condK x25_1
    (
      R [(.bool false)] H)
    (
      purK (binA Try.prog H .add 3 x5 (.int .i64 1)) fun x16_1 =>
      kn x16_1 H))
  (
    k0 H)
theorem N16_3b_eq (ρ : Addr → Option Value) (call : CallF) (yc : YieldF) (lim k : Nat) (x0 x1 x5 : AV) (H : Heap) (kn : KS) (k0 : KS) (R : List AV → Heap → Res) :
    evL (cx ρ) call yc false 16 lim k (Code.at [1, 1, 0, 1, 0, 0] c16) (sp 26 [(0, x0), (1, x1), (5, x5)]) H (kk (some [0, 1, 5]) kn [(0, (some []), k0)] R [4]) = N16_3b ρ call yc lim k x0 x1 x5 H (fun x5 H => kn (sp 26 [(0, x0), (1, x1), (5, x5)]) H) (fun H => k0 (sp 26 []) H) R := by
  kernel_rfl
noncomputable def N16_3 (ρ : Addr → Option Value) (call : CallF) (yc : YieldF) (lim k : Nat) (x0 x1 x5 : AV) (H : Heap) (k0 : Heap → Res) (R : List AV → Heap → Res) : Res :=
  loopL (fun (x : AV) H kn => N16_3b ρ call yc lim k x0 x1 x H (fun x5 H => kn x5 H) k0 R) k x5 H
theorem N16_3_eq (ρ : Addr → Option Value) (call : CallF) (yc : YieldF) (lim k : Nat) (x0 x1 x5 : AV) (H : Heap) (kn : KS) (k0 : KS) (R : List AV → Heap → Res) :
    evL (cx ρ) call yc false 16 lim k (Code.at [1, 1, 0, 1, 0] c16) (sp 26 [(0, x0), (1, x1), (5, x5)]) H (kk (some []) kn [(0, (some []), k0)] R [4]) = N16_3 ρ call yc lim k x0 x1 x5 H (fun H => k0 (sp 26 []) H) R := by
  have e : Code.at [1, 1, 0, 1, 0] c16 = .loop (Code.at [1, 1, 0, 1, 0, 0] c16) := by kernel_rfl
  rw [e]
  unfold N16_3
  exact loop_node [0, 1, 5] (fun x : AV => (sp 26 [(0, x0), (1, x1), (5, (x))])) (fun (x : AV) H kn => N16_3b ρ call yc lim k x0 x1 x H (fun x5 H => kn x5 H) (fun H => k0 (sp 26 []) H) R) (by kernel_rfl) (fun x => by kernel_rfl) (fun x H kn => N16_3b_eq ρ call yc lim k x0 x1 (x) H kn k0 R) x5 (sp 26 [(0, x0), (1, x1), (5, x5)]) H (by kernel_rfl)
noncomputable def N16_2 (ρ : Addr → Option Value) (call : CallF) (yc : YieldF) (lim k : Nat) (x0 x1 x5 : AV) (H : Heap) (kn : Heap → Res) (R : List AV → Heap → Res) : Res :=
  N16_3 ρ call yc lim k x0 x1 x5 H kn R
theorem N16_2_x (ρ : Addr → Option Value) (call : CallF) (yc : YieldF) (lim k : Nat) (J : CodeF) (x0 x1 x5 : AV) (H : Heap) (kn : KS) (R : List AV → Heap → Res) :
    evX (cx ρ) call yc false 16 lim k J (Code.at [1, 1, 0, 1] c16) (sp 26 [(0, x0), (1, x1), (5, x5)]) H (kk (some []) kn [] R [4]) =
  J (Code.at [1, 1, 0, 1, 0] c16) (sp 26 [(0, x0), (1, x1), (5, x5)]) H (kk (some []) kn [(0, (some []), kn)] R [4]) := by
  kernel_rfl
theorem N16_2_eq (ρ : Addr → Option Value) (call : CallF) (yc : YieldF) (lim k : Nat) (x0 x1 x5 : AV) (H : Heap) (kn : KS) (R : List AV → Heap → Res) :
    evL (cx ρ) call yc false 16 lim k (Code.at [1, 1, 0, 1] c16) (sp 26 [(0, x0), (1, x1), (5, x5)]) H (kk (some []) kn [] R [4]) = N16_2 ρ call yc lim k x0 x1 x5 H (fun H => kn (sp 26 []) H) R := by
  rw [evL_X, N16_2_x]
  simp only [← evL_X, N16_2, N16_3_eq]
noncomputable def L16 (ρ : Addr → Option Value) (call : CallF) (yc : YieldF) (lim k : Nat) (x0 x1 : AV) (H : Heap) : Res :=
  purK (lenS x0) fun x7 =>
  purK (lenS x1) fun x9 =>
  purK (binA Try.prog H .neq 3 x7 x9) fun x10 =>
  condK x10
  (
    retK [(.bool false)] H)
  (
    N16_2 ρ call yc lim k x0 x1 (.int .i64 0) H (fun H =>
      N16_1 ρ call yc lim k H retK) retK)
theorem L16_x (ρ : Addr → Option Value) (call : CallF) (yc : YieldF) (lim k : Nat) (J : CodeF) (x0 x1 : AV) (H : Heap) :
    evX (cx ρ) call yc false 16 lim k J c16 [x0, x1, (.tup []), (.tup []), (.tup []), (.tup []), (.tup []), (.tup []), (.tup []), (.tup []), (.tup []), (.tup []), (.tup []), (.tup []), (.tup []), (.tup []), (.tup []), (.tup []), (.tup []), (.tup []), (.tup []), (.tup []), (.tup []), (.tup []), (.tup []), (.tup [])] H (kk none (fun s H => retK (([4] : List Nat).map fun t => s.getD t (.tup [])) H) [] retK [4]) =
  purK (lenS x0) fun x7 =>
  purK (lenS x1) fun x9 =>
  purK (binA Try.prog H .neq 3 x7 x9) fun x10 =>
  condK x10
  (
    retK [(.bool false)] H)
  (
    J (Code.at [1, 1, 0, 1] c16) (sp 26 [(0, x0), (1, x1), (5, (.int .i64 0))]) H (kk (some []) (fun s H => J (Code.at [1, 1, 1] c16) s H (kk none (fun s H => retK (([4] : List Nat).map fun t => s.getD t (.tup [])) H) [] retK [4])) [] retK [4])) := by
  kernel_rfl
theorem G16 (ρ : Addr → Option Value) (call : CallF) (yc : YieldF) (lim k : Nat) (x0 x1 : AV) (H : Heap) :
    evL (cx ρ) call yc false 16 lim k c16 [x0, x1, (.tup []), (.tup []), (.tup []), (.tup []), (.tup []), (.tup []), (.tup []), (.tup []), (.tup []), (.tup []), (.tup []), (.tup []), (.tup []), (.tup []), (.tup []), (.tup []), (.tup []), (.tup []), (.tup []), (.tup []), (.tup []), (.tup []), (.tup []), (.tup [])] H (kk none (fun s H => retK (([4] : List Nat).map fun t => s.getD t (.tup [])) H) [] retK [4]) = L16 ρ call yc lim k x0 x1 H := by
  rw [evL_X, L16_x]
  simp only [← evL_X, L16, N16_1_eq, N16_2_eq]
theorem E16 (ρ : Addr → Option Value) (k lim : Nat) (x0 x1 : AV) (H : Heap) : evCall (cx ρ) (k + 1) lim 16 [x0, x1] H = L16 ρ (evCall (cx ρ) k) (evCY (cx ρ) k).2 lim k x0 x1 H := by
  rw [evCall_body (cx ρ) k lim 16 _ H Try.f16 c16 [4] (by kernel_rfl) (by kernel_rfl) (by kernel_rfl) (by kernel_rfl) (by kernel_rfl)]
  exact G16 ρ (evCall (cx ρ) k) (evCY (cx ρ) k).2 lim k x0 x1 H
-- haycroft/haycroftref31.Unpack
noncomputable def c17 : Code := Code.of Try.prog 17
noncomputable def N17_2 (ρ : Addr → Option Value) (call : CallF) (yc : YieldF) (lim k : Nat) (x0 x6 x7 : AV) (H : Heap) (R : List AV → Heap → Res) : Res :=
  purK (lenT x0) fun x92_1 =>
  purK (binA Try.prog H .neq 3 x6 x92_1) fun x93_1 =>
  purK (gPur (wantV x93_1 false) (some x7)) fun x95_1 =>
  resK (gRes (wantV x93_1 false) H (call lim 14 [x95_1] H)) fun x96_1 H =>
  purK (gPur (wantV x93_1 false) (unA .not x96_1)) fun x97_1 =>
  purK (pickA x93_1 (.bool true) x97_1) fun x98_1 =>
  condK x98_1
  (
    R [.nils, (.int .i64 4)] H)
  (
    R [x7, (.int .i64 0)] H)
theorem N17_2_eq (ρ : Addr → Option Value) (call : CallF) (yc : YieldF) (lim k : Nat) (x0 x6 x7 : AV) (H : Heap) (R : List AV → Heap → Res) :
    evL (cx ρ) call yc false 17 lim k (Code.at [1, 1, 1, 1, 1, 1, 1, 1] c17) (sp 100 [(0, x0), (6, x6), (7, x7)]) H (kk none (fun s H => R (([2, 3] : List Nat).map fun t => s.getD t (.tup [])) H) [] R [2, 3]) = N17_2 ρ call yc lim k x0 x6 x7 H R := by
  kernel_rfl
noncomputable def N17_5 (ρ : Addr → Option Value) (call : CallF) (yc : YieldF) (lim k : Nat) (x0 x5 x6 x7 x8 : AV) (H : Heap) (kn : AV → AV → AV → Heap → Res) : Res :=
  purK (binA Try.prog H .add 3 x8 (.int .i64 1)) fun x40_1 =>
  kn x6 x7 x40_1 H
theorem N17_5_eq (ρ : Addr → Option Value) (call : CallF) (yc : YieldF) (lim k : Nat) (x0 x5 x6 x7 x8 : AV) (H : Heap) (kn : KS) (k0 : KS) (R : List AV → Heap → Res) :
    evL (cx ρ) call yc false 17 lim k (Code.at [1, 1, 1, 1, 1, 1, 1, 0, 1, 0, 0, 1, 1] c17) (sp 100 [(0, x0), (5, x5), (6, x6), (7, x7), (8, x8)]) H (kk (some [0, 5, 6, 7, 8]) kn [(0, (some [0, 6, 7]), k0)] R [2, 3]) = N17_5 ρ call yc lim k x0 x5 x6 x7 x8 H (fun x6 x7 x8 H => kn (sp 100 [(0, x0), (5, x5), (6, x6), (7, x7), (8, x8)]) H) := by
  kernel_rfl
noncomputable def N17_6 (ρ : Addr → Option Value) (call : CallF) (yc : YieldF) (lim k : Nat) (x0 x5 x6 x7 x8 x9 x10 : AV) (H : Heap) (kn : AV → AV → AV → Heap → Res) : Res :=
  purK (binA Try.prog H .add 3 x6 x9) fun x70_1 =>
  purK (slT x0 (some x6) (some x70_1)) fun x71_1 =>
  purK (binA Try.prog H .add 3 x6 x9) fun x75_1 =>
  purK (binA Try.prog H .add 3 x6 x9) fun x78_1 =>
  purK (binA Try.prog H .add 3 x78_1 x10) fun x80_1 =>
  purK (slT x0 (some x75_1) (some x80_1)) fun x81_1 =>
  purK (bldA [.str ByteArray.empty, .str ByteArray.empty] [(0, 1, x71_1), (1, 1, x81_1)]) fun x82_1 =>
  mkK H (bldS H 70 2 [.str ByteArray.empty, .str ByteArray.empty] 1 [(0, 2, x82_1)]) true fun x83_1 H => bif (agn (binA Try.prog H .add 3 x78_1 x10) x80_1 && (agn (binA Try.prog H .add 3 x6 x9) x78_1 && (agn (binA Try.prog H .add 3 x6 x9) x75_1 && (agn (binA Try.prog H .add 3 x6 x9) x70_1 && true)))) then
    effK H (apA ρ lim H 70 2 32 x7 x83_1) fun x84_1 H =>
    purK (binA Try.prog H .add 3 x6 x9) fun x87_1 =>
    purK (binA Try.prog H .add 3 x87_1 x10) fun x89_1 =>
    kn x89_1 x84_1 x8 H
  else none
theorem N17_6_eq (ρ : Addr → Option Value) (call : CallF) (yc : YieldF) (lim k : Nat) (x0 x5 x6 x7 x8 x9 x10 : AV) (H : Heap) (kn : KS) (k1 : KS) (k0 : KS) (R : List AV → Heap → Res) :
    evL (cx ρ) call yc false 17 lim k (Code.at [1, 1, 1, 1, 1, 1, 1, 0, 1, 0, 0, 1, 0, 0, 1, 1, 1, 1] c17) (sp 100 [(0, x0), (5, x5), (6, x6), (7, x7), (8, x8), (9, x9), (10, x10)]) H (kk (some [0, 5, 6, 7, 8]) kn [(1, (some [0, 5, 6, 7, 8]), k1), (0, (some [0, 6, 7]), k0)] R [2, 3]) = N17_6 ρ call yc lim k x0 x5 x6 x7 x8 x9 x10 H (fun x6 x7 x8 H => kn (sp 100 [(0, x0), (5, x5), (6, x6), (7, x7), (8, x8)]) H) := by
  kernel_rfl
noncomputable def N17_7 (ρ : Addr → Option Value) (call : CallF) (yc : YieldF) (lim k : Nat) (x0 x5 x6 x7 x8 x9 x10 x64 : AV) (H : Heap) (kn : AV → AV → AV → AV → AV → Heap → Res) (R : List AV → Heap → Res) : Res :=
  condK x64
  (
    R [.nils, (.int .i64 4)] H)
  (
    kn x6 x7 x8 x9 x10 H)
theorem N17_7_eq (ρ : Addr → Option Value) (call : CallF) (yc : YieldF) (lim k : Nat) (x0 x5 x6 x7 x8 x9 x10 x64 : AV) (H : Heap) (kn : KS) (k1 : KS) (k0 : KS) (R : List AV → Heap → Res) :
    evL (cx ρ) call yc false 17 lim k (Code.at [1, 1, 1, 1, 1, 1, 1, 0, 1, 0, 0, 1, 0, 0, 1, 1, 1, 0, 1] c17) (sp 100 [(0, x0), (5, x5), (6, x6), (7, x7), (8, x8), (9, x9), (10, x10), (64, x64)]) H (kk (some [0, 5, 6, 7, 8, 9, 10]) kn [(1, (some [0, 5, 6, 7, 8]), k1), (0, (some [0, 6, 7]), k0)] R [2, 3]) = N17_7 ρ call yc lim k x0 x5 x6 x7 x8 x9 x10 x64 H (fun x6 x7 x8 x9 x10 H => kn (sp 100 [(0, x0), (5, x5), (6, x6), (7, x7), (8, x8), (9, x9), (10, x10)]) H) R := by
  kernel_rfl
noncomputable def N17_4b (ρ : Addr → Option Value) (call : CallF) (yc : YieldF) (lim k : Nat) (x0 x5 x6 x7 x8 : AV) (H : Heap) (kn : AV → AV → AV → Heap → Res) (k0 : AV → AV → AV → Heap → Res) (R : List AV → Heap → Res) : Res :=
  purK (binA Try.prog H .lss 3 x8 x5) fun x38_1 =>
  condK x38_1
  (
    purK (lenT x0) fun x43_1 =>
    purK (binA Try.prog H .sub 3 x43_1 (.int .i64 2)) fun x44_1 =>
    purK (binA Try.prog H .gtr 3 x6 x44_1) fun x45_1 =>
    condK x45_1
    (
      R [.nils, (.int .i64 4)] H)
    (
      purK (ixT x0 x6) fun x48_1 =>
      purK (cvI .i64 x48_1) fun x49_1 =>
      purK (binA Try.prog H .add 3 x6 (.int .i64 1)) fun x52_1 =>
      purK (ixT x0 x52_1) fun x53_1 =>
      purK (cvI .i64 x53_1) fun x54_1 =>
      purK (binA Try.prog H .add 3 x6 (.int .i64 2)) fun x56_1 =>
      purK (binA Try.prog H .add 3 x49_1 x54_1) fun x59_1 =>
      purK (lenT x0) fun x61_1 =>
      purK (binA Try.prog H .sub 3 x61_1 x56_1) fun x63_1 =>
      purK (binA Try.prog H .gtr 3 x59_1 x63_1) fun x64_1 =>
      N17_7 ρ call yc lim k x0 x5 x56_1 x7 x8 x49_1 x54_1 x64_1 H (fun x6_1 x7_1 x8_1 x9_2 x10_2 H =>
        N17_6 ρ call yc lim k x0 x5 x6_1 x7_1 x8_1 x9_2 x10_2 H (fun x6_2 x7_2 x8_2 H =>
          N17_5 ρ call yc lim k x0 x5 x6_2 x7_2 x8_2 H kn)) R))
  (
    k0 x0 x6 x7 H)
theorem N17_4b_x (ρ : Addr → Option Value) (call : CallF) (yc : YieldF) (lim k : Nat) (J : CodeF) (x0 x5 x6 x7 x8 : AV) (H : Heap) (kn : KS) (k0 : KS) (R : List AV → Heap → Res) :
    evX (cx ρ) call yc false 17 lim k J (Code.at [1, 1, 1, 1, 1, 1, 1, 0, 1, 0, 0] c17) (sp 100 [(0, x0), (5, x5), (6, x6), (7, x7), (8, x8)]) H (kk (some [0, 5, 6, 7, 8]) kn [(0, (some [0, 6, 7]), k0)] R [2, 3]) =
  purK (binA Try.prog H .lss 3 x8 x5) fun x38_1 =>
  condK x38_1
  (
    purK (lenT x0) fun x43_1 =>
    purK (binA Try.prog H .sub 3 x43_1 (.int .i64 2)) fun x44_1 =>
    purK (binA Try.prog H .gtr 3 x6 x44_1) fun x45_1 =>
    condK x45_1
    (
      R [.nils, (.int .i64 4)] H)
    (
      purK (ixT x0 x6) fun x48_1 =>
      purK (cvI .i64 x48_1) fun x49_1 =>
      purK (binA Try.prog H .add 3 x6 (.int .i64 1)) fun x52_1 =>
      purK (ixT x0 x52_1) fun x53_1 =>
      purK (cvI .i64 x53_1) fun x54_1 =>
      purK (binA Try.prog H .add 3 x6 (.int .i64 2)) fun x56_1 =>
      purK (binA Try.prog H .add 3 x49_1 x54_1) fun x59_1 =>
      purK (lenT x0) fun x61_1 =>
      purK (binA Try.prog H .sub 3 x61_1 x56_1) fun x63_1 =>
      purK (binA Try.prog H .gtr 3 x59_1 x63_1) fun x64_1 =>
      J (Code.at [1, 1, 1, 1, 1, 1, 1, 0, 1, 0, 0, 1, 0, 0, 1, 1, 1, 0, 1] c17) (sp 100 [(0, x0), (5, x5), (6, x56_1), (7, x7), (8, x8), (9, x49_1), (10, x54_1), (64, x64_1)]) H (kk (some [0, 5, 6, 7, 8, 9, 10]) (fun s H => J (Code.at [1, 1, 1, 1, 1, 1, 1, 0, 1, 0, 0, 1, 0, 0, 1, 1, 1, 1] c17) s H (kk (some [0, 5, 6, 7, 8]) (fun s H => J (Code.at [1, 1, 1, 1, 1, 1, 1, 0, 1, 0, 0, 1, 1] c17) s H (kk (some [0, 5, 6, 7, 8]) kn [(0, (some [0, 6, 7]), k0)] R [2, 3])) [(1, (some [0, 5, 6, 7, 8]), (fun s H => J (Code.at [1, 1, 1, 1, 1, 1, 1, 0, 1, 0, 0, 1, 1] c17) s H (kk (some [0, 5, 6, 7, 8]) kn [(0, (some [0, 6, 7]), k0)] R [2, 3]))), (0, (some [0, 6, 7]), k0)] R [2, 3])) [(1, (some [0, 5, 6, 7, 8]), (fun s H => J (Code.at [1, 1, 1, 1, 1, 1, 1, 0, 1, 0, 0, 1, 1] c17) s H (kk (some [0, 5, 6, 7, 8]) kn [(0, (some [0, 6, 7]), k0)] R [2, 3]))), (0, (some [0, 6, 7]), k0)] R [2, 3])))
  (
    k0 (sp 100 [(0, x0), (6, x6), (7, x7)]) H) := by
  kernel_rfl
theorem N17_4b_eq (ρ : Addr → Option Value) (call : CallF) (yc : YieldF) (lim k : Nat) (x0 x5 x6 x7 x8 : AV) (H : Heap) (kn : KS) (k0 : KS) (R : List AV → Heap → Res) :
    evL (cx ρ) call yc false 17 lim k (Code.at [1, 1, 1, 1, 1, 1, 1, 0, 1, 0, 0] c17) (sp 100 [(0, x0), (5, x5), (6, x6), (7, x7), (8, x8)]) H (kk (some [0, 5, 6, 7, 8]) kn [(0, (some [0, 6, 7]), k0)] R [2, 3]) = N17_4b ρ call yc lim k x0 x5 x6 x7 x8 H (fun x6 x7 x8 H => kn (sp 100 [(0, x0), (5, x5), (6, x6), (7, x7), (8, x8)]) H) (fun x0 x6 x7 H => k0 (sp 100 [(0, x0), (6, x6), (7, x7)]) H) R := by
  rw [evL_X, N17_4b_x]
  simp only [← evL_X, N17_4b, N17_5_eq, N17_6_eq, N17_7_eq]
noncomputable def N17_4 (ρ : Addr → Option Value) (call : CallF) (yc : YieldF) (lim k : Nat) (x0 x5 x6 x7 x8 : AV) (H : Heap) (k0 : AV → AV → AV → Heap → Res) (R : List AV → Heap → Res) : Res :=
  loopL (fun (x : AV × AV × AV) H kn => N17_4b ρ call yc lim k x0 x5 x.1 x.2.1 x.2.2 H (fun x6 x7 x8 H => kn (x6, x7, x8) H) k0 R) k (x6, x7, x8) H
theorem N17_4_eq (ρ : Addr → Option Value) (call : CallF) (yc : YieldF) (lim k : Nat) (x0 x5 x6 x7 x8 : AV) (H : Heap) (kn : KS) (k0 : KS) (R : List AV → Heap → Res) :
    evL (cx ρ) call yc false 17 lim k (Code.at [1, 1, 1, 1, 1, 1, 1, 0, 1, 0] c17) (sp 100 [(0, x0), (5, x5), (6, x6), (7, x7), (8, x8)]) H (kk (some [0, 6, 7]) kn [(0, (some [0, 6, 7]), k0)] R [2, 3]) = N17_4 ρ call yc lim k x0 x5 x6 x7 x8 H (fun x0 x6 x7 H => k0 (sp 100 [(0, x0), (6, x6), (7, x7)]) H) R := by
  have e : Code.at [1, 1, 1, 1, 1, 1, 1, 0, 1, 0] c17 = .loop (Code.at [1, 1, 1, 1, 1, 1, 1, 0, 1, 0, 0] c17) := by kernel_rfl
  rw [e]
  unfold N17_4
  exact loop_node [0, 5, 6, 7, 8] (fun x : AV × AV × AV => (sp 100 [(0, x0), (5, x5), (6, (x.1)), (7, (x.2.1)), (8, (x.2.2))])) (fun (x : AV × AV × AV) H kn => N17_4b ρ call yc lim k x0 x5 x.1 x.2.1 x.2.2 H (fun x6 x7 x8 H => kn (x6, x7, x8) H) (fun x0 x6 x7 H => k0 (sp 100 [(0, x0), (6, x6), (7, x7)]) H) R) (by kernel_rfl) (fun x => by kernel_rfl) (fun x H kn => N17_4b_eq ρ call yc lim k x0 x5 (x.1) (x.2.1) (x.2.2) H kn k0 R) (x6, x7, x8) (sp 100 [(0, x0), (5, x5), (6, x6), (7, x7), (8, x8)]) H (by kernel_rfl)
noncomputable def N17_3 (ρ : Addr → Option Value) (call : CallF) (yc : YieldF) (lim k : Nat) (x0 x5 x6 x7 x8 : AV) (H : Heap) (kn : AV → AV → AV → Heap → Res) (R : List AV → Heap → Res) : Res :=
  N17_4 ρ call yc lim k x0 x5 x6 x7 x8 H kn R
theorem N17_3_x (ρ : Addr → Option Value) (call : CallF) (yc : YieldF) (lim k : Nat) (J : CodeF) (x0 x5 x6 x7 x8 : AV) (H : Heap) (kn : KS) (R : List AV → Heap → Res) :
    evX (cx ρ) call yc false 17 lim k J (Code.at [1, 1, 1, 1, 1, 1, 1, 0, 1] c17) (sp 100 [(0, x0), (5, x5), (6, x6), (7, x7), (8, x8)]) H (kk (some [0, 6, 7]) kn [] R [2, 3]) =
  J (Code.at [1, 1, 1, 1, 1, 1, 1, 0, 1, 0] c17) (sp 100 [(0, x0), (5, x5), (6, x6), (7, x7), (8, x8)]) H (kk (some [0, 6, 7]) kn [(0, (some [0, 6, 7]), kn)] R [2, 3]) := by
  kernel_rfl
theorem N17_3_eq (ρ : Addr → Option Value) (call : CallF) (yc : YieldF) (lim k : Nat) (x0 x5 x6 x7 x8 : AV) (H : Heap) (kn : KS) (R : List AV → Heap → Res) :
    evL (cx ρ) call yc false 17 lim k (Code.at [1, 1, 1, 1, 1, 1, 1, 0, 1] c17) (sp 100 [(0, x0), (5, x5), (6, x6), (7, x7), (8, x8)]) H (kk (some [0, 6, 7]) kn [] R [2, 3]) = N17_3 ρ call yc lim k x0 x5 x6 x7 x8 H (fun x0 x6 x7 H => kn (sp 100 [(0, x0), (6, x6), (7, x7)]) H) R := by
  rw [evL_X, N17_3_x]
  simp only [← evL_X, N17_3, N17_4_eq]
noncomputable def N17_1 (ρ : Addr → Option Value) (call : CallF) (yc : YieldF) (lim k : Nat) (x0 x5 : AV) (H : Heap) (R : List AV → Heap → Res) : Res :=
  effK H (bldS H 70 2 [.str ByteArray.empty, .str ByteArray.empty] 0 []) fun x35_1 H =>
  N17_3 ρ call yc lim k x0 x5 (.int .i64 2) x35_1 (.int .i64 0) H (fun x0_1 x6_1 x7_1 H =>
    N17_2 ρ call yc lim k x0_1 x6_1 x7_1 H R) R
theorem N17_1_x (ρ : Addr → Option Value) (call : CallF) (yc : YieldF) (lim k : Nat) (J : CodeF) (x0 x5 : AV) (H : Heap) (R : List AV → Heap → Res) :
    evX (cx ρ) call yc false 17 lim k J (Code.at [1, 1, 1, 1, 1] c17) (sp 100 [(0, x0), (5, x5)]) H (kk none (fun s H => R (([2, 3] : List Nat).map fun t => s.getD t (.tup [])) H) [] R [2, 3]) =
  effK H (bldS H 70 2 [.str ByteArray.empty, .str ByteArray.empty] 0 []) fun x35_1 H =>
  J (Code.at [1, 1, 1, 1, 1, 1, 1, 0, 1] c17) (sp 100 [(0, x0), (5, x5), (6, (.int .i64 2)), (7, x35_1), (8, (.int .i64 0))]) H (kk (some [0, 6, 7]) (fun s H => J (Code.at [1, 1, 1, 1, 1, 1, 1, 1] c17) s H (kk none (fun s H => R (([2, 3] : List Nat).map fun t => s.getD t (.tup [])) H) [] R [2, 3])) [] R [2, 3]) := by
  kernel_rfl
theorem N17_1_eq (ρ : Addr → Option Value) (call : CallF) (yc : YieldF) (lim k : Nat) (x0 x5 : AV) (H : Heap) (R : List AV → Heap → Res) :
    evL (cx ρ) call yc false 17 lim k (Code.at [1, 1, 1, 1, 1] c17) (sp 100 [(0, x0), (5, x5)]) H (kk none (fun s H => R (([2, 3] : List Nat).map fun t => s.getD t (.tup [])) H) [] R [2, 3]) = N17_1 ρ call yc lim k x0 x5 H R := by
  rw [evL_X, N17_1_x]
  simp only [← evL_X, N17_1, N17_2_eq, N17_3_eq]
noncomputable def L17 (ρ : Addr → Option Value) (call : CallF) (yc : YieldF) (lim k : Nat) (x0 : AV) (H : Heap) : Res :=
  purK (lenT x0) fun x12 =>
  purK (binA Try.prog H .sub 3 x12 (.int .i64 8)) fun x13 =>
  purK (binA Try.prog H .lss 3 x13 (.int .i64 2)) fun x15 =>
  purK (gPur (wantV x15 false) (some x0)) fun x17 =>
  purK (gPur (wantV x15 false) (some x13)) fun x18 =>
  purK (gPur (wantV x15 false) (slT x17 none (some x18))) fun x19 =>
  resK (gRes (wantV x15 false) H (call lim 18 [x19] H)) fun x20 H =>
  purK (gPur (wantV x15 false) (some x0)) fun x21 =>
  purK (gPur (wantV x15 false) (binA Try.prog H .neq 9 x20 x21)) fun x22 =>
  purK (pickA x15 (.bool true) x22) fun x23 =>
  condK x23
  (
    retK [.nils, (.int .i64 4)] H)
  (
    purK (slT x0 none (some x13)) fun x26 =>
    purK (ixT x26 (.int .i64 0)) fun x28 =>
    purK (cvI .i64 x28) fun x29 =>
    purK (ixT x26 (.int .i64 1)) fun x31 =>
    purK (cvI .i64 x31) fun x32 =>
    purK (binA Try.prog H .mul 3 (.int .i64 256) x32) fun x33 =>
    purK (binA Try.prog H .add 3 x29 x33) fun x34 =>
    N17_1 ρ call yc lim k x26 x34 H retK)
theorem L17_x (ρ : Addr → Option Value) (call : CallF) (yc : YieldF) (lim k : Nat) (J : CodeF) (x0 : AV) (H : Heap) :
    evX (cx ρ) call yc false 17 lim k J c17 [x0, (.tup []), (.tup []), (.tup []), (.tup []), (.tup []), (.tup []), (.tup []), (.tup []), (.tup []), (.tup []), (.tup []), (.tup []), (.tup []), (.tup []), (.tup []), (.tup []), (.tup []), (.tup []), (.tup []), (.tup []), (.tup []), (.tup []), (.tup []), (.tup []), (.tup []), (.tup []), (.tup []), (.tup []), (.tup []), (.tup []), (.tup []), (.tup []), (.tup []), (.tup []), (.tup []), (.tup []), (.tup []), (.tup []), (.tup []), (.tup []), (.tup []), (.tup []), (.tup []), (.tup []), (.tup []), (.tup []), (.tup []), (.tup []), (.tup []), (.tup []), (.tup []), (.tup []), (.tup []), (.tup []), (.tup []), (.tup []), (.tup []), (.tup []), (.tup []), (.tup []), (.tup []), (.tup []), (.tup []), (.tup []), (.tup []), (.tup []), (.tup []), (.tup []), (.tup []), (.tup []), (.tup []), (.tup []), (.tup []), (.tup []), (.tup []), (.tup []), (.tup []), (.tup []), (.tup []), (.tup []), (.tup []), (.tup []), (.tup []), (.tup []), (.tup []), (.tup []), (.tup []), (.tup []), (.tup []), (.tup []), (.tup []), (.tup []), (.tup []), (.tup []), (.tup []), (.tup []), (.tup []), (.tup []), (.tup [])] H (kk none (fun s H => retK (([2, 3] : List Nat).map fun t => s.getD t (.tup [])) H) [] retK [2, 3]) =
  purK (lenT x0) fun x12 =>
  purK (binA Try.prog H .sub 3 x12 (.int .i64 8)) fun x13 =>
  purK (binA Try.prog H .lss 3 x13 (.int .i64 2)) fun x15 =>
  purK (gPur (wantV x15 false) (some x0)) fun x17 =>
  purK (gPur (wantV x15 false) (some x13)) fun x18 =>
  purK (gPur (wantV x15 false) (slT x17 none (some x18))) fun x19 =>
  resK (gRes (wantV x15 false) H (call lim 18 [x19] H)) fun x20 H =>
  purK (gPur (wantV x15 false) (some x0)) fun x21 =>
  purK (gPur (wantV x15 false) (binA Try.prog H .neq 9 x20 x21)) fun x22 =>
  purK (pickA x15 (.bool true) x22) fun x23 =>
  condK x23
  (
    retK [.nils, (.int .i64 4)] H)
  (
    purK (slT x0 none (some x13)) fun x26 =>
    purK (ixT x26 (.int .i64 0)) fun x28 =>
    purK (cvI .i64 x28) fun x29 =>
    purK (ixT x26 (.int .i64 1)) fun x31 =>
    purK (cvI .i64 x31) fun x32 =>
    purK (binA Try.prog H .mul 3 (.int .i64 256) x32) fun x33 =>
    purK (binA Try.prog H .add 3 x29 x33) fun x34 =>
    J (Code.at [1, 1, 1, 1, 1] c17) (sp 100 [(0, x26), (5, x34)]) H (kk none (fun s H => retK (([2, 3] : List Nat).map fun t => s.getD t (.tup [])) H) [] retK [2, 3])) := by
  kernel_rfl
theorem G17 (ρ : Addr → Option Value) (call : CallF) (yc : YieldF) (lim k : Nat) (x0 : AV) (H : Heap) :
    evL (cx ρ) call yc false 17 lim k c17 [x0, (.tup []), (.tup []), (.tup []), (.tup []), (.tup []), (.tup []), (.tup []), (.tup []), (.tup []), (.tup []), (.tup []), (.tup []), (.tup []), (.tup []), (.tup []), (.tup []), (.tup []), (.tup []), (.tup []), (.tup []), (.tup []), (.tup []), (.tup []), (.tup []), (.tup []), (.tup []), (.tup []), (.tup []), (.tup []), (.tup []), (.tup []), (.tup []), (.tup []), (.tup []), (.tup []), (.tup []), (.tup []), (.tup []), (.tup []), (.tup []), (.tup []), (.tup []), (.tup []), (.tup []), (.tup []), (.tup []), (.tup []), (.tup []), (.tup []), (.tup []), (.tup []), (.tup []), (.tup []), (.tup []), (.tup []), (.tup []), (.tup []), (.tup []), (.tup []), (.tup []), (.tup []), (.tup []), (.tup []), (.tup []), (.tup []), (.tup []), (.tup []), (.tup []), (.tup []), (.tup []), (.tup []), (.tup []), (.tup []), (.tup []), (.tup []), (.tup []), (.tup []), (.tup []), (.tup []), (.tup []), (.tup []), (.tup []), (.tup []), (.tup []), (.tup []), (.tup []), (.tup []), (.tup []), (.tup []), (.tup []), (.tup []), (.tup []), (.tup []), (.tup []), (.tup []), (.tup []), (.tup []), (.tup []), (.tup [])] H (kk none (fun s H => retK (([2, 3] : List Nat).map fun t => s.getD t (.tup [])) H) [] retK [2, 3]) = L17 ρ call yc lim k x0 H := by
  rw [evL_X, L17_x]
  simp only [← evL_X, L17, N17_1_eq]
theorem E17 (ρ : Addr → Option Value) (k lim : Nat) (x0 : AV) (H : Heap) : evCall (cx ρ) (k + 1) lim 17 [x0] H = L17 ρ (evCall (cx ρ) k) (evCY (cx ρ) k).2 lim k x0 H := by
  rw [evCall_body (cx ρ) k lim 17 _ H Try.f17 c17 [2, 3] (by kernel_rfl) (by kernel_rfl) (by kernel_rfl) (by kernel_rfl) (by kernel_rfl)]
  exact G17 ρ (evCall (cx ρ) k) (evCY (cx ρ) k).2 lim k x0 H
-- haycroft/haycroftref04.Seal
noncomputable def c18 : Code := Code.of Try.prog 18
noncomputable def N18_1 (ρ : Addr → Option Value) (call : CallF) (yc : YieldF) (lim k : Nat) (x0 : AV) (H : Heap) (R : List AV → Heap → Res) : Res :=
  R [x0] H
theorem N18_1_eq (ρ : Addr → Option Value) (call : CallF) (yc : YieldF) (lim k : Nat) (x0 : AV) (H : Heap) (R : List AV → Heap → Res) :
    evL (cx ρ) call yc false 18 lim k (Code.at [1, 1, 1] c18) (sp 21 [(0, x0)]) H (kk none (fun s H => R (([2] : List Nat).map fun t => s.getD t (.tup [])) H) [] R [2]) = N18_1 ρ call yc lim k x0 H R := by
  kernel_rfl
noncomputable def N18_3b (ρ : Addr → Option Value) (call : CallF) (yc : YieldF) (lim k : Nat) (x0 x3 x4 : AV) (H : Heap) (kn : AV → AV → AV → Heap → Res) (k0 : AV → Heap → Res) : Res :=
  purK (binA Try.prog H .lss 3 x4 (.int .i64 8)) fun x8_1 =>
  condK x8_1
  (
    purK (binA Try.prog H .rem 49 x3 (.int .u64 256)) fun x13_1 =>
    purK (cvI .u8 x13_1) fun x14_1 =>
    effK H (bldS H 5 1 [.int .u8 0] 1 [(0, 1, x14_1)]) fun x15_1 H =>
    purK (b2s ρ H x15_1) fun x16_1 =>
    purK (binA Try.prog H .add 9 x0 x16_1) fun x17_1 =>
    purK (binA Try.prog H .quo 49 x3 (.int .u64 256)) fun x19_1 =>
    purK (binA Try.prog H .add 3 x4 (.int .i64 1)) fun x10_1 =>
    kn x17_1 x19_1 x10_1 H)
  (
    k0 x0 H)
theorem N18_3b_eq (ρ : Addr → Option Value) (call : CallF) (yc : YieldF) (lim k : Nat) (x0 x3 x4 : AV) (H : Heap) (kn : KS) (k0 : KS) (R : List AV → Heap → Res) :
    evL (cx ρ) call yc false 18 lim k (Code.at [1, 1, 0, 1, 0, 0] c18) (sp 21 [(0, x0), (3, x3), (4, x4)]) H (kk (some [0, 3, 4]) kn [(0, (some [0]), k0)] R [2]) = N18_3b ρ call yc lim k x0 x3 x4 H (fun x0 x3 x4 H => kn (sp 21 [(0, x0), (3, x3), (4, x4)]) H) (fun x0 H => k0 (sp 21 [(0, x0)]) H) := by
  kernel_rfl
noncomputable def N18_3 (ρ : Addr → Option Value) (call : CallF) (yc : YieldF) (lim k : Nat) (x0 x3 x4 : AV) (H : Heap) (k0 : AV → Heap → Res) : Res :=
  loopL (fun (x : AV × AV × AV) H kn => N18_3b ρ call yc lim k x.1 x.2.1 x.2.2 H (fun x0 x3 x4 H => kn (x0, x3, x4) H) k0) k (x0, x3, x4) H
theorem N18_3_eq (ρ : Addr → Option Value) (call : CallF) (yc : YieldF) (lim k : Nat) (x0 x3 x4 : AV) (H : Heap) (kn : KS) (k0 : KS) (R : List AV → Heap → Res) :
    evL (cx ρ) call yc false 18 lim k (Code.at [1, 1, 0, 1, 0] c18) (sp 21 [(0, x0), (3, x3), (4, x4)]) H (kk (some [0]) kn [(0, (some [0]), k0)] R [2]) = N18_3 ρ call yc lim k x0 x3 x4 H (fun x0 H => k0 (sp 21 [(0, x0)]) H) := by
  have e : Code.at [1, 1, 0, 1, 0] c18 = .loop (Code.at [1, 1, 0, 1, 0, 0] c18) := by kernel_rfl
  rw [e]
  unfold N18_3
  exact loop_node [0, 3, 4] (fun x : AV × AV × AV => (sp 21 [(0, (x.1)), (3, (x.2.1)), (4, (x.2.2))])) (fun (x : AV × AV × AV) H kn => N18_3b ρ call yc lim k x.1 x.2.1 x.2.2 H (fun x0 x3 x4 H => kn (x0, x3, x4) H) (fun x0 H => k0 (sp 21 [(0, x0)]) H)) (by kernel_rfl) (fun x => by kernel_rfl) (fun x H kn => N18_3b_eq ρ call yc lim k (x.1) (x.2.1) (x.2.2) H kn k0 R) (x0, x3, x4) (sp 21 [(0, x0), (3, x3), (4, x4)]) H (by kernel_rfl)
noncomputable def N18_2 (ρ : Addr → Option Value) (call : CallF) (yc : YieldF) (lim k : Nat) (x0 x3 x4 : AV) (H : Heap) (kn : AV → Heap → Res) : Res :=
  N18_3 ρ call yc lim k x0 x3 x4 H kn
theorem N18_2_x (ρ : Addr → Option Value) (call : CallF) (yc : YieldF) (lim k : Nat) (J : CodeF) (x0 x3 x4 : AV) (H : Heap) (kn : KS) (R : List AV → Heap → Res) :
    evX (cx ρ) call yc false 18 lim k J (Code.at [1, 1, 0, 1] c18) (sp 21 [(0, x0), (3, x3), (4, x4)]) H (kk (some [0]) kn [] R [2]) =
  J (Code.at [1, 1, 0, 1, 0] c18) (sp 21 [(0, x0), (3, x3), (4, x4)]) H (kk (some [0]) kn [(0, (some [0]), kn)] R [2]) := by
  kernel_rfl
theorem N18_2_eq (ρ : Addr → Option Value) (call : CallF) (yc : YieldF) (lim k : Nat) (x0 x3 x4 : AV) (H : Heap) (kn : KS) (R : List AV → Heap → Res) :
    evL (cx ρ) call yc false 18 lim k (Code.at [1, 1, 0, 1] c18) (sp 21 [(0, x0), (3, x3), (4, x4)]) H (kk (some [0]) kn [] R [2]) = N18_2 ρ call yc lim k x0 x3 x4 H (fun x0 H => kn (sp 21 [(0, x0)]) H) := by
  rw [evL_X, N18_2_x]
  simp only [← evL_X, N18_2, N18_3_eq]
noncomputable def L18 (ρ : Addr → Option Value) (call : CallF) (yc : YieldF) (lim k : Nat) (x0 : AV) (H : Heap) : Res :=
  resK (call lim 43 [x0] H) fun x6 H =>
  N18_2 ρ call yc lim k x0 x6 (.int .i64 0) H (fun x0_1 H =>
    N18_1 ρ call yc lim k x0_1 H retK)
theorem L18_x (ρ : Addr → Option Value) (call : CallF) (yc : YieldF) (lim k : Nat) (J : CodeF) (x0 : AV) (H : Heap) :
    evX (cx ρ) call yc false 18 lim k J c18 [x0, (.tup []), (.tup []), (.tup []), (.tup []), (.tup []), (.tup []), (.tup []), (.tup []), (.tup []), (.tup []), (.tup []), (.tup []), (.tup []), (.tup []), (.tup []), (.tup []), (.tup []), (.tup []), (.tup []), (.tup [])] H (kk none (fun s H => retK (([2] : List Nat).map fun t => s.getD t (.tup [])) H) [] retK [2]) =
  resK (call lim 43 [x0] H) fun x6 H =>
  J (Code.at [1, 1, 0, 1] c18) (sp 21 [(0, x0), (3, x6), (4, (.int .i64 0))]) H (kk (some [0]) (fun s H => J (Code.at [1, 1, 1] c18) s H (kk none (fun s H => retK (([2] : List Nat).map fun t => s.getD t (.tup [])) H) [] retK [2])) [] retK [2]) := by
  kernel_rfl
theorem G18 (ρ : Addr → Option Value) (call : CallF) (yc : YieldF) (lim k : Nat) (x0 : AV) (H : Heap) :
    evL (cx ρ) call yc false 18 lim k c18 [x0, (.tup []), (.tup []), (.tup []), (.tup []), (.tup []), (.tup []), (.tup []), (.tup []), (.tup []), (.tup []), (.tup []), (.tup []), (.tup []), (.tup []), (.tup []), (.tup []), (.tup []), (.tup []), (.tup []), (.tup [])] H (kk none (fun s H => retK (([2] : List Nat).map fun t => s.getD t (.tup [])) H) [] retK [2]) = L18 ρ call yc lim k x0 H := by
  rw [evL_X, L18_x]
  simp only [← evL_X, L18, N18_1_eq, N18_2_eq]
theorem E18 (ρ : Addr → Option Value) (k lim : Nat) (x0 : AV) (H : Heap) : evCall (cx ρ) (k + 1) lim 18 [x0] H = L18 ρ (evCall (cx ρ) k) (evCY (cx ρ) k).2 lim k x0 H := by
  rw [evCall_body (cx ρ) k lim 18 _ H Try.f18 c18 [2] (by kernel_rfl) (by kernel_rfl) (by kernel_rfl) (by kernel_rfl) (by kernel_rfl)]
  exact G18 ρ (evCall (cx ρ) k) (evCY (cx ρ) k).2 lim k x0 H
-- (*strings.Builder).WriteByte
noncomputable def c32 : Code := Code.of Try.prog 32
noncomputable def L32 (ρ : Addr → Option Value) (call : CallF) (yc : YieldF) (lim k : Nat) (x0 x1 : AV) (H : Heap) : Res :=
  resK (call lim 57 [x0] H) fun x6 H =>
  purK (nilChkA x0) fun x9 =>
  purK (addA 1 x9) fun x10 =>
  purK (ld1 ρ H x10) fun x11 =>
  effK H (bldS H 5 1 [.int .u8 0] 1 [(0, 1, x1)]) fun x13 H =>
  effK H (apA ρ lim H 5 1 1 x11 x13) fun x14 H =>
  purK (nilChkA x0) fun x15 =>
  purK (addA 1 x15) fun x16 =>
  effK H (stA lim H 1 x16 x14) fun _ H =>
  retK [.nili] H
theorem G32 (ρ : Addr → Option Value) (call : CallF) (yc : YieldF) (lim k : Nat) (x0 x1 : AV) (H : Heap) :
    evL (cx ρ) call yc false 32 lim k c32 [x0, x1, (.tup []), (.tup []), (.tup []), (.tup []), (.tup []), (.tup []), (.tup []), (.tup []), (.tup []), (.tup []), (.tup []), (.tup []), (.tup []), (.tup []), (.tup [])] H (kk none (fun s H => retK (([4] : List Nat).map fun t => s.getD t (.tup [])) H) [] retK [4]) = L32 ρ call yc lim k x0 x1 H := by
  kernel_rfl
theorem E32 (ρ : Addr → Option Value) (k lim : Nat) (x0 x1 : AV) (H : Heap) : evCall (cx ρ) (k + 1) lim 32 [x0, x1] H = L32 ρ (evCall (cx ρ) k) (evCY (cx ρ) k).2 lim k x0 x1 H := by
  rw [evCall_body (cx ρ) k lim 32 _ H Try.f32 c32 [4] (by kernel_rfl) (by kernel_rfl) (by kernel_rfl) (by kernel_rfl) (by kernel_rfl)]
  exact G32 ρ (evCall (cx ρ) k) (evCY (cx ρ) k).2 lim k x0 x1 H
-- (*strings.Builder).WriteString
noncomputable def c33 : Code := Code.of Try.prog 33
noncomputable def L33 (ρ : Addr → Option Value) (call : CallF) (yc : YieldF) (lim k : Nat) (x0 x1 : AV) (H : Heap) : Res :=
  resK (call lim 57 [x0] H) fun x7 H =>
  purK (nilChkA x0) fun x10 =>
  purK (addA 1 x10) fun x11 =>
  purK (ld1 ρ H x11) fun x12 =>
  effK H (apA ρ lim H 5 1 1 x12 x1) fun x14 H =>
  purK (nilChkA x0) fun x15 =>
  purK (addA 1 x15) fun x16 =>
  effK H (stA lim H 1 x16 x14) fun _ H =>
  purK (lenT x1) fun x18 =>
  retK [x18, .nili] H
theorem G33 (ρ : Addr → Option Value) (call : CallF) (yc : YieldF) (lim k : Nat) (x0 x1 : AV) (H : Heap) :
    evL (cx ρ) call yc false 33 lim k c33 [x0, x1, (.tup []), (.tup []), (.tup []), (.tup []), (.tup []), (.tup []), (.tup []), (.tup []), (.tup []), (.tup []), (.tup []), (.tup []), (.tup []), (.tup []), (.tup []), (.tup []), (.tup [])] H (kk none (fun s H => retK (([4, 5] : List Nat).map fun t => s.getD t (.tup [])) H) [] retK [4, 5]) = L33 ρ call yc lim k x0 x1 H := by
  kernel_rfl
theorem E33 (ρ : Addr → Option Value) (k lim : Nat) (x0 x1 : AV) (H : Heap) : evCall (cx ρ) (k + 1) lim 33 [x0, x1] H = L33 ρ (evCall (cx ρ) k) (evCY (cx ρ) k).2 lim k x0 x1 H := by
  rw [evCall_body (cx ρ) k lim 33 _ H Try.f33 c33 [4, 5] (by kernel_rfl) (by kernel_rfl) (by kernel_rfl) (by kernel_rfl) (by kernel_rfl)]
  exact G33 ρ (evCall (cx ρ) k) (evCY (cx ρ) k).2 lim k x0 x1 H
end Go.Proofs.Ytkmohjddojpdjaa

-- part Dn2
/- Functions, lifted. Printed by a program of this repo. -/
set_option linter.unusedVariables false
set_option linter.unusedSimpArgs false
set_option maxRecDepth 100000
set_option maxHeartbeats 4000000
namespace Go.Proofs.Ytkmohjddojpdjaa
open Go.Ev Go.RowKit
-- haycroft/seal.Seal
noncomputable def c34 : Code := Code.of Try.prog 34
noncomputable def L34 (ρ : Addr → Option Value) (call : CallF) (yc : YieldF) (lim k : Nat) (x0 : AV) (H : Heap) : Res :=
  resK (call lim 59 [x0] H) fun x5 H =>
  resK (call lim 58 [x5] H) fun x6 H =>
  purK (binA Try.prog H .add 9 x0 x6) fun x7 =>
  retK [x7] H
theorem G34 (ρ : Addr → Option Value) (call : CallF) (yc : YieldF) (lim k : Nat) (x0 : AV) (H : Heap) :
    evL (cx ρ) call yc false 34 lim k c34 [x0, (.tup []), (.tup []), (.tup []), (.tup []), (.tup []), (.tup []), (.tup [])] H (kk none (fun s H => retK (([2] : List Nat).map fun t => s.getD t (.tup [])) H) [] retK [2]) = L34 ρ call yc lim k x0 H := by
  kernel_rfl
theorem E34 (ρ : Addr → Option Value) (k lim : Nat) (x0 : AV) (H : Heap) : evCall (cx ρ) (k + 1) lim 34 [x0] H = L34 ρ (evCall (cx ρ) k) (evCY (cx ρ) k).2 lim k x0 H := by
  rw [evCall_body (cx ρ) k lim 34 _ H Try.f34 c34 [2] (by kernel_rfl) (by kernel_rfl) (by kernel_rfl) (by kernel_rfl) (by kernel_rfl)]
  exact G34 ρ (evCall (cx ρ) k) (evCY (cx ρ) k).2 lim k x0 H
-- (*strings.Builder).String
noncomputable def c35 : Code := Code.of Try.prog 35
noncomputable def L35 (ρ : Addr → Option Value) (call : CallF) (yc : YieldF) (lim k : Nat) (x0 : AV) (H : Heap) : Res :=
  purK (nilChkA x0) fun x4 =>
  purK (addA 1 x4) fun x5 =>
  purK (ld1 ρ H x5) fun x6 =>
  purK (nilChkA x0) fun x9 =>
  purK (addA 1 x9) fun x10 =>
  purK (ld1 ρ H x10) fun x11 =>
  purK (lenS x11) fun x12 =>
  effK H (builtinA (cx ρ) lim H .unsafeSliceData #[65] [x6]) fun x7 H => bif (agn (lenS x11) x12 && (agn (ld1 ρ H x10) x11 && true)) then
    effK H (builtinA (cx ρ) lim H .unsafeString #[113, 3] [x7, x12]) fun x13 H =>
    retK [x13] H
  else none
theorem G35 (ρ : Addr → Option Value) (call : CallF) (yc : YieldF) (lim k : Nat) (x0 : AV) (H : Heap) :
    evL (cx ρ) call yc false 35 lim k c35 [x0, (.tup []), (.tup []), (.tup []), (.tup []), (.tup []), (.tup []), (.tup []), (.tup []), (.tup []), (.tup []), (.tup []), (.tup []), (.tup [])] H (kk none (fun s H => retK (([2] : List Nat).map fun t => s.getD t (.tup [])) H) [] retK [2]) = L35 ρ call yc lim k x0 H := by
  kernel_rfl
theorem E35 (ρ : Addr → Option Value) (k lim : Nat) (x0 : AV) (H : Heap) : evCall (cx ρ) (k + 1) lim 35 [x0] H = L35 ρ (evCall (cx ρ) k) (evCY (cx ρ) k).2 lim k x0 H := by
  rw [evCall_body (cx ρ) k lim 35 _ H Try.f35 c35 [2] (by kernel_rfl) (by kernel_rfl) (by kernel_rfl) (by kernel_rfl) (by kernel_rfl)]
  exact G35 ρ (evCall (cx ρ) k) (evCY (cx ρ) k).2 lim k x0 H
-- haycroft/dump.Right$1
noncomputable def c36 : Code := Code.of Try.prog 36
noncomputable def L36 (ρ : Addr → Option Value) (call : CallF) (yc : YieldF) (lim k : Nat) (x0 : AV) (H : Heap) : Res :=
  effK H (boxA H 70 x0) fun x1 H =>
  purK (addA 0 x1) fun x3 =>
  purK (ld1 ρ H x3) fun x4 =>
  purK (binA Try.prog H .eql 9 x4 (.str (ByteArray.mk #[]))) fun x5 =>
  purK (gPur (wantV x5 false) (addA 0 x1)) fun x7 =>
  purK (gPur (wantV x5 false) (ld1 ρ H x7)) fun x8 =>
  purK (gPur (wantV x5 false) (lenT x8)) fun x9 =>
  purK (gPur (wantV x5 false) (binA Try.prog H .gtr 3 x9 (.int .i64 64))) fun x10 =>
  purK (pickA x5 (.bool true) x10) fun x11 =>
  purK (gPur (wantV x11 false) (addA 1 x1)) fun x13 =>
  purK (gPur (wantV x11 false) (ld1 ρ H x13)) fun x14 =>
  purK (gPur (wantV x11 false) (lenT x14)) fun x15 =>
  purK (gPur (wantV x11 false) (binA Try.prog H .gtr 3 x15 (.int .i64 128))) fun x16 =>
  purK (pickA x11 (.bool true) x16) fun x17 =>
  retK [x17] H
theorem G36 (ρ : Addr → Option Value) (call : CallF) (yc : YieldF) (lim k : Nat) (x0 : AV) (H : Heap) :
    evL (cx ρ) call yc false 36 lim k c36 [x0, (.tup []), (.tup []), (.tup []), (.tup []), (.tup []), (.tup []), (.tup []), (.tup []), (.tup []), (.tup []), (.tup []), (.tup []), (.tup []), (.tup []), (.tup []), (.tup []), (.tup [])] H (kk none (fun s H => retK (([2] : List Nat).map fun t => s.getD t (.tup [])) H) [] retK [2]) = L36 ρ call yc lim k x0 H := by
  kernel_rfl
theorem E36 (ρ : Addr → Option Value) (k lim : Nat) (x0 : AV) (H : Heap) : evCall (cx ρ) (k + 1) lim 36 [x0] H = L36 ρ (evCall (cx ρ) k) (evCY (cx ρ) k).2 lim k x0 H := by
  rw [evCall_body (cx ρ) k lim 36 _ H Try.f36 c36 [2] (by kernel_rfl) (by kernel_rfl) (by kernel_rfl) (by kernel_rfl) (by kernel_rfl)]
  exact G36 ρ (evCall (cx ρ) k) (evCY (cx ρ) k).2 lim k x0 H
-- haycroft/differ.Right
noncomputable def c37 : Code := Code.of Try.prog 37
noncomputable def L37 (ρ : Addr → Option Value) (call : CallF) (yc : YieldF) (lim k : Nat) (x0 : AV) (H : Heap) : Res :=
  resK (call lim 60 [x0, (.fn (.func 61) [] [])] H) fun x4 H =>
  retK [x4] H
theorem G37 (ρ : Addr → Option Value) (call : CallF) (yc : YieldF) (lim k : Nat) (x0 : AV) (H : Heap) :
    evL (cx ρ) call yc false 37 lim k c37 [x0, (.tup []), (.tup []), (.tup []), (.tup [])] H (kk none (fun s H => retK (([2] : List Nat).map fun t => s.getD t (.tup [])) H) [] retK [2]) = L37 ρ call yc lim k x0 H := by
  kernel_rfl
theorem E37 (ρ : Addr → Option Value) (k lim : Nat) (x0 : AV) (H : Heap) : evCall (cx ρ) (k + 1) lim 37 [x0] H = L37 ρ (evCall (cx ρ) k) (evCY (cx ρ) k).2 lim k x0 H := by
  rw [evCall_body (cx ρ) k lim 37 _ H Try.f37 c37 [2] (by kernel_rfl) (by kernel_rfl) (by kernel_rfl) (by kernel_rfl) (by kernel_rfl)]
  exact G37 ρ (evCall (cx ρ) k) (evCY (cx ρ) k).2 lim k x0 H
-- slices.ContainsFunc[[]haycroft/api.Pair,haycroft/api.Pair]
noncomputable def c38 : Code := Code.of Try.prog 38
noncomputable def L38 (ρ : Addr → Option Value) (call : CallF) (yc : YieldF) (lim k : Nat) (x0 x1 : AV) (H : Heap) : Res :=
  resK (call lim 62 [x0, x1] H) fun x7 H =>
  purK (binA Try.prog H .geq 3 x7 (.int .i64 0)) fun x8 =>
  retK [x8] H
theorem G38 (ρ : Addr → Option Value) (call : CallF) (yc : YieldF) (lim k : Nat) (x0 x1 : AV) (H : Heap) :
    evL (cx ρ) call yc false 38 lim k c38 [x0, x1, (.tup []), (.tup []), (.tup []), (.tup []), (.tup []), (.tup []), (.tup [])] H (kk none (fun s H => retK (([4] : List Nat).map fun t => s.getD t (.tup [])) H) [] retK [4]) = L38 ρ call yc lim k x0 x1 H := by
  kernel_rfl
theorem E38 (ρ : Addr → Option Value) (k lim : Nat) (x0 x1 : AV) (H : Heap) : evCall (cx ρ) (k + 1) lim 38 [x0, x1] H = L38 ρ (evCall (cx ρ) k) (evCY (cx ρ) k).2 lim k x0 x1 H := by
  rw [evCall_body (cx ρ) k lim 38 _ H Try.f38 c38 [4] (by kernel_rfl) (by kernel_rfl) (by kernel_rfl) (by kernel_rfl) (by kernel_rfl)]
  exact G38 ρ (evCall (cx ρ) k) (evCY (cx ρ) k).2 lim k x0 x1 H
-- haycroft/haycroftref30.Right
noncomputable def c39 : Code := Code.of Try.prog 39
noncomputable def N39_1 (ρ : Addr → Option Value) (call : CallF) (yc : YieldF) (lim k : Nat) (H : Heap) (R : List AV → Heap → Res) : Res :=
  R [(.bool true)] H
theorem N39_1_eq (ρ : Addr → Option Value) (call : CallF) (yc : YieldF) (lim k : Nat) (H : Heap) (R : List AV → Heap → Res) :
    evL (cx ρ) call yc false 39 lim k (Code.at [1, 1] c39) (sp 23 []) H (kk none (fun s H => R (([2] : List Nat).map fun t => s.getD t (.tup [])) H) [] R [2]) = N39_1 ρ call yc lim k H R := by
  kernel_rfl
noncomputable def N39_3b (ρ : Addr → Option Value) (call : CallF) (yc : YieldF) (lim k : Nat) (x0 x3 : AV) (H : Heap) (kn : AV → Heap → Res) (k0 : Heap → Res) (R : List AV → Heap → Res) : Res :=
  purK (binA Try.prog H .add 3 x3 (.int .i64 1)) fun x5_1 =>
  purK (lenS x0) fun x7_1 =>
  purK (binA Try.prog H .lss 3 x5_1 x7_1) fun x8_1 =>
  condK x8_1
  (
    purK (ixS 2 x0 x3) fun x13_1 =>
    purK (addA 0 x13_1) fun x14_1 =>
    purK (ld1 ρ H x14_1) fun x15_1 =>
    purK (binA Try.prog H .add 3 x3 (.int .i64 1)) fun x18_1 =>
    purK (ixS 2 x0 x18_1) fun x19_1 =>
    purK (addA 0 x19_1) fun x20_1 =>
    purK (ld1 ρ H x20_1) fun x21_1 =>
    purK (binA Try.prog H .geq 9 x15_1 x21_1) fun x22_1 =>
    condK x22_1
    (
      R [(.bool false)] H)
    (
      purK (binA Try.prog H .add 3 x3 (.int .i64 1)) fun x10_1 =>
      kn x10_1 H))
  (
    k0 H)
theorem N39_3b_eq (ρ : Addr → Option Value) (call : CallF) (yc : YieldF) (lim k : Nat) (x0 x3 : AV) (H : Heap) (kn : KS) (k0 : KS) (R : List AV → Heap → Res) :
    evL (cx ρ) call yc false 39 lim k (Code.at [1, 0, 1, 0, 0] c39) (sp 23 [(0, x0), (3, x3)]) H (kk (some [0, 3]) kn [(0, (some []), k0)] R [2]) = N39_3b ρ call yc lim k x0 x3 H (fun x3 H => kn (sp 23 [(0, x0), (3, x3)]) H) (fun H => k0 (sp 23 []) H) R := by
  kernel_rfl
noncomputable def N39_3 (ρ : Addr → Option Value) (call : CallF) (yc : YieldF) (lim k : Nat) (x0 x3 : AV) (H : Heap) (k0 : Heap → Res) (R : List AV → Heap → Res) : Res :=
  loopL (fun (x : AV) H kn => N39_3b ρ call yc lim k x0 x H (fun x3 H => kn x3 H) k0 R) k x3 H
theorem N39_3_eq (ρ : Addr → Option Value) (call : CallF) (yc : YieldF) (lim k : Nat) (x0 x3 : AV) (H : Heap) (kn : KS) (k0 : KS) (R : List AV → Heap → Res) :
    evL (cx ρ) call yc false 39 lim k (Code.at [1, 0, 1, 0] c39) (sp 23 [(0, x0), (3, x3)]) H (kk (some []) kn [(0, (some []), k0)] R [2]) = N39_3 ρ call yc lim k x0 x3 H (fun H => k0 (sp 23 []) H) R := by
  have e : Code.at [1, 0, 1, 0] c39 = .loop (Code.at [1, 0, 1, 0, 0] c39) := by kernel_rfl
  rw [e]
  unfold N39_3
  exact loop_node [0, 3] (fun x : AV => (sp 23 [(0, x0), (3, (x))])) (fun (x : AV) H kn => N39_3b ρ call yc lim k x0 x H (fun x3 H => kn x3 H) (fun H => k0 (sp 23 []) H) R) (by kernel_rfl) (fun x => by kernel_rfl) (fun x H kn => N39_3b_eq ρ call yc lim k x0 (x) H kn k0 R) x3 (sp 23 [(0, x0), (3, x3)]) H (by kernel_rfl)
noncomputable def N39_2 (ρ : Addr → Option Value) (call : CallF) (yc : YieldF) (lim k : Nat) (x0 x3 : AV) (H : Heap) (kn : Heap → Res) (R : List AV → Heap → Res) : Res :=
  N39_3 ρ call yc lim k x0 x3 H kn R
theorem N39_2_x (ρ : Addr → Option Value) (call : CallF) (yc : YieldF) (lim k : Nat) (J : CodeF) (x0 x3 : AV) (H : Heap) (kn : KS) (R : List AV → Heap → Res) :
    evX (cx ρ) call yc false 39 lim k J (Code.at [1, 0, 1] c39) (sp 23 [(0, x0), (3, x3)]) H (kk (some []) kn [] R [2]) =
  J (Code.at [1, 0, 1, 0] c39) (sp 23 [(0, x0), (3, x3)]) H (kk (some []) kn [(0, (some []), kn)] R [2]) := by
  kernel_rfl
theorem N39_2_eq (ρ : Addr → Option Value) (call : CallF) (yc : YieldF) (lim k : Nat) (x0 x3 : AV) (H : Heap) (kn : KS) (R : List AV → Heap → Res) :
    evL (cx ρ) call yc false 39 lim k (Code.at [1, 0, 1] c39) (sp 23 [(0, x0), (3, x3)]) H (kk (some []) kn [] R [2]) = N39_2 ρ call yc lim k x0 x3 H (fun H => kn (sp 23 []) H) R := by
  rw [evL_X, N39_2_x]
  simp only [← evL_X, N39_2, N39_3_eq]
noncomputable def L39 (ρ : Addr → Option Value) (call : CallF) (yc : YieldF) (lim k : Nat) (x0 : AV) (H : Heap) : Res :=
  N39_2 ρ call yc lim k x0 (.int .i64 0) H (fun H =>
    N39_1 ρ call yc lim k H retK) retK
theorem L39_x (ρ : Addr → Option Value) (call : CallF) (yc : YieldF) (lim k : Nat) (J : CodeF) (x0 : AV) (H : Heap) :
    evX (cx ρ) call yc false 39 lim k J c39 [x0, (.tup []), (.tup []), (.tup []), (.tup []), (.tup []), (.tup []), (.tup []), (.tup []), (.tup []), (.tup []), (.tup []), (.tup []), (.tup []), (.tup []), (.tup []), (.tup []), (.tup []), (.tup []), (.tup []), (.tup []), (.tup []), (.tup [])] H (kk none (fun s H => retK (([2] : List Nat).map fun t => s.getD t (.tup [])) H) [] retK [2]) =
  J (Code.at [1, 0, 1] c39) (sp 23 [(0, x0), (3, (.int .i64 0))]) H (kk (some []) (fun s H => J (Code.at [1, 1] c39) s H (kk none (fun s H => retK (([2] : List Nat).map fun t => s.getD t (.tup [])) H) [] retK [2])) [] retK [2]) := by
  kernel_rfl
theorem G39 (ρ : Addr → Option Value) (call : CallF) (yc : YieldF) (lim k : Nat) (x0 : AV) (H : Heap) :
    evL (cx ρ) call yc false 39 lim k c39 [x0, (.tup []), (.tup []), (.tup []), (.tup []), (.tup []), (.tup []), (.tup []), (.tup []), (.tup []), (.tup []), (.tup []), (.tup []), (.tup []), (.tup []), (.tup []), (.tup []), (.tup []), (.tup []), (.tup []), (.tup []), (.tup []), (.tup [])] H (kk none (fun s H => retK (([2] : List Nat).map fun t => s.getD t (.tup [])) H) [] retK [2]) = L39 ρ call yc lim k x0 H := by
  rw [evL_X, L39_x]
  simp only [← evL_X, L39, N39_1_eq, N39_2_eq]
theorem E39 (ρ : Addr → Option Value) (k lim : Nat) (x0 : AV) (H : Heap) : evCall (cx ρ) (k + 1) lim 39 [x0] H = L39 ρ (evCall (cx ρ) k) (evCY (cx ρ) k).2 lim k x0 H := by
  rw [evCall_body (cx ρ) k lim 39 _ H Try.f39 c39 [2] (by kernel_rfl) (by kernel_rfl) (by kernel_rfl) (by kernel_rfl) (by kernel_rfl)]
  exact G39 ρ (evCall (cx ρ) k) (evCY (cx ρ) k).2 lim k x0 H
-- haycroft/seal.Open
noncomputable def c40 : Code := Code.of Try.prog 40
noncomputable def L40 (ρ : Addr → Option Value) (call : CallF) (yc : YieldF) (lim k : Nat) (x0 : AV) (H : Heap) : Res :=
  purK (lenT x0) fun x6 =>
  purK (binA Try.prog H .sub 3 x6 (.int .i64 8)) fun x7 =>
  purK (binA Try.prog H .lss 3 x7 (.int .i64 0)) fun x10 =>
  condK x10
  (
    retK [(.str (ByteArray.mk #[])), (.int .i64 3)] H)
  (
    purK (slT x0 none (some x7)) fun x14 =>
    purK (slT x0 (some x7) none) fun x19 =>
    resK (call lim 59 [x14] H) fun x15 H =>
    resK (call lim 58 [x15] H) fun x16 H =>
    purK (binA Try.prog H .neq 9 x16 x19) fun x20 =>
    condK x20
    (
      retK [(.str (ByteArray.mk #[])), (.int .i64 4)] H)
    (
      purK (slT x0 none (some x7)) fun x23 =>
      retK [x23, (.int .i64 0)] H))
theorem G40 (ρ : Addr → Option Value) (call : CallF) (yc : YieldF) (lim k : Nat) (x0 : AV) (H : Heap) :
    evL (cx ρ) call yc false 40 lim k c40 [x0, (.tup []), (.tup []), (.tup []), (.tup []), (.tup []), (.tup []), (.tup []), (.tup []), (.tup []), (.tup []), (.tup []), (.tup []), (.tup []), (.tup []), (.tup []), (.tup []), (.tup []), (.tup []), (.tup []), (.tup []), (.tup []), (.tup []), (.tup [])] H (kk none (fun s H => retK (([2, 3] : List Nat).map fun t => s.getD t (.tup [])) H) [] retK [2, 3]) = L40 ρ call yc lim k x0 H := by
  kernel_rfl
theorem E40 (ρ : Addr → Option Value) (k lim : Nat) (x0 : AV) (H : Heap) : evCall (cx ρ) (k + 1) lim 40 [x0] H = L40 ρ (evCall (cx ρ) k) (evCY (cx ρ) k).2 lim k x0 H := by
  rw [evCall_body (cx ρ) k lim 40 _ H Try.f40 c40 [2, 3] (by kernel_rfl) (by kernel_rfl) (by kernel_rfl) (by kernel_rfl) (by kernel_rfl)]
  exact G40 ρ (evCall (cx ρ) k) (evCY (cx ρ) k).2 lim k x0 H
-- (*haycroft/dump.cutter).number
noncomputable def c41 : Code := Code.of Try.prog 41
noncomputable def L41 (ρ : Addr → Option Value) (call : CallF) (yc : YieldF) (lim k : Nat) (x0 : AV) (H : Heap) : Res :=
  resK (call lim 42 [x0, (.int .i64 1)] H) fun x4 H =>
  purK (ixT x4 (.int .i64 0)) fun x5 =>
  purK (cvI .i64 x5) fun x6 =>
  retK [x6] H
theorem G41 (ρ : Addr → Option Value) (call : CallF) (yc : YieldF) (lim k : Nat) (x0 : AV) (H : Heap) :
    evL (cx ρ) call yc false 41 lim k c41 [x0, (.tup []), (.tup []), (.tup []), (.tup []), (.tup []), (.tup [])] H (kk none (fun s H => retK (([2] : List Nat).map fun t => s.getD t (.tup [])) H) [] retK [2]) = L41 ρ call yc lim k x0 H := by
  kernel_rfl
theorem E41 (ρ : Addr → Option Value) (k lim : Nat) (x0 : AV) (H : Heap) : evCall (cx ρ) (k + 1) lim 41 [x0] H = L41 ρ (evCall (cx ρ) k) (evCY (cx ρ) k).2 lim k x0 H := by
  rw [evCall_body (cx ρ) k lim 41 _ H Try.f41 c41 [2] (by kernel_rfl) (by kernel_rfl) (by kernel_rfl) (by kernel_rfl) (by kernel_rfl)]
  exact G41 ρ (evCall (cx ρ) k) (evCY (cx ρ) k).2 lim k x0 H
-- (*haycroft/dump.cutter).take
noncomputable def c42 : Code := Code.of Try.prog 42
noncomputable def N42_1 (ρ : Addr → Option Value) (call : CallF) (yc : YieldF) (lim k : Nat) (x5 : AV) (H : Heap) (R : List AV → Heap → Res) : Res :=
  R [x5] H
theorem N42_1_eq (ρ : Addr → Option Value) (call : CallF) (yc : YieldF) (lim k : Nat) (x5 : AV) (H : Heap) (R : List AV → Heap → Res) :
    evL (cx ρ) call yc false 42 lim k (Code.at [1, 1, 1, 1] c42) (sp 34 [(5, x5)]) H (kk none (fun s H => R (([4] : List Nat).map fun t => s.getD t (.tup [])) H) [] R [4]) = N42_1 ρ call yc lim k x5 H R := by
  kernel_rfl
noncomputable def L42 (ρ : Addr → Option Value) (call : CallF) (yc : YieldF) (lim k : Nat) (x0 x1 : AV) (H : Heap) : Res :=
  purK (nilChkA x0) fun x8 =>
  purK (addA 0 x8) fun x9 =>
  purK (ld1 ρ H x9) fun x10 =>
  purK (lenT x10) fun x11 =>
  purK (binA Try.prog H .gtr 3 x1 x11) fun x12 =>
  condK x12
  (
    purK (nilChkA x0) fun x14 =>
    purK (addA 1 x14) fun x15 =>
    effK H (stA lim H 1 x15 (.bool true)) fun _ H =>
    resK (call lim 63 [(.str (ByteArray.mk #[0])), x1] H) fun x17 H =>
    retK [x17] H)
  (
    purK (nilChkA x0) fun x19 =>
    purK (addA 0 x19) fun x20 =>
    purK (ld1 ρ H x20) fun x21 =>
    purK (slT x21 none (some x1)) fun x23 =>
    purK (nilChkA x0) fun x26 =>
    purK (addA 0 x26) fun x27 =>
    purK (ld1 ρ H x27) fun x28 =>
    purK (slT x28 (some x1) none) fun x30 =>
    purK (nilChkA x0) fun x31 =>
    purK (addA 0 x31) fun x32 =>
    effK H (stA lim H 1 x32 x30) fun _ H =>
    N42_1 ρ call yc lim k x23 H retK)
theorem L42_x (ρ : Addr → Option Value) (call : CallF) (yc : YieldF) (lim k : Nat) (J : CodeF) (x0 x1 : AV) (H : Heap) :
    evX (cx ρ) call yc false 42 lim k J c42 [x0, x1, (.tup []), (.tup []), (.tup []), (.tup []), (.tup []), (.tup []), (.tup []), (.tup []), (.tup []), (.tup []), (.tup []), (.tup []), (.tup []), (.tup []), (.tup []), (.tup []), (.tup []), (.tup []), (.tup []), (.tup []), (.tup []), (.tup []), (.tup []), (.tup []), (.tup []), (.tup []), (.tup []), (.tup []), (.tup []), (.tup []), (.tup []), (.tup [])] H (kk none (fun s H => retK (([4] : List Nat).map fun t => s.getD t (.tup [])) H) [] retK [4]) =
  purK (nilChkA x0) fun x8 =>
  purK (addA 0 x8) fun x9 =>
  purK (ld1 ρ H x9) fun x10 =>
  purK (lenT x10) fun x11 =>
  purK (binA Try.prog H .gtr 3 x1 x11) fun x12 =>
  condK x12
  (
    purK (nilChkA x0) fun x14 =>
    purK (addA 1 x14) fun x15 =>
    effK H (stA lim H 1 x15 (.bool true)) fun _ H =>
    resK (call lim 63 [(.str (ByteArray.mk #[0])), x1] H) fun x17 H =>
    retK [x17] H)
  (
    purK (nilChkA x0) fun x19 =>
    purK (addA 0 x19) fun x20 =>
    purK (ld1 ρ H x20) fun x21 =>
    purK (slT x21 none (some x1)) fun x23 =>
    purK (nilChkA x0) fun x26 =>
    purK (addA 0 x26) fun x27 =>
    purK (ld1 ρ H x27) fun x28 =>
    purK (slT x28 (some x1) none) fun x30 =>
    purK (nilChkA x0) fun x31 =>
    purK (addA 0 x31) fun x32 =>
    effK H (stA lim H 1 x32 x30) fun _ H =>
    J (Code.at [1, 1, 1, 1] c42) (sp 34 [(5, x23)]) H (kk none (fun s H => retK (([4] : List Nat).map fun t => s.getD t (.tup [])) H) [] retK [4])) := by
  kernel_rfl
theorem G42 (ρ : Addr → Option Value) (call : CallF) (yc : YieldF) (lim k : Nat) (x0 x1 : AV) (H : Heap) :
    evL (cx ρ) call yc false 42 lim k c42 [x0, x1, (.tup []), (.tup []), (.tup []), (.tup []), (.tup []), (.tup []), (.tup []), (.tup []), (.tup []), (.tup []), (.tup []), (.tup []), (.tup []), (.tup []), (.tup []), (.tup []), (.tup []), (.tup []), (.tup []), (.tup []), (.tup []), (.tup []), (.tup []), (.tup []), (.tup []), (.tup []), (.tup []), (.tup []), (.tup []), (.tup []), (.tup []), (.tup [])] H (kk none (fun s H => retK (([4] : List Nat).map fun t => s.getD t (.tup [])) H) [] retK [4]) = L42 ρ call yc lim k x0 x1 H := by
  rw [evL_X, L42_x]
  simp only [← evL_X, L42, N42_1_eq]
theorem E42 (ρ : Addr → Option Value) (k lim : Nat) (x0 x1 : AV) (H : Heap) : evCall (cx ρ) (k + 1) lim 42 [x0, x1] H = L42 ρ (evCall (cx ρ) k) (evCY (cx ρ) k).2 lim k x0 x1 H := by
  rw [evCall_body (cx ρ) k lim 42 _ H Try.f42 c42 [4] (by kernel_rfl) (by kernel_rfl) (by kernel_rfl) (by kernel_rfl) (by kernel_rfl)]
  exact G42 ρ (evCall (cx ρ) k) (evCY (cx ρ) k).2 lim k x0 x1 H
-- haycroft/haycroftref04.Sum
noncomputable def c43 : Code := Code.of Try.prog 43
noncomputable def N43_1 (ρ : Addr → Option Value) (call : CallF) (yc : YieldF) (lim k : Nat) (x3 : AV) (H : Heap) (R : List AV → Heap → Res) : Res :=
  purK (binA Try.prog H .sub 49 (.int .u64 18446744073709551615) x3) fun x32_1 =>
  R [x32_1] H
theorem N43_1_eq (ρ : Addr → Option Value) (call : CallF) (yc : YieldF) (lim k : Nat) (x3 : AV) (H : Heap) (R : List AV → Heap → Res) :
    evL (cx ρ) call yc false 43 lim k (Code.at [1, 1, 1] c43) (sp 33 [(3, x3)]) H (kk none (fun s H => R (([2] : List Nat).map fun t => s.getD t (.tup [])) H) [] R [2]) = N43_1 ρ call yc lim k x3 H R := by
  kernel_rfl
noncomputable def N43_4 (ρ : Addr → Option Value) (call : CallF) (yc : YieldF) (lim k : Nat) (x0 x3 x4 : AV) (H : Heap) (kn : AV → AV → Heap → Res) : Res :=
  purK (binA Try.prog H .add 3 x4 (.int .i64 1)) fun x12_1 =>
  kn x3 x12_1 H
theorem N43_4_eq (ρ : Addr → Option Value) (call : CallF) (yc : YieldF) (lim k : Nat) (x0 x3 x4 : AV) (H : Heap) (kn : KS) (k0 : KS) (R : List AV → Heap → Res) :
    evL (cx ρ) call yc false 43 lim k (Code.at [1, 1, 0, 1, 0, 0, 1, 1] c43) (sp 33 [(0, x0), (3, x3), (4, x4)]) H (kk (some [0, 3, 4]) kn [(0, (some [3]), k0)] R [2]) = N43_4 ρ call yc lim k x0 x3 x4 H (fun x3 x4 H => kn (sp 33 [(0, x0), (3, x3), (4, x4)]) H) := by
  kernel_rfl
noncomputable def N43_7 (ρ : Addr → Option Value) (call : CallF) (yc : YieldF) (lim k : Nat) (x0 x3 x4 x5 : AV) (H : Heap) (kn : AV → AV → Heap → Res) : Res :=
  purK (binA Try.prog H .add 3 x5 (.int .i64 1)) fun x22_1 =>
  kn x3 x22_1 H
theorem N43_7_eq (ρ : Addr → Option Value) (call : CallF) (yc : YieldF) (lim k : Nat) (x0 x3 x4 x5 : AV) (H : Heap) (kn : KS) (k2 : KS) (k1 : KS) (k0 : KS) (R : List AV → Heap → Res) :
    evL (cx ρ) call yc false 43 lim k (Code.at [1, 1, 0, 1, 0, 0, 1, 0, 0, 1, 1, 0, 0, 1, 1] c43) (sp 33 [(0, x0), (3, x3), (4, x4), (5, x5)]) H (kk (some [0, 3, 4, 5]) kn [(2, (some [0, 3, 4]), k2), (1, (some [0, 3, 4]), k1), (0, (some [3]), k0)] R [2]) = N43_7 ρ call yc lim k x0 x3 x4 x5 H (fun x3 x5 H => kn (sp 33 [(0, x0), (3, x3), (4, x4), (5, x5)]) H) := by
  kernel_rfl
noncomputable def N43_6b (ρ : Addr → Option Value) (call : CallF) (yc : YieldF) (lim k : Nat) (x0 x3 x4 x5 : AV) (H : Heap) (kn : AV → AV → Heap → Res) (k2 : AV → AV → Heap → Res) : Res :=
  purK (binA Try.prog H .lss 3 x5 (.int .i64 8)) fun x20_1 =>
  condK x20_1
  (
    purK (binA Try.prog H .rem 49 x3 (.int .u64 2)) fun x24_1 =>
    purK (binA Try.prog H .eql 49 x24_1 (.int .u64 1)) fun x25_1 =>
    purK (binA Try.prog H .quo 49 x3 (.int .u64 2)) fun x27_1 =>
    condK x25_1
    (
      resK (call lim 64 [x27_1, (.int .u64 14514072000185962306)] H) fun x30_1 H =>
      N43_7 ρ call yc lim k x0 x30_1 x4 x5 H kn)
    (
      N43_7 ρ call yc lim k x0 x27_1 x4 x5 H kn))
  (
    k2 x3 x4 H)
theorem N43_6b_x (ρ : Addr → Option Value) (call : CallF) (yc : YieldF) (lim k : Nat) (J : CodeF) (x0 x3 x4 x5 : AV) (H : Heap) (kn : KS) (k2 : KS) (k1 : KS) (k0 : KS) (R : List AV → Heap → Res) :
    evX (cx ρ) call yc false 43 lim k J (Code.at [1, 1, 0, 1, 0, 0, 1, 0, 0, 1, 1, 0, 0] c43) (sp 33 [(0, x0), (3, x3), (4, x4), (5, x5)]) H (kk (some [0, 3, 4, 5]) kn [(2, (some [0, 3, 4]), k2), (1, (some [0, 3, 4]), k1), (0, (some [3]), k0)] R [2]) =
  purK (binA Try.prog H .lss 3 x5 (.int .i64 8)) fun x20_1 =>
  condK x20_1
  (
    purK (binA Try.prog H .rem 49 x3 (.int .u64 2)) fun x24_1 =>
    purK (binA Try.prog H .eql 49 x24_1 (.int .u64 1)) fun x25_1 =>
    purK (binA Try.prog H .quo 49 x3 (.int .u64 2)) fun x27_1 =>
    condK x25_1
    (
      resK (call lim 64 [x27_1, (.int .u64 14514072000185962306)] H) fun x30_1 H =>
      J (Code.at [1, 1, 0, 1, 0, 0, 1, 0, 0, 1, 1, 0, 0, 1, 1] c43) (sp 33 [(0, x0), (3, x30_1), (4, x4), (5, x5)]) H (kk (some [0, 3, 4, 5]) kn [(2, (some [0, 3, 4]), k2), (1, (some [0, 3, 4]), k1), (0, (some [3]), k0)] R [2]))
    (
      J (Code.at [1, 1, 0, 1, 0, 0, 1, 0, 0, 1, 1, 0, 0, 1, 1] c43) (sp 33 [(0, x0), (3, x27_1), (4, x4), (5, x5)]) H (kk (some [0, 3, 4, 5]) kn [(2, (some [0, 3, 4]), k2), (1, (some [0, 3, 4]), k1), (0, (some [3]), k0)] R [2])))
  (
    k2 (sp 33 [(0, x0), (3, x3), (4, x4)]) H) := by
  kernel_rfl
theorem N43_6b_eq (ρ : Addr → Option Value) (call : CallF) (yc : YieldF) (lim k : Nat) (x0 x3 x4 x5 : AV) (H : Heap) (kn : KS) (k2 : KS) (k1 : KS) (k0 : KS) (R : List AV → Heap → Res) :
    evL (cx ρ) call yc false 43 lim k (Code.at [1, 1, 0, 1, 0, 0, 1, 0, 0, 1, 1, 0, 0] c43) (sp 33 [(0, x0), (3, x3), (4, x4), (5, x5)]) H (kk (some [0, 3, 4, 5]) kn [(2, (some [0, 3, 4]), k2), (1, (some [0, 3, 4]), k1), (0, (some [3]), k0)] R [2]) = N43_6b ρ call yc lim k x0 x3 x4 x5 H (fun x3 x5 H => kn (sp 33 [(0, x0), (3, x3), (4, x4), (5, x5)]) H) (fun x3 x4 H => k2 (sp 33 [(0, x0), (3, x3), (4, x4)]) H) := by
  rw [evL_X, N43_6b_x]
  simp only [← evL_X, N43_6b, N43_7_eq]
noncomputable def N43_6 (ρ : Addr → Option Value) (call : CallF) (yc : YieldF) (lim k : Nat) (x0 x3 x4 x5 : AV) (H : Heap) (k2 : AV → AV → Heap → Res) : Res :=
  loopL (fun (x : AV × AV) H kn => N43_6b ρ call yc lim k x0 x.1 x4 x.2 H (fun x3 x5 H => kn (x3, x5) H) k2) k (x3, x5) H
theorem N43_6_eq (ρ : Addr → Option Value) (call : CallF) (yc : YieldF) (lim k : Nat) (x0 x3 x4 x5 : AV) (H : Heap) (kn : KS) (k2 : KS) (k1 : KS) (k0 : KS) (R : List AV → Heap → Res) :
    evL (cx ρ) call yc false 43 lim k (Code.at [1, 1, 0, 1, 0, 0, 1, 0, 0, 1, 1, 0] c43) (sp 33 [(0, x0), (3, x3), (4, x4), (5, x5)]) H (kk (some [0, 3, 4]) kn [(2, (some [0, 3, 4]), k2), (1, (some [0, 3, 4]), k1), (0, (some [3]), k0)] R [2]) = N43_6 ρ call yc lim k x0 x3 x4 x5 H (fun x3 x4 H => k2 (sp 33 [(0, x0), (3, x3), (4, x4)]) H) := by
  have e : Code.at [1, 1, 0, 1, 0, 0, 1, 0, 0, 1, 1, 0] c43 = .loop (Code.at [1, 1, 0, 1, 0, 0, 1, 0, 0, 1, 1, 0, 0] c43) := by kernel_rfl
  rw [e]
  unfold N43_6
  exact loop_node [0, 3, 4, 5] (fun x : AV × AV => (sp 33 [(0, x0), (3, (x.1)), (4, x4), (5, (x.2))])) (fun (x : AV × AV) H kn => N43_6b ρ call yc lim k x0 x.1 x4 x.2 H (fun x3 x5 H => kn (x3, x5) H) (fun x3 x4 H => k2 (sp 33 [(0, x0), (3, x3), (4, x4)]) H)) (by kernel_rfl) (fun x => by kernel_rfl) (fun x H kn => N43_6b_eq ρ call yc lim k x0 (x.1) x4 (x.2) H kn k2 k1 k0 R) (x3, x5) (sp 33 [(0, x0), (3, x3), (4, x4), (5, x5)]) H (by kernel_rfl)
noncomputable def N43_5 (ρ : Addr → Option Value) (call : CallF) (yc : YieldF) (lim k : Nat) (x0 x3 x4 x5 : AV) (H : Heap) (kn : AV → AV → Heap → Res) : Res :=
  N43_6 ρ call yc lim k x0 x3 x4 x5 H kn
theorem N43_5_x (ρ : Addr → Option Value) (call : CallF) (yc : YieldF) (lim k : Nat) (J : CodeF) (x0 x3 x4 x5 : AV) (H : Heap) (kn : KS) (k1 : KS) (k0 : KS) (R : List AV → Heap → Res) :
    evX (cx ρ) call yc false 43 lim k J (Code.at [1, 1, 0, 1, 0, 0, 1, 0, 0, 1, 1] c43) (sp 33 [(0, x0), (3, x3), (4, x4), (5, x5)]) H (kk (some [0, 3, 4]) kn [(1, (some [0, 3, 4]), k1), (0, (some [3]), k0)] R [2]) =
  J (Code.at [1, 1, 0, 1, 0, 0, 1, 0, 0, 1, 1, 0] c43) (sp 33 [(0, x0), (3, x3), (4, x4), (5, x5)]) H (kk (some [0, 3, 4]) kn [(2, (some [0, 3, 4]), kn), (1, (some [0, 3, 4]), k1), (0, (some [3]), k0)] R [2]) := by
  kernel_rfl
theorem N43_5_eq (ρ : Addr → Option Value) (call : CallF) (yc : YieldF) (lim k : Nat) (x0 x3 x4 x5 : AV) (H : Heap) (kn : KS) (k1 : KS) (k0 : KS) (R : List AV → Heap → Res) :
    evL (cx ρ) call yc false 43 lim k (Code.at [1, 1, 0, 1, 0, 0, 1, 0, 0, 1, 1] c43) (sp 33 [(0, x0), (3, x3), (4, x4), (5, x5)]) H (kk (some [0, 3, 4]) kn [(1, (some [0, 3, 4]), k1), (0, (some [3]), k0)] R [2]) = N43_5 ρ call yc lim k x0 x3 x4 x5 H (fun x3 x4 H => kn (sp 33 [(0, x0), (3, x3), (4, x4)]) H) := by
  rw [evL_X, N43_5_x]
  simp only [← evL_X, N43_5, N43_6_eq]
noncomputable def N43_3b (ρ : Addr → Option Value) (call : CallF) (yc : YieldF) (lim k : Nat) (x0 x3 x4 : AV) (H : Heap) (kn : AV → AV → Heap → Res) (k0 : AV → Heap → Res) : Res :=
  purK (lenT x0) fun x9_1 =>
  purK (binA Try.prog H .lss 3 x4 x9_1) fun x10_1 =>
  condK x10_1
  (
    purK (ixT x0 x4) fun x16_1 =>
    purK (cvI .u64 x16_1) fun x17_1 =>
    resK (call lim 64 [x3, x17_1] H) fun x18_1 H =>
    N43_5 ρ call yc lim k x0 x18_1 x4 (.int .i64 0) H (fun x3_1 x4_1 H =>
      N43_4 ρ call yc lim k x0 x3_1 x4_1 H kn))
  (
    k0 x3 H)
theorem N43_3b_x (ρ : Addr → Option Value) (call : CallF) (yc : YieldF) (lim k : Nat) (J : CodeF) (x0 x3 x4 : AV) (H : Heap) (kn : KS) (k0 : KS) (R : List AV → Heap → Res) :
    evX (cx ρ) call yc false 43 lim k J (Code.at [1, 1, 0, 1, 0, 0] c43) (sp 33 [(0, x0), (3, x3), (4, x4)]) H (kk (some [0, 3, 4]) kn [(0, (some [3]), k0)] R [2]) =
  purK (lenT x0) fun x9_1 =>
  purK (binA Try.prog H .lss 3 x4 x9_1) fun x10_1 =>
  condK x10_1
  (
    purK (ixT x0 x4) fun x16_1 =>
    purK (cvI .u64 x16_1) fun x17_1 =>
    resK (call lim 64 [x3, x17_1] H) fun x18_1 H =>
    J (Code.at [1, 1, 0, 1, 0, 0, 1, 0, 0, 1, 1] c43) (sp 33 [(0, x0), (3, x18_1), (4, x4), (5, (.int .i64 0))]) H (kk (some [0, 3, 4]) (fun s H => J (Code.at [1, 1, 0, 1, 0, 0, 1, 1] c43) s H (kk (some [0, 3, 4]) kn [(0, (some [3]), k0)] R [2])) [(1, (some [0, 3, 4]), (fun s H => J (Code.at [1, 1, 0, 1, 0, 0, 1, 1] c43) s H (kk (some [0, 3, 4]) kn [(0, (some [3]), k0)] R [2]))), (0, (some [3]), k0)] R [2]))
  (
    k0 (sp 33 [(3, x3)]) H) := by
  kernel_rfl
theorem N43_3b_eq (ρ : Addr → Option Value) (call : CallF) (yc : YieldF) (lim k : Nat) (x0 x3 x4 : AV) (H : Heap) (kn : KS) (k0 : KS) (R : List AV → Heap → Res) :
    evL (cx ρ) call yc false 43 lim k (Code.at [1, 1, 0, 1, 0, 0] c43) (sp 33 [(0, x0), (3, x3), (4, x4)]) H (kk (some [0, 3, 4]) kn [(0, (some [3]), k0)] R [2]) = N43_3b ρ call yc lim k x0 x3 x4 H (fun x3 x4 H => kn (sp 33 [(0, x0), (3, x3), (4, x4)]) H) (fun x3 H => k0 (sp 33 [(3, x3)]) H) := by
  rw [evL_X, N43_3b_x]
  simp only [← evL_X, N43_3b, N43_4_eq, N43_5_eq]
noncomputable def N43_3 (ρ : Addr → Option Value) (call : CallF) (yc : YieldF) (lim k : Nat) (x0 x3 x4 : AV) (H : Heap) (k0 : AV → Heap → Res) : Res :=
  loopL (fun (x : AV × AV) H kn => N43_3b ρ call yc lim k x0 x.1 x.2 H (fun x3 x4 H => kn (x3, x4) H) k0) k (x3, x4) H
theorem N43_3_eq (ρ : Addr → Option Value) (call : CallF) (yc : YieldF) (lim k : Nat) (x0 x3 x4 : AV) (H : Heap) (kn : KS) (k0 : KS) (R : List AV → Heap → Res) :
    evL (cx ρ) call yc false 43 lim k (Code.at [1, 1, 0, 1, 0] c43) (sp 33 [(0, x0), (3, x3), (4, x4)]) H (kk (some [3]) kn [(0, (some [3]), k0)] R [2]) = N43_3 ρ call yc lim k x0 x3 x4 H (fun x3 H => k0 (sp 33 [(3, x3)]) H) := by
  have e : Code.at [1, 1, 0, 1, 0] c43 = .loop (Code.at [1, 1, 0, 1, 0, 0] c43) := by kernel_rfl
  rw [e]
  unfold N43_3
  exact loop_node [0, 3, 4] (fun x : AV × AV => (sp 33 [(0, x0), (3, (x.1)), (4, (x.2))])) (fun (x : AV × AV) H kn => N43_3b ρ call yc lim k x0 x.1 x.2 H (fun x3 x4 H => kn (x3, x4) H) (fun x3 H => k0 (sp 33 [(3, x3)]) H)) (by kernel_rfl) (fun x => by kernel_rfl) (fun x H kn => N43_3b_eq ρ call yc lim k x0 (x.1) (x.2) H kn k0 R) (x3, x4) (sp 33 [(0, x0), (3, x3), (4, x4)]) H (by kernel_rfl)
noncomputable def N43_2 (ρ : Addr → Option Value) (call : CallF) (yc : YieldF) (lim k : Nat) (x0 x3 x4 : AV) (H : Heap) (kn : AV → Heap → Res) : Res :=
  N43_3 ρ call yc lim k x0 x3 x4 H kn
theorem N43_2_x (ρ : Addr → Option Value) (call : CallF) (yc : YieldF) (lim k : Nat) (J : CodeF) (x0 x3 x4 : AV) (H : Heap) (kn : KS) (R : List AV → Heap → Res) :
    evX (cx ρ) call yc false 43 lim k J (Code.at [1, 1, 0, 1] c43) (sp 33 [(0, x0), (3, x3), (4, x4)]) H (kk (some [3]) kn [] R [2]) =
  J (Code.at [1, 1, 0, 1, 0] c43) (sp 33 [(0, x0), (3, x3), (4, x4)]) H (kk (some [3]) kn [(0, (some [3]), kn)] R [2]) := by
  kernel_rfl
theorem N43_2_eq (ρ : Addr → Option Value) (call : CallF) (yc : YieldF) (lim k : Nat) (x0 x3 x4 : AV) (H : Heap) (kn : KS) (R : List AV → Heap → Res) :
    evL (cx ρ) call yc false 43 lim k (Code.at [1, 1, 0, 1] c43) (sp 33 [(0, x0), (3, x3), (4, x4)]) H (kk (some [3]) kn [] R [2]) = N43_2 ρ call yc lim k x0 x3 x4 H (fun x3 H => kn (sp 33 [(3, x3)]) H) := by
  rw [evL_X, N43_2_x]
  simp only [← evL_X, N43_2, N43_3_eq]
noncomputable def L43 (ρ : Addr → Option Value) (call : CallF) (yc : YieldF) (lim k : Nat) (x0 : AV) (H : Heap) : Res :=
  N43_2 ρ call yc lim k x0 (.int .u64 18446744073709551615) (.int .i64 0) H (fun x3 H =>
    N43_1 ρ call yc lim k x3 H retK)
theorem L43_x (ρ : Addr → Option Value) (call : CallF) (yc : YieldF) (lim k : Nat) (J : CodeF) (x0 : AV) (H : Heap) :
    evX (cx ρ) call yc false 43 lim k J c43 [x0, (.tup []), (.tup []), (.tup []), (.tup []), (.tup []), (.tup []), (.tup []), (.tup []), (.tup []), (.tup []), (.tup []), (.tup []), (.tup []), (.tup []), (.tup []), (.tup []), (.tup []), (.tup []), (.tup []), (.tup []), (.tup []), (.tup []), (.tup []), (.tup []), (.tup []), (.tup []), (.tup []), (.tup []), (.tup []), (.tup []), (.tup []), (.tup [])] H (kk none (fun s H => retK (([2] : List Nat).map fun t => s.getD t (.tup [])) H) [] retK [2]) =
  J (Code.at [1, 1, 0, 1] c43) (sp 33 [(0, x0), (3, (.int .u64 18446744073709551615)), (4, (.int .i64 0))]) H (kk (some [3]) (fun s H => J (Code.at [1, 1, 1] c43) s H (kk none (fun s H => retK (([2] : List Nat).map fun t => s.getD t (.tup [])) H) [] retK [2])) [] retK [2]) := by
  kernel_rfl
theorem G43 (ρ : Addr → Option Value) (call : CallF) (yc : YieldF) (lim k : Nat) (x0 : AV) (H : Heap) :
    evL (cx ρ) call yc false 43 lim k c43 [x0, (.tup []), (.tup []), (.tup []), (.tup []), (.tup []), (.tup []), (.tup []), (.tup []), (.tup []), (.tup []), (.tup []), (.tup []), (.tup []), (.tup []), (.tup []), (.tup []), (.tup []), (.tup []), (.tup []), (.tup []), (.tup []), (.tup []), (.tup []), (.tup []), (.tup []), (.tup []), (.tup []), (.tup []), (.tup []), (.tup []), (.tup []), (.tup [])] H (kk none (fun s H => retK (([2] : List Nat).map fun t => s.getD t (.tup [])) H) [] retK [2]) = L43 ρ call yc lim k x0 H := by
  rw [evL_X, L43_x]
  simp only [← evL_X, L43, N43_1_eq, N43_2_eq]
theorem E43 (ρ : Addr → Option Value) (k lim : Nat) (x0 : AV) (H : Heap) : evCall (cx ρ) (k + 1) lim 43 [x0] H = L43 ρ (evCall (cx ρ) k) (evCY (cx ρ) k).2 lim k x0 H := by
  rw [evCall_body (cx ρ) k lim 43 _ H Try.f43 c43 [2] (by kernel_rfl) (by kernel_rfl) (by kernel_rfl) (by kernel_rfl) (by kernel_rfl)]
  exact G43 ρ (evCall (cx ρ) k) (evCY (cx ρ) k).2 lim k x0 H
-- (*strings.Builder).copyCheck
noncomputable def c57 : Code := Code.of Try.prog 57
noncomputable def L57 (ρ : Addr → Option Value) (call : CallF) (yc : YieldF) (lim k : Nat) (x0 : AV) (H : Heap) : Res :=
  purK (nilChkA x0) fun x3 =>
  purK (addA 0 x3) fun x4 =>
  purK (ld1 ρ H x4) fun x5 =>
  purK (binA Try.prog H .eql 71 x5 .nilp) fun x6 =>
  condK x6
  (
    purK (convXA (cx ρ) H 71 131 x0) fun x9 =>
    resK (call lim 76 [x9] H) fun x10 H =>
    purK (convXA (cx ρ) H 131 71 x10) fun x11 =>
    purK (nilChkA x0) fun x12 =>
    purK (addA 0 x12) fun x13 =>
    effK H (stA lim H 1 x13 x11) fun _ H =>
    retK [] H)
  (
    purK (nilChkA x0) fun x15 =>
    purK (addA 0 x15) fun x16 =>
    purK (ld1 ρ H x16) fun x17 =>
    purK (binA Try.prog H .neq 71 x17 x0) fun x19 =>
    condK x19
    (
      none)
    (
      retK [] H))
theorem G57 (ρ : Addr → Option Value) (call : CallF) (yc : YieldF) (lim k : Nat) (x0 : AV) (H : Heap) :
    evL (cx ρ) call yc false 57 lim k c57 [x0, (.tup []), (.tup []), (.tup []), (.tup []), (.tup []), (.tup []), (.tup []), (.tup []), (.tup []), (.tup []), (.tup []), (.tup []), (.tup []), (.tup []), (.tup []), (.tup []), (.tup []), (.tup []), (.tup [])] H (kk none (fun s H => retK (([] : List Nat).map fun t => s.getD t (.tup [])) H) [] retK []) = L57 ρ call yc lim k x0 H := by
  kernel_rfl
theorem E57 (ρ : Addr → Option Value) (k lim : Nat) (x0 : AV) (H : Heap) : evCall (cx ρ) (k + 1) lim 57 [x0] H = L57 ρ (evCall (cx ρ) k) (evCY (cx ρ) k).2 lim k x0 H := by
  rw [evCall_body (cx ρ) k lim 57 _ H Try.f57 c57 [] (by kernel_rfl) (by kernel_rfl) (by kernel_rfl) (by kernel_rfl) (by kernel_rfl)]
  exact G57 ρ (evCall (cx ρ) k) (evCY (cx ρ) k).2 lim k x0 H
-- haycroft/seal.tail
noncomputable def c58 : Code := Code.of Try.prog 58
noncomputable def L58 (ρ : Addr → Option Value) (call : CallF) (yc : YieldF) (lim k : Nat) (x0 : AV) (H : Heap) : Res :=
  effK H (bldS H 49 1 [.int .u64 0] 1 [(0, 1, x0)]) fun x7 H =>
  resK (call lim 77 [x7, (.int .i64 8)] H) fun x8 H =>
  purK (extA 0 x8) fun x9 =>
  purK (extA 1 x8) fun x10 =>
  retK [x9] H
theorem G58 (ρ : Addr → Option Value) (call : CallF) (yc : YieldF) (lim k : Nat) (x0 : AV) (H : Heap) :
    evL (cx ρ) call yc false 58 lim k c58 [x0, (.tup []), (.tup []), (.tup []), (.tup []), (.tup []), (.tup []), (.tup []), (.tup []), (.tup []), (.tup []), (.tup [])] H (kk none (fun s H => retK (([2] : List Nat).map fun t => s.getD t (.tup [])) H) [] retK [2]) = L58 ρ call yc lim k x0 H := by
  kernel_rfl
theorem E58 (ρ : Addr → Option Value) (k lim : Nat) (x0 : AV) (H : Heap) : evCall (cx ρ) (k + 1) lim 58 [x0] H = L58 ρ (evCall (cx ρ) k) (evCY (cx ρ) k).2 lim k x0 H := by
  rw [evCall_body (cx ρ) k lim 58 _ H Try.f58 c58 [2] (by kernel_rfl) (by kernel_rfl) (by kernel_rfl) (by kernel_rfl) (by kernel_rfl)]
  exact G58 ρ (evCall (cx ρ) k) (evCY (cx ρ) k).2 lim k x0 H
-- haycroft/seal.Sum
noncomputable def c59 : Code := Code.of Try.prog 59
noncomputable def L59 (ρ : Addr → Option Value) (call : CallF) (yc : YieldF) (lim k : Nat) (x0 : AV) (H : Heap) : Res :=
  resK (call lim 78 [(.int .u64 0), x0] H) fun x4 H =>
  retK [x4] H
theorem G59 (ρ : Addr → Option Value) (call : CallF) (yc : YieldF) (lim k : Nat) (x0 : AV) (H : Heap) :
    evL (cx ρ) call yc false 59 lim k c59 [x0, (.tup []), (.tup []), (.tup []), (.tup [])] H (kk none (fun s H => retK (([2] : List Nat).map fun t => s.getD t (.tup [])) H) [] retK [2]) = L59 ρ call yc lim k x0 H := by
  kernel_rfl
theorem E59 (ρ : Addr → Option Value) (k lim : Nat) (x0 : AV) (H : Heap) : evCall (cx ρ) (k + 1) lim 59 [x0] H = L59 ρ (evCall (cx ρ) k) (evCY (cx ρ) k).2 lim k x0 H := by
  rw [evCall_body (cx ρ) k lim 59 _ H Try.f59 c59 [2] (by kernel_rfl) (by kernel_rfl) (by kernel_rfl) (by kernel_rfl) (by kernel_rfl)]
  exact G59 ρ (evCall (cx ρ) k) (evCY (cx ρ) k).2 lim k x0 H
-- haycroft/differ.rising[haycroft/api.Pair]
noncomputable def c60 : Code := Code.of Try.prog 60
noncomputable def N60_1 (ρ : Addr → Option Value) (call : CallF) (yc : YieldF) (lim k : Nat) (H : Heap) (R : List AV → Heap → Res) : Res :=
  R [(.bool true)] H
theorem N60_1_eq (ρ : Addr → Option Value) (call : CallF) (yc : YieldF) (lim k : Nat) (H : Heap) (R : List AV → Heap → Res) :
    evL (cx ρ) call yc false 60 lim k (Code.at [1, 1] c60) (sp 26 []) H (kk none (fun s H => R (([4] : List Nat).map fun t => s.getD t (.tup [])) H) [] R [4]) = N60_1 ρ call yc lim k H R := by
  kernel_rfl
noncomputable def N60_3b (ρ : Addr → Option Value) (call : CallF) (yc : YieldF) (lim k : Nat) (x0 x1 x5 : AV) (H : Heap) (kn : AV → Heap → Res) (k0 : Heap → Res) (R : List AV → Heap → Res) : Res :=
  purK (lenS x0) fun x8_1 =>
  purK (binA Try.prog H .lss 3 x5 x8_1) fun x9_1 =>
  condK x9_1
  (
    purK (binA Try.prog H .sub 3 x5 (.int .i64 1)) fun x15_1 =>
    purK (ixS 2 x0 x15_1) fun x16_1 =>
    purK (ldN ρ H 2 x16_1) fun x17_1 =>
    purK (ixS 2 x0 x5) fun x22_1 =>
    purK (ldN ρ H 2 x22_1) fun x23_1 =>
    valK call noY lim x1 [x17_1] H fun x18_1 H => bif (agn (ldN ρ H 2 x22_1) x23_1 && true) then
      valK call noY lim x1 [x23_1] H fun x24_1 H =>
      purK (binA Try.prog H .geq 9 x18_1 x24_1) fun x25_1 =>
      condK x25_1
      (
        R [(.bool false)] H)
      (
        purK (binA Try.prog H .add 3 x5 (.int .i64 1)) fun x11_1 =>
        kn x11_1 H)
    else none)
  (
    k0 H)
theorem N60_3b_eq (ρ : Addr → Option Value) (call : CallF) (yc : YieldF) (lim k : Nat) (x0 x1 x5 : AV) (H : Heap) (kn : KS) (k0 : KS) (R : List AV → Heap → Res) :
    evL (cx ρ) call yc false 60 lim k (Code.at [1, 0, 1, 0, 0] c60) (sp 26 [(0, x0), (1, x1), (5, x5)]) H (kk (some [0, 1, 5]) kn [(0, (some []), k0)] R [4]) = N60_3b ρ call yc lim k x0 x1 x5 H (fun x5 H => kn (sp 26 [(0, x0), (1, x1), (5, x5)]) H) (fun H => k0 (sp 26 []) H) R := by
  kernel_rfl
noncomputable def N60_3 (ρ : Addr → Option Value) (call : CallF) (yc : YieldF) (lim k : Nat) (x0 x1 x5 : AV) (H : Heap) (k0 : Heap → Res) (R : List AV → Heap → Res) : Res :=
  loopL (fun (x : AV) H kn => N60_3b ρ call yc lim k x0 x1 x H (fun x5 H => kn x5 H) k0 R) k x5 H
theorem N60_3_eq (ρ : Addr → Option Value) (call : CallF) (yc : YieldF) (lim k : Nat) (x0 x1 x5 : AV) (H : Heap) (kn : KS) (k0 : KS) (R : List AV → Heap → Res) :
    evL (cx ρ) call yc false 60 lim k (Code.at [1, 0, 1, 0] c60) (sp 26 [(0, x0), (1, x1), (5, x5)]) H (kk (some []) kn [(0, (some []), k0)] R [4]) = N60_3 ρ call yc lim k x0 x1 x5 H (fun H => k0 (sp 26 []) H) R := by
  have e : Code.at [1, 0, 1, 0] c60 = .loop (Code.at [1, 0, 1, 0, 0] c60) := by kernel_rfl
  rw [e]
  unfold N60_3
  exact loop_node [0, 1, 5] (fun x : AV => (sp 26 [(0, x0), (1, x1), (5, (x))])) (fun (x : AV) H kn => N60_3b ρ call yc lim k x0 x1 x H (fun x5 H => kn x5 H) (fun H => k0 (sp 26 []) H) R) (by kernel_rfl) (fun x => by kernel_rfl) (fun x H kn => N60_3b_eq ρ call yc lim k x0 x1 (x) H kn k0 R) x5 (sp 26 [(0, x0), (1, x1), (5, x5)]) H (by kernel_rfl)
noncomputable def N60_2 (ρ : Addr → Option Value) (call : CallF) (yc : YieldF) (lim k : Nat) (x0 x1 x5 : AV) (H : Heap) (kn : Heap → Res) (R : List AV → Heap → Res) : Res :=
  N60_3 ρ call yc lim k x0 x1 x5 H kn R
theorem N60_2_x (ρ : Addr → Option Value) (call : CallF) (yc : YieldF) (lim k : Nat) (J : CodeF) (x0 x1 x5 : AV) (H : Heap) (kn : KS) (R : List AV → Heap → Res) :
    evX (cx ρ) call yc false 60 lim k J (Code.at [1, 0, 1] c60) (sp 26 [(0, x0), (1, x1), (5, x5)]) H (kk (some []) kn [] R [4]) =
  J (Code.at [1, 0, 1, 0] c60) (sp 26 [(0, x0), (1, x1), (5, x5)]) H (kk (some []) kn [(0, (some []), kn)] R [4]) := by
  kernel_rfl
theorem N60_2_eq (ρ : Addr → Option Value) (call : CallF) (yc : YieldF) (lim k : Nat) (x0 x1 x5 : AV) (H : Heap) (kn : KS) (R : List AV → Heap → Res) :
    evL (cx ρ) call yc false 60 lim k (Code.at [1, 0, 1] c60) (sp 26 [(0, x0), (1, x1), (5, x5)]) H (kk (some []) kn [] R [4]) = N60_2 ρ call yc lim k x0 x1 x5 H (fun H => kn (sp 26 []) H) R := by
  rw [evL_X, N60_2_x]
  simp only [← evL_X, N60_2, N60_3_eq]
noncomputable def L60 (ρ : Addr → Option Value) (call : CallF) (yc : YieldF) (lim k : Nat) (x0 x1 : AV) (H : Heap) : Res :=
  N60_2 ρ call yc lim k x0 x1 (.int .i64 1) H (fun H =>
    N60_1 ρ call yc lim k H retK) retK
theorem L60_x (ρ : Addr → Option Value) (call : CallF) (yc : YieldF) (lim k : Nat) (J : CodeF) (x0 x1 : AV) (H : Heap) :
    evX (cx ρ) call yc false 60 lim k J c60 [x0, x1, (.tup []), (.tup []), (.tup []), (.tup []), (.tup []), (.tup []), (.tup []), (.tup []), (.tup []), (.tup []), (.tup []), (.tup []), (.tup []), (.tup []), (.tup []), (.tup []), (.tup []), (.tup []), (.tup []), (.tup []), (.tup []), (.tup []), (.tup []), (.tup [])] H (kk none (fun s H => retK (([4] : List Nat).map fun t => s.getD t (.tup [])) H) [] retK [4]) =
  J (Code.at [1, 0, 1] c60) (sp 26 [(0, x0), (1, x1), (5, (.int .i64 1))]) H (kk (some []) (fun s H => J (Code.at [1, 1] c60) s H (kk none (fun s H => retK (([4] : List Nat).map fun t => s.getD t (.tup [])) H) [] retK [4])) [] retK [4]) := by
  kernel_rfl
theorem G60 (ρ : Addr → Option Value) (call : CallF) (yc : YieldF) (lim k : Nat) (x0 x1 : AV) (H : Heap) :
    evL (cx ρ) call yc false 60 lim k c60 [x0, x1, (.tup []), (.tup []), (.tup []), (.tup []), (.tup []), (.tup []), (.tup []), (.tup []), (.tup []), (.tup []), (.tup []), (.tup []), (.tup []), (.tup []), (.tup []), (.tup []), (.tup []), (.tup []), (.tup []), (.tup []), (.tup []), (.tup []), (.tup []), (.tup [])] H (kk none (fun s H => retK (([4] : List Nat).map fun t => s.getD t (.tup [])) H) [] retK [4]) = L60 ρ call yc lim k x0 x1 H := by
  rw [evL_X, L60_x]
  simp only [← evL_X, L60, N60_1_eq, N60_2_eq]
theorem E60 (ρ : Addr → Option Value) (k lim : Nat) (x0 x1 : AV) (H : Heap) : evCall (cx ρ) (k + 1) lim 60 [x0, x1] H = L60 ρ (evCall (cx ρ) k) (evCY (cx ρ) k).2 lim k x0 x1 H := by
  rw [evCall_body (cx ρ) k lim 60 _ H Try.f60 c60 [4] (by kernel_rfl) (by kernel_rfl) (by kernel_rfl) (by kernel_rfl) (by kernel_rfl)]
  exact G60 ρ (evCall (cx ρ) k) (evCY (cx ρ) k).2 lim k x0 x1 H
-- haycroft/differ.ofPair
noncomputable def c61 : Code := Code.of Try.prog 61
noncomputable def L61 (ρ : Addr → Option Value) (call : CallF) (yc : YieldF) (lim k : Nat) (x0 : AV) (H : Heap) : Res :=
  effK H (boxA H 70 x0) fun x1 H =>
  purK (addA 0 x1) fun x3 =>
  purK (ld1 ρ H x3) fun x4 =>
  retK [x4] H
theorem G61 (ρ : Addr → Option Value) (call : CallF) (yc : YieldF) (lim k : Nat) (x0 : AV) (H : Heap) :
    evL (cx ρ) call yc false 61 lim k c61 [x0, (.tup []), (.tup []), (.tup []), (.tup [])] H (kk none (fun s H => retK (([2] : List Nat).map fun t => s.getD t (.tup [])) H) [] retK [2]) = L61 ρ call yc lim k x0 H := by
  kernel_rfl
theorem E61 (ρ : Addr → Option Value) (k lim : Nat) (x0 : AV) (H : Heap) : evCall (cx ρ) (k + 1) lim 61 [x0] H = L61 ρ (evCall (cx ρ) k) (evCY (cx ρ) k).2 lim k x0 H := by
  rw [evCall_body (cx ρ) k lim 61 _ H Try.f61 c61 [2] (by kernel_rfl) (by kernel_rfl) (by kernel_rfl) (by kernel_rfl) (by kernel_rfl)]
  exact G61 ρ (evCall (cx ρ) k) (evCY (cx ρ) k).2 lim k x0 H
-- slices.IndexFunc[[]haycroft/api.Pair,haycroft/api.Pair]
noncomputable def c62 : Code := Code.of Try.prog 62
noncomputable def N62_1 (ρ : Addr → Option Value) (call : CallF) (yc : YieldF) (lim k : Nat) (H : Heap) (R : List AV → Heap → Res) : Res :=
  R [(.int .i64 (-1))] H
theorem N62_1_eq (ρ : Addr → Option Value) (call : CallF) (yc : YieldF) (lim k : Nat) (H : Heap) (R : List AV → Heap → Res) :
    evL (cx ρ) call yc false 62 lim k (Code.at [1, 1] c62) (sp 19 []) H (kk none (fun s H => R (([4] : List Nat).map fun t => s.getD t (.tup [])) H) [] R [4]) = N62_1 ρ call yc lim k H R := by
  kernel_rfl
noncomputable def N62_3b (ρ : Addr → Option Value) (call : CallF) (yc : YieldF) (lim k : Nat) (x0 x1 x7 x8 : AV) (H : Heap) (kn : AV → Heap → Res) (k0 : Heap → Res) (R : List AV → Heap → Res) : Res :=
  purK (binA Try.prog H .lss 3 x8 x7) fun x9_1 =>
  condK x9_1
  (
    purK (ixS 2 x0 x8) fun x14_1 =>
    purK (ldN ρ H 2 x14_1) fun x15_1 =>
    valK call yc lim x1 [x15_1] H fun x16_1 H =>
    condK x16_1
    (
      R [x8] H)
    (
      purK (binA Try.prog H .add 3 x8 (.int .i64 1)) fun x18_1 =>
      kn x18_1 H))
  (
    k0 H)
theorem N62_3b_eq (ρ : Addr → Option Value) (call : CallF) (yc : YieldF) (lim k : Nat) (x0 x1 x7 x8 : AV) (H : Heap) (kn : KS) (k0 : KS) (R : List AV → Heap → Res) :
    evL (cx ρ) call yc false 62 lim k (Code.at [1, 0, 1, 0, 0] c62) (sp 19 [(0, x0), (1, x1), (7, x7), (8, x8)]) H (kk (some [0, 1, 7, 8]) kn [(0, (some []), k0)] R [4]) = N62_3b ρ call yc lim k x0 x1 x7 x8 H (fun x8 H => kn (sp 19 [(0, x0), (1, x1), (7, x7), (8, x8)]) H) (fun H => k0 (sp 19 []) H) R := by
  kernel_rfl
noncomputable def N62_3 (ρ : Addr → Option Value) (call : CallF) (yc : YieldF) (lim k : Nat) (x0 x1 x7 x8 : AV) (H : Heap) (k0 : Heap → Res) (R : List AV → Heap → Res) : Res :=
  loopL (fun (x : AV) H kn => N62_3b ρ call yc lim k x0 x1 x7 x H (fun x8 H => kn x8 H) k0 R) k x8 H
theorem N62_3_eq (ρ : Addr → Option Value) (call : CallF) (yc : YieldF) (lim k : Nat) (x0 x1 x7 x8 : AV) (H : Heap) (kn : KS) (k0 : KS) (R : List AV → Heap → Res) :
    evL (cx ρ) call yc false 62 lim k (Code.at [1, 0, 1, 0] c62) (sp 19 [(0, x0), (1, x1), (7, x7), (8, x8)]) H (kk (some []) kn [(0, (some []), k0)] R [4]) = N62_3 ρ call yc lim k x0 x1 x7 x8 H (fun H => k0 (sp 19 []) H) R := by
  have e : Code.at [1, 0, 1, 0] c62 = .loop (Code.at [1, 0, 1, 0, 0] c62) := by kernel_rfl
  rw [e]
  unfold N62_3
  exact loop_node [0, 1, 7, 8] (fun x : AV => (sp 19 [(0, x0), (1, x1), (7, x7), (8, (x))])) (fun (x : AV) H kn => N62_3b ρ call yc lim k x0 x1 x7 x H (fun x8 H => kn x8 H) (fun H => k0 (sp 19 []) H) R) (by kernel_rfl) (fun x => by kernel_rfl) (fun x H kn => N62_3b_eq ρ call yc lim k x0 x1 x7 (x) H kn k0 R) x8 (sp 19 [(0, x0), (1, x1), (7, x7), (8, x8)]) H (by kernel_rfl)
noncomputable def N62_2 (ρ : Addr → Option Value) (call : CallF) (yc : YieldF) (lim k : Nat) (x0 x1 x7 x8 : AV) (H : Heap) (kn : Heap → Res) (R : List AV → Heap → Res) : Res :=
  N62_3 ρ call yc lim k x0 x1 x7 x8 H kn R
theorem N62_2_x (ρ : Addr → Option Value) (call : CallF) (yc : YieldF) (lim k : Nat) (J : CodeF) (x0 x1 x7 x8 : AV) (H : Heap) (kn : KS) (R : List AV → Heap → Res) :
    evX (cx ρ) call yc false 62 lim k J (Code.at [1, 0, 1] c62) (sp 19 [(0, x0), (1, x1), (7, x7), (8, x8)]) H (kk (some []) kn [] R [4]) =
  J (Code.at [1, 0, 1, 0] c62) (sp 19 [(0, x0), (1, x1), (7, x7), (8, x8)]) H (kk (some []) kn [(0, (some []), kn)] R [4]) := by
  kernel_rfl
theorem N62_2_eq (ρ : Addr → Option Value) (call : CallF) (yc : YieldF) (lim k : Nat) (x0 x1 x7 x8 : AV) (H : Heap) (kn : KS) (R : List AV → Heap → Res) :
    evL (cx ρ) call yc false 62 lim k (Code.at [1, 0, 1] c62) (sp 19 [(0, x0), (1, x1), (7, x7), (8, x8)]) H (kk (some []) kn [] R [4]) = N62_2 ρ call yc lim k x0 x1 x7 x8 H (fun H => kn (sp 19 []) H) R := by
  rw [evL_X, N62_2_x]
  simp only [← evL_X, N62_2, N62_3_eq]
noncomputable def L62 (ρ : Addr → Option Value) (call : CallF) (yc : YieldF) (lim k : Nat) (x0 x1 : AV) (H : Heap) : Res :=
  purK (lenS x0) fun x7 =>
  N62_2 ρ call yc lim k x0 x1 x7 (.int .i64 0) H (fun H =>
    N62_1 ρ call yc lim k H retK) retK
theorem L62_x (ρ : Addr → Option Value) (call : CallF) (yc : YieldF) (lim k : Nat) (J : CodeF) (x0 x1 : AV) (H : Heap) :
    evX (cx ρ) call yc false 62 lim k J c62 [x0, x1, (.tup []), (.tup []), (.tup []), (.tup []), (.tup []), (.tup []), (.tup []), (.tup []), (.tup []), (.tup []), (.tup []), (.tup []), (.tup []), (.tup []), (.tup []), (.tup []), (.tup [])] H (kk none (fun s H => retK (([4] : List Nat).map fun t => s.getD t (.tup [])) H) [] retK [4]) =
  purK (lenS x0) fun x7 =>
  J (Code.at [1, 0, 1] c62) (sp 19 [(0, x0), (1, x1), (7, x7), (8, (.int .i64 0))]) H (kk (some []) (fun s H => J (Code.at [1, 1] c62) s H (kk none (fun s H => retK (([4] : List Nat).map fun t => s.getD t (.tup [])) H) [] retK [4])) [] retK [4]) := by
  kernel_rfl
theorem G62 (ρ : Addr → Option Value) (call : CallF) (yc : YieldF) (lim k : Nat) (x0 x1 : AV) (H : Heap) :
    evL (cx ρ) call yc false 62 lim k c62 [x0, x1, (.tup []), (.tup []), (.tup []), (.tup []), (.tup []), (.tup []), (.tup []), (.tup []), (.tup []), (.tup []), (.tup []), (.tup []), (.tup []), (.tup []), (.tup []), (.tup []), (.tup [])] H (kk none (fun s H => retK (([4] : List Nat).map fun t => s.getD t (.tup [])) H) [] retK [4]) = L62 ρ call yc lim k x0 x1 H := by
  rw [evL_X, L62_x]
  simp only [← evL_X, L62, N62_1_eq, N62_2_eq]
theorem E62 (ρ : Addr → Option Value) (k lim : Nat) (x0 x1 : AV) (H : Heap) : evCall (cx ρ) (k + 1) lim 62 [x0, x1] H = L62 ρ (evCall (cx ρ) k) (evCY (cx ρ) k).2 lim k x0 x1 H := by
  rw [evCall_body (cx ρ) k lim 62 _ H Try.f62 c62 [4] (by kernel_rfl) (by kernel_rfl) (by kernel_rfl) (by kernel_rfl) (by kernel_rfl)]
  exact G62 ρ (evCall (cx ρ) k) (evCY (cx ρ) k).2 lim k x0 x1 H
end Go.Proofs.Ytkmohjddojpdjaa

-- part Dn3
/- Functions, lifted. Printed by a program of this repo. -/
set_option linter.unusedVariables false
set_option linter.unusedSimpArgs false
set_option maxRecDepth 100000
set_option maxHeartbeats 4000000
namespace Go.Proofs.Ytkmohjddojpdjaa
open Go.Ev Go.RowKit
-- strings.Repeat
noncomputable def c63 : Code := Code.of Try.prog 63
noncomputable def N63_7 (ρ : Addr → Option Value) (call : CallF) (yc : YieldF) (lim k : Nat) (x9 : AV) (H : Heap) (R : List AV → Heap → Res) : Res :=
  resK (call lim 35 [x9] H) fun x124_1 H =>
  R [x124_1] H
theorem N63_7_eq (ρ : Addr → Option Value) (call : CallF) (yc : YieldF) (lim k : Nat) (x9 : AV) (H : Heap) (R : List AV → Heap → Res) :
    evL (cx ρ) call yc false 63 lim k (Code.at [1, 1, 1, 1, 1, 1, 1, 1, 1, 1, 1, 1, 1, 1] c63) (sp 125 [(9, x9)]) H (kk none (fun s H => R (([4] : List Nat).map fun t => s.getD t (.tup [])) H) [] R [4]) = N63_7 ρ call yc lim k x9 H R := by
  kernel_rfl
noncomputable def N63_8b (ρ : Addr → Option Value) (call : CallF) (yc : YieldF) (lim k : Nat) (x7 x8 x9 : AV) (H : Heap) (kn : Heap → Res) (k3 : AV → Heap → Res) : Res :=
  resK (call lim 82 [x9] H) fun x111_1 H =>
  purK (binA Try.prog H .lss 3 x111_1 x7) fun x113_1 =>
  condK x113_1
  (
    resK (call lim 82 [x9] H) fun x115_1 H =>
    purK (binA Try.prog H .sub 3 x7 x115_1) fun x116_1 =>
    resK (call lim 82 [x9] H) fun x117_1 H =>
    purK (foldsA minA [x116_1, x117_1, x8]) fun x119_1 =>
    resK (call lim 35 [x9] H) fun x120_1 H =>
    purK (slT x120_1 none (some x119_1)) fun x122_1 =>
    resK (call lim 33 [x9, x122_1] H) fun x123_1 H =>
    kn H)
  (
    k3 x9 H)
theorem N63_8b_eq (ρ : Addr → Option Value) (call : CallF) (yc : YieldF) (lim k : Nat) (x7 x8 x9 : AV) (H : Heap) (kn : KS) (k3 : KS) (R : List AV → Heap → Res) :
    evL (cx ρ) call yc false 63 lim k (Code.at [1, 1, 1, 1, 1, 1, 1, 1, 1, 1, 1, 1, 1, 0, 0, 0] c63) (sp 125 [(7, x7), (8, x8), (9, x9)]) H (kk (some [7, 8, 9]) kn [(3, (some [9]), k3)] R [4]) = N63_8b ρ call yc lim k x7 x8 x9 H (fun H => kn (sp 125 [(7, x7), (8, x8), (9, x9)]) H) (fun x9 H => k3 (sp 125 [(9, x9)]) H) := by
  kernel_rfl
noncomputable def N63_8 (ρ : Addr → Option Value) (call : CallF) (yc : YieldF) (lim k : Nat) (x7 x8 x9 : AV) (H : Heap) (k3 : AV → Heap → Res) : Res :=
  loopL (fun (x : Unit) H kn => N63_8b ρ call yc lim k x7 x8 x9 H (fun H => kn () H) k3) k () H
theorem N63_8_eq (ρ : Addr → Option Value) (call : CallF) (yc : YieldF) (lim k : Nat) (x7 x8 x9 : AV) (H : Heap) (kn : KS) (k3 : KS) (R : List AV → Heap → Res) :
    evL (cx ρ) call yc false 63 lim k (Code.at [1, 1, 1, 1, 1, 1, 1, 1, 1, 1, 1, 1, 1, 0, 0] c63) (sp 125 [(7, x7), (8, x8), (9, x9)]) H (kk (some [9]) kn [(3, (some [9]), k3)] R [4]) = N63_8 ρ call yc lim k x7 x8 x9 H (fun x9 H => k3 (sp 125 [(9, x9)]) H) := by
  have e : Code.at [1, 1, 1, 1, 1, 1, 1, 1, 1, 1, 1, 1, 1, 0, 0] c63 = .loop (Code.at [1, 1, 1, 1, 1, 1, 1, 1, 1, 1, 1, 1, 1, 0, 0, 0] c63) := by kernel_rfl
  rw [e]
  unfold N63_8
  exact loop_node [7, 8, 9] (fun x : Unit => (sp 125 [(7, x7), (8, x8), (9, x9)])) (fun (x : Unit) H kn => N63_8b ρ call yc lim k x7 x8 x9 H (fun H => kn () H) (fun x9 H => k3 (sp 125 [(9, x9)]) H)) (by kernel_rfl) (fun x => by kernel_rfl) (fun x H kn => N63_8b_eq ρ call yc lim k x7 x8 x9 H kn k3 R) () (sp 125 [(7, x7), (8, x8), (9, x9)]) H (by kernel_rfl)
noncomputable def N63_6 (ρ : Addr → Option Value) (call : CallF) (yc : YieldF) (lim k : Nat) (x7 x8 x9 : AV) (H : Heap) (R : List AV → Heap → Res) : Res :=
  N63_8 ρ call yc lim k x7 x8 x9 H (fun x9_1 H =>
    N63_7 ρ call yc lim k x9_1 H R)
theorem N63_6_x (ρ : Addr → Option Value) (call : CallF) (yc : YieldF) (lim k : Nat) (J : CodeF) (x7 x8 x9 : AV) (H : Heap) (R : List AV → Heap → Res) :
    evX (cx ρ) call yc false 63 lim k J (Code.at [1, 1, 1, 1, 1, 1, 1, 1, 1, 1, 1, 1, 1] c63) (sp 125 [(7, x7), (8, x8), (9, x9)]) H (kk none (fun s H => R (([4] : List Nat).map fun t => s.getD t (.tup [])) H) [] R [4]) =
  J (Code.at [1, 1, 1, 1, 1, 1, 1, 1, 1, 1, 1, 1, 1, 0, 0] c63) (sp 125 [(7, x7), (8, x8), (9, x9)]) H (kk (some [9]) (fun s H => J (Code.at [1, 1, 1, 1, 1, 1, 1, 1, 1, 1, 1, 1, 1, 1] c63) s H (kk none (fun s H => R (([4] : List Nat).map fun t => s.getD t (.tup [])) H) [] R [4])) [(3, (some [9]), (fun s H => J (Code.at [1, 1, 1, 1, 1, 1, 1, 1, 1, 1, 1, 1, 1, 1] c63) s H (kk none (fun s H => R (([4] : List Nat).map fun t => s.getD t (.tup [])) H) [] R [4])))] R [4]) := by
  kernel_rfl
theorem N63_6_eq (ρ : Addr → Option Value) (call : CallF) (yc : YieldF) (lim k : Nat) (x7 x8 x9 : AV) (H : Heap) (R : List AV → Heap → Res) :
    evL (cx ρ) call yc false 63 lim k (Code.at [1, 1, 1, 1, 1, 1, 1, 1, 1, 1, 1, 1, 1] c63) (sp 125 [(7, x7), (8, x8), (9, x9)]) H (kk none (fun s H => R (([4] : List Nat).map fun t => s.getD t (.tup [])) H) [] R [4]) = N63_6 ρ call yc lim k x7 x8 x9 H R := by
  rw [evL_X, N63_6_x]
  simp only [← evL_X, N63_6, N63_7_eq, N63_8_eq]
noncomputable def N63_5 (ρ : Addr → Option Value) (call : CallF) (yc : YieldF) (lim k : Nat) (x0 x7 x8 : AV) (H : Heap) (R : List AV → Heap → Res) : Res :=
  effK H (some (.ptr H.sz 0 0, .new (newCells 73 false [.nilp, .nils]))) fun x9_1 H =>
  resK (call lim 81 [x9_1, x7] H) fun x108_1 H =>
  resK (call lim 33 [x9_1, x0] H) fun x110_1 H =>
  N63_6 ρ call yc lim k x7 x8 x9_1 H R
theorem N63_5_x (ρ : Addr → Option Value) (call : CallF) (yc : YieldF) (lim k : Nat) (J : CodeF) (x0 x7 x8 : AV) (H : Heap) (R : List AV → Heap → Res) :
    evX (cx ρ) call yc false 63 lim k J (Code.at [1, 1, 1, 1, 1, 1, 1, 1, 1, 1] c63) (sp 125 [(0, x0), (7, x7), (8, x8)]) H (kk none (fun s H => R (([4] : List Nat).map fun t => s.getD t (.tup [])) H) [] R [4]) =
  effK H (some (.ptr H.sz 0 0, .new (newCells 73 false [.nilp, .nils]))) fun x9_1 H =>
  resK (call lim 81 [x9_1, x7] H) fun x108_1 H =>
  resK (call lim 33 [x9_1, x0] H) fun x110_1 H =>
  J (Code.at [1, 1, 1, 1, 1, 1, 1, 1, 1, 1, 1, 1, 1] c63) (sp 125 [(7, x7), (8, x8), (9, x9_1)]) H (kk none (fun s H => R (([4] : List Nat).map fun t => s.getD t (.tup [])) H) [] R [4]) := by
  kernel_rfl
theorem N63_5_eq (ρ : Addr → Option Value) (call : CallF) (yc : YieldF) (lim k : Nat) (x0 x7 x8 : AV) (H : Heap) (R : List AV → Heap → Res) :
    evL (cx ρ) call yc false 63 lim k (Code.at [1, 1, 1, 1, 1, 1, 1, 1, 1, 1] c63) (sp 125 [(0, x0), (7, x7), (8, x8)]) H (kk none (fun s H => R (([4] : List Nat).map fun t => s.getD t (.tup [])) H) [] R [4]) = N63_5 ρ call yc lim k x0 x7 x8 H R := by
  rw [evL_X, N63_5_x]
  simp only [← evL_X, N63_5, N63_6_eq]
noncomputable def N63_4 (ρ : Addr → Option Value) (call : CallF) (yc : YieldF) (lim k : Nat) (x0 x7 x8 : AV) (H : Heap) (R : List AV → Heap → Res) : Res :=
  purK (binA Try.prog H .gtr 3 x7 (.int .i64 8192)) fun x96_1 =>
  condK x96_1
  (
    purK (lenT x0) fun x98_1 =>
    purK (binA Try.prog H .quo 3 (.int .i64 8192) x98_1) fun x99_1 =>
    purK (lenT x0) fun x101_1 =>
    purK (binA Try.prog H .mul 3 x99_1 x101_1) fun x102_1 =>
    purK (binA Try.prog H .eql 3 x102_1 (.int .i64 0)) fun x104_1 =>
    condK x104_1
    (
      purK (lenT x0) fun x106_1 =>
      N63_5 ρ call yc lim k x0 x7 x106_1 H R)
    (
      N63_5 ρ call yc lim k x0 x7 x102_1 H R))
  (
    N63_5 ρ call yc lim k x0 x7 x8 H R)
theorem N63_4_x (ρ : Addr → Option Value) (call : CallF) (yc : YieldF) (lim k : Nat) (J : CodeF) (x0 x7 x8 : AV) (H : Heap) (R : List AV → Heap → Res) :
    evX (cx ρ) call yc false 63 lim k J (Code.at [1, 1, 1, 1, 1, 1, 1, 1, 1] c63) (sp 125 [(0, x0), (7, x7), (8, x8)]) H (kk none (fun s H => R (([4] : List Nat).map fun t => s.getD t (.tup [])) H) [] R [4]) =
  purK (binA Try.prog H .gtr 3 x7 (.int .i64 8192)) fun x96_1 =>
  condK x96_1
  (
    purK (lenT x0) fun x98_1 =>
    purK (binA Try.prog H .quo 3 (.int .i64 8192) x98_1) fun x99_1 =>
    purK (lenT x0) fun x101_1 =>
    purK (binA Try.prog H .mul 3 x99_1 x101_1) fun x102_1 =>
    purK (binA Try.prog H .eql 3 x102_1 (.int .i64 0)) fun x104_1 =>
    condK x104_1
    (
      purK (lenT x0) fun x106_1 =>
      J (Code.at [1, 1, 1, 1, 1, 1, 1, 1, 1, 1] c63) (sp 125 [(0, x0), (7, x7), (8, x106_1)]) H (kk none (fun s H => R (([4] : List Nat).map fun t => s.getD t (.tup [])) H) [] R [4]))
    (
      J (Code.at [1, 1, 1, 1, 1, 1, 1, 1, 1, 1] c63) (sp 125 [(0, x0), (7, x7), (8, x102_1)]) H (kk none (fun s H => R (([4] : List Nat).map fun t => s.getD t (.tup [])) H) [] R [4])))
  (
    J (Code.at [1, 1, 1, 1, 1, 1, 1, 1, 1, 1] c63) (sp 125 [(0, x0), (7, x7), (8, x8)]) H (kk none (fun s H => R (([4] : List Nat).map fun t => s.getD t (.tup [])) H) [] R [4])) := by
  kernel_rfl
theorem N63_4_eq (ρ : Addr → Option Value) (call : CallF) (yc : YieldF) (lim k : Nat) (x0 x7 x8 : AV) (H : Heap) (R : List AV → Heap → Res) :
    evL (cx ρ) call yc false 63 lim k (Code.at [1, 1, 1, 1, 1, 1, 1, 1, 1] c63) (sp 125 [(0, x0), (7, x7), (8, x8)]) H (kk none (fun s H => R (([4] : List Nat).map fun t => s.getD t (.tup [])) H) [] R [4]) = N63_4 ρ call yc lim k x0 x7 x8 H R := by
  rw [evL_X, N63_4_x]
  simp only [← evL_X, N63_4, N63_5_eq]
noncomputable def N63_3 (ρ : Addr → Option Value) (call : CallF) (yc : YieldF) (lim k : Nat) (x0 x7 : AV) (H : Heap) (R : List AV → Heap → Res) : Res :=
  N63_4 ρ call yc lim k x0 x7 x7 H R
theorem N63_3_x (ρ : Addr → Option Value) (call : CallF) (yc : YieldF) (lim k : Nat) (J : CodeF) (x0 x7 : AV) (H : Heap) (R : List AV → Heap → Res) :
    evX (cx ρ) call yc false 63 lim k J (Code.at [1, 1, 1, 1, 1, 1, 1, 1] c63) (sp 125 [(0, x0), (7, x7)]) H (kk none (fun s H => R (([4] : List Nat).map fun t => s.getD t (.tup [])) H) [] R [4]) =
  J (Code.at [1, 1, 1, 1, 1, 1, 1, 1, 1] c63) (sp 125 [(0, x0), (7, x7), (8, x7)]) H (kk none (fun s H => R (([4] : List Nat).map fun t => s.getD t (.tup [])) H) [] R [4]) := by
  kernel_rfl
theorem N63_3_eq (ρ : Addr → Option Value) (call : CallF) (yc : YieldF) (lim k : Nat) (x0 x7 : AV) (H : Heap) (R : List AV → Heap → Res) :
    evL (cx ρ) call yc false 63 lim k (Code.at [1, 1, 1, 1, 1, 1, 1, 1] c63) (sp 125 [(0, x0), (7, x7)]) H (kk none (fun s H => R (([4] : List Nat).map fun t => s.getD t (.tup [])) H) [] R [4]) = N63_3 ρ call yc lim k x0 x7 H R := by
  rw [evL_X, N63_3_x]
  simp only [← evL_X, N63_3, N63_4_eq]
noncomputable def N63_11 (ρ : Addr → Option Value) (call : CallF) (yc : YieldF) (lim k : Nat) (x0 x7 x85 : AV) (H : Heap) (kn : AV → AV → Heap → Res) (R : List AV → Heap → Res) : Res :=
  condK x85
  (
    purK (slT (.str (ByteArray.mk #[9, 9, 9, 9, 9, 9, 9, 9, 9, 9, 9, 9, 9, 9, 9, 9, 9, 9, 9, 9, 9, 9, 9, 9, 9, 9, 9, 9, 9, 9, 9, 9, 9, 9, 9, 9, 9, 9, 9, 9, 9, 9, 9, 9, 9, 9, 9, 9, 9, 9, 9, 9, 9, 9, 9, 9, 9, 9, 9, 9, 9, 9, 9, 9])) none (some x7)) fun x93_1 =>
    R [x93_1] H)
  (
    kn x0 x7 H)
theorem N63_11_eq (ρ : Addr → Option Value) (call : CallF) (yc : YieldF) (lim k : Nat) (x0 x7 x85 : AV) (H : Heap) (kn : KS) (k2 : KS) (k1 : KS) (R : List AV → Heap → Res) :
    evL (cx ρ) call yc false 63 lim k (Code.at [1, 1, 1, 1, 1, 1, 1, 0, 1, 0, 1, 0, 0, 1, 1, 1, 1, 1, 1, 1, 1, 1] c63) (sp 125 [(0, x0), (7, x7), (85, x85)]) H (kk (some [0, 7]) kn [(2, (some [0, 7]), k2), (1, (some [0, 7]), k1)] R [4]) = N63_11 ρ call yc lim k x0 x7 x85 H (fun x0 x7 H => kn (sp 125 [(0, x0), (7, x7)]) H) R := by
  kernel_rfl
noncomputable def N63_10 (ρ : Addr → Option Value) (call : CallF) (yc : YieldF) (lim k : Nat) (x0 x7 x49 : AV) (H : Heap) (kn : AV → AV → Heap → Res) (R : List AV → Heap → Res) : Res :=
  condK x49
  (
    purK (slT (.str (ByteArray.mk #[32, 32, 32, 32, 32, 32, 32, 32, 32, 32, 32, 32, 32, 32, 32, 32, 32, 32, 32, 32, 32, 32, 32, 32, 32, 32, 32, 32, 32, 32, 32, 32, 32, 32, 32, 32, 32, 32, 32, 32, 32, 32, 32, 32, 32, 32, 32, 32, 32, 32, 32, 32, 32, 32, 32, 32, 32, 32, 32, 32, 32, 32, 32, 32, 32, 32, 32, 32, 32, 32, 32, 32, 32, 32, 32, 32, 32, 32, 32, 32, 32, 32, 32, 32, 32, 32, 32, 32, 32, 32, 32, 32, 32, 32, 32, 32, 32, 32, 32, 32, 32, 32, 32, 32, 32, 32, 32, 32, 32, 32, 32, 32, 32, 32, 32, 32, 32, 32, 32, 32, 32, 32, 32, 32, 32, 32, 32, 32])) none (some x7)) fun x57_1 =>
    R [x57_1] H)
  (
    purK (binA Try.prog H .leq 3 x7 (.int .i64 128)) fun x60_1 =>
    purK (gPur (wantV x60_1 true) (some x0)) fun x62_1 =>
    resK (gRes (wantV x60_1 true) H (call lim 80 [(.str (ByteArray.mk #[45, 45, 45, 45, 45, 45, 45, 45, 45, 45, 45, 45, 45, 45, 45, 45, 45, 45, 45, 45, 45, 45, 45, 45, 45, 45, 45, 45, 45, 45, 45, 45, 45, 45, 45, 45, 45, 45, 45, 45, 45, 45, 45, 45, 45, 45, 45, 45, 45, 45, 45, 45, 45, 45, 45, 45, 45, 45, 45, 45, 45, 45, 45, 45, 45, 45, 45, 45, 45, 45, 45, 45, 45, 45, 45, 45, 45, 45, 45, 45, 45, 45, 45, 45, 45, 45, 45, 45, 45, 45, 45, 45, 45, 45, 45, 45, 45, 45, 45, 45, 45, 45, 45, 45, 45, 45, 45, 45, 45, 45, 45, 45, 45, 45, 45, 45, 45, 45, 45, 45, 45, 45, 45, 45, 45, 45, 45, 45])), x62_1] H)) fun x63_1 H =>
    purK (pickA x60_1 x63_1 (.bool false)) fun x64_1 =>
    condK x64_1
    (
      purK (slT (.str (ByteArray.mk #[45, 45, 45, 45, 45, 45, 45, 45, 45, 45, 45, 45, 45, 45, 45, 45, 45, 45, 45, 45, 45, 45, 45, 45, 45, 45, 45, 45, 45, 45, 45, 45, 45, 45, 45, 45, 45, 45, 45, 45, 45, 45, 45, 45, 45, 45, 45, 45, 45, 45, 45, 45, 45, 45, 45, 45, 45, 45, 45, 45, 45, 45, 45, 45, 45, 45, 45, 45, 45, 45, 45, 45, 45, 45, 45, 45, 45, 45, 45, 45, 45, 45, 45, 45, 45, 45, 45, 45, 45, 45, 45, 45, 45, 45, 45, 45, 45, 45, 45, 45, 45, 45, 45, 45, 45, 45, 45, 45, 45, 45, 45, 45, 45, 45, 45, 45, 45, 45, 45, 45, 45, 45, 45, 45, 45, 45, 45, 45])) none (some x7)) fun x66_1 =>
      R [x66_1] H)
    (
      purK (binA Try.prog H .leq 3 x7 (.int .i64 64)) fun x69_1 =>
      purK (gPur (wantV x69_1 true) (some x0)) fun x71_1 =>
      resK (gRes (wantV x69_1 true) H (call lim 80 [(.str (ByteArray.mk #[48, 48, 48, 48, 48, 48, 48, 48, 48, 48, 48, 48, 48, 48, 48, 48, 48, 48, 48, 48, 48, 48, 48, 48, 48, 48, 48, 48, 48, 48, 48, 48, 48, 48, 48, 48, 48, 48, 48, 48, 48, 48, 48, 48, 48, 48, 48, 48, 48, 48, 48, 48, 48, 48, 48, 48, 48, 48, 48, 48, 48, 48, 48, 48])), x71_1] H)) fun x72_1 H =>
      purK (pickA x69_1 x72_1 (.bool false)) fun x73_1 =>
      condK x73_1
      (
        purK (slT (.str (ByteArray.mk #[48, 48, 48, 48, 48, 48, 48, 48, 48, 48, 48, 48, 48, 48, 48, 48, 48, 48, 48, 48, 48, 48, 48, 48, 48, 48, 48, 48, 48, 48, 48, 48, 48, 48, 48, 48, 48, 48, 48, 48, 48, 48, 48, 48, 48, 48, 48, 48, 48, 48, 48, 48, 48, 48, 48, 48, 48, 48, 48, 48, 48, 48, 48, 48])) none (some x7)) fun x75_1 =>
        R [x75_1] H)
      (
        purK (binA Try.prog H .leq 3 x7 (.int .i64 128)) fun x78_1 =>
        purK (gPur (wantV x78_1 true) (some x0)) fun x80_1 =>
        resK (gRes (wantV x78_1 true) H (call lim 80 [(.str (ByteArray.mk #[61, 61, 61, 61, 61, 61, 61, 61, 61, 61, 61, 61, 61, 61, 61, 61, 61, 61, 61, 61, 61, 61, 61, 61, 61, 61, 61, 61, 61, 61, 61, 61, 61, 61, 61, 61, 61, 61, 61, 61, 61, 61, 61, 61, 61, 61, 61, 61, 61, 61, 61, 61, 61, 61, 61, 61, 61, 61, 61, 61, 61, 61, 61, 61, 61, 61, 61, 61, 61, 61, 61, 61, 61, 61, 61, 61, 61, 61, 61, 61, 61, 61, 61, 61, 61, 61, 61, 61, 61, 61, 61, 61, 61, 61, 61, 61, 61, 61, 61, 61, 61, 61, 61, 61, 61, 61, 61, 61, 61, 61, 61, 61, 61, 61, 61, 61, 61, 61, 61, 61, 61, 61, 61, 61, 61, 61, 61, 61])), x80_1] H)) fun x81_1 H =>
        purK (pickA x78_1 x81_1 (.bool false)) fun x82_1 =>
        condK x82_1
        (
          purK (slT (.str (ByteArray.mk #[61, 61, 61, 61, 61, 61, 61, 61, 61, 61, 61, 61, 61, 61, 61, 61, 61, 61, 61, 61, 61, 61, 61, 61, 61, 61, 61, 61, 61, 61, 61, 61, 61, 61, 61, 61, 61, 61, 61, 61, 61, 61, 61, 61, 61, 61, 61, 61, 61, 61, 61, 61, 61, 61, 61, 61, 61, 61, 61, 61, 61, 61, 61, 61, 61, 61, 61, 61, 61, 61, 61, 61, 61, 61, 61, 61, 61, 61, 61, 61, 61, 61, 61, 61, 61, 61, 61, 61, 61, 61, 61, 61, 61, 61, 61, 61, 61, 61, 61, 61, 61, 61, 61, 61, 61, 61, 61, 61, 61, 61, 61, 61, 61, 61, 61, 61, 61, 61, 61, 61, 61, 61, 61, 61, 61, 61, 61, 61])) none (some x7)) fun x84_1 =>
          R [x84_1] H)
        (
          purK (binA Try.prog H .leq 3 x7 (.int .i64 64)) fun x87_1 =>
          purK (gPur (wantV x87_1 true) (some x0)) fun x89_1 =>
          resK (gRes (wantV x87_1 true) H (call lim 80 [(.str (ByteArray.mk #[9, 9, 9, 9, 9, 9, 9, 9, 9, 9, 9, 9, 9, 9, 9, 9, 9, 9, 9, 9, 9, 9, 9, 9, 9, 9, 9, 9, 9, 9, 9, 9, 9, 9, 9, 9, 9, 9, 9, 9, 9, 9, 9, 9, 9, 9, 9, 9, 9, 9, 9, 9, 9, 9, 9, 9, 9, 9, 9, 9, 9, 9, 9, 9])), x89_1] H)) fun x90_1 H =>
          purK (pickA x87_1 x90_1 (.bool false)) fun x91_1 =>
          N63_11 ρ call yc lim k x0 x7 x91_1 H kn R))))
theorem N63_10_x (ρ : Addr → Option Value) (call : CallF) (yc : YieldF) (lim k : Nat) (J : CodeF) (x0 x7 x49 : AV) (H : Heap) (kn : KS) (k2 : KS) (k1 : KS) (R : List AV → Heap → Res) :
    evX (cx ρ) call yc false 63 lim k J (Code.at [1, 1, 1, 1, 1, 1, 1, 0, 1, 0, 1, 0, 0, 1] c63) (sp 125 [(0, x0), (7, x7), (49, x49)]) H (kk (some [0, 7]) kn [(2, (some [0, 7]), k2), (1, (some [0, 7]), k1)] R [4]) =
  condK x49
  (
    purK (slT (.str (ByteArray.mk #[32, 32, 32, 32, 32, 32, 32, 32, 32, 32, 32, 32, 32, 32, 32, 32, 32, 32, 32, 32, 32, 32, 32, 32, 32, 32, 32, 32, 32, 32, 32, 32, 32, 32, 32, 32, 32, 32, 32, 32, 32, 32, 32, 32, 32, 32, 32, 32, 32, 32, 32, 32, 32, 32, 32, 32, 32, 32, 32, 32, 32, 32, 32, 32, 32, 32, 32, 32, 32, 32, 32, 32, 32, 32, 32, 32, 32, 32, 32, 32, 32, 32, 32, 32, 32, 32, 32, 32, 32, 32, 32, 32, 32, 32, 32, 32, 32, 32, 32, 32, 32, 32, 32, 32, 32, 32, 32, 32, 32, 32, 32, 32, 32, 32, 32, 32, 32, 32, 32, 32, 32, 32, 32, 32, 32, 32, 32, 32])) none (some x7)) fun x57_1 =>
    R [x57_1] H)
  (
    purK (binA Try.prog H .leq 3 x7 (.int .i64 128)) fun x60_1 =>
    purK (gPur (wantV x60_1 true) (some x0)) fun x62_1 =>
    resK (gRes (wantV x60_1 true) H (call lim 80 [(.str (ByteArray.mk #[45, 45, 45, 45, 45, 45, 45, 45, 45, 45, 45, 45, 45, 45, 45, 45, 45, 45, 45, 45, 45, 45, 45, 45, 45, 45, 45, 45, 45, 45, 45, 45, 45, 45, 45, 45, 45, 45, 45, 45, 45, 45, 45, 45, 45, 45, 45, 45, 45, 45, 45, 45, 45, 45, 45, 45, 45, 45, 45, 45, 45, 45, 45, 45, 45, 45, 45, 45, 45, 45, 45, 45, 45, 45, 45, 45, 45, 45, 45, 45, 45, 45, 45, 45, 45, 45, 45, 45, 45, 45, 45, 45, 45, 45, 45, 45, 45, 45, 45, 45, 45, 45, 45, 45, 45, 45, 45, 45, 45, 45, 45, 45, 45, 45, 45, 45, 45, 45, 45, 45, 45, 45, 45, 45, 45, 45, 45, 45])), x62_1] H)) fun x63_1 H =>
    purK (pickA x60_1 x63_1 (.bool false)) fun x64_1 =>
    condK x64_1
    (
      purK (slT (.str (ByteArray.mk #[45, 45, 45, 45, 45, 45, 45, 45, 45, 45, 45, 45, 45, 45, 45, 45, 45, 45, 45, 45, 45, 45, 45, 45, 45, 45, 45, 45, 45, 45, 45, 45, 45, 45, 45, 45, 45, 45, 45, 45, 45, 45, 45, 45, 45, 45, 45, 45, 45, 45, 45, 45, 45, 45, 45, 45, 45, 45, 45, 45, 45, 45, 45, 45, 45, 45, 45, 45, 45, 45, 45, 45, 45, 45, 45, 45, 45, 45, 45, 45, 45, 45, 45, 45, 45, 45, 45, 45, 45, 45, 45, 45, 45, 45, 45, 45, 45, 45, 45, 45, 45, 45, 45, 45, 45, 45, 45, 45, 45, 45, 45, 45, 45, 45, 45, 45, 45, 45, 45, 45, 45, 45, 45, 45, 45, 45, 45, 45])) none (some x7)) fun x66_1 =>
      R [x66_1] H)
    (
      purK (binA Try.prog H .leq 3 x7 (.int .i64 64)) fun x69_1 =>
      purK (gPur (wantV x69_1 true) (some x0)) fun x71_1 =>
      resK (gRes (wantV x69_1 true) H (call lim 80 [(.str (ByteArray.mk #[48, 48, 48, 48, 48, 48, 48, 48, 48, 48, 48, 48, 48, 48, 48, 48, 48, 48, 48, 48, 48, 48, 48, 48, 48, 48, 48, 48, 48, 48, 48, 48, 48, 48, 48, 48, 48, 48, 48, 48, 48, 48, 48, 48, 48, 48, 48, 48, 48, 48, 48, 48, 48, 48, 48, 48, 48, 48, 48, 48, 48, 48, 48, 48])), x71_1] H)) fun x72_1 H =>
      purK (pickA x69_1 x72_1 (.bool false)) fun x73_1 =>
      condK x73_1
      (
        purK (slT (.str (ByteArray.mk #[48, 48, 48, 48, 48, 48, 48, 48, 48, 48, 48, 48, 48, 48, 48, 48, 48, 48, 48, 48, 48, 48, 48, 48, 48, 48, 48, 48, 48, 48, 48, 48, 48, 48, 48, 48, 48, 48, 48, 48, 48, 48, 48, 48, 48, 48, 48, 48, 48, 48, 48, 48, 48, 48, 48, 48, 48, 48, 48, 48, 48, 48, 48, 48])) none (some x7)) fun x75_1 =>
        R [x75_1] H)
      (
        purK (binA Try.prog H .leq 3 x7 (.int .i64 128)) fun x78_1 =>
        purK (gPur (wantV x78_1 true) (some x0)) fun x80_1 =>
        resK (gRes (wantV x78_1 true) H (call lim 80 [(.str (ByteArray.mk #[61, 61, 61, 61, 61, 61, 61, 61, 61, 61, 61, 61, 61, 61, 61, 61, 61, 61, 61, 61, 61, 61, 61, 61, 61, 61, 61, 61, 61, 61, 61, 61, 61, 61, 61, 61, 61, 61, 61, 61, 61, 61, 61, 61, 61, 61, 61, 61, 61, 61, 61, 61, 61, 61, 61, 61, 61, 61, 61, 61, 61, 61, 61, 61, 61, 61, 61, 61, 61, 61, 61, 61, 61, 61, 61, 61, 61, 61, 61, 61, 61, 61, 61, 61, 61, 61, 61, 61, 61, 61, 61, 61, 61, 61, 61, 61, 61, 61, 61, 61, 61, 61, 61, 61, 61, 61, 61, 61, 61, 61, 61, 61, 61, 61, 61, 61, 61, 61, 61, 61, 61, 61, 61, 61, 61, 61, 61, 61])), x80_1] H)) fun x81_1 H =>
        purK (pickA x78_1 x81_1 (.bool false)) fun x82_1 =>
        condK x82_1
        (
          purK (slT (.str (ByteArray.mk #[61, 61, 61, 61, 61, 61, 61, 61, 61, 61, 61, 61, 61, 61, 61, 61, 61, 61, 61, 61, 61, 61, 61, 61, 61, 61, 61, 61, 61, 61, 61, 61, 61, 61, 61, 61, 61, 61, 61, 61, 61, 61, 61, 61, 61, 61, 61, 61, 61, 61, 61, 61, 61, 61, 61, 61, 61, 61, 61, 61, 61, 61, 61, 61, 61, 61, 61, 61, 61, 61, 61, 61, 61, 61, 61, 61, 61, 61, 61, 61, 61, 61, 61, 61, 61, 61, 61, 61, 61, 61, 61, 61, 61, 61, 61, 61, 61, 61, 61, 61, 61, 61, 61, 61, 61, 61, 61, 61, 61, 61, 61, 61, 61, 61, 61, 61, 61, 61, 61, 61, 61, 61, 61, 61, 61, 61, 61, 61])) none (some x7)) fun x84_1 =>
          R [x84_1] H)
        (
          purK (binA Try.prog H .leq 3 x7 (.int .i64 64)) fun x87_1 =>
          purK (gPur (wantV x87_1 true) (some x0)) fun x89_1 =>
          resK (gRes (wantV x87_1 true) H (call lim 80 [(.str (ByteArray.mk #[9, 9, 9, 9, 9, 9, 9, 9, 9, 9, 9, 9, 9, 9, 9, 9, 9, 9, 9, 9, 9, 9, 9, 9, 9, 9, 9, 9, 9, 9, 9, 9, 9, 9, 9, 9, 9, 9, 9, 9, 9, 9, 9, 9, 9, 9, 9, 9, 9, 9, 9, 9, 9, 9, 9, 9, 9, 9, 9, 9, 9, 9, 9, 9])), x89_1] H)) fun x90_1 H =>
          purK (pickA x87_1 x90_1 (.bool false)) fun x91_1 =>
          J (Code.at [1, 1, 1, 1, 1, 1, 1, 0, 1, 0, 1, 0, 0, 1, 1, 1, 1, 1, 1, 1, 1, 1] c63) (sp 125 [(0, x0), (7, x7), (85, x91_1)]) H (kk (some [0, 7]) kn [(2, (some [0, 7]), k2), (1, (some [0, 7]), k1)] R [4]))))) := by
  kernel_rfl
theorem N63_10_eq (ρ : Addr → Option Value) (call : CallF) (yc : YieldF) (lim k : Nat) (x0 x7 x49 : AV) (H : Heap) (kn : KS) (k2 : KS) (k1 : KS) (R : List AV → Heap → Res) :
    evL (cx ρ) call yc false 63 lim k (Code.at [1, 1, 1, 1, 1, 1, 1, 0, 1, 0, 1, 0, 0, 1] c63) (sp 125 [(0, x0), (7, x7), (49, x49)]) H (kk (some [0, 7]) kn [(2, (some [0, 7]), k2), (1, (some [0, 7]), k1)] R [4]) = N63_10 ρ call yc lim k x0 x7 x49 H (fun x0 x7 H => kn (sp 125 [(0, x0), (7, x7)]) H) R := by
  rw [evL_X, N63_10_x]
  simp only [← evL_X, N63_10, N63_11_eq]
noncomputable def N63_9 (ρ : Addr → Option Value) (call : CallF) (yc : YieldF) (lim k : Nat) (x0 x7 x43 : AV) (H : Heap) (kn : AV → AV → Heap → Res) (R : List AV → Heap → Res) : Res :=
  condK x43
  (
    purK (binA Try.prog H .leq 3 x7 (.int .i64 128)) fun x51_1 =>
    purK (gPur (wantV x51_1 true) (some x0)) fun x53_1 =>
    resK (gRes (wantV x51_1 true) H (call lim 80 [(.str (ByteArray.mk #[32, 32, 32, 32, 32, 32, 32, 32, 32, 32, 32, 32, 32, 32, 32, 32, 32, 32, 32, 32, 32, 32, 32, 32, 32, 32, 32, 32, 32, 32, 32, 32, 32, 32, 32, 32, 32, 32, 32, 32, 32, 32, 32, 32, 32, 32, 32, 32, 32, 32, 32, 32, 32, 32, 32, 32, 32, 32, 32, 32, 32, 32, 32, 32, 32, 32, 32, 32, 32, 32, 32, 32, 32, 32, 32, 32, 32, 32, 32, 32, 32, 32, 32, 32, 32, 32, 32, 32, 32, 32, 32, 32, 32, 32, 32, 32, 32, 32, 32, 32, 32, 32, 32, 32, 32, 32, 32, 32, 32, 32, 32, 32, 32, 32, 32, 32, 32, 32, 32, 32, 32, 32, 32, 32, 32, 32, 32, 32])), x53_1] H)) fun x54_1 H =>
    purK (pickA x51_1 x54_1 (.bool false)) fun x55_1 =>
    N63_10 ρ call yc lim k x0 x7 x55_1 H kn R)
  (
    kn x0 x7 H)
theorem N63_9_x (ρ : Addr → Option Value) (call : CallF) (yc : YieldF) (lim k : Nat) (J : CodeF) (x0 x7 x43 : AV) (H : Heap) (kn : KS) (k1 : KS) (R : List AV → Heap → Res) :
    evX (cx ρ) call yc false 63 lim k J (Code.at [1, 1, 1, 1, 1, 1, 1, 0, 1, 0, 1] c63) (sp 125 [(0, x0), (7, x7), (43, x43)]) H (kk (some [0, 7]) kn [(1, (some [0, 7]), k1)] R [4]) =
  condK x43
  (
    purK (binA Try.prog H .leq 3 x7 (.int .i64 128)) fun x51_1 =>
    purK (gPur (wantV x51_1 true) (some x0)) fun x53_1 =>
    resK (gRes (wantV x51_1 true) H (call lim 80 [(.str (ByteArray.mk #[32, 32, 32, 32, 32, 32, 32, 32, 32, 32, 32, 32, 32, 32, 32, 32, 32, 32, 32, 32, 32, 32, 32, 32, 32, 32, 32, 32, 32, 32, 32, 32, 32, 32, 32, 32, 32, 32, 32, 32, 32, 32, 32, 32, 32, 32, 32, 32, 32, 32, 32, 32, 32, 32, 32, 32, 32, 32, 32, 32, 32, 32, 32, 32, 32, 32, 32, 32, 32, 32, 32, 32, 32, 32, 32, 32, 32, 32, 32, 32, 32, 32, 32, 32, 32, 32, 32, 32, 32, 32, 32, 32, 32, 32, 32, 32, 32, 32, 32, 32, 32, 32, 32, 32, 32, 32, 32, 32, 32, 32, 32, 32, 32, 32, 32, 32, 32, 32, 32, 32, 32, 32, 32, 32, 32, 32, 32, 32])), x53_1] H)) fun x54_1 H =>
    purK (pickA x51_1 x54_1 (.bool false)) fun x55_1 =>
    J (Code.at [1, 1, 1, 1, 1, 1, 1, 0, 1, 0, 1, 0, 0, 1] c63) (sp 125 [(0, x0), (7, x7), (49, x55_1)]) H (kk (some [0, 7]) kn [(2, (some [0, 7]), kn), (1, (some [0, 7]), k1)] R [4]))
  (
    kn (sp 125 [(0, x0), (7, x7)]) H) := by
  kernel_rfl
theorem N63_9_eq (ρ : Addr → Option Value) (call : CallF) (yc : YieldF) (lim k : Nat) (x0 x7 x43 : AV) (H : Heap) (kn : KS) (k1 : KS) (R : List AV → Heap → Res) :
    evL (cx ρ) call yc false 63 lim k (Code.at [1, 1, 1, 1, 1, 1, 1, 0, 1, 0, 1] c63) (sp 125 [(0, x0), (7, x7), (43, x43)]) H (kk (some [0, 7]) kn [(1, (some [0, 7]), k1)] R [4]) = N63_9 ρ call yc lim k x0 x7 x43 H (fun x0 x7 H => kn (sp 125 [(0, x0), (7, x7)]) H) R := by
  rw [evL_X, N63_9_x]
  simp only [← evL_X, N63_9, N63_10_eq]
noncomputable def N63_2 (ρ : Addr → Option Value) (call : CallF) (yc : YieldF) (lim k : Nat) (x0 x6 : AV) (H : Heap) (R : List AV → Heap → Res) : Res :=
  purK (cvI .i64 x6) fun x37_1 =>
  purK (lenT x0) fun x39_1 =>
  purK (binA Try.prog H .eql 3 x39_1 (.int .i64 0)) fun x40_1 =>
  condK x40_1
  (
    R [(.str (ByteArray.mk #[]))] H)
  (
    purK (ixT x0 (.int .i64 0)) fun x42_1 =>
    purK (binA Try.prog H .eql 5 x42_1 (.int .u8 32)) fun x44_1 =>
    condK x44_1
    (
      N63_9 ρ call yc lim k x0 x37_1 x44_1 H (fun x0_1 x7_1 H =>
        N63_3 ρ call yc lim k x0_1 x7_1 H R) R)
    (
      purK (binA Try.prog H .eql 5 x42_1 (.int .u8 45)) fun x45_1 =>
      condK x45_1
      (
        N63_9 ρ call yc lim k x0 x37_1 x45_1 H (fun x0_2 x7_2 H =>
          N63_3 ρ call yc lim k x0_2 x7_2 H R) R)
      (
        purK (binA Try.prog H .eql 5 x42_1 (.int .u8 48)) fun x46_1 =>
        condK x46_1
        (
          N63_9 ρ call yc lim k x0 x37_1 x46_1 H (fun x0_3 x7_3 H =>
            N63_3 ρ call yc lim k x0_3 x7_3 H R) R)
        (
          purK (binA Try.prog H .eql 5 x42_1 (.int .u8 61)) fun x47_1 =>
          condK x47_1
          (
            N63_9 ρ call yc lim k x0 x37_1 x47_1 H (fun x0_4 x7_4 H =>
              N63_3 ρ call yc lim k x0_4 x7_4 H R) R)
          (
            purK (binA Try.prog H .eql 5 x42_1 (.int .u8 9)) fun x48_1 =>
            N63_9 ρ call yc lim k x0 x37_1 x48_1 H (fun x0_5 x7_5 H =>
              N63_3 ρ call yc lim k x0_5 x7_5 H R) R)))))
theorem N63_2_x (ρ : Addr → Option Value) (call : CallF) (yc : YieldF) (lim k : Nat) (J : CodeF) (x0 x6 : AV) (H : Heap) (R : List AV → Heap → Res) :
    evX (cx ρ) call yc false 63 lim k J (Code.at [1, 1, 1, 1, 1] c63) (sp 125 [(0, x0), (6, x6)]) H (kk none (fun s H => R (([4] : List Nat).map fun t => s.getD t (.tup [])) H) [] R [4]) =
  purK (cvI .i64 x6) fun x37_1 =>
  purK (lenT x0) fun x39_1 =>
  purK (binA Try.prog H .eql 3 x39_1 (.int .i64 0)) fun x40_1 =>
  condK x40_1
  (
    R [(.str (ByteArray.mk #[]))] H)
  (
    purK (ixT x0 (.int .i64 0)) fun x42_1 =>
    purK (binA Try.prog H .eql 5 x42_1 (.int .u8 32)) fun x44_1 =>
    condK x44_1
    (
      J (Code.at [1, 1, 1, 1, 1, 1, 1, 0, 1, 0, 1] c63) (sp 125 [(0, x0), (7, x37_1), (43, x44_1)]) H (kk (some [0, 7]) (fun s H => J (Code.at [1, 1, 1, 1, 1, 1, 1, 1] c63) s H (kk none (fun s H => R (([4] : List Nat).map fun t => s.getD t (.tup [])) H) [] R [4])) [(1, (some [0, 7]), (fun s H => J (Code.at [1, 1, 1, 1, 1, 1, 1, 1] c63) s H (kk none (fun s H => R (([4] : List Nat).map fun t => s.getD t (.tup [])) H) [] R [4])))] R [4]))
    (
      purK (binA Try.prog H .eql 5 x42_1 (.int .u8 45)) fun x45_1 =>
      condK x45_1
      (
        J (Code.at [1, 1, 1, 1, 1, 1, 1, 0, 1, 0, 1] c63) (sp 125 [(0, x0), (7, x37_1), (43, x45_1)]) H (kk (some [0, 7]) (fun s H => J (Code.at [1, 1, 1, 1, 1, 1, 1, 1] c63) s H (kk none (fun s H => R (([4] : List Nat).map fun t => s.getD t (.tup [])) H) [] R [4])) [(1, (some [0, 7]), (fun s H => J (Code.at [1, 1, 1, 1, 1, 1, 1, 1] c63) s H (kk none (fun s H => R (([4] : List Nat).map fun t => s.getD t (.tup [])) H) [] R [4])))] R [4]))
      (
        purK (binA Try.prog H .eql 5 x42_1 (.int .u8 48)) fun x46_1 =>
        condK x46_1
        (
          J (Code.at [1, 1, 1, 1, 1, 1, 1, 0, 1, 0, 1] c63) (sp 125 [(0, x0), (7, x37_1), (43, x46_1)]) H (kk (some [0, 7]) (fun s H => J (Code.at [1, 1, 1, 1, 1, 1, 1, 1] c63) s H (kk none (fun s H => R (([4] : List Nat).map fun t => s.getD t (.tup [])) H) [] R [4])) [(1, (some [0, 7]), (fun s H => J (Code.at [1, 1, 1, 1, 1, 1, 1, 1] c63) s H (kk none (fun s H => R (([4] : List Nat).map fun t => s.getD t (.tup [])) H) [] R [4])))] R [4]))
        (
          purK (binA Try.prog H .eql 5 x42_1 (.int .u8 61)) fun x47_1 =>
          condK x47_1
          (
            J (Code.at [1, 1, 1, 1, 1, 1, 1, 0, 1, 0, 1] c63) (sp 125 [(0, x0), (7, x37_1), (43, x47_1)]) H (kk (some [0, 7]) (fun s H => J (Code.at [1, 1, 1, 1, 1, 1, 1, 1] c63) s H (kk none (fun s H => R (([4] : List Nat).map fun t => s.getD t (.tup [])) H) [] R [4])) [(1, (some [0, 7]), (fun s H => J (Code.at [1, 1, 1, 1, 1, 1, 1, 1] c63) s H (kk none (fun s H => R (([4] : List Nat).map fun t => s.getD t (.tup [])) H) [] R [4])))] R [4]))
          (
            purK (binA Try.prog H .eql 5 x42_1 (.int .u8 9)) fun x48_1 =>
            J (Code.at [1, 1, 1, 1, 1, 1, 1, 0, 1, 0, 1] c63) (sp 125 [(0, x0), (7, x37_1), (43, x48_1)]) H (kk (some [0, 7]) (fun s H => J (Code.at [1, 1, 1, 1, 1, 1, 1, 1] c63) s H (kk none (fun s H => R (([4] : List Nat).map fun t => s.getD t (.tup [])) H) [] R [4])) [(1, (some [0, 7]), (fun s H => J (Code.at [1, 1, 1, 1, 1, 1, 1, 1] c63) s H (kk none (fun s H => R (([4] : List Nat).map fun t => s.getD t (.tup [])) H) [] R [4])))] R [4])))))) := by
  kernel_rfl
theorem N63_2_eq (ρ : Addr → Option Value) (call : CallF) (yc : YieldF) (lim k : Nat) (x0 x6 : AV) (H : Heap) (R : List AV → Heap → Res) :
    evL (cx ρ) call yc false 63 lim k (Code.at [1, 1, 1, 1, 1] c63) (sp 125 [(0, x0), (6, x6)]) H (kk none (fun s H => R (([4] : List Nat).map fun t => s.getD t (.tup [])) H) [] R [4]) = N63_2 ρ call yc lim k x0 x6 H R := by
  rw [evL_X, N63_2_x]
  simp only [← evL_X, N63_2, N63_3_eq, N63_9_eq]
noncomputable def N63_12 (ρ : Addr → Option Value) (call : CallF) (yc : YieldF) (lim k : Nat) (x0 x6 x34 : AV) (H : Heap) (kn : AV → AV → Heap → Res) : Res :=
  condK x34
  (
    effK H (none) fun _ H =>
    kn x0 x6 H)
  (
    kn x0 x6 H)
theorem N63_12_eq (ρ : Addr → Option Value) (call : CallF) (yc : YieldF) (lim k : Nat) (x0 x6 x34 : AV) (H : Heap) (kn : KS) (R : List AV → Heap → Res) :
    evL (cx ρ) call yc false 63 lim k (Code.at [1, 1, 1, 1, 0, 1] c63) (sp 125 [(0, x0), (6, x6), (34, x34)]) H (kk (some [0, 6]) kn [] R [4]) = N63_12 ρ call yc lim k x0 x6 x34 H (fun x0 x6 H => kn (sp 125 [(0, x0), (6, x6)]) H) := by
  kernel_rfl
noncomputable def N63_1 (ρ : Addr → Option Value) (call : CallF) (yc : YieldF) (lim k : Nat) (x0 x1 : AV) (H : Heap) (R : List AV → Heap → Res) : Res :=
  purK (lenT x0) fun x22_1 =>
  purK (cvI .u64 x22_1) fun x23_1 =>
  purK (cvI .u64 x1) fun x25_1 =>
  resK (call lim 79 [x23_1, x25_1] H) fun x26_1 H =>
  purK (extA 0 x26_1) fun x27_1 =>
  purK (extA 1 x26_1) fun x28_1 =>
  purK (binA Try.prog H .gtr 121 x27_1 (.int .u64 0)) fun x30_1 =>
  purK (gPur (wantV x30_1 false) (some x28_1)) fun x32_1 =>
  purK (gPur (wantV x30_1 false) (binA Try.prog H .gtr 121 x32_1 (.int .u64 9223372036854775807))) fun x33_1 =>
  purK (pickA x30_1 (.bool true) x33_1) fun x34_1 =>
  N63_12 ρ call yc lim k x0 x28_1 x34_1 H (fun x0_1 x6_1 H =>
    N63_2 ρ call yc lim k x0_1 x6_1 H R)
theorem N63_1_x (ρ : Addr → Option Value) (call : CallF) (yc : YieldF) (lim k : Nat) (J : CodeF) (x0 x1 : AV) (H : Heap) (R : List AV → Heap → Res) :
    evX (cx ρ) call yc false 63 lim k J (Code.at [1, 1, 1] c63) (sp 125 [(0, x0), (1, x1)]) H (kk none (fun s H => R (([4] : List Nat).map fun t => s.getD t (.tup [])) H) [] R [4]) =
  purK (lenT x0) fun x22_1 =>
  purK (cvI .u64 x22_1) fun x23_1 =>
  purK (cvI .u64 x1) fun x25_1 =>
  resK (call lim 79 [x23_1, x25_1] H) fun x26_1 H =>
  purK (extA 0 x26_1) fun x27_1 =>
  purK (extA 1 x26_1) fun x28_1 =>
  purK (binA Try.prog H .gtr 121 x27_1 (.int .u64 0)) fun x30_1 =>
  purK (gPur (wantV x30_1 false) (some x28_1)) fun x32_1 =>
  purK (gPur (wantV x30_1 false) (binA Try.prog H .gtr 121 x32_1 (.int .u64 9223372036854775807))) fun x33_1 =>
  purK (pickA x30_1 (.bool true) x33_1) fun x34_1 =>
  J (Code.at [1, 1, 1, 1, 0, 1] c63) (sp 125 [(0, x0), (6, x28_1), (34, x34_1)]) H (kk (some [0, 6]) (fun s H => J (Code.at [1, 1, 1, 1, 1] c63) s H (kk none (fun s H => R (([4] : List Nat).map fun t => s.getD t (.tup [])) H) [] R [4])) [] R [4]) := by
  kernel_rfl
theorem N63_1_eq (ρ : Addr → Option Value) (call : CallF) (yc : YieldF) (lim k : Nat) (x0 x1 : AV) (H : Heap) (R : List AV → Heap → Res) :
    evL (cx ρ) call yc false 63 lim k (Code.at [1, 1, 1] c63) (sp 125 [(0, x0), (1, x1)]) H (kk none (fun s H => R (([4] : List Nat).map fun t => s.getD t (.tup [])) H) [] R [4]) = N63_1 ρ call yc lim k x0 x1 H R := by
  rw [evL_X, N63_1_x]
  simp only [← evL_X, N63_1, N63_12_eq, N63_2_eq]
noncomputable def L63 (ρ : Addr → Option Value) (call : CallF) (yc : YieldF) (lim k : Nat) (x0 x1 : AV) (H : Heap) : Res :=
  purK (binA Try.prog H .eql 3 x1 (.int .i64 0)) fun x13 =>
  condK x13
  (
    retK [(.str (ByteArray.mk #[]))] H)
  (
    purK (binA Try.prog H .eql 3 x1 (.int .i64 1)) fun x15 =>
    condK x15
    (
      retK [x0] H)
    (
      purK (binA Try.prog H .lss 3 x1 (.int .i64 0)) fun x18 =>
      condK x18
      (
        effK H (none) fun _ H =>
        N63_1 ρ call yc lim k x0 x1 H retK)
      (
        N63_1 ρ call yc lim k x0 x1 H retK)))
theorem L63_x (ρ : Addr → Option Value) (call : CallF) (yc : YieldF) (lim k : Nat) (J : CodeF) (x0 x1 : AV) (H : Heap) :
    evX (cx ρ) call yc false 63 lim k J c63 [x0, x1, (.tup []), (.tup []), (.tup []), (.tup []), (.tup []), (.tup []), (.tup []), (.tup []), (.tup []), (.tup []), (.tup []), (.tup []), (.tup []), (.tup []), (.tup []), (.tup []), (.tup []), (.tup []), (.tup []), (.tup []), (.tup []), (.tup []), (.tup []), (.tup []), (.tup []), (.tup []), (.tup []), (.tup []), (.tup []), (.tup []), (.tup []), (.tup []), (.tup []), (.tup []), (.tup []), (.tup []), (.tup []), (.tup []), (.tup []), (.tup []), (.tup []), (.tup []), (.tup []), (.tup []), (.tup []), (.tup []), (.tup []), (.tup []), (.tup []), (.tup []), (.tup []), (.tup []), (.tup []), (.tup []), (.tup []), (.tup []), (.tup []), (.tup []), (.tup []), (.tup []), (.tup []), (.tup []), (.tup []), (.tup []), (.tup []), (.tup []), (.tup []), (.tup []), (.tup []), (.tup []), (.tup []), (.tup []), (.tup []), (.tup []), (.tup []), (.tup []), (.tup []), (.tup []), (.tup []), (.tup []), (.tup []), (.tup []), (.tup []), (.tup []), (.tup []), (.tup []), (.tup []), (.tup []), (.tup []), (.tup []), (.tup []), (.tup []), (.tup []), (.tup []), (.tup []), (.tup []), (.tup []), (.tup []), (.tup []), (.tup []), (.tup []), (.tup []), (.tup []), (.tup []), (.tup []), (.tup []), (.tup []), (.tup []), (.tup []), (.tup []), (.tup []), (.tup []), (.tup []), (.tup []), (.tup []), (.tup []), (.tup []), (.tup []), (.tup []), (.tup []), (.tup []), (.tup []), (.tup [])] H (kk none (fun s H => retK (([4] : List Nat).map fun t => s.getD t (.tup [])) H) [] retK [4]) =
  purK (binA Try.prog H .eql 3 x1 (.int .i64 0)) fun x13 =>
  condK x13
  (
    retK [(.str (ByteArray.mk #[]))] H)
  (
    purK (binA Try.prog H .eql 3 x1 (.int .i64 1)) fun x15 =>
    condK x15
    (
      retK [x0] H)
    (
      purK (binA Try.prog H .lss 3 x1 (.int .i64 0)) fun x18 =>
      condK x18
      (
        effK H (none) fun _ H =>
        J (Code.at [1, 1, 1] c63) (sp 125 [(0, x0), (1, x1)]) H (kk none (fun s H => retK (([4] : List Nat).map fun t => s.getD t (.tup [])) H) [] retK [4]))
      (
        J (Code.at [1, 1, 1] c63) (sp 125 [(0, x0), (1, x1)]) H (kk none (fun s H => retK (([4] : List Nat).map fun t => s.getD t (.tup [])) H) [] retK [4])))) := by
  kernel_rfl
theorem G63 (ρ : Addr → Option Value) (call : CallF) (yc : YieldF) (lim k : Nat) (x0 x1 : AV) (H : Heap) :
    evL (cx ρ) call yc false 63 lim k c63 [x0, x1, (.tup []), (.tup []), (.tup []), (.tup []), (.tup []), (.tup []), (.tup []), (.tup []), (.tup []), (.tup []), (.tup []), (.tup []), (.tup []), (.tup []), (.tup []), (.tup []), (.tup []), (.tup []), (.tup []), (.tup []), (.tup []), (.tup []), (.tup []), (.tup []), (.tup []), (.tup []), (.tup []), (.tup []), (.tup []), (.tup []), (.tup []), (.tup []), (.tup []), (.tup []), (.tup []), (.tup []), (.tup []), (.tup []), (.tup []), (.tup []), (.tup []), (.tup []), (.tup []), (.tup []), (.tup []), (.tup []), (.tup []), (.tup []), (.tup []), (.tup []), (.tup []), (.tup []), (.tup []), (.tup []), (.tup []), (.tup []), (.tup []), (.tup []), (.tup []), (.tup []), (.tup []), (.tup []), (.tup []), (.tup []), (.tup []), (.tup []), (.tup []), (.tup []), (.tup []), (.tup []), (.tup []), (.tup []), (.tup []), (.tup []), (.tup []), (.tup []), (.tup []), (.tup []), (.tup []), (.tup []), (.tup []), (.tup []), (.tup []), (.tup []), (.tup []), (.tup []), (.tup []), (.tup []), (.tup []), (.tup []), (.tup []), (.tup []), (.tup []), (.tup []), (.tup []), (.tup []), (.tup []), (.tup []), (.tup []), (.tup []), (.tup []), (.tup []), (.tup []), (.tup []), (.tup []), (.tup []), (.tup []), (.tup []), (.tup []), (.tup []), (.tup []), (.tup []), (.tup []), (.tup []), (.tup []), (.tup []), (.tup []), (.tup []), (.tup []), (.tup []), (.tup []), (.tup []), (.tup [])] H (kk none (fun s H => retK (([4] : List Nat).map fun t => s.getD t (.tup [])) H) [] retK [4]) = L63 ρ call yc lim k x0 x1 H := by
  rw [evL_X, L63_x]
  simp only [← evL_X, L63, N63_1_eq]
theorem E63 (ρ : Addr → Option Value) (k lim : Nat) (x0 x1 : AV) (H : Heap) : evCall (cx ρ) (k + 1) lim 63 [x0, x1] H = L63 ρ (evCall (cx ρ) k) (evCY (cx ρ) k).2 lim k x0 x1 H := by
  rw [evCall_body (cx ρ) k lim 63 _ H Try.f63 c63 [4] (by kernel_rfl) (by kernel_rfl) (by kernel_rfl) (by kernel_rfl) (by kernel_rfl)]
  exact G63 ρ (evCall (cx ρ) k) (evCY (cx ρ) k).2 lim k x0 x1 H
-- haycroft/haycroftref04.Turned
noncomputable def c64 : Code := Code.of Try.prog 64
noncomputable def L64 (ρ : Addr → Option Value) (call : CallF) (yc : YieldF) (lim k : Nat) (x0 x1 : AV) (H : Heap) : Res :=
  purK (binA Try.prog H .or 49 x0 x1) fun x7 =>
  purK (binA Try.prog H .and 49 x0 x1) fun x10 =>
  purK (binA Try.prog H .sub 49 x7 x10) fun x11 =>
  retK [x11] H
theorem G64 (ρ : Addr → Option Value) (call : CallF) (yc : YieldF) (lim k : Nat) (x0 x1 : AV) (H : Heap) :
    evL (cx ρ) call yc false 64 lim k c64 [x0, x1, (.tup []), (.tup []), (.tup []), (.tup []), (.tup []), (.tup []), (.tup []), (.tup []), (.tup []), (.tup [])] H (kk none (fun s H => retK (([4] : List Nat).map fun t => s.getD t (.tup [])) H) [] retK [4]) = L64 ρ call yc lim k x0 x1 H := by
  kernel_rfl
theorem E64 (ρ : Addr → Option Value) (k lim : Nat) (x0 x1 : AV) (H : Heap) : evCall (cx ρ) (k + 1) lim 64 [x0, x1] H = L64 ρ (evCall (cx ρ) k) (evCY (cx ρ) k).2 lim k x0 x1 H := by
  rw [evCall_body (cx ρ) k lim 64 _ H Try.f64 c64 [4] (by kernel_rfl) (by kernel_rfl) (by kernel_rfl) (by kernel_rfl) (by kernel_rfl)]
  exact G64 ρ (evCall (cx ρ) k) (evCY (cx ρ) k).2 lim k x0 x1 H
-- haycroft/field.Bytes
noncomputable def c77 : Code := Code.of Try.prog 77
noncomputable def N77_2 (ρ : Addr → Option Value) (call : CallF) (yc : YieldF) (lim k : Nat) (x1 x6 : AV) (H : Heap) (R : List AV → Heap → Res) : Res :=
  purK (slS 1 x6 none (some x1) none) fun x62_1 =>
  purK (b2s ρ H x62_1) fun x63_1 =>
  R [x63_1, (.int .i64 0)] H
theorem N77_2_eq (ρ : Addr → Option Value) (call : CallF) (yc : YieldF) (lim k : Nat) (x1 x6 : AV) (H : Heap) (R : List AV → Heap → Res) :
    evL (cx ρ) call yc false 77 lim k (Code.at [1, 1, 1, 1, 1, 1] c77) (sp 64 [(1, x1), (6, x6)]) H (kk none (fun s H => R (([4, 5] : List Nat).map fun t => s.getD t (.tup [])) H) [] R [4, 5]) = N77_2 ρ call yc lim k x1 x6 H R := by
  kernel_rfl
noncomputable def N77_4b (ρ : Addr → Option Value) (call : CallF) (yc : YieldF) (lim k : Nat) (x1 x6 x51 x52 x53 : AV) (H : Heap) (kn : AV → Heap → Res) (k3 : AV → AV → Heap → Res) (R : List AV → Heap → Res) : Res :=
  purK (binA Try.prog H .lss 3 x53 x52) fun x54_1 =>
  condK x54_1
  (
    purK (ixS 1 x51 x53) fun x55_1 =>
    purK (ld1 ρ H x55_1) fun x56_1 =>
    purK (binA Try.prog H .neq 5 x56_1 (.int .u8 0)) fun x58_1 =>
    condK x58_1
    (
      R [(.str (ByteArray.mk #[])), (.int .i64 4)] H)
    (
      purK (binA Try.prog H .add 3 x53 (.int .i64 1)) fun x59_1 =>
      kn x59_1 H))
  (
    k3 x1 x6 H)
theorem N77_4b_eq (ρ : Addr → Option Value) (call : CallF) (yc : YieldF) (lim k : Nat) (x1 x6 x51 x52 x53 : AV) (H : Heap) (kn : KS) (k3 : KS) (R : List AV → Heap → Res) :
    evL (cx ρ) call yc false 77 lim k (Code.at [1, 1, 1, 1, 1, 0, 1, 0, 0] c77) (sp 64 [(1, x1), (6, x6), (51, x51), (52, x52), (53, x53)]) H (kk (some [1, 6, 51, 52, 53]) kn [(3, (some [1, 6]), k3)] R [4, 5]) = N77_4b ρ call yc lim k x1 x6 x51 x52 x53 H (fun x53 H => kn (sp 64 [(1, x1), (6, x6), (51, x51), (52, x52), (53, x53)]) H) (fun x1 x6 H => k3 (sp 64 [(1, x1), (6, x6)]) H) R := by
  kernel_rfl
noncomputable def N77_4 (ρ : Addr → Option Value) (call : CallF) (yc : YieldF) (lim k : Nat) (x1 x6 x51 x52 x53 : AV) (H : Heap) (k3 : AV → AV → Heap → Res) (R : List AV → Heap → Res) : Res :=
  loopL (fun (x : AV) H kn => N77_4b ρ call yc lim k x1 x6 x51 x52 x H (fun x53 H => kn x53 H) k3 R) k x53 H
theorem N77_4_eq (ρ : Addr → Option Value) (call : CallF) (yc : YieldF) (lim k : Nat) (x1 x6 x51 x52 x53 : AV) (H : Heap) (kn : KS) (k3 : KS) (R : List AV → Heap → Res) :
    evL (cx ρ) call yc false 77 lim k (Code.at [1, 1, 1, 1, 1, 0, 1, 0] c77) (sp 64 [(1, x1), (6, x6), (51, x51), (52, x52), (53, x53)]) H (kk (some [1, 6]) kn [(3, (some [1, 6]), k3)] R [4, 5]) = N77_4 ρ call yc lim k x1 x6 x51 x52 x53 H (fun x1 x6 H => k3 (sp 64 [(1, x1), (6, x6)]) H) R := by
  have e : Code.at [1, 1, 1, 1, 1, 0, 1, 0] c77 = .loop (Code.at [1, 1, 1, 1, 1, 0, 1, 0, 0] c77) := by kernel_rfl
  rw [e]
  unfold N77_4
  exact loop_node [1, 6, 51, 52, 53] (fun x : AV => (sp 64 [(1, x1), (6, x6), (51, x51), (52, x52), (53, (x))])) (fun (x : AV) H kn => N77_4b ρ call yc lim k x1 x6 x51 x52 x H (fun x53 H => kn x53 H) (fun x1 x6 H => k3 (sp 64 [(1, x1), (6, x6)]) H) R) (by kernel_rfl) (fun x => by kernel_rfl) (fun x H kn => N77_4b_eq ρ call yc lim k x1 x6 x51 x52 (x) H kn k3 R) x53 (sp 64 [(1, x1), (6, x6), (51, x51), (52, x52), (53, x53)]) H (by kernel_rfl)
noncomputable def N77_3 (ρ : Addr → Option Value) (call : CallF) (yc : YieldF) (lim k : Nat) (x1 x6 x51 x52 x53 : AV) (H : Heap) (kn : AV → AV → Heap → Res) (R : List AV → Heap → Res) : Res :=
  N77_4 ρ call yc lim k x1 x6 x51 x52 x53 H kn R
theorem N77_3_x (ρ : Addr → Option Value) (call : CallF) (yc : YieldF) (lim k : Nat) (J : CodeF) (x1 x6 x51 x52 x53 : AV) (H : Heap) (kn : KS) (R : List AV → Heap → Res) :
    evX (cx ρ) call yc false 77 lim k J (Code.at [1, 1, 1, 1, 1, 0, 1] c77) (sp 64 [(1, x1), (6, x6), (51, x51), (52, x52), (53, x53)]) H (kk (some [1, 6]) kn [] R [4, 5]) =
  J (Code.at [1, 1, 1, 1, 1, 0, 1, 0] c77) (sp 64 [(1, x1), (6, x6), (51, x51), (52, x52), (53, x53)]) H (kk (some [1, 6]) kn [(3, (some [1, 6]), kn)] R [4, 5]) := by
  kernel_rfl
theorem N77_3_eq (ρ : Addr → Option Value) (call : CallF) (yc : YieldF) (lim k : Nat) (x1 x6 x51 x52 x53 : AV) (H : Heap) (kn : KS) (R : List AV → Heap → Res) :
    evL (cx ρ) call yc false 77 lim k (Code.at [1, 1, 1, 1, 1, 0, 1] c77) (sp 64 [(1, x1), (6, x6), (51, x51), (52, x52), (53, x53)]) H (kk (some [1, 6]) kn [] R [4, 5]) = N77_3 ρ call yc lim k x1 x6 x51 x52 x53 H (fun x1 x6 H => kn (sp 64 [(1, x1), (6, x6)]) H) R := by
  rw [evL_X, N77_3_x]
  simp only [← evL_X, N77_3, N77_4_eq]
noncomputable def N77_1 (ρ : Addr → Option Value) (call : CallF) (yc : YieldF) (lim k : Nat) (x0 x1 x6 : AV) (H : Heap) (R : List AV → Heap → Res) : Res :=
  purK (lenS x0) fun x43_1 =>
  purK (binA Try.prog H .add 3 x1 (.int .i64 8)) fun x45_1 =>
  purK (binA Try.prog H .sub 3 x45_1 (.int .i64 1)) fun x46_1 =>
  purK (binA Try.prog H .quo 3 x46_1 (.int .i64 8)) fun x47_1 =>
  purK (binA Try.prog H .neq 3 x43_1 x47_1) fun x48_1 =>
  condK x48_1
  (
    R [(.str (ByteArray.mk #[])), (.int .i64 4)] H)
  (
    purK (slS 1 x6 (some x1) none none) fun x51_1 =>
    purK (lenS x51_1) fun x52_1 =>
    N77_3 ρ call yc lim k x1 x6 x51_1 x52_1 (.int .i64 0) H (fun x1_1 x6_1 H =>
      N77_2 ρ call yc lim k x1_1 x6_1 H R) R)
theorem N77_1_x (ρ : Addr → Option Value) (call : CallF) (yc : YieldF) (lim k : Nat) (J : CodeF) (x0 x1 x6 : AV) (H : Heap) (R : List AV → Heap → Res) :
    evX (cx ρ) call yc false 77 lim k J (Code.at [1, 1, 1, 1] c77) (sp 64 [(0, x0), (1, x1), (6, x6)]) H (kk none (fun s H => R (([4, 5] : List Nat).map fun t => s.getD t (.tup [])) H) [] R [4, 5]) =
  purK (lenS x0) fun x43_1 =>
  purK (binA Try.prog H .add 3 x1 (.int .i64 8)) fun x45_1 =>
  purK (binA Try.prog H .sub 3 x45_1 (.int .i64 1)) fun x46_1 =>
  purK (binA Try.prog H .quo 3 x46_1 (.int .i64 8)) fun x47_1 =>
  purK (binA Try.prog H .neq 3 x43_1 x47_1) fun x48_1 =>
  condK x48_1
  (
    R [(.str (ByteArray.mk #[])), (.int .i64 4)] H)
  (
    purK (slS 1 x6 (some x1) none none) fun x51_1 =>
    purK (lenS x51_1) fun x52_1 =>
    J (Code.at [1, 1, 1, 1, 1, 0, 1] c77) (sp 64 [(1, x1), (6, x6), (51, x51_1), (52, x52_1), (53, (.int .i64 0))]) H (kk (some [1, 6]) (fun s H => J (Code.at [1, 1, 1, 1, 1, 1] c77) s H (kk none (fun s H => R (([4, 5] : List Nat).map fun t => s.getD t (.tup [])) H) [] R [4, 5])) [] R [4, 5])) := by
  kernel_rfl
theorem N77_1_eq (ρ : Addr → Option Value) (call : CallF) (yc : YieldF) (lim k : Nat) (x0 x1 x6 : AV) (H : Heap) (R : List AV → Heap → Res) :
    evL (cx ρ) call yc false 77 lim k (Code.at [1, 1, 1, 1] c77) (sp 64 [(0, x0), (1, x1), (6, x6)]) H (kk none (fun s H => R (([4, 5] : List Nat).map fun t => s.getD t (.tup [])) H) [] R [4, 5]) = N77_1 ρ call yc lim k x0 x1 x6 H R := by
  rw [evL_X, N77_1_x]
  simp only [← evL_X, N77_1, N77_2_eq, N77_3_eq]
noncomputable def N77_6b (ρ : Addr → Option Value) (call : CallF) (yc : YieldF) (lim k : Nat) (x0 x1 x6 x24 x25 : AV) (H : Heap) (kn : AV → Heap → Res) (k1 : AV → AV → AV → Heap → Res) : Res :=
  purK (binA Try.prog H .lss 3 x25 x24) fun x26_1 =>
  condK x26_1
  (
    purK (binA Try.prog H .quo 3 x25 (.int .i64 8)) fun x32_1 =>
    purK (ixS 1 x0 x32_1) fun x33_1 =>
    purK (ld1 ρ H x33_1) fun x34_1 =>
    purK (binA Try.prog H .rem 3 x25 (.int .i64 8)) fun x36_1 =>
    purK (binA Try.prog H .mul 3 x36_1 (.int .i64 8)) fun x37_1 =>
    purK (binA Try.prog H .shr 49 x34_1 x37_1) fun x38_1 =>
    purK (cvI .u8 x38_1) fun x39_1 =>
    purK (ixS 1 x6 x25) fun x40_1 =>
    effK H (stA lim H 1 x40_1 x39_1) fun _ H =>
    purK (binA Try.prog H .add 3 x25 (.int .i64 1)) fun x41_1 =>
    kn x41_1 H)
  (
    k1 x0 x1 x6 H)
theorem N77_6b_eq (ρ : Addr → Option Value) (call : CallF) (yc : YieldF) (lim k : Nat) (x0 x1 x6 x24 x25 : AV) (H : Heap) (kn : KS) (k1 : KS) (R : List AV → Heap → Res) :
    evL (cx ρ) call yc false 77 lim k (Code.at [1, 1, 1, 0, 1, 0, 0] c77) (sp 64 [(0, x0), (1, x1), (6, x6), (24, x24), (25, x25)]) H (kk (some [0, 1, 6, 24, 25]) kn [(1, (some [0, 1, 6]), k1)] R [4, 5]) = N77_6b ρ call yc lim k x0 x1 x6 x24 x25 H (fun x25 H => kn (sp 64 [(0, x0), (1, x1), (6, x6), (24, x24), (25, x25)]) H) (fun x0 x1 x6 H => k1 (sp 64 [(0, x0), (1, x1), (6, x6)]) H) := by
  kernel_rfl
noncomputable def N77_6 (ρ : Addr → Option Value) (call : CallF) (yc : YieldF) (lim k : Nat) (x0 x1 x6 x24 x25 : AV) (H : Heap) (k1 : AV → AV → AV → Heap → Res) : Res :=
  loopL (fun (x : AV) H kn => N77_6b ρ call yc lim k x0 x1 x6 x24 x H (fun x25 H => kn x25 H) k1) k x25 H
theorem N77_6_eq (ρ : Addr → Option Value) (call : CallF) (yc : YieldF) (lim k : Nat) (x0 x1 x6 x24 x25 : AV) (H : Heap) (kn : KS) (k1 : KS) (R : List AV → Heap → Res) :
    evL (cx ρ) call yc false 77 lim k (Code.at [1, 1, 1, 0, 1, 0] c77) (sp 64 [(0, x0), (1, x1), (6, x6), (24, x24), (25, x25)]) H (kk (some [0, 1, 6]) kn [(1, (some [0, 1, 6]), k1)] R [4, 5]) = N77_6 ρ call yc lim k x0 x1 x6 x24 x25 H (fun x0 x1 x6 H => k1 (sp 64 [(0, x0), (1, x1), (6, x6)]) H) := by
  have e : Code.at [1, 1, 1, 0, 1, 0] c77 = .loop (Code.at [1, 1, 1, 0, 1, 0, 0] c77) := by kernel_rfl
  rw [e]
  unfold N77_6
  exact loop_node [0, 1, 6, 24, 25] (fun x : AV => (sp 64 [(0, x0), (1, x1), (6, x6), (24, x24), (25, (x))])) (fun (x : AV) H kn => N77_6b ρ call yc lim k x0 x1 x6 x24 x H (fun x25 H => kn x25 H) (fun x0 x1 x6 H => k1 (sp 64 [(0, x0), (1, x1), (6, x6)]) H)) (by kernel_rfl) (fun x => by kernel_rfl) (fun x H kn => N77_6b_eq ρ call yc lim k x0 x1 x6 x24 (x) H kn k1 R) x25 (sp 64 [(0, x0), (1, x1), (6, x6), (24, x24), (25, x25)]) H (by kernel_rfl)
noncomputable def N77_5 (ρ : Addr → Option Value) (call : CallF) (yc : YieldF) (lim k : Nat) (x0 x1 x6 x24 x25 : AV) (H : Heap) (kn : AV → AV → AV → Heap → Res) : Res :=
  N77_6 ρ call yc lim k x0 x1 x6 x24 x25 H kn
theorem N77_5_x (ρ : Addr → Option Value) (call : CallF) (yc : YieldF) (lim k : Nat) (J : CodeF) (x0 x1 x6 x24 x25 : AV) (H : Heap) (kn : KS) (R : List AV → Heap → Res) :
    evX (cx ρ) call yc false 77 lim k J (Code.at [1, 1, 1, 0, 1] c77) (sp 64 [(0, x0), (1, x1), (6, x6), (24, x24), (25, x25)]) H (kk (some [0, 1, 6]) kn [] R [4, 5]) =
  J (Code.at [1, 1, 1, 0, 1, 0] c77) (sp 64 [(0, x0), (1, x1), (6, x6), (24, x24), (25, x25)]) H (kk (some [0, 1, 6]) kn [(1, (some [0, 1, 6]), kn)] R [4, 5]) := by
  kernel_rfl
theorem N77_5_eq (ρ : Addr → Option Value) (call : CallF) (yc : YieldF) (lim k : Nat) (x0 x1 x6 x24 x25 : AV) (H : Heap) (kn : KS) (R : List AV → Heap → Res) :
    evL (cx ρ) call yc false 77 lim k (Code.at [1, 1, 1, 0, 1] c77) (sp 64 [(0, x0), (1, x1), (6, x6), (24, x24), (25, x25)]) H (kk (some [0, 1, 6]) kn [] R [4, 5]) = N77_5 ρ call yc lim k x0 x1 x6 x24 x25 H (fun x0 x1 x6 H => kn (sp 64 [(0, x0), (1, x1), (6, x6)]) H) := by
  rw [evL_X, N77_5_x]
  simp only [← evL_X, N77_5, N77_6_eq]
noncomputable def L77 (ρ : Addr → Option Value) (call : CallF) (yc : YieldF) (lim k : Nat) (x0 x1 : AV) (H : Heap) : Res :=
  purK (binA Try.prog H .lss 3 x1 (.int .i64 0)) fun x12 =>
  condK x12
  (
    retK [(.str (ByteArray.mk #[])), (.int .i64 1)] H)
  (
    purK (lenS x0) fun x16 =>
    purK (binA Try.prog H .mul 3 (.int .i64 8) x16) fun x17 =>
    purK (binA Try.prog H .gtr 3 x1 x17) fun x18 =>
    condK x18
    (
      retK [(.str (ByteArray.mk #[])), (.int .i64 3)] H)
    (
      purK (lenS x0) fun x20 =>
      purK (binA Try.prog H .mul 3 (.int .i64 8) x20) fun x21 =>
      effK H (mkS H 5 1 1 [.int .u8 0] x21 x21) fun x22 H =>
      purK (lenS x22) fun x24 =>
      N77_5 ρ call yc lim k x0 x1 x22 x24 (.int .i64 0) H (fun x0_1 x1_1 x6 H =>
        N77_1 ρ call yc lim k x0_1 x1_1 x6 H retK)))
theorem L77_x (ρ : Addr → Option Value) (call : CallF) (yc : YieldF) (lim k : Nat) (J : CodeF) (x0 x1 : AV) (H : Heap) :
    evX (cx ρ) call yc false 77 lim k J c77 [x0, x1, (.tup []), (.tup []), (.tup []), (.tup []), (.tup []), (.tup []), (.tup []), (.tup []), (.tup []), (.tup []), (.tup []), (.tup []), (.tup []), (.tup []), (.tup []), (.tup []), (.tup []), (.tup []), (.tup []), (.tup []), (.tup []), (.tup []), (.tup []), (.tup []), (.tup []), (.tup []), (.tup []), (.tup []), (.tup []), (.tup []), (.tup []), (.tup []), (.tup []), (.tup []), (.tup []), (.tup []), (.tup []), (.tup []), (.tup []), (.tup []), (.tup []), (.tup []), (.tup []), (.tup []), (.tup []), (.tup []), (.tup []), (.tup []), (.tup []), (.tup []), (.tup []), (.tup []), (.tup []), (.tup []), (.tup []), (.tup []), (.tup []), (.tup []), (.tup []), (.tup []), (.tup []), (.tup [])] H (kk none (fun s H => retK (([4, 5] : List Nat).map fun t => s.getD t (.tup [])) H) [] retK [4, 5]) =
  purK (binA Try.prog H .lss 3 x1 (.int .i64 0)) fun x12 =>
  condK x12
  (
    retK [(.str (ByteArray.mk #[])), (.int .i64 1)] H)
  (
    purK (lenS x0) fun x16 =>
    purK (binA Try.prog H .mul 3 (.int .i64 8) x16) fun x17 =>
    purK (binA Try.prog H .gtr 3 x1 x17) fun x18 =>
    condK x18
    (
      retK [(.str (ByteArray.mk #[])), (.int .i64 3)] H)
    (
      purK (lenS x0) fun x20 =>
      purK (binA Try.prog H .mul 3 (.int .i64 8) x20) fun x21 =>
      effK H (mkS H 5 1 1 [.int .u8 0] x21 x21) fun x22 H =>
      purK (lenS x22) fun x24 =>
      J (Code.at [1, 1, 1, 0, 1] c77) (sp 64 [(0, x0), (1, x1), (6, x22), (24, x24), (25, (.int .i64 0))]) H (kk (some [0, 1, 6]) (fun s H => J (Code.at [1, 1, 1, 1] c77) s H (kk none (fun s H => retK (([4, 5] : List Nat).map fun t => s.getD t (.tup [])) H) [] retK [4, 5])) [] retK [4, 5]))) := by
  kernel_rfl
theorem G77 (ρ : Addr → Option Value) (call : CallF) (yc : YieldF) (lim k : Nat) (x0 x1 : AV) (H : Heap) :
    evL (cx ρ) call yc false 77 lim k c77 [x0, x1, (.tup []), (.tup []), (.tup []), (.tup []), (.tup []), (.tup []), (.tup []), (.tup []), (.tup []), (.tup []), (.tup []), (.tup []), (.tup []), (.tup []), (.tup []), (.tup []), (.tup []), (.tup []), (.tup []), (.tup []), (.tup []), (.tup []), (.tup []), (.tup []), (.tup []), (.tup []), (.tup []), (.tup []), (.tup []), (.tup []), (.tup []), (.tup []), (.tup []), (.tup []), (.tup []), (.tup []), (.tup []), (.tup []), (.tup []), (.tup []), (.tup []), (.tup []), (.tup []), (.tup []), (.tup []), (.tup []), (.tup []), (.tup []), (.tup []), (.tup []), (.tup []), (.tup []), (.tup []), (.tup []), (.tup []), (.tup []), (.tup []), (.tup []), (.tup []), (.tup []), (.tup []), (.tup [])] H (kk none (fun s H => retK (([4, 5] : List Nat).map fun t => s.getD t (.tup [])) H) [] retK [4, 5]) = L77 ρ call yc lim k x0 x1 H := by
  rw [evL_X, L77_x]
  simp only [← evL_X, L77, N77_1_eq, N77_5_eq]
theorem E77 (ρ : Addr → Option Value) (k lim : Nat) (x0 x1 : AV) (H : Heap) : evCall (cx ρ) (k + 1) lim 77 [x0, x1] H = L77 ρ (evCall (cx ρ) k) (evCY (cx ρ) k).2 lim k x0 x1 H := by
  rw [evCall_body (cx ρ) k lim 77 _ H Try.f77 c77 [4, 5] (by kernel_rfl) (by kernel_rfl) (by kernel_rfl) (by kernel_rfl) (by kernel_rfl)]
  exact G77 ρ (evCall (cx ρ) k) (evCY (cx ρ) k).2 lim k x0 x1 H
end Go.Proofs.Ytkmohjddojpdjaa

-- part Dn4
/- Functions, lifted. Printed by a program of this repo. -/
set_option linter.unusedVariables false
set_option linter.unusedSimpArgs false
set_option maxRecDepth 100000
set_option maxHeartbeats 4000000
namespace Go.Proofs.Ytkmohjddojpdjaa
open Go.Ev Go.RowKit
-- haycroft/seal.Next
noncomputable def c78 : Code := Code.of Try.prog 78
noncomputable def N78_1 (ρ : Addr → Option Value) (call : CallF) (yc : YieldF) (lim k : Nat) (x5 : AV) (H : Heap) (R : List AV → Heap → Res) : Res :=
  purK (unA .xor x5) fun x32_1 =>
  R [x32_1] H
theorem N78_1_eq (ρ : Addr → Option Value) (call : CallF) (yc : YieldF) (lim k : Nat) (x5 : AV) (H : Heap) (R : List AV → Heap → Res) :
    evL (cx ρ) call yc false 78 lim k (Code.at [1, 1, 1] c78) (sp 33 [(5, x5)]) H (kk none (fun s H => R (([4] : List Nat).map fun t => s.getD t (.tup [])) H) [] R [4]) = N78_1 ρ call yc lim k x5 H R := by
  kernel_rfl
noncomputable def N78_4 (ρ : Addr → Option Value) (call : CallF) (yc : YieldF) (lim k : Nat) (x1 x5 x10 x11 : AV) (H : Heap) (kn : AV → AV → Heap → Res) : Res :=
  purK (binA Try.prog H .add 3 x11 (.int .i64 1)) fun x30_1 =>
  kn x5 x30_1 H
theorem N78_4_eq (ρ : Addr → Option Value) (call : CallF) (yc : YieldF) (lim k : Nat) (x1 x5 x10 x11 : AV) (H : Heap) (kn : KS) (k0 : KS) (R : List AV → Heap → Res) :
    evL (cx ρ) call yc false 78 lim k (Code.at [1, 1, 0, 1, 0, 0, 1, 1, 1] c78) (sp 33 [(1, x1), (5, x5), (10, x10), (11, x11)]) H (kk (some [1, 5, 10, 11]) kn [(0, (some [5]), k0)] R [4]) = N78_4 ρ call yc lim k x1 x5 x10 x11 H (fun x5 x11 H => kn (sp 33 [(1, x1), (5, x5), (10, x10), (11, x11)]) H) := by
  kernel_rfl
noncomputable def N78_6b (ρ : Addr → Option Value) (call : CallF) (yc : YieldF) (lim k : Nat) (x1 x5 x10 x11 x20 : AV) (H : Heap) (kn : AV → AV → Heap → Res) (k2 : AV → AV → Heap → Res) : Res :=
  purK (binA Try.prog H .lss 3 x20 (.int .i64 8)) fun x21_1 =>
  condK x21_1
  (
    purK (binA Try.prog H .shr 49 x5 (.int .u64 1)) fun x23_1 =>
    purK (binA Try.prog H .and 49 x5 (.int .u64 1)) fun x25_1 =>
    purK (unA .neg x25_1) fun x26_1 =>
    purK (binA Try.prog H .and 49 (.int .u64 14514072000185962306) x26_1) fun x27_1 =>
    purK (binA Try.prog H .xor 49 x23_1 x27_1) fun x28_1 =>
    purK (binA Try.prog H .add 3 x20 (.int .i64 1)) fun x29_1 =>
    kn x28_1 x29_1 H)
  (
    k2 x5 x11 H)
theorem N78_6b_eq (ρ : Addr → Option Value) (call : CallF) (yc : YieldF) (lim k : Nat) (x1 x5 x10 x11 x20 : AV) (H : Heap) (kn : KS) (k2 : KS) (k1 : KS) (k0 : KS) (R : List AV → Heap → Res) :
    evL (cx ρ) call yc false 78 lim k (Code.at [1, 1, 0, 1, 0, 0, 1, 1, 0, 0, 1, 1, 1, 0, 0] c78) (sp 33 [(1, x1), (5, x5), (10, x10), (11, x11), (20, x20)]) H (kk (some [1, 5, 10, 11, 20]) kn [(2, (some [1, 5, 10, 11]), k2), (1, (some [1, 5, 10, 11]), k1), (0, (some [5]), k0)] R [4]) = N78_6b ρ call yc lim k x1 x5 x10 x11 x20 H (fun x5 x20 H => kn (sp 33 [(1, x1), (5, x5), (10, x10), (11, x11), (20, x20)]) H) (fun x5 x11 H => k2 (sp 33 [(1, x1), (5, x5), (10, x10), (11, x11)]) H) := by
  kernel_rfl
noncomputable def N78_6 (ρ : Addr → Option Value) (call : CallF) (yc : YieldF) (lim k : Nat) (x1 x5 x10 x11 x20 : AV) (H : Heap) (k2 : AV → AV → Heap → Res) : Res :=
  loopL (fun (x : AV × AV) H kn => N78_6b ρ call yc lim k x1 x.1 x10 x11 x.2 H (fun x5 x20 H => kn (x5, x20) H) k2) k (x5, x20) H
theorem N78_6_eq (ρ : Addr → Option Value) (call : CallF) (yc : YieldF) (lim k : Nat) (x1 x5 x10 x11 x20 : AV) (H : Heap) (kn : KS) (k2 : KS) (k1 : KS) (k0 : KS) (R : List AV → Heap → Res) :
    evL (cx ρ) call yc false 78 lim k (Code.at [1, 1, 0, 1, 0, 0, 1, 1, 0, 0, 1, 1, 1, 0] c78) (sp 33 [(1, x1), (5, x5), (10, x10), (11, x11), (20, x20)]) H (kk (some [1, 5, 10, 11]) kn [(2, (some [1, 5, 10, 11]), k2), (1, (some [1, 5, 10, 11]), k1), (0, (some [5]), k0)] R [4]) = N78_6 ρ call yc lim k x1 x5 x10 x11 x20 H (fun x5 x11 H => k2 (sp 33 [(1, x1), (5, x5), (10, x10), (11, x11)]) H) := by
  have e : Code.at [1, 1, 0, 1, 0, 0, 1, 1, 0, 0, 1, 1, 1, 0] c78 = .loop (Code.at [1, 1, 0, 1, 0, 0, 1, 1, 0, 0, 1, 1, 1, 0, 0] c78) := by kernel_rfl
  rw [e]
  unfold N78_6
  exact loop_node [1, 5, 10, 11, 20] (fun x : AV × AV => (sp 33 [(1, x1), (5, (x.1)), (10, x10), (11, x11), (20, (x.2))])) (fun (x : AV × AV) H kn => N78_6b ρ call yc lim k x1 x.1 x10 x11 x.2 H (fun x5 x20 H => kn (x5, x20) H) (fun x5 x11 H => k2 (sp 33 [(1, x1), (5, x5), (10, x10), (11, x11)]) H)) (by kernel_rfl) (fun x => by kernel_rfl) (fun x H kn => N78_6b_eq ρ call yc lim k x1 (x.1) x10 x11 (x.2) H kn k2 k1 k0 R) (x5, x20) (sp 33 [(1, x1), (5, x5), (10, x10), (11, x11), (20, x20)]) H (by kernel_rfl)
noncomputable def N78_5 (ρ : Addr → Option Value) (call : CallF) (yc : YieldF) (lim k : Nat) (x1 x5 x10 x11 x20 : AV) (H : Heap) (kn : AV → AV → Heap → Res) : Res :=
  N78_6 ρ call yc lim k x1 x5 x10 x11 x20 H kn
theorem N78_5_x (ρ : Addr → Option Value) (call : CallF) (yc : YieldF) (lim k : Nat) (J : CodeF) (x1 x5 x10 x11 x20 : AV) (H : Heap) (kn : KS) (k1 : KS) (k0 : KS) (R : List AV → Heap → Res) :
    evX (cx ρ) call yc false 78 lim k J (Code.at [1, 1, 0, 1, 0, 0, 1, 1, 0, 0, 1, 1, 1] c78) (sp 33 [(1, x1), (5, x5), (10, x10), (11, x11), (20, x20)]) H (kk (some [1, 5, 10, 11]) kn [(1, (some [1, 5, 10, 11]), k1), (0, (some [5]), k0)] R [4]) =
  J (Code.at [1, 1, 0, 1, 0, 0, 1, 1, 0, 0, 1, 1, 1, 0] c78) (sp 33 [(1, x1), (5, x5), (10, x10), (11, x11), (20, x20)]) H (kk (some [1, 5, 10, 11]) kn [(2, (some [1, 5, 10, 11]), kn), (1, (some [1, 5, 10, 11]), k1), (0, (some [5]), k0)] R [4]) := by
  kernel_rfl
theorem N78_5_eq (ρ : Addr → Option Value) (call : CallF) (yc : YieldF) (lim k : Nat) (x1 x5 x10 x11 x20 : AV) (H : Heap) (kn : KS) (k1 : KS) (k0 : KS) (R : List AV → Heap → Res) :
    evL (cx ρ) call yc false 78 lim k (Code.at [1, 1, 0, 1, 0, 0, 1, 1, 0, 0, 1, 1, 1] c78) (sp 33 [(1, x1), (5, x5), (10, x10), (11, x11), (20, x20)]) H (kk (some [1, 5, 10, 11]) kn [(1, (some [1, 5, 10, 11]), k1), (0, (some [5]), k0)] R [4]) = N78_5 ρ call yc lim k x1 x5 x10 x11 x20 H (fun x5 x11 H => kn (sp 33 [(1, x1), (5, x5), (10, x10), (11, x11)]) H) := by
  rw [evL_X, N78_5_x]
  simp only [← evL_X, N78_5, N78_6_eq]
noncomputable def N78_3b (ρ : Addr → Option Value) (call : CallF) (yc : YieldF) (lim k : Nat) (x1 x5 x10 x11 : AV) (H : Heap) (kn : AV → AV → Heap → Res) (k0 : AV → Heap → Res) : Res :=
  purK (binA Try.prog H .lss 3 x11 x10) fun x12_1 =>
  condK x12_1
  (
    purK (ixT x1 x11) fun x17_1 =>
    purK (cvI .u64 x17_1) fun x18_1 =>
    purK (binA Try.prog H .xor 49 x5 x18_1) fun x19_1 =>
    N78_5 ρ call yc lim k x1 x19_1 x10 x11 (.int .i64 0) H (fun x5_1 x11_1 H =>
      N78_4 ρ call yc lim k x1 x5_1 x10 x11_1 H kn))
  (
    k0 x5 H)
theorem N78_3b_x (ρ : Addr → Option Value) (call : CallF) (yc : YieldF) (lim k : Nat) (J : CodeF) (x1 x5 x10 x11 : AV) (H : Heap) (kn : KS) (k0 : KS) (R : List AV → Heap → Res) :
    evX (cx ρ) call yc false 78 lim k J (Code.at [1, 1, 0, 1, 0, 0] c78) (sp 33 [(1, x1), (5, x5), (10, x10), (11, x11)]) H (kk (some [1, 5, 10, 11]) kn [(0, (some [5]), k0)] R [4]) =
  purK (binA Try.prog H .lss 3 x11 x10) fun x12_1 =>
  condK x12_1
  (
    purK (ixT x1 x11) fun x17_1 =>
    purK (cvI .u64 x17_1) fun x18_1 =>
    purK (binA Try.prog H .xor 49 x5 x18_1) fun x19_1 =>
    J (Code.at [1, 1, 0, 1, 0, 0, 1, 1, 0, 0, 1, 1, 1] c78) (sp 33 [(1, x1), (5, x19_1), (10, x10), (11, x11), (20, (.int .i64 0))]) H (kk (some [1, 5, 10, 11]) (fun s H => J (Code.at [1, 1, 0, 1, 0, 0, 1, 1, 1] c78) s H (kk (some [1, 5, 10, 11]) kn [(0, (some [5]), k0)] R [4])) [(1, (some [1, 5, 10, 11]), (fun s H => J (Code.at [1, 1, 0, 1, 0, 0, 1, 1, 1] c78) s H (kk (some [1, 5, 10, 11]) kn [(0, (some [5]), k0)] R [4]))), (0, (some [5]), k0)] R [4]))
  (
    k0 (sp 33 [(5, x5)]) H) := by
  kernel_rfl
theorem N78_3b_eq (ρ : Addr → Option Value) (call : CallF) (yc : YieldF) (lim k : Nat) (x1 x5 x10 x11 : AV) (H : Heap) (kn : KS) (k0 : KS) (R : List AV → Heap → Res) :
    evL (cx ρ) call yc false 78 lim k (Code.at [1, 1, 0, 1, 0, 0] c78) (sp 33 [(1, x1), (5, x5), (10, x10), (11, x11)]) H (kk (some [1, 5, 10, 11]) kn [(0, (some [5]), k0)] R [4]) = N78_3b ρ call yc lim k x1 x5 x10 x11 H (fun x5 x11 H => kn (sp 33 [(1, x1), (5, x5), (10, x10), (11, x11)]) H) (fun x5 H => k0 (sp 33 [(5, x5)]) H) := by
  rw [evL_X, N78_3b_x]
  simp only [← evL_X, N78_3b, N78_4_eq, N78_5_eq]
noncomputable def N78_3 (ρ : Addr → Option Value) (call : CallF) (yc : YieldF) (lim k : Nat) (x1 x5 x10 x11 : AV) (H : Heap) (k0 : AV → Heap → Res) : Res :=
  loopL (fun (x : AV × AV) H kn => N78_3b ρ call yc lim k x1 x.1 x10 x.2 H (fun x5 x11 H => kn (x5, x11) H) k0) k (x5, x11) H
theorem N78_3_eq (ρ : Addr → Option Value) (call : CallF) (yc : YieldF) (lim k : Nat) (x1 x5 x10 x11 : AV) (H : Heap) (kn : KS) (k0 : KS) (R : List AV → Heap → Res) :
    evL (cx ρ) call yc false 78 lim k (Code.at [1, 1, 0, 1, 0] c78) (sp 33 [(1, x1), (5, x5), (10, x10), (11, x11)]) H (kk (some [5]) kn [(0, (some [5]), k0)] R [4]) = N78_3 ρ call yc lim k x1 x5 x10 x11 H (fun x5 H => k0 (sp 33 [(5, x5)]) H) := by
  have e : Code.at [1, 1, 0, 1, 0] c78 = .loop (Code.at [1, 1, 0, 1, 0, 0] c78) := by kernel_rfl
  rw [e]
  unfold N78_3
  exact loop_node [1, 5, 10, 11] (fun x : AV × AV => (sp 33 [(1, x1), (5, (x.1)), (10, x10), (11, (x.2))])) (fun (x : AV × AV) H kn => N78_3b ρ call yc lim k x1 x.1 x10 x.2 H (fun x5 x11 H => kn (x5, x11) H) (fun x5 H => k0 (sp 33 [(5, x5)]) H)) (by kernel_rfl) (fun x => by kernel_rfl) (fun x H kn => N78_3b_eq ρ call yc lim k x1 (x.1) x10 (x.2) H kn k0 R) (x5, x11) (sp 33 [(1, x1), (5, x5), (10, x10), (11, x11)]) H (by kernel_rfl)
noncomputable def N78_2 (ρ : Addr → Option Value) (call : CallF) (yc : YieldF) (lim k : Nat) (x1 x5 x10 x11 : AV) (H : Heap) (kn : AV → Heap → Res) : Res :=
  N78_3 ρ call yc lim k x1 x5 x10 x11 H kn
theorem N78_2_x (ρ : Addr → Option Value) (call : CallF) (yc : YieldF) (lim k : Nat) (J : CodeF) (x1 x5 x10 x11 : AV) (H : Heap) (kn : KS) (R : List AV → Heap → Res) :
    evX (cx ρ) call yc false 78 lim k J (Code.at [1, 1, 0, 1] c78) (sp 33 [(1, x1), (5, x5), (10, x10), (11, x11)]) H (kk (some [5]) kn [] R [4]) =
  J (Code.at [1, 1, 0, 1, 0] c78) (sp 33 [(1, x1), (5, x5), (10, x10), (11, x11)]) H (kk (some [5]) kn [(0, (some [5]), kn)] R [4]) := by
  kernel_rfl
theorem N78_2_eq (ρ : Addr → Option Value) (call : CallF) (yc : YieldF) (lim k : Nat) (x1 x5 x10 x11 : AV) (H : Heap) (kn : KS) (R : List AV → Heap → Res) :
    evL (cx ρ) call yc false 78 lim k (Code.at [1, 1, 0, 1] c78) (sp 33 [(1, x1), (5, x5), (10, x10), (11, x11)]) H (kk (some [5]) kn [] R [4]) = N78_2 ρ call yc lim k x1 x5 x10 x11 H (fun x5 H => kn (sp 33 [(5, x5)]) H) := by
  rw [evL_X, N78_2_x]
  simp only [← evL_X, N78_2, N78_3_eq]
noncomputable def L78 (ρ : Addr → Option Value) (call : CallF) (yc : YieldF) (lim k : Nat) (x0 x1 : AV) (H : Heap) : Res :=
  purK (unA .xor x0) fun x8 =>
  purK (lenT x1) fun x10 =>
  N78_2 ρ call yc lim k x1 x8 x10 (.int .i64 0) H (fun x5 H =>
    N78_1 ρ call yc lim k x5 H retK)
theorem L78_x (ρ : Addr → Option Value) (call : CallF) (yc : YieldF) (lim k : Nat) (J : CodeF) (x0 x1 : AV) (H : Heap) :
    evX (cx ρ) call yc false 78 lim k J c78 [x0, x1, (.tup []), (.tup []), (.tup []), (.tup []), (.tup []), (.tup []), (.tup []), (.tup []), (.tup []), (.tup []), (.tup []), (.tup []), (.tup []), (.tup []), (.tup []), (.tup []), (.tup []), (.tup []), (.tup []), (.tup []), (.tup []), (.tup []), (.tup []), (.tup []), (.tup []), (.tup []), (.tup []), (.tup []), (.tup []), (.tup []), (.tup [])] H (kk none (fun s H => retK (([4] : List Nat).map fun t => s.getD t (.tup [])) H) [] retK [4]) =
  purK (unA .xor x0) fun x8 =>
  purK (lenT x1) fun x10 =>
  J (Code.at [1, 1, 0, 1] c78) (sp 33 [(1, x1), (5, x8), (10, x10), (11, (.int .i64 0))]) H (kk (some [5]) (fun s H => J (Code.at [1, 1, 1] c78) s H (kk none (fun s H => retK (([4] : List Nat).map fun t => s.getD t (.tup [])) H) [] retK [4])) [] retK [4]) := by
  kernel_rfl
theorem G78 (ρ : Addr → Option Value) (call : CallF) (yc : YieldF) (lim k : Nat) (x0 x1 : AV) (H : Heap) :
    evL (cx ρ) call yc false 78 lim k c78 [x0, x1, (.tup []), (.tup []), (.tup []), (.tup []), (.tup []), (.tup []), (.tup []), (.tup []), (.tup []), (.tup []), (.tup []), (.tup []), (.tup []), (.tup []), (.tup []), (.tup []), (.tup []), (.tup []), (.tup []), (.tup []), (.tup []), (.tup []), (.tup []), (.tup []), (.tup []), (.tup []), (.tup []), (.tup []), (.tup []), (.tup []), (.tup [])] H (kk none (fun s H => retK (([4] : List Nat).map fun t => s.getD t (.tup [])) H) [] retK [4]) = L78 ρ call yc lim k x0 x1 H := by
  rw [evL_X, L78_x]
  simp only [← evL_X, L78, N78_1_eq, N78_2_eq]
theorem E78 (ρ : Addr → Option Value) (k lim : Nat) (x0 x1 : AV) (H : Heap) : evCall (cx ρ) (k + 1) lim 78 [x0, x1] H = L78 ρ (evCall (cx ρ) k) (evCY (cx ρ) k).2 lim k x0 x1 H := by
  rw [evCall_body (cx ρ) k lim 78 _ H Try.f78 c78 [4] (by kernel_rfl) (by kernel_rfl) (by kernel_rfl) (by kernel_rfl) (by kernel_rfl)]
  exact G78 ρ (evCall (cx ρ) k) (evCY (cx ρ) k).2 lim k x0 x1 H
-- math/bits.Mul
noncomputable def c79 : Code := Code.of Try.prog 79
noncomputable def N79_1 (ρ : Addr → Option Value) (call : CallF) (yc : YieldF) (lim k : Nat) (x8 x9 : AV) (H : Heap) (R : List AV → Heap → Res) : Res :=
  R [x8, x9] H
theorem N79_1_eq (ρ : Addr → Option Value) (call : CallF) (yc : YieldF) (lim k : Nat) (x8 x9 : AV) (H : Heap) (R : List AV → Heap → Res) :
    evL (cx ρ) call yc false 79 lim k (Code.at [1, 1, 1] c79) (sp 30 [(8, x8), (9, x9)]) H (kk none (fun s H => R (([4, 5] : List Nat).map fun t => s.getD t (.tup [])) H) [] R [4, 5]) = N79_1 ρ call yc lim k x8 x9 H R := by
  kernel_rfl
noncomputable def L79 (ρ : Addr → Option Value) (call : CallF) (yc : YieldF) (lim k : Nat) (x0 x1 : AV) (H : Heap) : Res :=
  condK (.bool false)
  (
    purK (cvI .u32 x0) fun x12 =>
    purK (cvI .u32 x1) fun x14 =>
    resK (call lim 98 [x12, x14] H) fun x15 H =>
    purK (extA 0 x15) fun x16 =>
    purK (extA 1 x15) fun x17 =>
    purK (cvI .u64 x16) fun x19 =>
    purK (cvI .u64 x17) fun x21 =>
    retK [x19, x21] H)
  (
    resK (call lim 99 [x0, x1] H) fun x25 H =>
    purK (extA 0 x25) fun x26 =>
    purK (extA 1 x25) fun x27 =>
    N79_1 ρ call yc lim k x26 x27 H retK)
theorem L79_x (ρ : Addr → Option Value) (call : CallF) (yc : YieldF) (lim k : Nat) (J : CodeF) (x0 x1 : AV) (H : Heap) :
    evX (cx ρ) call yc false 79 lim k J c79 [x0, x1, (.tup []), (.tup []), (.tup []), (.tup []), (.tup []), (.tup []), (.tup []), (.tup []), (.tup []), (.tup []), (.tup []), (.tup []), (.tup []), (.tup []), (.tup []), (.tup []), (.tup []), (.tup []), (.tup []), (.tup []), (.tup []), (.tup []), (.tup []), (.tup []), (.tup []), (.tup []), (.tup []), (.tup [])] H (kk none (fun s H => retK (([4, 5] : List Nat).map fun t => s.getD t (.tup [])) H) [] retK [4, 5]) =
  condK (.bool false)
  (
    purK (cvI .u32 x0) fun x12 =>
    purK (cvI .u32 x1) fun x14 =>
    resK (call lim 98 [x12, x14] H) fun x15 H =>
    purK (extA 0 x15) fun x16 =>
    purK (extA 1 x15) fun x17 =>
    purK (cvI .u64 x16) fun x19 =>
    purK (cvI .u64 x17) fun x21 =>
    retK [x19, x21] H)
  (
    resK (call lim 99 [x0, x1] H) fun x25 H =>
    purK (extA 0 x25) fun x26 =>
    purK (extA 1 x25) fun x27 =>
    J (Code.at [1, 1, 1] c79) (sp 30 [(8, x26), (9, x27)]) H (kk none (fun s H => retK (([4, 5] : List Nat).map fun t => s.getD t (.tup [])) H) [] retK [4, 5])) := by
  kernel_rfl
theorem G79 (ρ : Addr → Option Value) (call : CallF) (yc : YieldF) (lim k : Nat) (x0 x1 : AV) (H : Heap) :
    evL (cx ρ) call yc false 79 lim k c79 [x0, x1, (.tup []), (.tup []), (.tup []), (.tup []), (.tup []), (.tup []), (.tup []), (.tup []), (.tup []), (.tup []), (.tup []), (.tup []), (.tup []), (.tup []), (.tup []), (.tup []), (.tup []), (.tup []), (.tup []), (.tup []), (.tup []), (.tup []), (.tup []), (.tup []), (.tup []), (.tup []), (.tup []), (.tup [])] H (kk none (fun s H => retK (([4, 5] : List Nat).map fun t => s.getD t (.tup [])) H) [] retK [4, 5]) = L79 ρ call yc lim k x0 x1 H := by
  rw [evL_X, L79_x]
  simp only [← evL_X, L79, N79_1_eq]
theorem E79 (ρ : Addr → Option Value) (k lim : Nat) (x0 x1 : AV) (H : Heap) : evCall (cx ρ) (k + 1) lim 79 [x0, x1] H = L79 ρ (evCall (cx ρ) k) (evCY (cx ρ) k).2 lim k x0 x1 H := by
  rw [evCall_body (cx ρ) k lim 79 _ H Try.f79 c79 [4, 5] (by kernel_rfl) (by kernel_rfl) (by kernel_rfl) (by kernel_rfl) (by kernel_rfl)]
  exact G79 ρ (evCall (cx ρ) k) (evCY (cx ρ) k).2 lim k x0 x1 H
-- strings.HasPrefix
noncomputable def c80 : Code := Code.of Try.prog 80
noncomputable def L80 (ρ : Addr → Option Value) (call : CallF) (yc : YieldF) (lim k : Nat) (x0 x1 : AV) (H : Heap) : Res :=
  resK (call lim 100 [x0, x1] H) fun x7 H =>
  retK [x7] H
theorem G80 (ρ : Addr → Option Value) (call : CallF) (yc : YieldF) (lim k : Nat) (x0 x1 : AV) (H : Heap) :
    evL (cx ρ) call yc false 80 lim k c80 [x0, x1, (.tup []), (.tup []), (.tup []), (.tup []), (.tup []), (.tup [])] H (kk none (fun s H => retK (([4] : List Nat).map fun t => s.getD t (.tup [])) H) [] retK [4]) = L80 ρ call yc lim k x0 x1 H := by
  kernel_rfl
theorem E80 (ρ : Addr → Option Value) (k lim : Nat) (x0 x1 : AV) (H : Heap) : evCall (cx ρ) (k + 1) lim 80 [x0, x1] H = L80 ρ (evCall (cx ρ) k) (evCY (cx ρ) k).2 lim k x0 x1 H := by
  rw [evCall_body (cx ρ) k lim 80 _ H Try.f80 c80 [4] (by kernel_rfl) (by kernel_rfl) (by kernel_rfl) (by kernel_rfl) (by kernel_rfl)]
  exact G80 ρ (evCall (cx ρ) k) (evCY (cx ρ) k).2 lim k x0 x1 H
-- (*strings.Builder).Grow
noncomputable def c81 : Code := Code.of Try.prog 81
noncomputable def N81_1 (ρ : Addr → Option Value) (call : CallF) (yc : YieldF) (lim k : Nat) (x0 x1 : AV) (H : Heap) (R : List AV → Heap → Res) : Res :=
  purK (nilChkA x0) fun x10_1 =>
  purK (addA 1 x10_1) fun x11_1 =>
  purK (ld1 ρ H x11_1) fun x12_1 =>
  purK (capS x12_1) fun x13_1 =>
  purK (nilChkA x0) fun x15_1 =>
  purK (addA 1 x15_1) fun x16_1 =>
  purK (ld1 ρ H x16_1) fun x17_1 =>
  purK (lenS x17_1) fun x18_1 =>
  purK (binA Try.prog H .sub 3 x13_1 x18_1) fun x19_1 =>
  purK (binA Try.prog H .lss 3 x19_1 x1) fun x21_1 =>
  condK x21_1
  (
    resK (call lim 101 [x0, x1] H) fun x24_1 H =>
    R [] H)
  (
    R [] H)
theorem N81_1_eq (ρ : Addr → Option Value) (call : CallF) (yc : YieldF) (lim k : Nat) (x0 x1 : AV) (H : Heap) (R : List AV → Heap → Res) :
    evL (cx ρ) call yc false 81 lim k (Code.at [1, 1] c81) (sp 25 [(0, x0), (1, x1)]) H (kk none (fun s H => R (([] : List Nat).map fun t => s.getD t (.tup [])) H) [] R []) = N81_1 ρ call yc lim k x0 x1 H R := by
  kernel_rfl
noncomputable def L81 (ρ : Addr → Option Value) (call : CallF) (yc : YieldF) (lim k : Nat) (x0 x1 : AV) (H : Heap) : Res :=
  resK (call lim 57 [x0] H) fun x5 H =>
  purK (binA Try.prog H .lss 3 x1 (.int .i64 0)) fun x7 =>
  condK x7
  (
    effK H (none) fun _ H =>
    N81_1 ρ call yc lim k x0 x1 H retK)
  (
    N81_1 ρ call yc lim k x0 x1 H retK)
theorem L81_x (ρ : Addr → Option Value) (call : CallF) (yc : YieldF) (lim k : Nat) (J : CodeF) (x0 x1 : AV) (H : Heap) :
    evX (cx ρ) call yc false 81 lim k J c81 [x0, x1, (.tup []), (.tup []), (.tup []), (.tup []), (.tup []), (.tup []), (.tup []), (.tup []), (.tup []), (.tup []), (.tup []), (.tup []), (.tup []), (.tup []), (.tup []), (.tup []), (.tup []), (.tup []), (.tup []), (.tup []), (.tup []), (.tup []), (.tup [])] H (kk none (fun s H => retK (([] : List Nat).map fun t => s.getD t (.tup [])) H) [] retK []) =
  resK (call lim 57 [x0] H) fun x5 H =>
  purK (binA Try.prog H .lss 3 x1 (.int .i64 0)) fun x7 =>
  condK x7
  (
    effK H (none) fun _ H =>
    J (Code.at [1, 1] c81) (sp 25 [(0, x0), (1, x1)]) H (kk none (fun s H => retK (([] : List Nat).map fun t => s.getD t (.tup [])) H) [] retK []))
  (
    J (Code.at [1, 1] c81) (sp 25 [(0, x0), (1, x1)]) H (kk none (fun s H => retK (([] : List Nat).map fun t => s.getD t (.tup [])) H) [] retK [])) := by
  kernel_rfl
theorem G81 (ρ : Addr → Option Value) (call : CallF) (yc : YieldF) (lim k : Nat) (x0 x1 : AV) (H : Heap) :
    evL (cx ρ) call yc false 81 lim k c81 [x0, x1, (.tup []), (.tup []), (.tup []), (.tup []), (.tup []), (.tup []), (.tup []), (.tup []), (.tup []), (.tup []), (.tup []), (.tup []), (.tup []), (.tup []), (.tup []), (.tup []), (.tup []), (.tup []), (.tup []), (.tup []), (.tup []), (.tup []), (.tup [])] H (kk none (fun s H => retK (([] : List Nat).map fun t => s.getD t (.tup [])) H) [] retK []) = L81 ρ call yc lim k x0 x1 H := by
  rw [evL_X, L81_x]
  simp only [← evL_X, L81, N81_1_eq]
theorem E81 (ρ : Addr → Option Value) (k lim : Nat) (x0 x1 : AV) (H : Heap) : evCall (cx ρ) (k + 1) lim 81 [x0, x1] H = L81 ρ (evCall (cx ρ) k) (evCY (cx ρ) k).2 lim k x0 x1 H := by
  rw [evCall_body (cx ρ) k lim 81 _ H Try.f81 c81 [] (by kernel_rfl) (by kernel_rfl) (by kernel_rfl) (by kernel_rfl) (by kernel_rfl)]
  exact G81 ρ (evCall (cx ρ) k) (evCY (cx ρ) k).2 lim k x0 x1 H
-- (*strings.Builder).Len
noncomputable def c82 : Code := Code.of Try.prog 82
noncomputable def L82 (ρ : Addr → Option Value) (call : CallF) (yc : YieldF) (lim k : Nat) (x0 : AV) (H : Heap) : Res :=
  purK (nilChkA x0) fun x4 =>
  purK (addA 1 x4) fun x5 =>
  purK (ld1 ρ H x5) fun x6 =>
  purK (lenS x6) fun x7 =>
  retK [x7] H
theorem G82 (ρ : Addr → Option Value) (call : CallF) (yc : YieldF) (lim k : Nat) (x0 : AV) (H : Heap) :
    evL (cx ρ) call yc false 82 lim k c82 [x0, (.tup []), (.tup []), (.tup []), (.tup []), (.tup []), (.tup []), (.tup [])] H (kk none (fun s H => retK (([2] : List Nat).map fun t => s.getD t (.tup [])) H) [] retK [2]) = L82 ρ call yc lim k x0 H := by
  kernel_rfl
theorem E82 (ρ : Addr → Option Value) (k lim : Nat) (x0 : AV) (H : Heap) : evCall (cx ρ) (k + 1) lim 82 [x0] H = L82 ρ (evCall (cx ρ) k) (evCY (cx ρ) k).2 lim k x0 H := by
  rw [evCall_body (cx ρ) k lim 82 _ H Try.f82 c82 [2] (by kernel_rfl) (by kernel_rfl) (by kernel_rfl) (by kernel_rfl) (by kernel_rfl)]
  exact G82 ρ (evCall (cx ρ) k) (evCY (cx ρ) k).2 lim k x0 H
-- math/bits.Mul32
noncomputable def c98 : Code := Code.of Try.prog 98
noncomputable def L98 (ρ : Addr → Option Value) (call : CallF) (yc : YieldF) (lim k : Nat) (x0 x1 : AV) (H : Heap) : Res :=
  purK (cvI .u64 x0) fun x8 =>
  purK (cvI .u64 x1) fun x10 =>
  purK (binA Try.prog H .mul 49 x8 x10) fun x11 =>
  purK (binA Try.prog H .shr 49 x11 (.int .u64 32)) fun x13 =>
  purK (cvI .u32 x13) fun x14 =>
  purK (cvI .u32 x11) fun x16 =>
  retK [x14, x16] H
theorem G98 (ρ : Addr → Option Value) (call : CallF) (yc : YieldF) (lim k : Nat) (x0 x1 : AV) (H : Heap) :
    evL (cx ρ) call yc false 98 lim k c98 [x0, x1, (.tup []), (.tup []), (.tup []), (.tup []), (.tup []), (.tup []), (.tup []), (.tup []), (.tup []), (.tup []), (.tup []), (.tup []), (.tup []), (.tup []), (.tup [])] H (kk none (fun s H => retK (([4, 5] : List Nat).map fun t => s.getD t (.tup [])) H) [] retK [4, 5]) = L98 ρ call yc lim k x0 x1 H := by
  kernel_rfl
theorem E98 (ρ : Addr → Option Value) (k lim : Nat) (x0 x1 : AV) (H : Heap) : evCall (cx ρ) (k + 1) lim 98 [x0, x1] H = L98 ρ (evCall (cx ρ) k) (evCY (cx ρ) k).2 lim k x0 x1 H := by
  rw [evCall_body (cx ρ) k lim 98 _ H Try.f98 c98 [4, 5] (by kernel_rfl) (by kernel_rfl) (by kernel_rfl) (by kernel_rfl) (by kernel_rfl)]
  exact G98 ρ (evCall (cx ρ) k) (evCY (cx ρ) k).2 lim k x0 x1 H
-- math/bits.Mul64
noncomputable def c99 : Code := Code.of Try.prog 99
noncomputable def N99_1 (ρ : Addr → Option Value) (call : CallF) (yc : YieldF) (lim k : Nat) (x0 x1 x6 x7 x9 x11 : AV) (H : Heap) (R : List AV → Heap → Res) : Res :=
  purK (binA Try.prog H .and 49 x11 (.int .u64 4294967295)) fun x32_1 =>
  purK (binA Try.prog H .shr 49 x11 (.int .u64 32)) fun x34_1 =>
  purK (binA Try.prog H .mul 49 x6 x9) fun x38_1 =>
  purK (binA Try.prog H .add 49 x32_1 x38_1) fun x39_1 =>
  purK (binA Try.prog H .mul 49 x7 x9) fun x42_1 =>
  purK (binA Try.prog H .add 49 x42_1 x34_1) fun x44_1 =>
  purK (binA Try.prog H .shr 49 x39_1 (.int .u64 32)) fun x46_1 =>
  purK (binA Try.prog H .add 49 x44_1 x46_1) fun x47_1 =>
  purK (binA Try.prog H .mul 49 x0 x1) fun x50_1 =>
  R [x47_1, x50_1] H
theorem N99_1_eq (ρ : Addr → Option Value) (call : CallF) (yc : YieldF) (lim k : Nat) (x0 x1 x6 x7 x9 x11 : AV) (H : Heap) (R : List AV → Heap → Res) :
    evL (cx ρ) call yc false 99 lim k (Code.at [1, 1, 1, 1, 1, 1, 1] c99) (sp 51 [(0, x0), (1, x1), (6, x6), (7, x7), (9, x9), (11, x11)]) H (kk none (fun s H => R (([4, 5] : List Nat).map fun t => s.getD t (.tup [])) H) [] R [4, 5]) = N99_1 ρ call yc lim k x0 x1 x6 x7 x9 x11 H R := by
  kernel_rfl
noncomputable def L99 (ρ : Addr → Option Value) (call : CallF) (yc : YieldF) (lim k : Nat) (x0 x1 : AV) (H : Heap) : Res :=
  purK (binA Try.prog H .and 49 x0 (.int .u64 4294967295)) fun x15 =>
  purK (binA Try.prog H .shr 49 x0 (.int .u64 32)) fun x17 =>
  purK (binA Try.prog H .and 49 x1 (.int .u64 4294967295)) fun x19 =>
  purK (binA Try.prog H .shr 49 x1 (.int .u64 32)) fun x21 =>
  purK (binA Try.prog H .mul 49 x15 x19) fun x24 =>
  purK (binA Try.prog H .mul 49 x17 x19) fun x27 =>
  purK (binA Try.prog H .shr 49 x24 (.int .u64 32)) fun x29 =>
  purK (binA Try.prog H .add 49 x27 x29) fun x30 =>
  N99_1 ρ call yc lim k x0 x1 x15 x17 x21 x30 H retK
theorem L99_x (ρ : Addr → Option Value) (call : CallF) (yc : YieldF) (lim k : Nat) (J : CodeF) (x0 x1 : AV) (H : Heap) :
    evX (cx ρ) call yc false 99 lim k J c99 [x0, x1, (.tup []), (.tup []), (.tup []), (.tup []), (.tup []), (.tup []), (.tup []), (.tup []), (.tup []), (.tup []), (.tup []), (.tup []), (.tup []), (.tup []), (.tup []), (.tup []), (.tup []), (.tup []), (.tup []), (.tup []), (.tup []), (.tup []), (.tup []), (.tup []), (.tup []), (.tup []), (.tup []), (.tup []), (.tup []), (.tup []), (.tup []), (.tup []), (.tup []), (.tup []), (.tup []), (.tup []), (.tup []), (.tup []), (.tup []), (.tup []), (.tup []), (.tup []), (.tup []), (.tup []), (.tup []), (.tup []), (.tup []), (.tup []), (.tup [])] H (kk none (fun s H => retK (([4, 5] : List Nat).map fun t => s.getD t (.tup [])) H) [] retK [4, 5]) =
  purK (binA Try.prog H .and 49 x0 (.int .u64 4294967295)) fun x15 =>
  purK (binA Try.prog H .shr 49 x0 (.int .u64 32)) fun x17 =>
  purK (binA Try.prog H .and 49 x1 (.int .u64 4294967295)) fun x19 =>
  purK (binA Try.prog H .shr 49 x1 (.int .u64 32)) fun x21 =>
  purK (binA Try.prog H .mul 49 x15 x19) fun x24 =>
  purK (binA Try.prog H .mul 49 x17 x19) fun x27 =>
  purK (binA Try.prog H .shr 49 x24 (.int .u64 32)) fun x29 =>
  purK (binA Try.prog H .add 49 x27 x29) fun x30 =>
  J (Code.at [1, 1, 1, 1, 1, 1, 1] c99) (sp 51 [(0, x0), (1, x1), (6, x15), (7, x17), (9, x21), (11, x30)]) H (kk none (fun s H => retK (([4, 5] : List Nat).map fun t => s.getD t (.tup [])) H) [] retK [4, 5]) := by
  kernel_rfl
theorem G99 (ρ : Addr → Option Value) (call : CallF) (yc : YieldF) (lim k : Nat) (x0 x1 : AV) (H : Heap) :
    evL (cx ρ) call yc false 99 lim k c99 [x0, x1, (.tup []), (.tup []), (.tup []), (.tup []), (.tup []), (.tup []), (.tup []), (.tup []), (.tup []), (.tup []), (.tup []), (.tup []), (.tup []), (.tup []), (.tup []), (.tup []), (.tup []), (.tup []), (.tup []), (.tup []), (.tup []), (.tup []), (.tup []), (.tup []), (.tup []), (.tup []), (.tup []), (.tup []), (.tup []), (.tup []), (.tup []), (.tup []), (.tup []), (.tup []), (.tup []), (.tup []), (.tup []), (.tup []), (.tup []), (.tup []), (.tup []), (.tup []), (.tup []), (.tup []), (.tup []), (.tup []), (.tup []), (.tup []), (.tup [])] H (kk none (fun s H => retK (([4, 5] : List Nat).map fun t => s.getD t (.tup [])) H) [] retK [4, 5]) = L99 ρ call yc lim k x0 x1 H := by
  rw [evL_X, L99_x]
  simp only [← evL_X, L99, N99_1_eq]
theorem E99 (ρ : Addr → Option Value) (k lim : Nat) (x0 x1 : AV) (H : Heap) : evCall (cx ρ) (k + 1) lim 99 [x0, x1] H = L99 ρ (evCall (cx ρ) k) (evCY (cx ρ) k).2 lim k x0 x1 H := by
  rw [evCall_body (cx ρ) k lim 99 _ H Try.f99 c99 [4, 5] (by kernel_rfl) (by kernel_rfl) (by kernel_rfl) (by kernel_rfl) (by kernel_rfl)]
  exact G99 ρ (evCall (cx ρ) k) (evCY (cx ρ) k).2 lim k x0 x1 H
-- internal/stringslite.HasPrefix
noncomputable def c100 : Code := Code.of Try.prog 100
noncomputable def L100 (ρ : Addr → Option Value) (call : CallF) (yc : YieldF) (lim k : Nat) (x0 x1 : AV) (H : Heap) : Res :=
  purK (lenT x0) fun x6 =>
  purK (lenT x1) fun x8 =>
  purK (binA Try.prog H .geq 3 x6 x8) fun x9 =>
  purK (gPur (wantV x9 true) (some x0)) fun x11 =>
  purK (gPur (wantV x9 true) (some x1)) fun x12 =>
  purK (gPur (wantV x9 true) (lenT x12)) fun x13 =>
  purK (gPur (wantV x9 true) (slT x11 none (some x13))) fun x14 =>
  purK (gPur (wantV x9 true) (some x1)) fun x15 =>
  purK (gPur (wantV x9 true) (binA Try.prog H .eql 9 x14 x15)) fun x16 =>
  purK (pickA x9 x16 (.bool false)) fun x17 =>
  retK [x17] H
theorem G100 (ρ : Addr → Option Value) (call : CallF) (yc : YieldF) (lim k : Nat) (x0 x1 : AV) (H : Heap) :
    evL (cx ρ) call yc false 100 lim k c100 [x0, x1, (.tup []), (.tup []), (.tup []), (.tup []), (.tup []), (.tup []), (.tup []), (.tup []), (.tup []), (.tup []), (.tup []), (.tup []), (.tup []), (.tup []), (.tup []), (.tup [])] H (kk none (fun s H => retK (([4] : List Nat).map fun t => s.getD t (.tup [])) H) [] retK [4]) = L100 ρ call yc lim k x0 x1 H := by
  kernel_rfl
theorem E100 (ρ : Addr → Option Value) (k lim : Nat) (x0 x1 : AV) (H : Heap) : evCall (cx ρ) (k + 1) lim 100 [x0, x1] H = L100 ρ (evCall (cx ρ) k) (evCY (cx ρ) k).2 lim k x0 x1 H := by
  rw [evCall_body (cx ρ) k lim 100 _ H Try.f100 c100 [4] (by kernel_rfl) (by kernel_rfl) (by kernel_rfl) (by kernel_rfl) (by kernel_rfl)]
  exact G100 ρ (evCall (cx ρ) k) (evCY (cx ρ) k).2 lim k x0 x1 H
-- (*strings.Builder).grow
noncomputable def c101 : Code := Code.of Try.prog 101
noncomputable def L101 (ρ : Addr → Option Value) (call : CallF) (yc : YieldF) (lim k : Nat) (x0 x1 : AV) (H : Heap) : Res :=
  purK (nilChkA x0) fun x6 =>
  purK (addA 1 x6) fun x7 =>
  purK (ld1 ρ H x7) fun x8 =>
  purK (capS x8) fun x9 =>
  purK (binA Try.prog H .mul 3 (.int .i64 2) x9) fun x10 =>
  purK (binA Try.prog H .add 3 x10 x1) fun x12 =>
  purK (nilChkA x0) fun x15 =>
  purK (addA 1 x15) fun x16 =>
  purK (ld1 ρ H x16) fun x17 =>
  purK (lenS x17) fun x18 =>
  resK (call lim 108 [x12] H) fun x13 H => bif (agn (lenS x17) x18 && (agn (ld1 ρ H x16) x17 && true)) then
    purK (slS 1 x13 none (some x18) none) fun x19 =>
    purK (nilChkA x0) fun x22 =>
    purK (addA 1 x22) fun x23 =>
    purK (ld1 ρ H x23) fun x24 =>
    effK H (builtinA (cx ρ) lim H .copy #[65, 65] [x19, x24]) fun x25 H =>
    purK (nilChkA x0) fun x28 =>
    purK (addA 1 x28) fun x29 =>
    effK H (stA lim H 1 x29 x19) fun _ H =>
    retK [] H
  else none
theorem G101 (ρ : Addr → Option Value) (call : CallF) (yc : YieldF) (lim k : Nat) (x0 x1 : AV) (H : Heap) :
    evL (cx ρ) call yc false 101 lim k c101 [x0, x1, (.tup []), (.tup []), (.tup []), (.tup []), (.tup []), (.tup []), (.tup []), (.tup []), (.tup []), (.tup []), (.tup []), (.tup []), (.tup []), (.tup []), (.tup []), (.tup []), (.tup []), (.tup []), (.tup []), (.tup []), (.tup []), (.tup []), (.tup []), (.tup []), (.tup []), (.tup []), (.tup []), (.tup [])] H (kk none (fun s H => retK (([] : List Nat).map fun t => s.getD t (.tup [])) H) [] retK []) = L101 ρ call yc lim k x0 x1 H := by
  kernel_rfl
theorem E101 (ρ : Addr → Option Value) (k lim : Nat) (x0 x1 : AV) (H : Heap) : evCall (cx ρ) (k + 1) lim 101 [x0, x1] H = L101 ρ (evCall (cx ρ) k) (evCY (cx ρ) k).2 lim k x0 x1 H := by
  rw [evCall_body (cx ρ) k lim 101 _ H Try.f101 c101 [] (by kernel_rfl) (by kernel_rfl) (by kernel_rfl) (by kernel_rfl) (by kernel_rfl)]
  exact G101 ρ (evCall (cx ρ) k) (evCY (cx ρ) k).2 lim k x0 x1 H
end Go.Proofs.Ytkmohjddojpdjaa
