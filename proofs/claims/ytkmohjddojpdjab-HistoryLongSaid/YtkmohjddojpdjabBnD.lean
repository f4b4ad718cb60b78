/- Part 4: HlTab Hl0 Hl1 Hl2 Hl3 Hl4 Hl5 Hl6. -/
import Derived.Test.YtkmohjddojpdjabBnB
import Derived.Test.YtkmohjddojpdjabProg
import Derived.KernelRfl
-- part HlTab
/- The tables of the program: what is live, how draws go. Printed by a program of this repo. -/
set_option linter.unusedVariables false
namespace Go.Proofs.Ytkmohjddojpdjab
open Go.Ev Go.RowKit
abbrev gs (l : List Nat) (s : List AV) : List AV := l.map fun t => s.getD t (.tup [])
abbrev RO := Addr → Option Value
abbrev KR := List AV → Heap → Res
def dr : FuncId → Nat → Option (List (Nat × Bool))
 | 8,8 => some [(0,true),(1,true),(2,true),(3,true),(4,true),(5,true),(6,true),(7,true),(9,true),(10,true),(11,true),(12,true),(13,true),(14,true),(8,false),(15,false),(16,true),(17,true),(18,false),(19,true),(20,true),(21,false)]
 | 10,3 => some [(0,true),(1,true),(2,true),(3,true),(4,true),(5,true),(6,true),(7,true),(8,true),(9,true),(10,true),(11,true),(12,true),(13,true),(14,false),(15,false)]
 | _,_ => none
def xk : FuncId → Option XK
 | _ => none
def lv3 : Nat → Option (List Nat)
 | 6 => some [1,2,5,6]
 | 9 => some [2,5]
 | 12 => some [5,7,8,9,10,12,13]
 | 15 => some [5,8,9,10,12,13,14,15]
 | _ => none
def lv4 : Nat → Option (List Nat)
 | 4 => some [2,3,4,5]
 | _ => none
def lv5 : Nat → Option (List Nat)
 | 7 => some [7,9]
 | _ => none
def lv6 : Nat → Option (List Nat)
 | 7 => some [9,10,24,25,26]
 | 12 => some [9,10,24,25,26]
 | 13 => some [9,10]
 | _ => none
def lv7 : Nat → Option (List Nat)
 | 5 => some [0,4,14,15,16]
 | 12 => some [4]
 | _ => none
def lv8 : Nat → Option (List Nat)
 | 5 => some [1,6,21,22,23]
 | 9 => some [1,6,21,22,23]
 | 10 => some [6]
 | 13 => some [6,63,64,65]
 | 17 => some [6,9,10,11,63,64,65,73,74,75]
 | 21 => some [6,9,10,11,63,64,65,73,74,75]
 | 22 => some [6,9,10,11,63,64,65]
 | 25 => some [6,63,64,65]
 | 26 => some [6]
 | _ => none
def lv10 : Nat → Option (List Nat)
 | 2 => some [0,3,5]
 | 5 => some [5]
 | _ => none
def lv14 : Nat → Option (List Nat)
 | 3 => some [3,6,7,8]
 | 7 => some [3]
 | _ => none
def lv15 : Nat → Option (List Nat)
 | 5 => some [0,1,5,6]
 | 6 => some [0,1,5,6]
 | 11 => some [0,5]
 | _ => none
def lv16 : Nat → Option (List Nat)
 | 4 => some [0,3,4,5]
 | 5 => some [0,3,4,5]
 | 7 => some [0,3,4,5,24,25]
 | 12 => some [0,3,4,5,6,7,24,25]
 | 14 => some [0,3,4,5,24,25]
 | 15 => some [3]
 | _ => none
def lv18 : Nat → Option (List Nat)
 | 1 => some [0,2,3]
 | _ => none
def lv21 : Nat → Option (List Nat)
 | 1 => some [0,5]
 | _ => none
def lv24 : Nat → Option (List Nat)
 | 4 => some [0,3]
 | 5 => some [0,3]
 | 9 => some [0,3,4,5]
 | 10 => some [0,3,4,5]
 | 14 => some [0,3]
 | 16 => some [0]
 | _ => none
def lv25 : Nat → Option (List Nat)
 | 2 => some [0,1,7,8]
 | 7 => some []
 | _ => none
def lv26 : Nat → Option (List Nat)
 | 5 => some [2,4,6,8]
 | 8 => some [2,4,6,10,11]
 | 1000004 => some [2,4,6,8,50]
 | 1000007 => some [2,4,6,10,11,73]
 | _ => none
def lv28 : Nat → Option (List Nat)
 | 2 => some [0,1,2,3,8,9]
 | 10 => some [0,1,2,3,8,9,10]
 | 15 => some [0,1,2,3,8,9,10,11,12]
 | 17 => some [0,1,2,3,8,9,10,11]
 | 19 => some [0,2,3,8,9,13]
 | 20 => some [0,1,2,3,10,11]
 | 21 => some [0,1,2,3,10,14,15]
 | 27 => some [0,2,3,8,9,14]
 | 30 => some [0,1,3,8,9,14]
 | 1000016 => some [0,1,2,3,8,9,10,11,68]
 | _ => none
def lv30 : Nat → Option (List Nat)
 | 2 => some [0,1,7,8]
 | 7 => some []
 | _ => none
def lv31 : Nat → Option (List Nat)
 | 3 => some [0,1,5,8]
 | _ => none
def lv32 : Nat → Option (List Nat)
 | 1 => some [0,1,2,6]
 | 2 => some [0,1,2,6]
 | 4 => some [0,1,2,6,7]
 | 5 => some [0,1,2,6,7]
 | _ => none
def lv33 : Nat → Option (List Nat)
 | 4 => some [0,6,7,8,9]
 | 7 => some [0,6,7,8]
 | 8 => some [0,6,7,10]
 | 9 => some [0,6,7,10]
 | _ => none
def lv34 : Nat → Option (List Nat)
 | 5 => some [0,1,6,7,8,9]
 | 6 => some [0,1,6,7,8,9]
 | 10 => some [0,1,6,7,8,9,10]
 | _ => none
def lv35 : Nat → Option (List Nat)
 | 6 => some [0,8,9,10,11,12]
 | 11 => some [0,9,10,11,12]
 | 12 => some [9,11]
 | 1000015 => some [11,49,51]
 | _ => none
def lv36 : Nat → Option (List Nat)
 | 2 => some [0,6,7]
 | _ => none
def lv37 : Nat → Option (List Nat)
 | 3 => some [0,1,2,7,8]
 | 4 => some [0,1,2,7,8]
 | 5 => some [0,1,2,7,8]
 | 7 => some [0,1,2,7,8]
 | 12 => some [0,1,2,7,8]
 | 14 => some [0,1,2,7,8,9]
 | 15 => some [0,1,2,7,8,9]
 | 18 => some [0,1,2,7,8]
 | 20 => some [0,1,2,7,8,10]
 | 21 => some [0,1,2,7,8,10]
 | 24 => some []
 | _ => none
def lv39 : Nat → Option (List Nat)
 | 3 => some [0,1,9,10]
 | 5 => some [0,1,9,10]
 | 7 => some [0,1,9,10]
 | 11 => some [9]
 | _ => none
def lv40 : Nat → Option (List Nat)
 | 3 => some [0,1,10,11]
 | 5 => some [0,1,10,11]
 | 7 => some [0,1,10,11]
 | 11 => some [0,1,10,11]
 | 13 => some [0,1,10,11]
 | 15 => some [0,1,10,11]
 | 17 => some [0,1,10,11]
 | 21 => some [0,1,11]
 | _ => none
def lv41 : Nat → Option (List Nat)
 | 4 => some [0,2]
 | 7 => some [0,2]
 | _ => none
def lv42 : Nat → Option (List Nat)
 | 4 => some [0,2]
 | 7 => some [0,2]
 | 10 => some [0,2]
 | _ => none
def lv44 : Nat → Option (List Nat)
 | 1 => some [0,2,3,8]
 | 5 => some [0,2,3,8,9]
 | 7 => some [0,2,3,9]
 | 1000004 => some [0,2,3,8,9,36]
 | _ => none
def lv46 : Nat → Option (List Nat)
 | 4 => some [0]
 | _ => none
def lv48 : Nat → Option (List Nat)
 | 4 => some [2]
 | _ => none
def lv53 : Nat → Option (List Nat)
 | 7 => some [0,1,6,24,25]
 | 11 => some [0,1,6]
 | 14 => some [1,6,51,52,53]
 | 19 => some [1,6]
 | _ => none
def lv54 : Nat → Option (List Nat)
 | 3 => some [0,3,12,13]
 | 7 => some [3]
 | _ => none
def lv : FuncId → Nat → Option (List Nat)
 | 3 => lv3
 | 4 => lv4
 | 5 => lv5
 | 6 => lv6
 | 7 => lv7
 | 8 => lv8
 | 10 => lv10
 | 14 => lv14
 | 15 => lv15
 | 16 => lv16
 | 18 => lv18
 | 21 => lv21
 | 24 => lv24
 | 25 => lv25
 | 26 => lv26
 | 28 => lv28
 | 30 => lv30
 | 31 => lv31
 | 32 => lv32
 | 33 => lv33
 | 34 => lv34
 | 35 => lv35
 | 36 => lv36
 | 37 => lv37
 | 39 => lv39
 | 40 => lv40
 | 41 => lv41
 | 42 => lv42
 | 44 => lv44
 | 46 => lv46
 | 48 => lv48
 | 53 => lv53
 | 54 => lv54
 | _ => fun _ => none
noncomputable def cx (ρ : RO) : Ctx := { P := Try.prog,ext := xk,ρ := ρ,live := lv,draw := dr,pur := fun _ => false,strict := false }
end Go.Proofs.Ytkmohjddojpdjab

-- part Hl0
/- Functions, lifted. Printed by a program of this repo. -/
set_option linter.unusedVariables false
set_option linter.unusedSimpArgs false
set_option maxRecDepth 100000
set_option maxHeartbeats 4000000
namespace Go.Proofs.Ytkmohjddojpdjab
open Go.Ev Go.RowKit
-- haycroft/haycroftlaw20.HistoryLong
noncomputable def c3 : Code := Code.of Try.prog 3
noncomputable def N3_3 (ρ : RO) (call : CallF) (yc : YieldF) (lim k : Nat) (x5 x8 x9 x10 x12 x13 x14 x15 : AV) (H : Heap) (R : KR) : Res :=
 purK (lenS x8) fun x91_1 =>
 purK (lenS x5) fun x93_1 =>
 purK (binA Try.prog H .eql 3 x91_1 x93_1) fun x94_1 =>
 purK (gPur (wantV x94_1 true) (some x9)) fun x96_1 =>
 purK (pickA x94_1 x96_1 (.bool false)) fun x97_1 =>
 purK (gPur (wantV x97_1 true) (some x10)) fun x99_1 =>
 purK (gPur (wantV x97_1 true) (binA Try.prog H .eql 27 x99_1 (.int .i64 0))) fun x100_1 =>
 purK (pickA x97_1 x100_1 (.bool false)) fun x101_1 =>
 purK (gPur (wantV x101_1 true) (some x12)) fun x103_1 =>
 purK (pickA x101_1 x103_1 (.bool false)) fun x104_1 =>
 purK (gPur (wantV x104_1 true) (some x13)) fun x106_1 =>
 purK (gPur (wantV x104_1 true) (binA Try.prog H .eql 27 x106_1 (.int .i64 0))) fun x107_1 =>
 purK (pickA x104_1 x107_1 (.bool false)) fun x108_1 =>
 purK (gPur (wantV x108_1 true) (some x14)) fun x110_1 =>
 purK (pickA x108_1 x110_1 (.bool false)) fun x111_1 =>
 purK (gPur (wantV x111_1 true) (some x15)) fun x113_1 =>
 purK (gPur (wantV x111_1 true) (binA Try.prog H .eql 27 x113_1 (.int .i64 0))) fun x114_1 =>
 purK (pickA x111_1 x114_1 (.bool false)) fun x115_1 =>
 R [x115_1] H
theorem N3_3_eq (ρ call yc lim k x5 x8 x9 x10 x12 x13 x14 x15 H R) :
 evL (cx ρ) call yc false 3 lim k (Code.at [1,1,1,1,1,1,1,1,1,1] c3) (sp 116 [(5,x5),(8,x8),(9,x9),(10,x10),(12,x12),(13,x13),(14,x14),(15,x15)]) H (kk none (fun s H => R (gs [4] s) H) [] R [4]) = N3_3 ρ call yc lim k x5 x8 x9 x10 x12 x13 x14 x15 H R := by
 kernel_rfl
noncomputable def N3_2 (ρ : RO) (call : CallF) (yc : YieldF) (lim k : Nat) (x5 x7 x8 x9 x10 x12 x13 : AV) (H : Heap) (R : KR) : Res :=
 resK (call lim 7 [x5] H) fun x59_1 H =>
 purK (extA 0 x59_1) fun x60_1 =>
 purK (extA 1 x59_1) fun x61_1 =>
 condK x7
 (
 purK (lenS x8) fun x64_1 =>
 purK (binA Try.prog H .eql 3 x64_1 (.int .i64 0)) fun x65_1 =>
 purK (gPur (wantV x65_1 true) (some x9)) fun x67_1 =>
 purK (gPur (wantV x65_1 true) (unA .not x67_1)) fun x68_1 =>
 purK (pickA x65_1 x68_1 (.bool false)) fun x69_1 =>
 purK (gPur (wantV x69_1 true) (some x10)) fun x71_1 =>
 purK (gPur (wantV x69_1 true) (binA Try.prog H .eql 27 x71_1 (.int .i64 5))) fun x72_1 =>
 purK (pickA x69_1 x72_1 (.bool false)) fun x73_1 =>
 purK (gPur (wantV x73_1 true) (some x12)) fun x75_1 =>
 purK (gPur (wantV x73_1 true) (unA .not x75_1)) fun x76_1 =>
 purK (pickA x73_1 x76_1 (.bool false)) fun x77_1 =>
 purK (gPur (wantV x77_1 true) (some x13)) fun x79_1 =>
 purK (gPur (wantV x77_1 true) (binA Try.prog H .eql 27 x79_1 (.int .i64 5))) fun x80_1 =>
 purK (pickA x77_1 x80_1 (.bool false)) fun x81_1 =>
 purK (gPur (wantV x81_1 true) (some x60_1)) fun x83_1 =>
 purK (gPur (wantV x81_1 true) (unA .not x83_1)) fun x84_1 =>
 purK (pickA x81_1 x84_1 (.bool false)) fun x85_1 =>
 purK (gPur (wantV x85_1 true) (some x61_1)) fun x87_1 =>
 purK (gPur (wantV x85_1 true) (binA Try.prog H .eql 27 x87_1 (.int .i64 5))) fun x88_1 =>
 purK (pickA x85_1 x88_1 (.bool false)) fun x89_1 =>
 R [x89_1] H)
 (
 N3_3 ρ call yc lim k x5 x8 x9 x10 x12 x13 x60_1 x61_1 H R)
theorem N3_2_x (ρ call yc lim k J x5 x7 x8 x9 x10 x12 x13 H R) :
 evX (cx ρ) call yc false 3 lim k J (Code.at [1,1,1,1,1,1,1,1] c3) (sp 116 [(5,x5),(7,x7),(8,x8),(9,x9),(10,x10),(12,x12),(13,x13)]) H (kk none (fun s H => R (gs [4] s) H) [] R [4]) =
 resK (call lim 7 [x5] H) fun x59_1 H =>
 purK (extA 0 x59_1) fun x60_1 =>
 purK (extA 1 x59_1) fun x61_1 =>
 condK x7
 (
 purK (lenS x8) fun x64_1 =>
 purK (binA Try.prog H .eql 3 x64_1 (.int .i64 0)) fun x65_1 =>
 purK (gPur (wantV x65_1 true) (some x9)) fun x67_1 =>
 purK (gPur (wantV x65_1 true) (unA .not x67_1)) fun x68_1 =>
 purK (pickA x65_1 x68_1 (.bool false)) fun x69_1 =>
 purK (gPur (wantV x69_1 true) (some x10)) fun x71_1 =>
 purK (gPur (wantV x69_1 true) (binA Try.prog H .eql 27 x71_1 (.int .i64 5))) fun x72_1 =>
 purK (pickA x69_1 x72_1 (.bool false)) fun x73_1 =>
 purK (gPur (wantV x73_1 true) (some x12)) fun x75_1 =>
 purK (gPur (wantV x73_1 true) (unA .not x75_1)) fun x76_1 =>
 purK (pickA x73_1 x76_1 (.bool false)) fun x77_1 =>
 purK (gPur (wantV x77_1 true) (some x13)) fun x79_1 =>
 purK (gPur (wantV x77_1 true) (binA Try.prog H .eql 27 x79_1 (.int .i64 5))) fun x80_1 =>
 purK (pickA x77_1 x80_1 (.bool false)) fun x81_1 =>
 purK (gPur (wantV x81_1 true) (some x60_1)) fun x83_1 =>
 purK (gPur (wantV x81_1 true) (unA .not x83_1)) fun x84_1 =>
 purK (pickA x81_1 x84_1 (.bool false)) fun x85_1 =>
 purK (gPur (wantV x85_1 true) (some x61_1)) fun x87_1 =>
 purK (gPur (wantV x85_1 true) (binA Try.prog H .eql 27 x87_1 (.int .i64 5))) fun x88_1 =>
 purK (pickA x85_1 x88_1 (.bool false)) fun x89_1 =>
 R [x89_1] H)
 (
 J (Code.at [1,1,1,1,1,1,1,1,1,1] c3) (sp 116 [(5,x5),(8,x8),(9,x9),(10,x10),(12,x12),(13,x13),(14,x60_1),(15,x61_1)]) H (kk none (fun s H => R (gs [4] s) H) [] R [4])) := by
 kernel_rfl
theorem N3_2_eq (ρ call yc lim k x5 x7 x8 x9 x10 x12 x13 H R) :
 evL (cx ρ) call yc false 3 lim k (Code.at [1,1,1,1,1,1,1,1] c3) (sp 116 [(5,x5),(7,x7),(8,x8),(9,x9),(10,x10),(12,x12),(13,x13)]) H (kk none (fun s H => R (gs [4] s) H) [] R [4]) = N3_2 ρ call yc lim k x5 x7 x8 x9 x10 x12 x13 H R := by
 rw [evL_X,N3_2_x]
 simp only [← evL_X,N3_2,N3_3_eq]
noncomputable def N3_1 (ρ : RO) (call : CallF) (yc : YieldF) (lim k : Nat) (x2 x5 : AV) (H : Heap) (R : KR) : Res :=
 purK (lenS x5) fun x39_1 =>
 purK (binA Try.prog H .gtr 3 x39_1 (.int .i64 16)) fun x40_1 =>
 purK (addA 1 x2) fun x43_1 =>
 purK (ld1 ρ H x43_1) fun x44_1 =>
 resK (call lim 5 [x5,x44_1] H) fun x45_1 H =>
 purK (extA 0 x45_1) fun x46_1 =>
 purK (extA 1 x45_1) fun x47_1 =>
 purK (extA 2 x45_1) fun x48_1 =>
 purK (addA 1 x2) fun x51_1 =>
 purK (ld1 ρ H x51_1) fun x52_1 =>
 resK (call lim 6 [x5,x52_1] H) fun x53_1 H =>
 purK (extA 0 x53_1) fun x54_1 =>
 purK (extA 1 x53_1) fun x55_1 =>
 purK (extA 2 x53_1) fun x56_1 =>
 N3_2 ρ call yc lim k x5 x40_1 x46_1 x47_1 x48_1 x55_1 x56_1 H R
theorem N3_1_x (ρ call yc lim k J x2 x5 H R) :
 evX (cx ρ) call yc false 3 lim k J (Code.at [1,1,1,1,1] c3) (sp 116 [(2,x2),(5,x5)]) H (kk none (fun s H => R (gs [4] s) H) [] R [4]) =
 purK (lenS x5) fun x39_1 =>
 purK (binA Try.prog H .gtr 3 x39_1 (.int .i64 16)) fun x40_1 =>
 purK (addA 1 x2) fun x43_1 =>
 purK (ld1 ρ H x43_1) fun x44_1 =>
 resK (call lim 5 [x5,x44_1] H) fun x45_1 H =>
 purK (extA 0 x45_1) fun x46_1 =>
 purK (extA 1 x45_1) fun x47_1 =>
 purK (extA 2 x45_1) fun x48_1 =>
 purK (addA 1 x2) fun x51_1 =>
 purK (ld1 ρ H x51_1) fun x52_1 =>
 resK (call lim 6 [x5,x52_1] H) fun x53_1 H =>
 purK (extA 0 x53_1) fun x54_1 =>
 purK (extA 1 x53_1) fun x55_1 =>
 purK (extA 2 x53_1) fun x56_1 =>
 J (Code.at [1,1,1,1,1,1,1,1] c3) (sp 116 [(5,x5),(7,x40_1),(8,x46_1),(9,x47_1),(10,x48_1),(12,x55_1),(13,x56_1)]) H (kk none (fun s H => R (gs [4] s) H) [] R [4]) := by
 kernel_rfl
theorem N3_1_eq (ρ call yc lim k x2 x5 H R) :
 evL (cx ρ) call yc false 3 lim k (Code.at [1,1,1,1,1] c3) (sp 116 [(2,x2),(5,x5)]) H (kk none (fun s H => R (gs [4] s) H) [] R [4]) = N3_1 ρ call yc lim k x2 x5 H R := by
 rw [evL_X,N3_1_x]
 simp only [← evL_X,N3_1,N3_2_eq]
noncomputable def N3_5b (ρ : RO) (call : CallF) (yc : YieldF) (lim k : Nat) (x1 x2 x5 x6 : AV) (H : Heap) (kn : AV → AV → Heap → Res) (k0 : AV → AV → Heap → Res) : Res :=
 purK (cvI .i64 x1) fun x22_1 =>
 purK (binA Try.prog H .rem 3 x22_1 (.int .i64 20)) fun x23_1 =>
 purK (binA Try.prog H .lss 3 x6 x23_1) fun x24_1 =>
 condK x24_1
 (
 purK (ldN ρ H 4 x2) fun x28_1 =>
 purK (binA Try.prog H .mul 3 (.int .i64 2) x6) fun x30_1 =>
 purK (binA Try.prog H .add 3 (.int .i64 1) x30_1) fun x31_1 =>
 purK (binA Try.prog H .mul 3 (.int .i64 2) x6) fun x33_1 =>
 purK (binA Try.prog H .add 3 (.int .i64 2) x33_1) fun x34_1 =>
 purK (bldA [.int .i64 0,.str ByteArray.empty,.str ByteArray.empty,.int .u64 0,.int .i64 0,.str ByteArray.empty,.int .i64 0,.int .i64 0] [(0,4,x28_1),(6,1,x31_1),(7,1,x34_1)]) fun x35_1 =>
 effK H (bldS H 31 8 [.int .i64 0,.str ByteArray.empty,.str ByteArray.empty,.int .u64 0,.int .i64 0,.str ByteArray.empty,.int .i64 0,.int .i64 0] 1 [(0,8,x35_1)]) fun x36_1 H =>
 effK H (apA ρ lim H 31 8 88 x5 x36_1) fun x37_1 H =>
 purK (binA Try.prog H .add 3 x6 (.int .i64 1)) fun x26_1 =>
 kn x37_1 x26_1 H)
 (
 k0 x2 x5 H)
theorem N3_5b_eq (ρ call yc lim k x1 x2 x5 x6 H kn k0 R) :
 evL (cx ρ) call yc false 3 lim k (Code.at [1,1,1,1,0,1,0,0] c3) (sp 116 [(1,x1),(2,x2),(5,x5),(6,x6)]) H (kk (some [1,2,5,6]) kn [(0,(some [2,5]),k0)] R [4]) = N3_5b ρ call yc lim k x1 x2 x5 x6 H (fun x5 x6 H => kn (sp 116 [(1,x1),(2,x2),(5,x5),(6,x6)]) H) (fun x2 x5 H => k0 (sp 116 [(2,x2),(5,x5)]) H) := by
 kernel_rfl
noncomputable def N3_5 (ρ : RO) (call : CallF) (yc : YieldF) (lim k : Nat) (x1 x2 x5 x6 : AV) (H : Heap) (k0 : AV → AV → Heap → Res) : Res :=
 loopL (fun (x : AV × AV) H kn => N3_5b ρ call yc lim k x1 x2 x.1 x.2 H (fun x5 x6 H => kn (x5,x6) H) k0) k (x5,x6) H
theorem N3_5_eq (ρ call yc lim k x1 x2 x5 x6 H kn k0 R) :
 evL (cx ρ) call yc false 3 lim k (Code.at [1,1,1,1,0,1,0] c3) (sp 116 [(1,x1),(2,x2),(5,x5),(6,x6)]) H (kk (some [2,5]) kn [(0,(some [2,5]),k0)] R [4]) = N3_5 ρ call yc lim k x1 x2 x5 x6 H (fun x2 x5 H => k0 (sp 116 [(2,x2),(5,x5)]) H) := by
 have e : Code.at [1,1,1,1,0,1,0] c3 = .loop (Code.at [1,1,1,1,0,1,0,0] c3) := by kernel_rfl
 rw [e]
 unfold N3_5
 exact loop_node [1,2,5,6] (fun x : AV × AV => (sp 116 [(1,x1),(2,x2),(5,(x.1)),(6,(x.2))])) (fun (x : AV × AV) H kn => N3_5b ρ call yc lim k x1 x2 x.1 x.2 H (fun x5 x6 H => kn (x5,x6) H) (fun x2 x5 H => k0 (sp 116 [(2,x2),(5,x5)]) H)) (by kernel_rfl) (fun x => by kernel_rfl) (fun x H kn => N3_5b_eq ρ call yc lim k x1 x2 (x.1) (x.2) H kn k0 R) (x5,x6) (sp 116 [(1,x1),(2,x2),(5,x5),(6,x6)]) H (by kernel_rfl)
noncomputable def N3_4 (ρ : RO) (call : CallF) (yc : YieldF) (lim k : Nat) (x1 x2 x5 x6 : AV) (H : Heap) (kn : AV → AV → Heap → Res) : Res :=
 N3_5 ρ call yc lim k x1 x2 x5 x6 H kn
theorem N3_4_x (ρ call yc lim k J x1 x2 x5 x6 H kn R) :
 evX (cx ρ) call yc false 3 lim k J (Code.at [1,1,1,1,0,1] c3) (sp 116 [(1,x1),(2,x2),(5,x5),(6,x6)]) H (kk (some [2,5]) kn [] R [4]) =
 J (Code.at [1,1,1,1,0,1,0] c3) (sp 116 [(1,x1),(2,x2),(5,x5),(6,x6)]) H (kk (some [2,5]) kn [(0,(some [2,5]),kn)] R [4]) := by
 kernel_rfl
theorem N3_4_eq (ρ call yc lim k x1 x2 x5 x6 H kn R) :
 evL (cx ρ) call yc false 3 lim k (Code.at [1,1,1,1,0,1] c3) (sp 116 [(1,x1),(2,x2),(5,x5),(6,x6)]) H (kk (some [2,5]) kn [] R [4]) = N3_4 ρ call yc lim k x1 x2 x5 x6 H (fun x2 x5 H => kn (sp 116 [(2,x2),(5,x5)]) H) := by
 rw [evL_X,N3_4_x]
 simp only [← evL_X,N3_4,N3_5_eq]
noncomputable def L3 (ρ : RO) (call : CallF) (yc : YieldF) (lim k : Nat) (x0 x1 : AV) (H : Heap) : Res :=
 effK H (boxA H 24 x0) fun x2 H =>
 resK (call lim 4 [] H) fun x16 H =>
 purK (unA .not x16) fun x17 =>
 condK x17
 (
 retK [(.bool false)] H)
 (
 purK (addA 0 x2) fun x18 =>
 effK H (stA lim H 1 x18 (.int .i64 4)) fun _ H =>
 effK H (bldS H 31 8 [.int .i64 0,.str ByteArray.empty,.str ByteArray.empty,.int .u64 0,.int .i64 0,.str ByteArray.empty,.int .i64 0,.int .i64 0] 0 []) fun x19 H =>
 N3_4 ρ call yc lim k x1 x2 x19 (.int .i64 0) H (fun x2_1 x5 H =>
 N3_1 ρ call yc lim k x2_1 x5 H retK))
theorem L3_x (ρ call yc lim k J x0 x1 H) :
 evX (cx ρ) call yc false 3 lim k J c3 ([x0,x1] ++ List.replicate 114 (.tup [])) H (kk none (fun s H => retK (gs [4] s) H) [] retK [4]) =
 effK H (boxA H 24 x0) fun x2 H =>
 resK (call lim 4 [] H) fun x16 H =>
 purK (unA .not x16) fun x17 =>
 condK x17
 (
 retK [(.bool false)] H)
 (
 purK (addA 0 x2) fun x18 =>
 effK H (stA lim H 1 x18 (.int .i64 4)) fun _ H =>
 effK H (bldS H 31 8 [.int .i64 0,.str ByteArray.empty,.str ByteArray.empty,.int .u64 0,.int .i64 0,.str ByteArray.empty,.int .i64 0,.int .i64 0] 0 []) fun x19 H =>
 J (Code.at [1,1,1,1,0,1] c3) (sp 116 [(1,x1),(2,x2),(5,x19),(6,(.int .i64 0))]) H (kk (some [2,5]) (fun s H => J (Code.at [1,1,1,1,1] c3) s H (kk none (fun s H => retK (gs [4] s) H) [] retK [4])) [] retK [4])) := by
 kernel_rfl
theorem G3 (ρ call yc lim k x0 x1 H) :
 evL (cx ρ) call yc false 3 lim k c3 ([x0,x1] ++ List.replicate 114 (.tup [])) H (kk none (fun s H => retK (gs [4] s) H) [] retK [4]) = L3 ρ call yc lim k x0 x1 H := by
 rw [evL_X,L3_x]
 simp only [← evL_X,L3,N3_1_eq,N3_4_eq]
theorem E3 (ρ : RO) (k lim : Nat) (x0 x1 : AV) (H : Heap) : evCall (cx ρ) (k + 1) lim 3 [x0,x1] H = L3 ρ (evCall (cx ρ) k) (evCY (cx ρ) k).2 lim k x0 x1 H := by
 rw [evCall_body (cx ρ) k lim 3 _ H Try.f3 c3 [4] (by kernel_rfl) (by kernel_rfl) (by kernel_rfl) (by kernel_rfl) (by kernel_rfl)]
 exact G3 ρ (evCall (cx ρ) k) (evCY (cx ρ) k).2 lim k x0 x1 H
-- haycroft/haycroftlaw20.awake
noncomputable def c4 : Code := Code.of Try.prog 4
noncomputable def N4_1 (ρ : RO) (call : CallF) (yc : YieldF) (lim k : Nat) (x2 x3 x4 x5 : AV) (H : Heap) (R : KR) : Res :=
 purK (gPur (wantV x2 true) (some x3)) fun x27_1 =>
 purK (gPur (wantV x2 true) (binA Try.prog H .eql 27 x27_1 (.int .i64 0))) fun x28_1 =>
 purK (pickA x2 x28_1 (.bool false)) fun x29_1 =>
 purK (gPur (wantV x29_1 true) (some x4)) fun x31_1 =>
 purK (gPur (wantV x29_1 true) (unA .not x31_1)) fun x32_1 =>
 purK (pickA x29_1 x32_1 (.bool false)) fun x33_1 =>
 purK (gPur (wantV x33_1 true) (some x5)) fun x35_1 =>
 purK (gPur (wantV x33_1 true) (binA Try.prog H .eql 27 x35_1 (.int .i64 0))) fun x36_1 =>
 purK (pickA x33_1 x36_1 (.bool false)) fun x37_1 =>
 R [x37_1] H
theorem N4_1_eq (ρ call yc lim k x2 x3 x4 x5 H R) :
 evL (cx ρ) call yc false 4 lim k (Code.at [1,1,1,1] c4) (sp 38 [(2,x2),(3,x3),(4,x4),(5,x5)]) H (kk none (fun s H => R (gs [0] s) H) [] R [0]) = N4_1 ρ call yc lim k x2 x3 x4 x5 H R := by
 kernel_rfl
noncomputable def L4 (ρ : RO) (call : CallF) (yc : YieldF) (lim k : Nat) (H : Heap) : Res :=
 purK (bldA [.int .i64 0,.str ByteArray.empty,.str ByteArray.empty,.int .u64 0] [(0,1,(.int .i64 1)),(1,1,(.str (ByteArray.mk #[107])))]) fun x6 =>
 purK (bldA [.int .i64 0,.str ByteArray.empty] [(1,1,(.str (ByteArray.mk #[49])))]) fun x7 =>
 purK (bldA [.int .i64 0,.str ByteArray.empty,.str ByteArray.empty,.int .u64 0,.int .i64 0,.str ByteArray.empty,.int .i64 0,.int .i64 0] [(0,4,x6),(4,2,x7),(6,1,(.int .i64 1)),(7,1,(.int .i64 4))]) fun x8 =>
 effK H (some (.ptr H.sz 0 0,.new (newCells 31 false [.int .i64 0,.str ByteArray.empty,.str ByteArray.empty,.int .u64 0,.int .i64 0,.str ByteArray.empty,.int .i64 0,.int .i64 0]))) fun x1 H =>
 effK H (stA lim H 8 x1 x8) fun _ H =>
 purK (ldN ρ H 8 x1) fun x10 =>
 purK (bldA [.int .i64 0,.str ByteArray.empty,.str ByteArray.empty,.int .u64 0] [(0,1,(.int .i64 2)),(1,1,(.str (ByteArray.mk #[107]))),(2,1,(.str (ByteArray.mk #[49])))]) fun x11 =>
 purK (bldA [.int .i64 0,.str ByteArray.empty,.str ByteArray.empty,.int .u64 0,.int .i64 0,.str ByteArray.empty,.int .i64 0,.int .i64 0] [(0,4,x11),(6,1,(.int .i64 2))]) fun x12 =>
 effK H (bldS H 31 8 [.int .i64 0,.str ByteArray.empty,.str ByteArray.empty,.int .u64 0,.int .i64 0,.str ByteArray.empty,.int .i64 0,.int .i64 0] 2 [(0,8,x10),(8,8,x12)]) fun x13 H =>
 resK (call lim 7 [x13] H) fun x14 H =>
 purK (extA 0 x14) fun x15 =>
 purK (extA 1 x14) fun x16 =>
 purK (ldN ρ H 8 x1) fun x18 =>
 purK (bldA [.int .i64 0,.str ByteArray.empty,.str ByteArray.empty,.int .u64 0] [(0,1,(.int .i64 2)),(1,1,(.str (ByteArray.mk #[107]))),(2,1,(.str (ByteArray.mk #[49])))]) fun x19 =>
 purK (bldA [.int .i64 0,.str ByteArray.empty,.str ByteArray.empty,.int .u64 0,.int .i64 0,.str ByteArray.empty,.int .i64 0,.int .i64 0] [(0,4,x19),(6,1,(.int .i64 5))]) fun x20 =>
 effK H (bldS H 31 8 [.int .i64 0,.str ByteArray.empty,.str ByteArray.empty,.int .u64 0,.int .i64 0,.str ByteArray.empty,.int .i64 0,.int .i64 0] 2 [(0,8,x18),(8,8,x20)]) fun x21 H =>
 resK (call lim 7 [x21] H) fun x22 H =>
 purK (extA 0 x22) fun x23 =>
 purK (extA 1 x22) fun x24 =>
 N4_1 ρ call yc lim k x15 x16 x23 x24 H retK
theorem L4_x (ρ call yc lim k J H) :
 evX (cx ρ) call yc false 4 lim k J c4 (List.replicate 38 (.tup [])) H (kk none (fun s H => retK (gs [0] s) H) [] retK [0]) =
 purK (bldA [.int .i64 0,.str ByteArray.empty,.str ByteArray.empty,.int .u64 0] [(0,1,(.int .i64 1)),(1,1,(.str (ByteArray.mk #[107])))]) fun x6 =>
 purK (bldA [.int .i64 0,.str ByteArray.empty] [(1,1,(.str (ByteArray.mk #[49])))]) fun x7 =>
 purK (bldA [.int .i64 0,.str ByteArray.empty,.str ByteArray.empty,.int .u64 0,.int .i64 0,.str ByteArray.empty,.int .i64 0,.int .i64 0] [(0,4,x6),(4,2,x7),(6,1,(.int .i64 1)),(7,1,(.int .i64 4))]) fun x8 =>
 effK H (some (.ptr H.sz 0 0,.new (newCells 31 false [.int .i64 0,.str ByteArray.empty,.str ByteArray.empty,.int .u64 0,.int .i64 0,.str ByteArray.empty,.int .i64 0,.int .i64 0]))) fun x1 H =>
 effK H (stA lim H 8 x1 x8) fun _ H =>
 purK (ldN ρ H 8 x1) fun x10 =>
 purK (bldA [.int .i64 0,.str ByteArray.empty,.str ByteArray.empty,.int .u64 0] [(0,1,(.int .i64 2)),(1,1,(.str (ByteArray.mk #[107]))),(2,1,(.str (ByteArray.mk #[49])))]) fun x11 =>
 purK (bldA [.int .i64 0,.str ByteArray.empty,.str ByteArray.empty,.int .u64 0,.int .i64 0,.str ByteArray.empty,.int .i64 0,.int .i64 0] [(0,4,x11),(6,1,(.int .i64 2))]) fun x12 =>
 effK H (bldS H 31 8 [.int .i64 0,.str ByteArray.empty,.str ByteArray.empty,.int .u64 0,.int .i64 0,.str ByteArray.empty,.int .i64 0,.int .i64 0] 2 [(0,8,x10),(8,8,x12)]) fun x13 H =>
 resK (call lim 7 [x13] H) fun x14 H =>
 purK (extA 0 x14) fun x15 =>
 purK (extA 1 x14) fun x16 =>
 purK (ldN ρ H 8 x1) fun x18 =>
 purK (bldA [.int .i64 0,.str ByteArray.empty,.str ByteArray.empty,.int .u64 0] [(0,1,(.int .i64 2)),(1,1,(.str (ByteArray.mk #[107]))),(2,1,(.str (ByteArray.mk #[49])))]) fun x19 =>
 purK (bldA [.int .i64 0,.str ByteArray.empty,.str ByteArray.empty,.int .u64 0,.int .i64 0,.str ByteArray.empty,.int .i64 0,.int .i64 0] [(0,4,x19),(6,1,(.int .i64 5))]) fun x20 =>
 effK H (bldS H 31 8 [.int .i64 0,.str ByteArray.empty,.str ByteArray.empty,.int .u64 0,.int .i64 0,.str ByteArray.empty,.int .i64 0,.int .i64 0] 2 [(0,8,x18),(8,8,x20)]) fun x21 H =>
 resK (call lim 7 [x21] H) fun x22 H =>
 purK (extA 0 x22) fun x23 =>
 purK (extA 1 x22) fun x24 =>
 J (Code.at [1,1,1,1] c4) (sp 38 [(2,x15),(3,x16),(4,x23),(5,x24)]) H (kk none (fun s H => retK (gs [0] s) H) [] retK [0]) := by
 kernel_rfl
theorem G4 (ρ call yc lim k H) :
 evL (cx ρ) call yc false 4 lim k c4 (List.replicate 38 (.tup [])) H (kk none (fun s H => retK (gs [0] s) H) [] retK [0]) = L4 ρ call yc lim k H := by
 rw [evL_X,L4_x]
 simp only [← evL_X,L4,N4_1_eq]
theorem E4 (ρ : RO) (k lim : Nat) (H : Heap) : evCall (cx ρ) (k + 1) lim 4 [] H = L4 ρ (evCall (cx ρ) k) (evCY (cx ρ) k).2 lim k H := by
 rw [evCall_body (cx ρ) k lim 4 _ H Try.f4 c4 [0] (by kernel_rfl) (by kernel_rfl) (by kernel_rfl) (by kernel_rfl) (by kernel_rfl)]
 exact G4 ρ (evCall (cx ρ) k) (evCY (cx ρ) k).2 lim k H
-- haycroft/history.Order
noncomputable def c5 : Code := Code.of Try.prog 5
noncomputable def N5_1 (ρ : RO) (call : CallF) (yc : YieldF) (lim k : Nat) (x7 x9 : AV) (H : Heap) (R : KR) : Res :=
 purK (ixS 3 x9 (.int .i64 0)) fun x26_1 =>
 purK (ldN ρ H 3 x26_1) fun x27_1 =>
 resK (call lim 10 [x7,x27_1] H) fun x28_1 H =>
 R [x28_1,(.bool true),(.int .i64 0)] H
theorem N5_1_eq (ρ call yc lim k x7 x9 H R) :
 evL (cx ρ) call yc false 5 lim k (Code.at [1,1,1,1,1] c5) (sp 29 [(7,x7),(9,x9)]) H (kk none (fun s H => R (gs [4,5,6] s) H) [] R [4,5,6]) = N5_1 ρ call yc lim k x7 x9 H R := by
 kernel_rfl
noncomputable def L5 (ρ : RO) (call : CallF) (yc : YieldF) (lim k : Nat) (x0 x1 : AV) (H : Heap) : Res :=
 resK (call lim 8 [x0,x1] H) fun x13 H =>
 purK (extA 0 x13) fun x14 =>
 purK (extA 1 x13) fun x15 =>
 purK (binA Try.prog H .neq 27 x15 (.int .i64 0)) fun x17 =>
 condK x17
 (
 retK [.nils,(.bool false),x15] H)
 (
 resK (call lim 9 [x14] H) fun x20 H =>
 purK (lenS x20) fun x22 =>
 purK (binA Try.prog H .eql 3 x22 (.int .i64 0)) fun x23 =>
 condK x23
 (
 retK [.nils,(.bool false),(.int .i64 0)] H)
 (
 N5_1 ρ call yc lim k x14 x20 H retK))
theorem L5_x (ρ call yc lim k J x0 x1 H) :
 evX (cx ρ) call yc false 5 lim k J c5 ([x0,x1] ++ List.replicate 27 (.tup [])) H (kk none (fun s H => retK (gs [4,5,6] s) H) [] retK [4,5,6]) =
 resK (call lim 8 [x0,x1] H) fun x13 H =>
 purK (extA 0 x13) fun x14 =>
 purK (extA 1 x13) fun x15 =>
 purK (binA Try.prog H .neq 27 x15 (.int .i64 0)) fun x17 =>
 condK x17
 (
 retK [.nils,(.bool false),x15] H)
 (
 resK (call lim 9 [x14] H) fun x20 H =>
 purK (lenS x20) fun x22 =>
 purK (binA Try.prog H .eql 3 x22 (.int .i64 0)) fun x23 =>
 condK x23
 (
 retK [.nils,(.bool false),(.int .i64 0)] H)
 (
 J (Code.at [1,1,1,1,1] c5) (sp 29 [(7,x14),(9,x20)]) H (kk none (fun s H => retK (gs [4,5,6] s) H) [] retK [4,5,6]))) := by
 kernel_rfl
theorem G5 (ρ call yc lim k x0 x1 H) :
 evL (cx ρ) call yc false 5 lim k c5 ([x0,x1] ++ List.replicate 27 (.tup [])) H (kk none (fun s H => retK (gs [4,5,6] s) H) [] retK [4,5,6]) = L5 ρ call yc lim k x0 x1 H := by
 rw [evL_X,L5_x]
 simp only [← evL_X,L5,N5_1_eq]
theorem E5 (ρ : RO) (k lim : Nat) (x0 x1 : AV) (H : Heap) : evCall (cx ρ) (k + 1) lim 5 [x0,x1] H = L5 ρ (evCall (cx ρ) k) (evCY (cx ρ) k).2 lim k x0 x1 H := by
 rw [evCall_body (cx ρ) k lim 5 _ H Try.f5 c5 [4,5,6] (by kernel_rfl) (by kernel_rfl) (by kernel_rfl) (by kernel_rfl) (by kernel_rfl)]
 exact G5 ρ (evCall (cx ρ) k) (evCY (cx ρ) k).2 lim k x0 x1 H
-- haycroft/history.Last
noncomputable def c6 : Code := Code.of Try.prog 6
noncomputable def N6_1 (ρ : RO) (call : CallF) (yc : YieldF) (lim k : Nat) (x9 x10 : AV) (H : Heap) (R : KR) : Res :=
 resK (call lim 12 [x9] H) fun x39_1 H =>
 resK (call lim 11 [x39_1] H) fun x40_1 H =>
 R [x40_1,x10,(.int .i64 0)] H
theorem N6_1_eq (ρ call yc lim k x9 x10 H R) :
 evL (cx ρ) call yc false 6 lim k (Code.at [1,1,1,1,1,1] c6) (sp 42 [(9,x9),(10,x10)]) H (kk none (fun s H => R (gs [4,5,6] s) H) [] R [4,5,6]) = N6_1 ρ call yc lim k x9 x10 H R := by
 kernel_rfl
noncomputable def N6_4 (ρ : RO) (call : CallF) (yc : YieldF) (lim k : Nat) (x9 x10 x24 x25 x26 : AV) (H : Heap) (kn : AV → AV → Heap → Res) : Res :=
 purK (binA Try.prog H .add 3 x26 (.int .i64 1)) fun x37_1 =>
 kn x10 x37_1 H
theorem N6_4_eq (ρ call yc lim k x9 x10 x24 x25 x26 H kn k0 R) :
 evL (cx ρ) call yc false 6 lim k (Code.at [1,1,1,1,1,0,1,0,0,1,1,1] c6) (sp 42 [(9,x9),(10,x10),(24,x24),(25,x25),(26,x26)]) H (kk (some [9,10,24,25,26]) kn [(0,(some [9,10]),k0)] R [4,5,6]) = N6_4 ρ call yc lim k x9 x10 x24 x25 x26 H (fun x10 x26 H => kn (sp 42 [(9,x9),(10,x10),(24,x24),(25,x25),(26,x26)]) H) := by
 kernel_rfl
noncomputable def N6_3b (ρ : RO) (call : CallF) (yc : YieldF) (lim k : Nat) (x9 x10 x24 x25 x26 : AV) (H : Heap) (kn : AV → AV → Heap → Res) (k0 : AV → AV → Heap → Res) : Res :=
 purK (binA Try.prog H .lss 3 x26 x25) fun x27_1 =>
 condK x27_1
 (
 purK (ixS 3 x24 x26) fun x28_1 =>
 purK (ldN ρ H 3 x28_1) fun x29_1 =>
 effK H (some (.ptr H.sz 0 0,.new (newCells 52 false [.int .u32 0,.str ByteArray.empty,.bool false]))) fun x12_1 H =>
 effK H (stA lim H 3 x12_1 x29_1) fun _ H =>
 purK (addA 1 x12_1) fun x30_1 =>
 purK (addA 1 x30_1) fun x31_1 =>
 purK (ld1 ρ H x31_1) fun x32_1 =>
 condK x32_1
 (
 purK (addA 1 x12_1) fun x34_1 =>
 purK (addA 0 x34_1) fun x35_1 =>
 purK (ld1 ρ H x35_1) fun x36_1 =>
 effK H ((mapPutA (cx ρ) lim H 53 x9 x36_1 (.bool true)).map skips) fun _ H =>
 N6_4 ρ call yc lim k x9 x10 x24 x25 x26 H kn)
 (
 N6_4 ρ call yc lim k x9 (.bool true) x24 x25 x26 H kn))
 (
 k0 x9 x10 H)
theorem N6_3b_x (ρ call yc lim k J x9 x10 x24 x25 x26 H kn k0 R) :
 evX (cx ρ) call yc false 6 lim k J (Code.at [1,1,1,1,1,0,1,0,0] c6) (sp 42 [(9,x9),(10,x10),(24,x24),(25,x25),(26,x26)]) H (kk (some [9,10,24,25,26]) kn [(0,(some [9,10]),k0)] R [4,5,6]) =
 purK (binA Try.prog H .lss 3 x26 x25) fun x27_1 =>
 condK x27_1
 (
 purK (ixS 3 x24 x26) fun x28_1 =>
 purK (ldN ρ H 3 x28_1) fun x29_1 =>
 effK H (some (.ptr H.sz 0 0,.new (newCells 52 false [.int .u32 0,.str ByteArray.empty,.bool false]))) fun x12_1 H =>
 effK H (stA lim H 3 x12_1 x29_1) fun _ H =>
 purK (addA 1 x12_1) fun x30_1 =>
 purK (addA 1 x30_1) fun x31_1 =>
 purK (ld1 ρ H x31_1) fun x32_1 =>
 condK x32_1
 (
 purK (addA 1 x12_1) fun x34_1 =>
 purK (addA 0 x34_1) fun x35_1 =>
 purK (ld1 ρ H x35_1) fun x36_1 =>
 effK H ((mapPutA (cx ρ) lim H 53 x9 x36_1 (.bool true)).map skips) fun _ H =>
 J (Code.at [1,1,1,1,1,0,1,0,0,1,1,1] c6) (sp 42 [(9,x9),(10,x10),(24,x24),(25,x25),(26,x26)]) H (kk (some [9,10,24,25,26]) kn [(0,(some [9,10]),k0)] R [4,5,6]))
 (
 J (Code.at [1,1,1,1,1,0,1,0,0,1,1,1] c6) (sp 42 [(9,x9),(10,(.bool true)),(24,x24),(25,x25),(26,x26)]) H (kk (some [9,10,24,25,26]) kn [(0,(some [9,10]),k0)] R [4,5,6])))
 (
 k0 (sp 42 [(9,x9),(10,x10)]) H) := by
 kernel_rfl
theorem N6_3b_eq (ρ call yc lim k x9 x10 x24 x25 x26 H kn k0 R) :
 evL (cx ρ) call yc false 6 lim k (Code.at [1,1,1,1,1,0,1,0,0] c6) (sp 42 [(9,x9),(10,x10),(24,x24),(25,x25),(26,x26)]) H (kk (some [9,10,24,25,26]) kn [(0,(some [9,10]),k0)] R [4,5,6]) = N6_3b ρ call yc lim k x9 x10 x24 x25 x26 H (fun x10 x26 H => kn (sp 42 [(9,x9),(10,x10),(24,x24),(25,x25),(26,x26)]) H) (fun x9 x10 H => k0 (sp 42 [(9,x9),(10,x10)]) H) := by
 rw [evL_X,N6_3b_x]
 simp only [← evL_X,N6_3b,N6_4_eq]
noncomputable def N6_3 (ρ : RO) (call : CallF) (yc : YieldF) (lim k : Nat) (x9 x10 x24 x25 x26 : AV) (H : Heap) (k0 : AV → AV → Heap → Res) : Res :=
 loopL (fun (x : AV × AV) H kn => N6_3b ρ call yc lim k x9 x.1 x24 x25 x.2 H (fun x10 x26 H => kn (x10,x26) H) k0) k (x10,x26) H
theorem N6_3_eq (ρ call yc lim k x9 x10 x24 x25 x26 H kn k0 R) :
 evL (cx ρ) call yc false 6 lim k (Code.at [1,1,1,1,1,0,1,0] c6) (sp 42 [(9,x9),(10,x10),(24,x24),(25,x25),(26,x26)]) H (kk (some [9,10]) kn [(0,(some [9,10]),k0)] R [4,5,6]) = N6_3 ρ call yc lim k x9 x10 x24 x25 x26 H (fun x9 x10 H => k0 (sp 42 [(9,x9),(10,x10)]) H) := by
 have e : Code.at [1,1,1,1,1,0,1,0] c6 = .loop (Code.at [1,1,1,1,1,0,1,0,0] c6) := by kernel_rfl
 rw [e]
 unfold N6_3
 exact loop_node [9,10,24,25,26] (fun x : AV × AV => (sp 42 [(9,x9),(10,(x.1)),(24,x24),(25,x25),(26,(x.2))])) (fun (x : AV × AV) H kn => N6_3b ρ call yc lim k x9 x.1 x24 x25 x.2 H (fun x10 x26 H => kn (x10,x26) H) (fun x9 x10 H => k0 (sp 42 [(9,x9),(10,x10)]) H)) (by kernel_rfl) (fun x => by kernel_rfl) (fun x H kn => N6_3b_eq ρ call yc lim k x9 (x.1) x24 x25 (x.2) H kn k0 R) (x10,x26) (sp 42 [(9,x9),(10,x10),(24,x24),(25,x25),(26,x26)]) H (by kernel_rfl)
noncomputable def N6_2 (ρ : RO) (call : CallF) (yc : YieldF) (lim k : Nat) (x9 x10 x24 x25 x26 : AV) (H : Heap) (kn : AV → AV → Heap → Res) : Res :=
 N6_3 ρ call yc lim k x9 x10 x24 x25 x26 H kn
theorem N6_2_x (ρ call yc lim k J x9 x10 x24 x25 x26 H kn R) :
 evX (cx ρ) call yc false 6 lim k J (Code.at [1,1,1,1,1,0,1] c6) (sp 42 [(9,x9),(10,x10),(24,x24),(25,x25),(26,x26)]) H (kk (some [9,10]) kn [] R [4,5,6]) =
 J (Code.at [1,1,1,1,1,0,1,0] c6) (sp 42 [(9,x9),(10,x10),(24,x24),(25,x25),(26,x26)]) H (kk (some [9,10]) kn [(0,(some [9,10]),kn)] R [4,5,6]) := by
 kernel_rfl
theorem N6_2_eq (ρ call yc lim k x9 x10 x24 x25 x26 H kn R) :
 evL (cx ρ) call yc false 6 lim k (Code.at [1,1,1,1,1,0,1] c6) (sp 42 [(9,x9),(10,x10),(24,x24),(25,x25),(26,x26)]) H (kk (some [9,10]) kn [] R [4,5,6]) = N6_2 ρ call yc lim k x9 x10 x24 x25 x26 H (fun x9 x10 H => kn (sp 42 [(9,x9),(10,x10)]) H) := by
 rw [evL_X,N6_2_x]
 simp only [← evL_X,N6_2,N6_3_eq]
noncomputable def L6 (ρ : RO) (call : CallF) (yc : YieldF) (lim k : Nat) (x0 x1 : AV) (H : Heap) : Res :=
 resK (call lim 8 [x0,x1] H) fun x16 H =>
 purK (extA 0 x16) fun x17 =>
 purK (extA 1 x16) fun x18 =>
 purK (binA Try.prog H .neq 27 x18 (.int .i64 0)) fun x20 =>
 condK x20
 (
 retK [.nils,(.bool false),x18] H)
 (
 effK H (some (makeMapA H)) fun x22 H =>
 resK (call lim 9 [x17] H) fun x24 H =>
 purK (lenS x24) fun x25 =>
 N6_2 ρ call yc lim k x22 (.bool false) x24 x25 (.int .i64 0) H (fun x9 x10 H =>
 N6_1 ρ call yc lim k x9 x10 H retK))
theorem L6_x (ρ call yc lim k J x0 x1 H) :
 evX (cx ρ) call yc false 6 lim k J c6 ([x0,x1] ++ List.replicate 40 (.tup [])) H (kk none (fun s H => retK (gs [4,5,6] s) H) [] retK [4,5,6]) =
 resK (call lim 8 [x0,x1] H) fun x16 H =>
 purK (extA 0 x16) fun x17 =>
 purK (extA 1 x16) fun x18 =>
 purK (binA Try.prog H .neq 27 x18 (.int .i64 0)) fun x20 =>
 condK x20
 (
 retK [.nils,(.bool false),x18] H)
 (
 effK H (some (makeMapA H)) fun x22 H =>
 resK (call lim 9 [x17] H) fun x24 H =>
 purK (lenS x24) fun x25 =>
 J (Code.at [1,1,1,1,1,0,1] c6) (sp 42 [(9,x22),(10,(.bool false)),(24,x24),(25,x25),(26,(.int .i64 0))]) H (kk (some [9,10]) (fun s H => J (Code.at [1,1,1,1,1,1] c6) s H (kk none (fun s H => retK (gs [4,5,6] s) H) [] retK [4,5,6])) [] retK [4,5,6])) := by
 kernel_rfl
theorem G6 (ρ call yc lim k x0 x1 H) :
 evL (cx ρ) call yc false 6 lim k c6 ([x0,x1] ++ List.replicate 40 (.tup [])) H (kk none (fun s H => retK (gs [4,5,6] s) H) [] retK [4,5,6]) = L6 ρ call yc lim k x0 x1 H := by
 rw [evL_X,L6_x]
 simp only [← evL_X,L6,N6_1_eq,N6_2_eq]
theorem E6 (ρ : RO) (k lim : Nat) (x0 x1 : AV) (H : Heap) : evCall (cx ρ) (k + 1) lim 6 [x0,x1] H = L6 ρ (evCall (cx ρ) k) (evCY (cx ρ) k).2 lim k x0 x1 H := by
 rw [evCall_body (cx ρ) k lim 6 _ H Try.f6 c6 [4,5,6] (by kernel_rfl) (by kernel_rfl) (by kernel_rfl) (by kernel_rfl) (by kernel_rfl)]
 exact G6 ρ (evCall (cx ρ) k) (evCY (cx ρ) k).2 lim k x0 x1 H
-- haycroft/history.Check
noncomputable def c7 : Code := Code.of Try.prog 7
noncomputable def N7_1 (ρ : RO) (call : CallF) (yc : YieldF) (lim k : Nat) (x4 : AV) (H : Heap) (R : KR) : Res :=
 R [x4,(.int .i64 0)] H
theorem N7_1_eq (ρ call yc lim k x4 H R) :
 evL (cx ρ) call yc false 7 lim k (Code.at [1,1,1,1] c7) (sp 36 [(4,x4)]) H (kk none (fun s H => R (gs [2,3] s) H) [] R [2,3]) = N7_1 ρ call yc lim k x4 H R := by
 kernel_rfl
noncomputable def N7_3b (ρ : RO) (call : CallF) (yc : YieldF) (lim k : Nat) (x0 x4 x14 x15 x16 : AV) (H : Heap) (kn : AV → AV → Heap → Res) (k0 : AV → Heap → Res) (R : KR) : Res :=
 purK (binA Try.prog H .lss 3 x16 x15) fun x17_1 =>
 condK x17_1
 (
 purK (ixS 1 x14 x16) fun x18_1 =>
 purK (ld1 ρ H x18_1) fun x19_1 =>
 resK (call lim 5 [x0,x19_1] H) fun x23_1 H =>
 purK (extA 0 x23_1) fun x24_1 =>
 purK (extA 1 x23_1) fun x25_1 =>
 purK (extA 2 x23_1) fun x26_1 =>
 purK (binA Try.prog H .neq 27 x26_1 (.int .i64 0)) fun x28_1 =>
 condK x28_1
 (
 R [(.bool false),x26_1] H)
 (
 purK (gPur (wantV x4 true) (some x25_1)) fun x32_1 =>
 purK (pickA x4 x32_1 (.bool false)) fun x33_1 =>
 purK (binA Try.prog H .add 3 x16 (.int .i64 1)) fun x34_1 =>
 kn x33_1 x34_1 H))
 (
 k0 x4 H)
theorem N7_3b_eq (ρ call yc lim k x0 x4 x14 x15 x16 H kn k0 R) :
 evL (cx ρ) call yc false 7 lim k (Code.at [1,1,1,0,1,0,0] c7) (sp 36 [(0,x0),(4,x4),(14,x14),(15,x15),(16,x16)]) H (kk (some [0,4,14,15,16]) kn [(0,(some [4]),k0)] R [2,3]) = N7_3b ρ call yc lim k x0 x4 x14 x15 x16 H (fun x4 x16 H => kn (sp 36 [(0,x0),(4,x4),(14,x14),(15,x15),(16,x16)]) H) (fun x4 H => k0 (sp 36 [(4,x4)]) H) R := by
 kernel_rfl
noncomputable def N7_3 (ρ : RO) (call : CallF) (yc : YieldF) (lim k : Nat) (x0 x4 x14 x15 x16 : AV) (H : Heap) (k0 : AV → Heap → Res) (R : KR) : Res :=
 loopL (fun (x : AV × AV) H kn => N7_3b ρ call yc lim k x0 x.1 x14 x15 x.2 H (fun x4 x16 H => kn (x4,x16) H) k0 R) k (x4,x16) H
theorem N7_3_eq (ρ call yc lim k x0 x4 x14 x15 x16 H kn k0 R) :
 evL (cx ρ) call yc false 7 lim k (Code.at [1,1,1,0,1,0] c7) (sp 36 [(0,x0),(4,x4),(14,x14),(15,x15),(16,x16)]) H (kk (some [4]) kn [(0,(some [4]),k0)] R [2,3]) = N7_3 ρ call yc lim k x0 x4 x14 x15 x16 H (fun x4 H => k0 (sp 36 [(4,x4)]) H) R := by
 have e : Code.at [1,1,1,0,1,0] c7 = .loop (Code.at [1,1,1,0,1,0,0] c7) := by kernel_rfl
 rw [e]
 unfold N7_3
 exact loop_node [0,4,14,15,16] (fun x : AV × AV => (sp 36 [(0,x0),(4,(x.1)),(14,x14),(15,x15),(16,(x.2))])) (fun (x : AV × AV) H kn => N7_3b ρ call yc lim k x0 x.1 x14 x15 x.2 H (fun x4 x16 H => kn (x4,x16) H) (fun x4 H => k0 (sp 36 [(4,x4)]) H) R) (by kernel_rfl) (fun x => by kernel_rfl) (fun x H kn => N7_3b_eq ρ call yc lim k x0 (x.1) x14 x15 (x.2) H kn k0 R) (x4,x16) (sp 36 [(0,x0),(4,x4),(14,x14),(15,x15),(16,x16)]) H (by kernel_rfl)
noncomputable def N7_2 (ρ : RO) (call : CallF) (yc : YieldF) (lim k : Nat) (x0 x4 x14 x15 x16 : AV) (H : Heap) (kn : AV → Heap → Res) (R : KR) : Res :=
 N7_3 ρ call yc lim k x0 x4 x14 x15 x16 H kn R
theorem N7_2_x (ρ call yc lim k J x0 x4 x14 x15 x16 H kn R) :
 evX (cx ρ) call yc false 7 lim k J (Code.at [1,1,1,0,1] c7) (sp 36 [(0,x0),(4,x4),(14,x14),(15,x15),(16,x16)]) H (kk (some [4]) kn [] R [2,3]) =
 J (Code.at [1,1,1,0,1,0] c7) (sp 36 [(0,x0),(4,x4),(14,x14),(15,x15),(16,x16)]) H (kk (some [4]) kn [(0,(some [4]),kn)] R [2,3]) := by
 kernel_rfl
theorem N7_2_eq (ρ call yc lim k x0 x4 x14 x15 x16 H kn R) :
 evL (cx ρ) call yc false 7 lim k (Code.at [1,1,1,0,1] c7) (sp 36 [(0,x0),(4,x4),(14,x14),(15,x15),(16,x16)]) H (kk (some [4]) kn [] R [2,3]) = N7_2 ρ call yc lim k x0 x4 x14 x15 x16 H (fun x4 H => kn (sp 36 [(4,x4)]) H) R := by
 rw [evL_X,N7_2_x]
 simp only [← evL_X,N7_2,N7_3_eq]
noncomputable def L7 (ρ : RO) (call : CallF) (yc : YieldF) (lim k : Nat) (x0 : AV) (H : Heap) : Res :=
 resK (call lim 13 [x0] H) fun x11 H =>
 purK (unA .not x11) fun x12 =>
 condK x12
 (
 retK [(.bool false),(.int .i64 1)] H)
 (
 resK (call lim 14 [x0] H) fun x14 H =>
 purK (lenS x14) fun x15 =>
 N7_2 ρ call yc lim k x0 (.bool true) x14 x15 (.int .i64 0) H (fun x4 H =>
 N7_1 ρ call yc lim k x4 H retK) retK)
theorem L7_x (ρ call yc lim k J x0 H) :
 evX (cx ρ) call yc false 7 lim k J c7 ([x0] ++ List.replicate 35 (.tup [])) H (kk none (fun s H => retK (gs [2,3] s) H) [] retK [2,3]) =
 resK (call lim 13 [x0] H) fun x11 H =>
 purK (unA .not x11) fun x12 =>
 condK x12
 (
 retK [(.bool false),(.int .i64 1)] H)
 (
 resK (call lim 14 [x0] H) fun x14 H =>
 purK (lenS x14) fun x15 =>
 J (Code.at [1,1,1,0,1] c7) (sp 36 [(0,x0),(4,(.bool true)),(14,x14),(15,x15),(16,(.int .i64 0))]) H (kk (some [4]) (fun s H => J (Code.at [1,1,1,1] c7) s H (kk none (fun s H => retK (gs [2,3] s) H) [] retK [2,3])) [] retK [2,3])) := by
 kernel_rfl
theorem G7 (ρ call yc lim k x0 H) :
 evL (cx ρ) call yc false 7 lim k c7 ([x0] ++ List.replicate 35 (.tup [])) H (kk none (fun s H => retK (gs [2,3] s) H) [] retK [2,3]) = L7 ρ call yc lim k x0 H := by
 rw [evL_X,L7_x]
 simp only [← evL_X,L7,N7_1_eq,N7_2_eq]
theorem E7 (ρ : RO) (k lim : Nat) (x0 : AV) (H : Heap) : evCall (cx ρ) (k + 1) lim 7 [x0] H = L7 ρ (evCall (cx ρ) k) (evCY (cx ρ) k).2 lim k x0 H := by
 rw [evCall_body (cx ρ) k lim 7 _ H Try.f7 c7 [2,3] (by kernel_rfl) (by kernel_rfl) (by kernel_rfl) (by kernel_rfl) (by kernel_rfl)]
 exact G7 ρ (evCall (cx ρ) k) (evCY (cx ρ) k).2 lim k x0 H
end Go.Proofs.Ytkmohjddojpdjab

-- part Hl1
/- Functions, lifted. Printed by a program of this repo. -/
set_option linter.unusedVariables false
set_option linter.unusedSimpArgs false
set_option maxRecDepth 100000
set_option maxHeartbeats 4000000
namespace Go.Proofs.Ytkmohjddojpdjab
open Go.Ev Go.RowKit
-- haycroft/history.open
noncomputable def c8 : Code := Code.of Try.prog 8
noncomputable def N8_2 (ρ : RO) (call : CallF) (yc : YieldF) (lim k : Nat) (x6 : AV) (H : Heap) (R : KR) : Res :=
 R [x6,(.int .i64 0)] H
theorem N8_2_eq (ρ call yc lim k x6 H R) :
 evL (cx ρ) call yc false 8 lim k (Code.at [1,1,1,1,1,1] c8) (sp 131 [(6,x6)]) H (kk none (fun s H => R (gs [4,5] s) H) [] R [4,5]) = N8_2 ρ call yc lim k x6 H R := by
 kernel_rfl
noncomputable def N8_5 (ρ : RO) (call : CallF) (yc : YieldF) (lim k : Nat) (x6 x63 x64 x65 : AV) (H : Heap) (kn : AV → Heap → Res) : Res :=
 purK (binA Try.prog H .add 3 x65 (.int .i64 1)) fun x129_1 =>
 kn x129_1 H
theorem N8_5_eq (ρ call yc lim k x6 x63 x64 x65 H kn k2 R) :
 evL (cx ρ) call yc false 8 lim k (Code.at [1,1,1,1,1,0,1,0,0,1,1,1] c8) (sp 131 [(6,x6),(63,x63),(64,x64),(65,x65)]) H (kk (some [6,63,64,65]) kn [(2,(some [6]),k2)] R [4,5]) = N8_5 ρ call yc lim k x6 x63 x64 x65 H (fun x65 H => kn (sp 131 [(6,x6),(63,x63),(64,x64),(65,x65)]) H) := by
 kernel_rfl
noncomputable def N8_6 (ρ : RO) (call : CallF) (yc : YieldF) (lim k : Nat) (x6 x9 x10 x11 x63 x64 x65 : AV) (H : Heap) (kn : AV → Heap → Res) : Res :=
 purK (nilChkA x6) fun x103_1 =>
 purK (addA 2 x103_1) fun x104_1 =>
 purK (ld1 ρ H x104_1) fun x105_1 =>
 effK H (bldS H 48 1 [.int .u32 0] 1 [(0,1,x11)]) fun x107_1 H =>
 effK H (apA ρ lim H 48 1 4 x105_1 x107_1) fun x108_1 H =>
 purK (nilChkA x6) fun x109_1 =>
 purK (addA 2 x109_1) fun x110_1 =>
 effK H (stA lim H 1 x110_1 x108_1) fun _ H =>
 purK (addA 7 x10) fun x111_1 =>
 purK (ld1 ρ H x111_1) fun x112_1 =>
 purK (binA Try.prog H .gtr 3 x112_1 (.int .i64 0)) fun x113_1 =>
 purK (gPur (wantV x113_1 true) (addA 4 x10)) fun x115_1 =>
 purK (gPur (wantV x113_1 true) (addA 0 x115_1)) fun x116_1 =>
 purK (gPur (wantV x113_1 true) (ld1 ρ H x116_1)) fun x117_1 =>
 purK (gPur (wantV x113_1 true) (binA Try.prog H .neq 27 x117_1 (.int .i64 9))) fun x118_1 =>
 purK (pickA x113_1 x118_1 (.bool false)) fun x119_1 =>
 condK x119_1
 (
 purK (nilChkA x6) fun x121_1 =>
 purK (addA 3 x121_1) fun x122_1 =>
 purK (ld1 ρ H x122_1) fun x123_1 =>
 purK (binA Try.prog H .shl 48 (.int .u32 1) x9) fun x125_1 =>
 purK (binA Try.prog H .or 48 x123_1 x125_1) fun x126_1 =>
 purK (nilChkA x6) fun x127_1 =>
 purK (addA 3 x127_1) fun x128_1 =>
 effK H (stA lim H 1 x128_1 x126_1) fun _ H =>
 kn x65 H)
 (
 kn x65 H)
theorem N8_6_eq (ρ call yc lim k x6 x9 x10 x11 x63 x64 x65 H kn k3 k2 R) :
 evL (cx ρ) call yc false 8 lim k (Code.at [1,1,1,1,1,0,1,0,0,1,1,0,0,1,1,1] c8) (sp 131 [(6,x6),(9,x9),(10,x10),(11,x11),(63,x63),(64,x64),(65,x65)]) H (kk (some [6,63,64,65]) kn [(3,(some [6,63,64,65]),k3),(2,(some [6]),k2)] R [4,5]) = N8_6 ρ call yc lim k x6 x9 x10 x11 x63 x64 x65 H (fun x65 H => kn (sp 131 [(6,x6),(63,x63),(64,x64),(65,x65)]) H) := by
 kernel_rfl
noncomputable def N8_9 (ρ : RO) (call : CallF) (yc : YieldF) (lim k : Nat) (x6 x9 x10 x11 x63 x64 x65 x73 x74 x75 : AV) (H : Heap) (kn : AV → AV → Heap → Res) : Res :=
 purK (binA Try.prog H .add 3 x75 (.int .i64 1)) fun x100_1 =>
 kn x11 x100_1 H
theorem N8_9_eq (ρ call yc lim k x6 x9 x10 x11 x63 x64 x65 x73 x74 x75 H kn k4 k3 k2 R) :
 evL (cx ρ) call yc false 8 lim k (Code.at [1,1,1,1,1,0,1,0,0,1,1,0,0,1,1,0,1,0,0,1,1,1] c8) (sp 131 [(6,x6),(9,x9),(10,x10),(11,x11),(63,x63),(64,x64),(65,x65),(73,x73),(74,x74),(75,x75)]) H (kk (some [6,9,10,11,63,64,65,73,74,75]) kn [(4,(some [6,9,10,11,63,64,65]),k4),(3,(some [6,63,64,65]),k3),(2,(some [6]),k2)] R [4,5]) = N8_9 ρ call yc lim k x6 x9 x10 x11 x63 x64 x65 x73 x74 x75 H (fun x11 x75 H => kn (sp 131 [(6,x6),(9,x9),(10,x10),(11,x11),(63,x63),(64,x64),(65,x65),(73,x73),(74,x74),(75,x75)]) H) := by
 kernel_rfl
noncomputable def N8_8b (ρ : RO) (call : CallF) (yc : YieldF) (lim k : Nat) (x6 x9 x10 x11 x63 x64 x65 x73 x74 x75 : AV) (H : Heap) (kn : AV → AV → Heap → Res) (k4 : AV → AV → AV → AV → Heap → Res) : Res :=
 purK (binA Try.prog H .lss 3 x75 x74) fun x76_1 =>
 condK x76_1
 (
 purK (ixS 8 x73 x75) fun x78_1 =>
 purK (ldN ρ H 8 x78_1) fun x79_1 =>
 effK H (some (.ptr H.sz 0 0,.new (newCells 31 false [.int .i64 0,.str ByteArray.empty,.str ByteArray.empty,.int .u64 0,.int .i64 0,.str ByteArray.empty,.int .i64 0,.int .i64 0]))) fun x13_1 H =>
 effK H (stA lim H 8 x13_1 x79_1) fun _ H =>
 purK (addA 7 x13_1) fun x80_1 =>
 purK (ld1 ρ H x80_1) fun x81_1 =>
 purK (binA Try.prog H .gtr 3 x81_1 (.int .i64 0)) fun x82_1 =>
 purK (gPur (wantV x82_1 true) (addA 7 x13_1)) fun x84_1 =>
 purK (gPur (wantV x82_1 true) (ld1 ρ H x84_1)) fun x85_1 =>
 purK (gPur (wantV x82_1 true) (addA 6 x10)) fun x86_1 =>
 purK (gPur (wantV x82_1 true) (ld1 ρ H x86_1)) fun x87_1 =>
 purK (gPur (wantV x82_1 true) (binA Try.prog H .lss 3 x85_1 x87_1)) fun x88_1 =>
 purK (pickA x82_1 x88_1 (.bool false)) fun x89_1 =>
 purK (gPur (wantV x89_1 true) (addA 4 x13_1)) fun x91_1 =>
 purK (gPur (wantV x89_1 true) (addA 0 x91_1)) fun x92_1 =>
 purK (gPur (wantV x89_1 true) (ld1 ρ H x92_1)) fun x93_1 =>
 purK (gPur (wantV x89_1 true) (binA Try.prog H .neq 27 x93_1 (.int .i64 9))) fun x94_1 =>
 purK (pickA x89_1 x94_1 (.bool false)) fun x95_1 =>
 condK x95_1
 (
 purK (binA Try.prog H .shl 48 (.int .u32 1) x75) fun x98_1 =>
 purK (binA Try.prog H .or 48 x11 x98_1) fun x99_1 =>
 N8_9 ρ call yc lim k x6 x9 x10 x99_1 x63 x64 x65 x73 x74 x75 H kn)
 (
 N8_9 ρ call yc lim k x6 x9 x10 x11 x63 x64 x65 x73 x74 x75 H kn))
 (
 k4 x9 x10 x11 x65 H)
theorem N8_8b_x (ρ call yc lim k J x6 x9 x10 x11 x63 x64 x65 x73 x74 x75 H kn k4 k3 k2 R) :
 evX (cx ρ) call yc false 8 lim k J (Code.at [1,1,1,1,1,0,1,0,0,1,1,0,0,1,1,0,1,0,0] c8) (sp 131 [(6,x6),(9,x9),(10,x10),(11,x11),(63,x63),(64,x64),(65,x65),(73,x73),(74,x74),(75,x75)]) H (kk (some [6,9,10,11,63,64,65,73,74,75]) kn [(4,(some [6,9,10,11,63,64,65]),k4),(3,(some [6,63,64,65]),k3),(2,(some [6]),k2)] R [4,5]) =
 purK (binA Try.prog H .lss 3 x75 x74) fun x76_1 =>
 condK x76_1
 (
 purK (ixS 8 x73 x75) fun x78_1 =>
 purK (ldN ρ H 8 x78_1) fun x79_1 =>
 effK H (some (.ptr H.sz 0 0,.new (newCells 31 false [.int .i64 0,.str ByteArray.empty,.str ByteArray.empty,.int .u64 0,.int .i64 0,.str ByteArray.empty,.int .i64 0,.int .i64 0]))) fun x13_1 H =>
 effK H (stA lim H 8 x13_1 x79_1) fun _ H =>
 purK (addA 7 x13_1) fun x80_1 =>
 purK (ld1 ρ H x80_1) fun x81_1 =>
 purK (binA Try.prog H .gtr 3 x81_1 (.int .i64 0)) fun x82_1 =>
 purK (gPur (wantV x82_1 true) (addA 7 x13_1)) fun x84_1 =>
 purK (gPur (wantV x82_1 true) (ld1 ρ H x84_1)) fun x85_1 =>
 purK (gPur (wantV x82_1 true) (addA 6 x10)) fun x86_1 =>
 purK (gPur (wantV x82_1 true) (ld1 ρ H x86_1)) fun x87_1 =>
 purK (gPur (wantV x82_1 true) (binA Try.prog H .lss 3 x85_1 x87_1)) fun x88_1 =>
 purK (pickA x82_1 x88_1 (.bool false)) fun x89_1 =>
 purK (gPur (wantV x89_1 true) (addA 4 x13_1)) fun x91_1 =>
 purK (gPur (wantV x89_1 true) (addA 0 x91_1)) fun x92_1 =>
 purK (gPur (wantV x89_1 true) (ld1 ρ H x92_1)) fun x93_1 =>
 purK (gPur (wantV x89_1 true) (binA Try.prog H .neq 27 x93_1 (.int .i64 9))) fun x94_1 =>
 purK (pickA x89_1 x94_1 (.bool false)) fun x95_1 =>
 condK x95_1
 (
 purK (binA Try.prog H .shl 48 (.int .u32 1) x75) fun x98_1 =>
 purK (binA Try.prog H .or 48 x11 x98_1) fun x99_1 =>
 J (Code.at [1,1,1,1,1,0,1,0,0,1,1,0,0,1,1,0,1,0,0,1,1,1] c8) (sp 131 [(6,x6),(9,x9),(10,x10),(11,x99_1),(63,x63),(64,x64),(65,x65),(73,x73),(74,x74),(75,x75)]) H (kk (some [6,9,10,11,63,64,65,73,74,75]) kn [(4,(some [6,9,10,11,63,64,65]),k4),(3,(some [6,63,64,65]),k3),(2,(some [6]),k2)] R [4,5]))
 (
 J (Code.at [1,1,1,1,1,0,1,0,0,1,1,0,0,1,1,0,1,0,0,1,1,1] c8) (sp 131 [(6,x6),(9,x9),(10,x10),(11,x11),(63,x63),(64,x64),(65,x65),(73,x73),(74,x74),(75,x75)]) H (kk (some [6,9,10,11,63,64,65,73,74,75]) kn [(4,(some [6,9,10,11,63,64,65]),k4),(3,(some [6,63,64,65]),k3),(2,(some [6]),k2)] R [4,5])))
 (
 k4 (sp 131 [(6,x6),(9,x9),(10,x10),(11,x11),(63,x63),(64,x64),(65,x65)]) H) := by
 kernel_rfl
theorem N8_8b_eq (ρ call yc lim k x6 x9 x10 x11 x63 x64 x65 x73 x74 x75 H kn k4 k3 k2 R) :
 evL (cx ρ) call yc false 8 lim k (Code.at [1,1,1,1,1,0,1,0,0,1,1,0,0,1,1,0,1,0,0] c8) (sp 131 [(6,x6),(9,x9),(10,x10),(11,x11),(63,x63),(64,x64),(65,x65),(73,x73),(74,x74),(75,x75)]) H (kk (some [6,9,10,11,63,64,65,73,74,75]) kn [(4,(some [6,9,10,11,63,64,65]),k4),(3,(some [6,63,64,65]),k3),(2,(some [6]),k2)] R [4,5]) = N8_8b ρ call yc lim k x6 x9 x10 x11 x63 x64 x65 x73 x74 x75 H (fun x11 x75 H => kn (sp 131 [(6,x6),(9,x9),(10,x10),(11,x11),(63,x63),(64,x64),(65,x65),(73,x73),(74,x74),(75,x75)]) H) (fun x9 x10 x11 x65 H => k4 (sp 131 [(6,x6),(9,x9),(10,x10),(11,x11),(63,x63),(64,x64),(65,x65)]) H) := by
 rw [evL_X,N8_8b_x]
 simp only [← evL_X,N8_8b,N8_9_eq]
noncomputable def N8_8 (ρ : RO) (call : CallF) (yc : YieldF) (lim k : Nat) (x6 x9 x10 x11 x63 x64 x65 x73 x74 x75 : AV) (H : Heap) (k4 : AV → AV → AV → AV → Heap → Res) : Res :=
 loopL (fun (x : AV × AV) H kn => N8_8b ρ call yc lim k x6 x9 x10 x.1 x63 x64 x65 x73 x74 x.2 H (fun x11 x75 H => kn (x11,x75) H) k4) k (x11,x75) H
theorem N8_8_eq (ρ call yc lim k x6 x9 x10 x11 x63 x64 x65 x73 x74 x75 H kn k4 k3 k2 R) :
 evL (cx ρ) call yc false 8 lim k (Code.at [1,1,1,1,1,0,1,0,0,1,1,0,0,1,1,0,1,0] c8) (sp 131 [(6,x6),(9,x9),(10,x10),(11,x11),(63,x63),(64,x64),(65,x65),(73,x73),(74,x74),(75,x75)]) H (kk (some [6,9,10,11,63,64,65]) kn [(4,(some [6,9,10,11,63,64,65]),k4),(3,(some [6,63,64,65]),k3),(2,(some [6]),k2)] R [4,5]) = N8_8 ρ call yc lim k x6 x9 x10 x11 x63 x64 x65 x73 x74 x75 H (fun x9 x10 x11 x65 H => k4 (sp 131 [(6,x6),(9,x9),(10,x10),(11,x11),(63,x63),(64,x64),(65,x65)]) H) := by
 have e : Code.at [1,1,1,1,1,0,1,0,0,1,1,0,0,1,1,0,1,0] c8 = .loop (Code.at [1,1,1,1,1,0,1,0,0,1,1,0,0,1,1,0,1,0,0] c8) := by kernel_rfl
 rw [e]
 unfold N8_8
 exact loop_node [6,9,10,11,63,64,65,73,74,75] (fun x : AV × AV => (sp 131 [(6,x6),(9,x9),(10,x10),(11,(x.1)),(63,x63),(64,x64),(65,x65),(73,x73),(74,x74),(75,(x.2))])) (fun (x : AV × AV) H kn => N8_8b ρ call yc lim k x6 x9 x10 x.1 x63 x64 x65 x73 x74 x.2 H (fun x11 x75 H => kn (x11,x75) H) (fun x9 x10 x11 x65 H => k4 (sp 131 [(6,x6),(9,x9),(10,x10),(11,x11),(63,x63),(64,x64),(65,x65)]) H)) (by kernel_rfl) (fun x => by kernel_rfl) (fun x H kn => N8_8b_eq ρ call yc lim k x6 x9 x10 (x.1) x63 x64 x65 x73 x74 (x.2) H kn k4 k3 k2 R) (x11,x75) (sp 131 [(6,x6),(9,x9),(10,x10),(11,x11),(63,x63),(64,x64),(65,x65),(73,x73),(74,x74),(75,x75)]) H (by kernel_rfl)
noncomputable def N8_7 (ρ : RO) (call : CallF) (yc : YieldF) (lim k : Nat) (x6 x9 x10 x11 x63 x64 x65 x73 x74 x75 : AV) (H : Heap) (kn : AV → AV → AV → AV → Heap → Res) : Res :=
 N8_8 ρ call yc lim k x6 x9 x10 x11 x63 x64 x65 x73 x74 x75 H kn
theorem N8_7_x (ρ call yc lim k J x6 x9 x10 x11 x63 x64 x65 x73 x74 x75 H kn k3 k2 R) :
 evX (cx ρ) call yc false 8 lim k J (Code.at [1,1,1,1,1,0,1,0,0,1,1,0,0,1,1,0,1] c8) (sp 131 [(6,x6),(9,x9),(10,x10),(11,x11),(63,x63),(64,x64),(65,x65),(73,x73),(74,x74),(75,x75)]) H (kk (some [6,9,10,11,63,64,65]) kn [(3,(some [6,63,64,65]),k3),(2,(some [6]),k2)] R [4,5]) =
 J (Code.at [1,1,1,1,1,0,1,0,0,1,1,0,0,1,1,0,1,0] c8) (sp 131 [(6,x6),(9,x9),(10,x10),(11,x11),(63,x63),(64,x64),(65,x65),(73,x73),(74,x74),(75,x75)]) H (kk (some [6,9,10,11,63,64,65]) kn [(4,(some [6,9,10,11,63,64,65]),kn),(3,(some [6,63,64,65]),k3),(2,(some [6]),k2)] R [4,5]) := by
 kernel_rfl
theorem N8_7_eq (ρ call yc lim k x6 x9 x10 x11 x63 x64 x65 x73 x74 x75 H kn k3 k2 R) :
 evL (cx ρ) call yc false 8 lim k (Code.at [1,1,1,1,1,0,1,0,0,1,1,0,0,1,1,0,1] c8) (sp 131 [(6,x6),(9,x9),(10,x10),(11,x11),(63,x63),(64,x64),(65,x65),(73,x73),(74,x74),(75,x75)]) H (kk (some [6,9,10,11,63,64,65]) kn [(3,(some [6,63,64,65]),k3),(2,(some [6]),k2)] R [4,5]) = N8_7 ρ call yc lim k x6 x9 x10 x11 x63 x64 x65 x73 x74 x75 H (fun x9 x10 x11 x65 H => kn (sp 131 [(6,x6),(9,x9),(10,x10),(11,x11),(63,x63),(64,x64),(65,x65)]) H) := by
 rw [evL_X,N8_7_x]
 simp only [← evL_X,N8_7,N8_8_eq]
noncomputable def N8_4b (ρ : RO) (call : CallF) (yc : YieldF) (lim k : Nat) (x6 x63 x64 x65 : AV) (H : Heap) (kn : AV → Heap → Res) (k2 : AV → Heap → Res) : Res :=
 purK (binA Try.prog H .lss 3 x65 x64) fun x66_1 =>
 condK x66_1
 (
 purK (ixS 8 x63 x65) fun x68_1 =>
 purK (ldN ρ H 8 x68_1) fun x69_1 =>
 effK H (some (.ptr H.sz 0 0,.new (newCells 31 false [.int .i64 0,.str ByteArray.empty,.str ByteArray.empty,.int .u64 0,.int .i64 0,.str ByteArray.empty,.int .i64 0,.int .i64 0]))) fun x10_1 H =>
 effK H (stA lim H 8 x10_1 x69_1) fun _ H =>
 purK (nilChkA x6) fun x71_1 =>
 purK (addA 0 x71_1) fun x72_1 =>
 purK (ld1 ρ H x72_1) fun x73_1 =>
 purK (lenS x73_1) fun x74_1 =>
 N8_7 ρ call yc lim k x6 x65 x10_1 (.int .u32 0) x63 x64 x65 x73_1 x74_1 (.int .i64 0) H (fun x9_1 x10_2 x11_1 x65_1 H =>
 N8_6 ρ call yc lim k x6 x9_1 x10_2 x11_1 x63 x64 x65_1 H (fun x65_2 H =>
 N8_5 ρ call yc lim k x6 x63 x64 x65_2 H kn)))
 (
 k2 x6 H)
theorem N8_4b_x (ρ call yc lim k J x6 x63 x64 x65 H kn k2 R) :
 evX (cx ρ) call yc false 8 lim k J (Code.at [1,1,1,1,1,0,1,0,0] c8) (sp 131 [(6,x6),(63,x63),(64,x64),(65,x65)]) H (kk (some [6,63,64,65]) kn [(2,(some [6]),k2)] R [4,5]) =
 purK (binA Try.prog H .lss 3 x65 x64) fun x66_1 =>
 condK x66_1
 (
 purK (ixS 8 x63 x65) fun x68_1 =>
 purK (ldN ρ H 8 x68_1) fun x69_1 =>
 effK H (some (.ptr H.sz 0 0,.new (newCells 31 false [.int .i64 0,.str ByteArray.empty,.str ByteArray.empty,.int .u64 0,.int .i64 0,.str ByteArray.empty,.int .i64 0,.int .i64 0]))) fun x10_1 H =>
 effK H (stA lim H 8 x10_1 x69_1) fun _ H =>
 purK (nilChkA x6) fun x71_1 =>
 purK (addA 0 x71_1) fun x72_1 =>
 purK (ld1 ρ H x72_1) fun x73_1 =>
 purK (lenS x73_1) fun x74_1 =>
 J (Code.at [1,1,1,1,1,0,1,0,0,1,1,0,0,1,1,0,1] c8) (sp 131 [(6,x6),(9,x65),(10,x10_1),(11,(.int .u32 0)),(63,x63),(64,x64),(65,x65),(73,x73_1),(74,x74_1),(75,(.int .i64 0))]) H (kk (some [6,9,10,11,63,64,65]) (fun s H => J (Code.at [1,1,1,1,1,0,1,0,0,1,1,0,0,1,1,1] c8) s H (kk (some [6,63,64,65]) (fun s H => J (Code.at [1,1,1,1,1,0,1,0,0,1,1,1] c8) s H (kk (some [6,63,64,65]) kn [(2,(some [6]),k2)] R [4,5])) [(3,(some [6,63,64,65]),(fun s H => J (Code.at [1,1,1,1,1,0,1,0,0,1,1,1] c8) s H (kk (some [6,63,64,65]) kn [(2,(some [6]),k2)] R [4,5]))),(2,(some [6]),k2)] R [4,5])) [(3,(some [6,63,64,65]),(fun s H => J (Code.at [1,1,1,1,1,0,1,0,0,1,1,1] c8) s H (kk (some [6,63,64,65]) kn [(2,(some [6]),k2)] R [4,5]))),(2,(some [6]),k2)] R [4,5]))
 (
 k2 (sp 131 [(6,x6)]) H) := by
 kernel_rfl
theorem N8_4b_eq (ρ call yc lim k x6 x63 x64 x65 H kn k2 R) :
 evL (cx ρ) call yc false 8 lim k (Code.at [1,1,1,1,1,0,1,0,0] c8) (sp 131 [(6,x6),(63,x63),(64,x64),(65,x65)]) H (kk (some [6,63,64,65]) kn [(2,(some [6]),k2)] R [4,5]) = N8_4b ρ call yc lim k x6 x63 x64 x65 H (fun x65 H => kn (sp 131 [(6,x6),(63,x63),(64,x64),(65,x65)]) H) (fun x6 H => k2 (sp 131 [(6,x6)]) H) := by
 rw [evL_X,N8_4b_x]
 simp only [← evL_X,N8_4b,N8_5_eq,N8_6_eq,N8_7_eq]
noncomputable def N8_4 (ρ : RO) (call : CallF) (yc : YieldF) (lim k : Nat) (x6 x63 x64 x65 : AV) (H : Heap) (k2 : AV → Heap → Res) : Res :=
 loopL (fun (x : AV) H kn => N8_4b ρ call yc lim k x6 x63 x64 x H (fun x65 H => kn x65 H) k2) k x65 H
theorem N8_4_eq (ρ call yc lim k x6 x63 x64 x65 H kn k2 R) :
 evL (cx ρ) call yc false 8 lim k (Code.at [1,1,1,1,1,0,1,0] c8) (sp 131 [(6,x6),(63,x63),(64,x64),(65,x65)]) H (kk (some [6]) kn [(2,(some [6]),k2)] R [4,5]) = N8_4 ρ call yc lim k x6 x63 x64 x65 H (fun x6 H => k2 (sp 131 [(6,x6)]) H) := by
 have e : Code.at [1,1,1,1,1,0,1,0] c8 = .loop (Code.at [1,1,1,1,1,0,1,0,0] c8) := by kernel_rfl
 rw [e]
 unfold N8_4
 exact loop_node [6,63,64,65] (fun x : AV => (sp 131 [(6,x6),(63,x63),(64,x64),(65,(x))])) (fun (x : AV) H kn => N8_4b ρ call yc lim k x6 x63 x64 x H (fun x65 H => kn x65 H) (fun x6 H => k2 (sp 131 [(6,x6)]) H)) (by kernel_rfl) (fun x => by kernel_rfl) (fun x H kn => N8_4b_eq ρ call yc lim k x6 x63 x64 (x) H kn k2 R) x65 (sp 131 [(6,x6),(63,x63),(64,x64),(65,x65)]) H (by kernel_rfl)
noncomputable def N8_3 (ρ : RO) (call : CallF) (yc : YieldF) (lim k : Nat) (x6 x63 x64 x65 : AV) (H : Heap) (kn : AV → Heap → Res) : Res :=
 N8_4 ρ call yc lim k x6 x63 x64 x65 H kn
theorem N8_3_x (ρ call yc lim k J x6 x63 x64 x65 H kn R) :
 evX (cx ρ) call yc false 8 lim k J (Code.at [1,1,1,1,1,0,1] c8) (sp 131 [(6,x6),(63,x63),(64,x64),(65,x65)]) H (kk (some [6]) kn [] R [4,5]) =
 J (Code.at [1,1,1,1,1,0,1,0] c8) (sp 131 [(6,x6),(63,x63),(64,x64),(65,x65)]) H (kk (some [6]) kn [(2,(some [6]),kn)] R [4,5]) := by
 kernel_rfl
theorem N8_3_eq (ρ call yc lim k x6 x63 x64 x65 H kn R) :
 evL (cx ρ) call yc false 8 lim k (Code.at [1,1,1,1,1,0,1] c8) (sp 131 [(6,x6),(63,x63),(64,x64),(65,x65)]) H (kk (some [6]) kn [] R [4,5]) = N8_3 ρ call yc lim k x6 x63 x64 x65 H (fun x6 H => kn (sp 131 [(6,x6)]) H) := by
 rw [evL_X,N8_3_x]
 simp only [← evL_X,N8_3,N8_4_eq]
noncomputable def N8_1 (ρ : RO) (call : CallF) (yc : YieldF) (lim k : Nat) (x6 : AV) (H : Heap) (R : KR) : Res :=
 purK (nilChkA x6) fun x55_1 =>
 purK (addA 0 x55_1) fun x56_1 =>
 purK (ld1 ρ H x56_1) fun x57_1 =>
 purK (lenS x57_1) fun x58_1 =>
 purK (binA Try.prog H .gtr 3 x58_1 (.int .i64 16)) fun x59_1 =>
 condK x59_1
 (
 R [.nilp,(.int .i64 5)] H)
 (
 purK (nilChkA x6) fun x61_1 =>
 purK (addA 0 x61_1) fun x62_1 =>
 purK (ld1 ρ H x62_1) fun x63_1 =>
 purK (lenS x63_1) fun x64_1 =>
 N8_3 ρ call yc lim k x6 x63_1 x64_1 (.int .i64 0) H (fun x6_1 H =>
 N8_2 ρ call yc lim k x6_1 H R))
theorem N8_1_x (ρ call yc lim k J x6 H R) :
 evX (cx ρ) call yc false 8 lim k J (Code.at [1,1,1,1] c8) (sp 131 [(6,x6)]) H (kk none (fun s H => R (gs [4,5] s) H) [] R [4,5]) =
 purK (nilChkA x6) fun x55_1 =>
 purK (addA 0 x55_1) fun x56_1 =>
 purK (ld1 ρ H x56_1) fun x57_1 =>
 purK (lenS x57_1) fun x58_1 =>
 purK (binA Try.prog H .gtr 3 x58_1 (.int .i64 16)) fun x59_1 =>
 condK x59_1
 (
 R [.nilp,(.int .i64 5)] H)
 (
 purK (nilChkA x6) fun x61_1 =>
 purK (addA 0 x61_1) fun x62_1 =>
 purK (ld1 ρ H x62_1) fun x63_1 =>
 purK (lenS x63_1) fun x64_1 =>
 J (Code.at [1,1,1,1,1,0,1] c8) (sp 131 [(6,x6),(63,x63_1),(64,x64_1),(65,(.int .i64 0))]) H (kk (some [6]) (fun s H => J (Code.at [1,1,1,1,1,1] c8) s H (kk none (fun s H => R (gs [4,5] s) H) [] R [4,5])) [] R [4,5])) := by
 kernel_rfl
theorem N8_1_eq (ρ call yc lim k x6 H R) :
 evL (cx ρ) call yc false 8 lim k (Code.at [1,1,1,1] c8) (sp 131 [(6,x6)]) H (kk none (fun s H => R (gs [4,5] s) H) [] R [4,5]) = N8_1 ρ call yc lim k x6 H R := by
 rw [evL_X,N8_1_x]
 simp only [← evL_X,N8_1,N8_2_eq,N8_3_eq]
noncomputable def N8_12 (ρ : RO) (call : CallF) (yc : YieldF) (lim k : Nat) (x1 x6 x21 x22 x23 : AV) (H : Heap) (kn : AV → Heap → Res) : Res :=
 purK (binA Try.prog H .add 3 x23 (.int .i64 1)) fun x53_1 =>
 kn x53_1 H
theorem N8_12_eq (ρ call yc lim k x1 x6 x21 x22 x23 H kn k0 R) :
 evL (cx ρ) call yc false 8 lim k (Code.at [1,1,1,0,1,0,0,1,1,1] c8) (sp 131 [(1,x1),(6,x6),(21,x21),(22,x22),(23,x23)]) H (kk (some [1,6,21,22,23]) kn [(0,(some [6]),k0)] R [4,5]) = N8_12 ρ call yc lim k x1 x6 x21 x22 x23 H (fun x23 H => kn (sp 131 [(1,x1),(6,x6),(21,x21),(22,x22),(23,x23)]) H) := by
 kernel_rfl
noncomputable def N8_11b (ρ : RO) (call : CallF) (yc : YieldF) (lim k : Nat) (x1 x6 x21 x22 x23 : AV) (H : Heap) (kn : AV → Heap → Res) (k0 : AV → Heap → Res) : Res :=
 purK (binA Try.prog H .lss 3 x23 x22) fun x24_1 =>
 condK x24_1
 (
 purK (ixS 8 x21 x23) fun x26_1 =>
 purK (ldN ρ H 8 x26_1) fun x27_1 =>
 effK H (some (.ptr H.sz 0 0,.new (newCells 31 false [.int .i64 0,.str ByteArray.empty,.str ByteArray.empty,.int .u64 0,.int .i64 0,.str ByteArray.empty,.int .i64 0,.int .i64 0]))) fun x8_1 H =>
 effK H (stA lim H 8 x8_1 x27_1) fun _ H =>
 purK (addA 0 x8_1) fun x28_1 =>
 purK (addA 1 x28_1) fun x29_1 =>
 purK (ld1 ρ H x29_1) fun x30_1 =>
 purK (binA Try.prog H .eql 9 x30_1 x1) fun x32_1 =>
 condK x32_1
 (
 purK (nilChkA x6) fun x36_1 =>
 purK (addA 0 x36_1) fun x37_1 =>
 purK (ld1 ρ H x37_1) fun x38_1 =>
 purK (ldN ρ H 8 x8_1) fun x39_1 =>
 mkK H (bldS H 31 8 [.int .i64 0,.str ByteArray.empty,.str ByteArray.empty,.int .u64 0,.int .i64 0,.str ByteArray.empty,.int .i64 0,.int .i64 0] 1 [(0,8,x39_1)]) true fun x40_1 H => bif (agn (ldN ρ H 8 x8_1) x39_1 && (agn (ld1 ρ H x37_1) x38_1 && true)) then
 purK (nilChkA x6) fun x43_1 =>
 purK (addA 1 x43_1) fun x44_1 =>
 purK (ld1 ρ H x44_1) fun x45_1 =>
 mkK H (bldS H 3 1 [.int .i64 0] 1 [(0,1,x23)]) true fun x47_1 H => bif (agn (ld1 ρ H x44_1) x45_1 && (agn (ldN ρ H 8 x8_1) x39_1 && (agn (ld1 ρ H x37_1) x38_1 && true))) then
 effK H (apA ρ lim H 31 8 88 x38_1 x40_1) fun x41_1 H => bif (agn (ld1 ρ H x44_1) x45_1 && true) then
 effK H (apA ρ lim H 3 1 8 x45_1 x47_1) fun x48_1 H =>
 purK (nilChkA x6) fun x49_1 =>
 purK (addA 0 x49_1) fun x50_1 =>
 effK H (stA lim H 1 x50_1 x41_1) fun _ H =>
 purK (nilChkA x6) fun x51_1 =>
 purK (addA 1 x51_1) fun x52_1 =>
 effK H (stA lim H 1 x52_1 x48_1) fun _ H =>
 N8_12 ρ call yc lim k x1 x6 x21 x22 x23 H kn
 else .stop
 else .stop
 else .stop)
 (
 N8_12 ρ call yc lim k x1 x6 x21 x22 x23 H kn))
 (
 k0 x6 H)
theorem N8_11b_x (ρ call yc lim k J x1 x6 x21 x22 x23 H kn k0 R) :
 evX (cx ρ) call yc false 8 lim k J (Code.at [1,1,1,0,1,0,0] c8) (sp 131 [(1,x1),(6,x6),(21,x21),(22,x22),(23,x23)]) H (kk (some [1,6,21,22,23]) kn [(0,(some [6]),k0)] R [4,5]) =
 purK (binA Try.prog H .lss 3 x23 x22) fun x24_1 =>
 condK x24_1
 (
 purK (ixS 8 x21 x23) fun x26_1 =>
 purK (ldN ρ H 8 x26_1) fun x27_1 =>
 effK H (some (.ptr H.sz 0 0,.new (newCells 31 false [.int .i64 0,.str ByteArray.empty,.str ByteArray.empty,.int .u64 0,.int .i64 0,.str ByteArray.empty,.int .i64 0,.int .i64 0]))) fun x8_1 H =>
 effK H (stA lim H 8 x8_1 x27_1) fun _ H =>
 purK (addA 0 x8_1) fun x28_1 =>
 purK (addA 1 x28_1) fun x29_1 =>
 purK (ld1 ρ H x29_1) fun x30_1 =>
 purK (binA Try.prog H .eql 9 x30_1 x1) fun x32_1 =>
 condK x32_1
 (
 purK (nilChkA x6) fun x36_1 =>
 purK (addA 0 x36_1) fun x37_1 =>
 purK (ld1 ρ H x37_1) fun x38_1 =>
 purK (ldN ρ H 8 x8_1) fun x39_1 =>
 mkK H (bldS H 31 8 [.int .i64 0,.str ByteArray.empty,.str ByteArray.empty,.int .u64 0,.int .i64 0,.str ByteArray.empty,.int .i64 0,.int .i64 0] 1 [(0,8,x39_1)]) true fun x40_1 H => bif (agn (ldN ρ H 8 x8_1) x39_1 && (agn (ld1 ρ H x37_1) x38_1 && true)) then
 purK (nilChkA x6) fun x43_1 =>
 purK (addA 1 x43_1) fun x44_1 =>
 purK (ld1 ρ H x44_1) fun x45_1 =>
 mkK H (bldS H 3 1 [.int .i64 0] 1 [(0,1,x23)]) true fun x47_1 H => bif (agn (ld1 ρ H x44_1) x45_1 && (agn (ldN ρ H 8 x8_1) x39_1 && (agn (ld1 ρ H x37_1) x38_1 && true))) then
 effK H (apA ρ lim H 31 8 88 x38_1 x40_1) fun x41_1 H => bif (agn (ld1 ρ H x44_1) x45_1 && true) then
 effK H (apA ρ lim H 3 1 8 x45_1 x47_1) fun x48_1 H =>
 purK (nilChkA x6) fun x49_1 =>
 purK (addA 0 x49_1) fun x50_1 =>
 effK H (stA lim H 1 x50_1 x41_1) fun _ H =>
 purK (nilChkA x6) fun x51_1 =>
 purK (addA 1 x51_1) fun x52_1 =>
 effK H (stA lim H 1 x52_1 x48_1) fun _ H =>
 J (Code.at [1,1,1,0,1,0,0,1,1,1] c8) (sp 131 [(1,x1),(6,x6),(21,x21),(22,x22),(23,x23)]) H (kk (some [1,6,21,22,23]) kn [(0,(some [6]),k0)] R [4,5])
 else .stop
 else .stop
 else .stop)
 (
 J (Code.at [1,1,1,0,1,0,0,1,1,1] c8) (sp 131 [(1,x1),(6,x6),(21,x21),(22,x22),(23,x23)]) H (kk (some [1,6,21,22,23]) kn [(0,(some [6]),k0)] R [4,5])))
 (
 k0 (sp 131 [(6,x6)]) H) := by
 kernel_rfl
theorem N8_11b_eq (ρ call yc lim k x1 x6 x21 x22 x23 H kn k0 R) :
 evL (cx ρ) call yc false 8 lim k (Code.at [1,1,1,0,1,0,0] c8) (sp 131 [(1,x1),(6,x6),(21,x21),(22,x22),(23,x23)]) H (kk (some [1,6,21,22,23]) kn [(0,(some [6]),k0)] R [4,5]) = N8_11b ρ call yc lim k x1 x6 x21 x22 x23 H (fun x23 H => kn (sp 131 [(1,x1),(6,x6),(21,x21),(22,x22),(23,x23)]) H) (fun x6 H => k0 (sp 131 [(6,x6)]) H) := by
 rw [evL_X,N8_11b_x]
 simp only [← evL_X,N8_11b,N8_12_eq]
noncomputable def N8_11 (ρ : RO) (call : CallF) (yc : YieldF) (lim k : Nat) (x1 x6 x21 x22 x23 : AV) (H : Heap) (k0 : AV → Heap → Res) : Res :=
 loopL (fun (x : AV) H kn => N8_11b ρ call yc lim k x1 x6 x21 x22 x H (fun x23 H => kn x23 H) k0) k x23 H
theorem N8_11_eq (ρ call yc lim k x1 x6 x21 x22 x23 H kn k0 R) :
 evL (cx ρ) call yc false 8 lim k (Code.at [1,1,1,0,1,0] c8) (sp 131 [(1,x1),(6,x6),(21,x21),(22,x22),(23,x23)]) H (kk (some [6]) kn [(0,(some [6]),k0)] R [4,5]) = N8_11 ρ call yc lim k x1 x6 x21 x22 x23 H (fun x6 H => k0 (sp 131 [(6,x6)]) H) := by
 have e : Code.at [1,1,1,0,1,0] c8 = .loop (Code.at [1,1,1,0,1,0,0] c8) := by kernel_rfl
 rw [e]
 unfold N8_11
 exact loop_node [1,6,21,22,23] (fun x : AV => (sp 131 [(1,x1),(6,x6),(21,x21),(22,x22),(23,(x))])) (fun (x : AV) H kn => N8_11b ρ call yc lim k x1 x6 x21 x22 x H (fun x23 H => kn x23 H) (fun x6 H => k0 (sp 131 [(6,x6)]) H)) (by kernel_rfl) (fun x => by kernel_rfl) (fun x H kn => N8_11b_eq ρ call yc lim k x1 x6 x21 x22 (x) H kn k0 R) x23 (sp 131 [(1,x1),(6,x6),(21,x21),(22,x22),(23,x23)]) H (by kernel_rfl)
noncomputable def N8_10 (ρ : RO) (call : CallF) (yc : YieldF) (lim k : Nat) (x1 x6 x21 x22 x23 : AV) (H : Heap) (kn : AV → Heap → Res) : Res :=
 N8_11 ρ call yc lim k x1 x6 x21 x22 x23 H kn
theorem N8_10_x (ρ call yc lim k J x1 x6 x21 x22 x23 H kn R) :
 evX (cx ρ) call yc false 8 lim k J (Code.at [1,1,1,0,1] c8) (sp 131 [(1,x1),(6,x6),(21,x21),(22,x22),(23,x23)]) H (kk (some [6]) kn [] R [4,5]) =
 J (Code.at [1,1,1,0,1,0] c8) (sp 131 [(1,x1),(6,x6),(21,x21),(22,x22),(23,x23)]) H (kk (some [6]) kn [(0,(some [6]),kn)] R [4,5]) := by
 kernel_rfl
theorem N8_10_eq (ρ call yc lim k x1 x6 x21 x22 x23 H kn R) :
 evL (cx ρ) call yc false 8 lim k (Code.at [1,1,1,0,1] c8) (sp 131 [(1,x1),(6,x6),(21,x21),(22,x22),(23,x23)]) H (kk (some [6]) kn [] R [4,5]) = N8_10 ρ call yc lim k x1 x6 x21 x22 x23 H (fun x6 H => kn (sp 131 [(6,x6)]) H) := by
 rw [evL_X,N8_10_x]
 simp only [← evL_X,N8_10,N8_11_eq]
noncomputable def L8 (ρ : RO) (call : CallF) (yc : YieldF) (lim k : Nat) (x0 x1 : AV) (H : Heap) : Res :=
 resK (call lim 13 [x0] H) fun x15 H =>
 purK (unA .not x15) fun x16 =>
 condK x16
 (
 retK [.nilp,(.int .i64 1)] H)
 (
 effK H (some (makeMapA H)) fun x17 H =>
 effK H (some (makeMapA H)) fun x18 H =>
 purK (bldA [.nils,.nils,.nils,.int .u32 0,.nilm,.nilm] [(4,1,x17),(5,1,x18)]) fun x19 =>
 effK H (boxA H 64 x19) fun x20 H =>
 purK (lenS x0) fun x22 =>
 N8_10 ρ call yc lim k x1 x20 x0 x22 (.int .i64 0) H (fun x6 H =>
 N8_1 ρ call yc lim k x6 H retK))
theorem L8_x (ρ call yc lim k J x0 x1 H) :
 evX (cx ρ) call yc false 8 lim k J c8 ([x0,x1] ++ List.replicate 129 (.tup [])) H (kk none (fun s H => retK (gs [4,5] s) H) [] retK [4,5]) =
 resK (call lim 13 [x0] H) fun x15 H =>
 purK (unA .not x15) fun x16 =>
 condK x16
 (
 retK [.nilp,(.int .i64 1)] H)
 (
 effK H (some (makeMapA H)) fun x17 H =>
 effK H (some (makeMapA H)) fun x18 H =>
 purK (bldA [.nils,.nils,.nils,.int .u32 0,.nilm,.nilm] [(4,1,x17),(5,1,x18)]) fun x19 =>
 effK H (boxA H 64 x19) fun x20 H =>
 purK (lenS x0) fun x22 =>
 J (Code.at [1,1,1,0,1] c8) (sp 131 [(1,x1),(6,x20),(21,x0),(22,x22),(23,(.int .i64 0))]) H (kk (some [6]) (fun s H => J (Code.at [1,1,1,1] c8) s H (kk none (fun s H => retK (gs [4,5] s) H) [] retK [4,5])) [] retK [4,5])) := by
 kernel_rfl
theorem G8 (ρ call yc lim k x0 x1 H) :
 evL (cx ρ) call yc false 8 lim k c8 ([x0,x1] ++ List.replicate 129 (.tup [])) H (kk none (fun s H => retK (gs [4,5] s) H) [] retK [4,5]) = L8 ρ call yc lim k x0 x1 H := by
 rw [evL_X,L8_x]
 simp only [← evL_X,L8,N8_10_eq,N8_1_eq]
theorem E8 (ρ : RO) (k lim : Nat) (x0 x1 : AV) (H : Heap) : evCall (cx ρ) (k + 1) lim 8 [x0,x1] H = L8 ρ (evCall (cx ρ) k) (evCY (cx ρ) k).2 lim k x0 x1 H := by
 rw [evCall_body (cx ρ) k lim 8 _ H Try.f8 c8 [4,5] (by kernel_rfl) (by kernel_rfl) (by kernel_rfl) (by kernel_rfl) (by kernel_rfl)]
 exact G8 ρ (evCall (cx ρ) k) (evCY (cx ρ) k).2 lim k x0 x1 H
-- (*haycroft/history.search).whole
noncomputable def c9 : Code := Code.of Try.prog 9
noncomputable def L9 (ρ : RO) (call : CallF) (yc : YieldF) (lim k : Nat) (x0 : AV) (H : Heap) : Res :=
 effK H (boxA H 41 x0) fun x1 H =>
 purK (ld1 ρ H x1) fun x3 =>
 resK (call lim 16 [x3] H) fun x4 H =>
 resK (call lim 15 [x4,(.fn (.func 17) [] [x1])] H) fun x6 H =>
 retK [x6] H
theorem G9 (ρ call yc lim k x0 H) :
 evL (cx ρ) call yc false 9 lim k c9 ([x0] ++ List.replicate 6 (.tup [])) H (kk none (fun s H => retK (gs [2] s) H) [] retK [2]) = L9 ρ call yc lim k x0 H := by
 kernel_rfl
theorem E9 (ρ : RO) (k lim : Nat) (x0 : AV) (H : Heap) : evCall (cx ρ) (k + 1) lim 9 [x0] H = L9 ρ (evCall (cx ρ) k) (evCY (cx ρ) k).2 lim k x0 H := by
 rw [evCall_body (cx ρ) k lim 9 _ H Try.f9 c9 [2] (by kernel_rfl) (by kernel_rfl) (by kernel_rfl) (by kernel_rfl) (by kernel_rfl)]
 exact G9 ρ (evCall (cx ρ) k) (evCY (cx ρ) k).2 lim k x0 H
-- (*haycroft/history.search).way
noncomputable def c10 : Code := Code.of Try.prog 10
noncomputable def N10_2 (ρ : RO) (call : CallF) (yc : YieldF) (lim k : Nat) (x5 : AV) (H : Heap) (R : KR) : Res :=
 resK (call lim 18 [x5] H) fun x31_1 H =>
 R [x5] H
theorem N10_2_eq (ρ call yc lim k x5 H R) :
 evL (cx ρ) call yc false 10 lim k (Code.at [1,1,1] c10) (sp 33 [(5,x5)]) H (kk none (fun s H => R (gs [4] s) H) [] R [4]) = N10_2 ρ call yc lim k x5 H R := by
 kernel_rfl
noncomputable def N10_3b (ρ : RO) (call : CallF) (yc : YieldF) (lim k : Nat) (x0 x3 x5 : AV) (H : Heap) (kn : AV → Heap → Res) (k0 : AV → Heap → Res) : Res :=
 purK (ldN ρ H 3 x3) fun x6_1 =>
 purK (bldA [.int .u32 0,.str ByteArray.empty,.bool false] []) fun x7_1 =>
 purK (binA Try.prog H .neq 52 x6_1 x7_1) fun x8_1 =>
 condK x8_1
 (
 purK (nilChkA x0) fun x11_1 =>
 purK (addA 1 x11_1) fun x12_1 =>
 purK (ld1 ρ H x12_1) fun x13_1 =>
 purK (nilChkA x0) fun x15_1 =>
 purK (addA 5 x15_1) fun x16_1 =>
 purK (ld1 ρ H x16_1) fun x17_1 =>
 purK (ldN ρ H 3 x3) fun x18_1 =>
 purK (lookupA (cx ρ) H 61 x17_1 x18_1 false) fun x19_1 =>
 purK (ixS 1 x13_1 x19_1) fun x20_1 =>
 purK (ld1 ρ H x20_1) fun x21_1 =>
 mkK H (bldS H 3 1 [.int .i64 0] 1 [(0,1,x21_1)]) true fun x22_1 H => bif (agn (ld1 ρ H x20_1) x21_1 && (agn (lookupA (cx ρ) H 61 x17_1 x18_1 false) x19_1 && (agn (ldN ρ H 3 x3) x18_1 && (agn (ld1 ρ H x16_1) x17_1 && (agn (ld1 ρ H x12_1) x13_1 && true))))) then
 effK H (apA ρ lim H 3 1 8 x5 x22_1) fun x23_1 H =>
 purK (nilChkA x0) fun x25_1 =>
 purK (addA 4 x25_1) fun x26_1 =>
 purK (ld1 ρ H x26_1) fun x27_1 =>
 purK (ldN ρ H 3 x3) fun x28_1 =>
 purK (lookupA (cx ρ) H 60 x27_1 x28_1 false) fun x29_1 =>
 effK H (stA lim H 3 x3 x29_1) fun _ H =>
 kn x23_1 H
 else .stop)
 (
 k0 x5 H)
theorem N10_3b_eq (ρ call yc lim k x0 x3 x5 H kn k0 R) :
 evL (cx ρ) call yc false 10 lim k (Code.at [1,1,0,0,0] c10) (sp 33 [(0,x0),(3,x3),(5,x5)]) H (kk (some [0,3,5]) kn [(0,(some [5]),k0)] R [4]) = N10_3b ρ call yc lim k x0 x3 x5 H (fun x5 H => kn (sp 33 [(0,x0),(3,x3),(5,x5)]) H) (fun x5 H => k0 (sp 33 [(5,x5)]) H) := by
 kernel_rfl
noncomputable def N10_3 (ρ : RO) (call : CallF) (yc : YieldF) (lim k : Nat) (x0 x3 x5 : AV) (H : Heap) (k0 : AV → Heap → Res) : Res :=
 loopL (fun (x : AV) H kn => N10_3b ρ call yc lim k x0 x3 x H (fun x5 H => kn x5 H) k0) k x5 H
theorem N10_3_eq (ρ call yc lim k x0 x3 x5 H kn k0 R) :
 evL (cx ρ) call yc false 10 lim k (Code.at [1,1,0,0] c10) (sp 33 [(0,x0),(3,x3),(5,x5)]) H (kk (some [5]) kn [(0,(some [5]),k0)] R [4]) = N10_3 ρ call yc lim k x0 x3 x5 H (fun x5 H => k0 (sp 33 [(5,x5)]) H) := by
 have e : Code.at [1,1,0,0] c10 = .loop (Code.at [1,1,0,0,0] c10) := by kernel_rfl
 rw [e]
 unfold N10_3
 exact loop_node [0,3,5] (fun x : AV => (sp 33 [(0,x0),(3,x3),(5,(x))])) (fun (x : AV) H kn => N10_3b ρ call yc lim k x0 x3 x H (fun x5 H => kn x5 H) (fun x5 H => k0 (sp 33 [(5,x5)]) H)) (by kernel_rfl) (fun x => by kernel_rfl) (fun x H kn => N10_3b_eq ρ call yc lim k x0 x3 (x) H kn k0 R) x5 (sp 33 [(0,x0),(3,x3),(5,x5)]) H (by kernel_rfl)
noncomputable def N10_1 (ρ : RO) (call : CallF) (yc : YieldF) (lim k : Nat) (x0 x3 x5 : AV) (H : Heap) (R : KR) : Res :=
 N10_3 ρ call yc lim k x0 x3 x5 H (fun x5_1 H =>
 N10_2 ρ call yc lim k x5_1 H R)
theorem N10_1_x (ρ call yc lim k J x0 x3 x5 H R) :
 evX (cx ρ) call yc false 10 lim k J (Code.at [1,1] c10) (sp 33 [(0,x0),(3,x3),(5,x5)]) H (kk none (fun s H => R (gs [4] s) H) [] R [4]) =
 J (Code.at [1,1,0,0] c10) (sp 33 [(0,x0),(3,x3),(5,x5)]) H (kk (some [5]) (fun s H => J (Code.at [1,1,1] c10) s H (kk none (fun s H => R (gs [4] s) H) [] R [4])) [(0,(some [5]),(fun s H => J (Code.at [1,1,1] c10) s H (kk none (fun s H => R (gs [4] s) H) [] R [4])))] R [4]) := by
 kernel_rfl
theorem N10_1_eq (ρ call yc lim k x0 x3 x5 H R) :
 evL (cx ρ) call yc false 10 lim k (Code.at [1,1] c10) (sp 33 [(0,x0),(3,x3),(5,x5)]) H (kk none (fun s H => R (gs [4] s) H) [] R [4]) = N10_1 ρ call yc lim k x0 x3 x5 H R := by
 rw [evL_X,N10_1_x]
 simp only [← evL_X,N10_1,N10_2_eq,N10_3_eq]
noncomputable def L10 (ρ : RO) (call : CallF) (yc : YieldF) (lim k : Nat) (x0 x1 : AV) (H : Heap) : Res :=
 effK H (boxA H 52 x1) fun x3 H =>
 N10_1 ρ call yc lim k x0 x3 .nils H retK
theorem L10_x (ρ call yc lim k J x0 x1 H) :
 evX (cx ρ) call yc false 10 lim k J c10 ([x0,x1] ++ List.replicate 31 (.tup [])) H (kk none (fun s H => retK (gs [4] s) H) [] retK [4]) =
 effK H (boxA H 52 x1) fun x3 H =>
 J (Code.at [1,1] c10) (sp 33 [(0,x0),(3,x3),(5,.nils)]) H (kk none (fun s H => retK (gs [4] s) H) [] retK [4]) := by
 kernel_rfl
theorem G10 (ρ call yc lim k x0 x1 H) :
 evL (cx ρ) call yc false 10 lim k c10 ([x0,x1] ++ List.replicate 31 (.tup [])) H (kk none (fun s H => retK (gs [4] s) H) [] retK [4]) = L10 ρ call yc lim k x0 x1 H := by
 rw [evL_X,L10_x]
 simp only [← evL_X,L10,N10_1_eq]
theorem E10 (ρ : RO) (k lim : Nat) (x0 x1 : AV) (H : Heap) : evCall (cx ρ) (k + 1) lim 10 [x0,x1] H = L10 ρ (evCall (cx ρ) k) (evCY (cx ρ) k).2 lim k x0 x1 H := by
 rw [evCall_body (cx ρ) k lim 10 _ H Try.f10 c10 [4] (by kernel_rfl) (by kernel_rfl) (by kernel_rfl) (by kernel_rfl) (by kernel_rfl)]
 exact G10 ρ (evCall (cx ρ) k) (evCY (cx ρ) k).2 lim k x0 x1 H
-- slices.Sorted[string]
noncomputable def c11 : Code := Code.of Try.prog 11
noncomputable def L11 (ρ : RO) (call : CallF) (yc : YieldF) (lim k : Nat) (x0 : AV) (H : Heap) : Res :=
 resK (call lim 19 [x0] H) fun x5 H =>
 resK (call lim 20 [x5] H) fun x7 H =>
 retK [x5] H
theorem G11 (ρ call yc lim k x0 H) :
 evL (cx ρ) call yc false 11 lim k c11 ([x0] ++ List.replicate 8 (.tup [])) H (kk none (fun s H => retK (gs [2] s) H) [] retK [2]) = L11 ρ call yc lim k x0 H := by
 kernel_rfl
theorem E11 (ρ : RO) (k lim : Nat) (x0 : AV) (H : Heap) : evCall (cx ρ) (k + 1) lim 11 [x0] H = L11 ρ (evCall (cx ρ) k) (evCY (cx ρ) k).2 lim k x0 H := by
 rw [evCall_body (cx ρ) k lim 11 _ H Try.f11 c11 [2] (by kernel_rfl) (by kernel_rfl) (by kernel_rfl) (by kernel_rfl) (by kernel_rfl)]
 exact G11 ρ (evCall (cx ρ) k) (evCY (cx ρ) k).2 lim k x0 H
-- maps.Keys[map[string]bool,string,bool]
noncomputable def c12 : Code := Code.of Try.prog 12
noncomputable def L12 (ρ : RO) (call : CallF) (yc : YieldF) (lim k : Nat) (x0 : AV) (H : Heap) : Res :=
 effK H (boxA H 53 x0) fun x1 H =>
 retK [(.fn (.func 21) [] [x1])] H
theorem G12 (ρ call yc lim k x0 H) :
 evL (cx ρ) call yc false 12 lim k c12 ([x0] ++ List.replicate 3 (.tup [])) H (kk none (fun s H => retK (gs [2] s) H) [] retK [2]) = L12 ρ call yc lim k x0 H := by
 kernel_rfl
theorem E12 (ρ : RO) (k lim : Nat) (x0 : AV) (H : Heap) : evCall (cx ρ) (k + 1) lim 12 [x0] H = L12 ρ (evCall (cx ρ) k) (evCY (cx ρ) k).2 lim k x0 H := by
 rw [evCall_body (cx ρ) k lim 12 _ H Try.f12 c12 [2] (by kernel_rfl) (by kernel_rfl) (by kernel_rfl) (by kernel_rfl) (by kernel_rfl)]
 exact G12 ρ (evCall (cx ρ) k) (evCY (cx ρ) k).2 lim k x0 H
-- haycroft/history.Right
noncomputable def c13 : Code := Code.of Try.prog 13
noncomputable def L13 (ρ : RO) (call : CallF) (yc : YieldF) (lim k : Nat) (x0 : AV) (H : Heap) : Res :=
 resK (call lim 22 [x0,(.fn (.func 23) [] [])] H) fun x4 H =>
 purK (unA .not x4) fun x5 =>
 retK [x5] H
theorem G13 (ρ call yc lim k x0 H) :
 evL (cx ρ) call yc false 13 lim k c13 ([x0] ++ List.replicate 5 (.tup [])) H (kk none (fun s H => retK (gs [2] s) H) [] retK [2]) = L13 ρ call yc lim k x0 H := by
 kernel_rfl
theorem E13 (ρ : RO) (k lim : Nat) (x0 : AV) (H : Heap) : evCall (cx ρ) (k + 1) lim 13 [x0] H = L13 ρ (evCall (cx ρ) k) (evCY (cx ρ) k).2 lim k x0 H := by
 rw [evCall_body (cx ρ) k lim 13 _ H Try.f13 c13 [2] (by kernel_rfl) (by kernel_rfl) (by kernel_rfl) (by kernel_rfl) (by kernel_rfl)]
 exact G13 ρ (evCall (cx ρ) k) (evCY (cx ρ) k).2 lim k x0 H
-- haycroft/history.Keys
noncomputable def c14 : Code := Code.of Try.prog 14
noncomputable def N14_1 (ρ : RO) (call : CallF) (yc : YieldF) (lim k : Nat) (x3 : AV) (H : Heap) (R : KR) : Res :=
 resK (call lim 20 [x3] H) fun x20_1 H =>
 resK (call lim 24 [x3] H) fun x22_1 H =>
 R [x22_1] H
theorem N14_1_eq (ρ call yc lim k x3 H R) :
 evL (cx ρ) call yc false 14 lim k (Code.at [1,1,1] c14) (sp 23 [(3,x3)]) H (kk none (fun s H => R (gs [2] s) H) [] R [2]) = N14_1 ρ call yc lim k x3 H R := by
 kernel_rfl
noncomputable def N14_3b (ρ : RO) (call : CallF) (yc : YieldF) (lim k : Nat) (x3 x6 x7 x8 : AV) (H : Heap) (kn : AV → AV → Heap → Res) (k0 : AV → Heap → Res) : Res :=
 purK (binA Try.prog H .lss 3 x8 x7) fun x9_1 =>
 condK x9_1
 (
 purK (ixS 8 x6 x8) fun x10_1 =>
 purK (ldN ρ H 8 x10_1) fun x11_1 =>
 effK H (some (.ptr H.sz 0 0,.new (newCells 31 false [.int .i64 0,.str ByteArray.empty,.str ByteArray.empty,.int .u64 0,.int .i64 0,.str ByteArray.empty,.int .i64 0,.int .i64 0]))) fun x5_1 H =>
 effK H (stA lim H 8 x5_1 x11_1) fun _ H =>
 purK (addA 0 x5_1) fun x13_1 =>
 purK (addA 1 x13_1) fun x14_1 =>
 purK (ld1 ρ H x14_1) fun x15_1 =>
 effK H (bldS H 9 1 [.str ByteArray.empty] 1 [(0,1,x15_1)]) fun x16_1 H =>
 effK H (apA ρ lim H 9 1 16 x3 x16_1) fun x17_1 H =>
 purK (binA Try.prog H .add 3 x8 (.int .i64 1)) fun x18_1 =>
 kn x17_1 x18_1 H)
 (
 k0 x3 H)
theorem N14_3b_eq (ρ call yc lim k x3 x6 x7 x8 H kn k0 R) :
 evL (cx ρ) call yc false 14 lim k (Code.at [1,1,0,1,0,0] c14) (sp 23 [(3,x3),(6,x6),(7,x7),(8,x8)]) H (kk (some [3,6,7,8]) kn [(0,(some [3]),k0)] R [2]) = N14_3b ρ call yc lim k x3 x6 x7 x8 H (fun x3 x8 H => kn (sp 23 [(3,x3),(6,x6),(7,x7),(8,x8)]) H) (fun x3 H => k0 (sp 23 [(3,x3)]) H) := by
 kernel_rfl
noncomputable def N14_3 (ρ : RO) (call : CallF) (yc : YieldF) (lim k : Nat) (x3 x6 x7 x8 : AV) (H : Heap) (k0 : AV → Heap → Res) : Res :=
 loopL (fun (x : AV × AV) H kn => N14_3b ρ call yc lim k x.1 x6 x7 x.2 H (fun x3 x8 H => kn (x3,x8) H) k0) k (x3,x8) H
theorem N14_3_eq (ρ call yc lim k x3 x6 x7 x8 H kn k0 R) :
 evL (cx ρ) call yc false 14 lim k (Code.at [1,1,0,1,0] c14) (sp 23 [(3,x3),(6,x6),(7,x7),(8,x8)]) H (kk (some [3]) kn [(0,(some [3]),k0)] R [2]) = N14_3 ρ call yc lim k x3 x6 x7 x8 H (fun x3 H => k0 (sp 23 [(3,x3)]) H) := by
 have e : Code.at [1,1,0,1,0] c14 = .loop (Code.at [1,1,0,1,0,0] c14) := by kernel_rfl
 rw [e]
 unfold N14_3
 exact loop_node [3,6,7,8] (fun x : AV × AV => (sp 23 [(3,(x.1)),(6,x6),(7,x7),(8,(x.2))])) (fun (x : AV × AV) H kn => N14_3b ρ call yc lim k x.1 x6 x7 x.2 H (fun x3 x8 H => kn (x3,x8) H) (fun x3 H => k0 (sp 23 [(3,x3)]) H)) (by kernel_rfl) (fun x => by kernel_rfl) (fun x H kn => N14_3b_eq ρ call yc lim k (x.1) x6 x7 (x.2) H kn k0 R) (x3,x8) (sp 23 [(3,x3),(6,x6),(7,x7),(8,x8)]) H (by kernel_rfl)
noncomputable def N14_2 (ρ : RO) (call : CallF) (yc : YieldF) (lim k : Nat) (x3 x6 x7 x8 : AV) (H : Heap) (kn : AV → Heap → Res) : Res :=
 N14_3 ρ call yc lim k x3 x6 x7 x8 H kn
theorem N14_2_x (ρ call yc lim k J x3 x6 x7 x8 H kn R) :
 evX (cx ρ) call yc false 14 lim k J (Code.at [1,1,0,1] c14) (sp 23 [(3,x3),(6,x6),(7,x7),(8,x8)]) H (kk (some [3]) kn [] R [2]) =
 J (Code.at [1,1,0,1,0] c14) (sp 23 [(3,x3),(6,x6),(7,x7),(8,x8)]) H (kk (some [3]) kn [(0,(some [3]),kn)] R [2]) := by
 kernel_rfl
theorem N14_2_eq (ρ call yc lim k x3 x6 x7 x8 H kn R) :
 evL (cx ρ) call yc false 14 lim k (Code.at [1,1,0,1] c14) (sp 23 [(3,x3),(6,x6),(7,x7),(8,x8)]) H (kk (some [3]) kn [] R [2]) = N14_2 ρ call yc lim k x3 x6 x7 x8 H (fun x3 H => kn (sp 23 [(3,x3)]) H) := by
 rw [evL_X,N14_2_x]
 simp only [← evL_X,N14_2,N14_3_eq]
noncomputable def L14 (ρ : RO) (call : CallF) (yc : YieldF) (lim k : Nat) (x0 : AV) (H : Heap) : Res :=
 purK (lenS x0) fun x7 =>
 N14_2 ρ call yc lim k .nils x0 x7 (.int .i64 0) H (fun x3 H =>
 N14_1 ρ call yc lim k x3 H retK)
theorem L14_x (ρ call yc lim k J x0 H) :
 evX (cx ρ) call yc false 14 lim k J c14 ([x0] ++ List.replicate 22 (.tup [])) H (kk none (fun s H => retK (gs [2] s) H) [] retK [2]) =
 purK (lenS x0) fun x7 =>
 J (Code.at [1,1,0,1] c14) (sp 23 [(3,.nils),(6,x0),(7,x7),(8,(.int .i64 0))]) H (kk (some [3]) (fun s H => J (Code.at [1,1,1] c14) s H (kk none (fun s H => retK (gs [2] s) H) [] retK [2])) [] retK [2]) := by
 kernel_rfl
theorem G14 (ρ call yc lim k x0 H) :
 evL (cx ρ) call yc false 14 lim k c14 ([x0] ++ List.replicate 22 (.tup [])) H (kk none (fun s H => retK (gs [2] s) H) [] retK [2]) = L14 ρ call yc lim k x0 H := by
 rw [evL_X,L14_x]
 simp only [← evL_X,L14,N14_1_eq,N14_2_eq]
theorem E14 (ρ : RO) (k lim : Nat) (x0 : AV) (H : Heap) : evCall (cx ρ) (k + 1) lim 14 [x0] H = L14 ρ (evCall (cx ρ) k) (evCY (cx ρ) k).2 lim k x0 H := by
 rw [evCall_body (cx ρ) k lim 14 _ H Try.f14 c14 [2] (by kernel_rfl) (by kernel_rfl) (by kernel_rfl) (by kernel_rfl) (by kernel_rfl)]
 exact G14 ρ (evCall (cx ρ) k) (evCY (cx ρ) k).2 lim k x0 H
end Go.Proofs.Ytkmohjddojpdjab

-- part Hl2
/- Functions, lifted. Printed by a program of this repo. -/
set_option linter.unusedVariables false
set_option linter.unusedSimpArgs false
set_option maxRecDepth 100000
set_option maxHeartbeats 4000000
namespace Go.Proofs.Ytkmohjddojpdjab
open Go.Ev Go.RowKit
-- slices.DeleteFunc[[]haycroft/history.node,haycroft/history.node]
noncomputable def c15 : Code := Code.of Try.prog 15
noncomputable def N15_1 (ρ : RO) (call : CallF) (yc : YieldF) (lim k : Nat) (x0 x5 : AV) (H : Heap) (R : KR) : Res :=
 purK (slS 3 x0 (some x5) none none) fun x38_1 =>
 effK H (builtinA (cx ρ) lim H .clear #[44] [x38_1]) fun _ H =>
 purK (slS 3 x0 none (some x5) none) fun x41_1 =>
 R [x41_1] H
theorem N15_1_eq (ρ call yc lim k x0 x5 H R) :
 evL (cx ρ) call yc false 15 lim k (Code.at [1,1,1,1] c15) (sp 42 [(0,x0),(5,x5)]) H (kk none (fun s H => R (gs [4] s) H) [] R [4]) = N15_1 ρ call yc lim k x0 x5 H R := by
 kernel_rfl
noncomputable def N15_4 (ρ : RO) (call : CallF) (yc : YieldF) (lim k : Nat) (x0 x1 x5 x6 : AV) (H : Heap) (kn : AV → AV → Heap → Res) : Res :=
 purK (binA Try.prog H .add 3 x6 (.int .i64 1)) fun x21_1 =>
 kn x5 x21_1 H
theorem N15_4_eq (ρ call yc lim k x0 x1 x5 x6 H kn k0 R) :
 evL (cx ρ) call yc false 15 lim k (Code.at [1,1,1,0,1,0,0,1,1] c15) (sp 42 [(0,x0),(1,x1),(5,x5),(6,x6)]) H (kk (some [0,1,5,6]) kn [(0,(some [0,5]),k0)] R [4]) = N15_4 ρ call yc lim k x0 x1 x5 x6 H (fun x5 x6 H => kn (sp 42 [(0,x0),(1,x1),(5,x5),(6,x6)]) H) := by
 kernel_rfl
noncomputable def N15_3b (ρ : RO) (call : CallF) (yc : YieldF) (lim k : Nat) (x0 x1 x5 x6 : AV) (H : Heap) (kn : AV → AV → Heap → Res) (k0 : AV → AV → Heap → Res) : Res :=
 purK (lenS x0) fun x18_1 =>
 purK (binA Try.prog H .lss 3 x6 x18_1) fun x19_1 =>
 condK x19_1
 (
 purK (ixS 3 x0 x6) fun x24_1 =>
 purK (ldN ρ H 3 x24_1) fun x25_1 =>
 effK H (some (.ptr H.sz 0 0,.new (newCells 52 false [.int .u32 0,.str ByteArray.empty,.bool false]))) fun x7_1 H =>
 effK H (stA lim H 3 x7_1 x25_1) fun _ H =>
 purK (ldN ρ H 3 x7_1) fun x27_1 =>
 valK call yc lim x1 [x27_1] H fun x28_1 H =>
 purK (unA .not x28_1) fun x29_1 =>
 condK x29_1
 (
 purK (ldN ρ H 3 x7_1) fun x32_1 =>
 purK (ixS 3 x0 x5) fun x33_1 =>
 effK H (stA lim H 3 x33_1 x32_1) fun _ H =>
 purK (binA Try.prog H .add 3 x5 (.int .i64 1)) fun x35_1 =>
 N15_4 ρ call yc lim k x0 x1 x35_1 x6 H kn)
 (
 N15_4 ρ call yc lim k x0 x1 x5 x6 H kn))
 (
 k0 x0 x5 H)
theorem N15_3b_x (ρ call yc lim k J x0 x1 x5 x6 H kn k0 R) :
 evX (cx ρ) call yc false 15 lim k J (Code.at [1,1,1,0,1,0,0] c15) (sp 42 [(0,x0),(1,x1),(5,x5),(6,x6)]) H (kk (some [0,1,5,6]) kn [(0,(some [0,5]),k0)] R [4]) =
 purK (lenS x0) fun x18_1 =>
 purK (binA Try.prog H .lss 3 x6 x18_1) fun x19_1 =>
 condK x19_1
 (
 purK (ixS 3 x0 x6) fun x24_1 =>
 purK (ldN ρ H 3 x24_1) fun x25_1 =>
 effK H (some (.ptr H.sz 0 0,.new (newCells 52 false [.int .u32 0,.str ByteArray.empty,.bool false]))) fun x7_1 H =>
 effK H (stA lim H 3 x7_1 x25_1) fun _ H =>
 purK (ldN ρ H 3 x7_1) fun x27_1 =>
 valK call yc lim x1 [x27_1] H fun x28_1 H =>
 purK (unA .not x28_1) fun x29_1 =>
 condK x29_1
 (
 purK (ldN ρ H 3 x7_1) fun x32_1 =>
 purK (ixS 3 x0 x5) fun x33_1 =>
 effK H (stA lim H 3 x33_1 x32_1) fun _ H =>
 purK (binA Try.prog H .add 3 x5 (.int .i64 1)) fun x35_1 =>
 J (Code.at [1,1,1,0,1,0,0,1,1] c15) (sp 42 [(0,x0),(1,x1),(5,x35_1),(6,x6)]) H (kk (some [0,1,5,6]) kn [(0,(some [0,5]),k0)] R [4]))
 (
 J (Code.at [1,1,1,0,1,0,0,1,1] c15) (sp 42 [(0,x0),(1,x1),(5,x5),(6,x6)]) H (kk (some [0,1,5,6]) kn [(0,(some [0,5]),k0)] R [4])))
 (
 k0 (sp 42 [(0,x0),(5,x5)]) H) := by
 kernel_rfl
theorem N15_3b_eq (ρ call yc lim k x0 x1 x5 x6 H kn k0 R) :
 evL (cx ρ) call yc false 15 lim k (Code.at [1,1,1,0,1,0,0] c15) (sp 42 [(0,x0),(1,x1),(5,x5),(6,x6)]) H (kk (some [0,1,5,6]) kn [(0,(some [0,5]),k0)] R [4]) = N15_3b ρ call yc lim k x0 x1 x5 x6 H (fun x5 x6 H => kn (sp 42 [(0,x0),(1,x1),(5,x5),(6,x6)]) H) (fun x0 x5 H => k0 (sp 42 [(0,x0),(5,x5)]) H) := by
 rw [evL_X,N15_3b_x]
 simp only [← evL_X,N15_3b,N15_4_eq]
noncomputable def N15_3 (ρ : RO) (call : CallF) (yc : YieldF) (lim k : Nat) (x0 x1 x5 x6 : AV) (H : Heap) (k0 : AV → AV → Heap → Res) : Res :=
 loopL (fun (x : AV × AV) H kn => N15_3b ρ call yc lim k x0 x1 x.1 x.2 H (fun x5 x6 H => kn (x5,x6) H) k0) k (x5,x6) H
theorem N15_3_eq (ρ call yc lim k x0 x1 x5 x6 H kn k0 R) :
 evL (cx ρ) call yc false 15 lim k (Code.at [1,1,1,0,1,0] c15) (sp 42 [(0,x0),(1,x1),(5,x5),(6,x6)]) H (kk (some [0,5]) kn [(0,(some [0,5]),k0)] R [4]) = N15_3 ρ call yc lim k x0 x1 x5 x6 H (fun x0 x5 H => k0 (sp 42 [(0,x0),(5,x5)]) H) := by
 have e : Code.at [1,1,1,0,1,0] c15 = .loop (Code.at [1,1,1,0,1,0,0] c15) := by kernel_rfl
 rw [e]
 unfold N15_3
 exact loop_node [0,1,5,6] (fun x : AV × AV => (sp 42 [(0,x0),(1,x1),(5,(x.1)),(6,(x.2))])) (fun (x : AV × AV) H kn => N15_3b ρ call yc lim k x0 x1 x.1 x.2 H (fun x5 x6 H => kn (x5,x6) H) (fun x0 x5 H => k0 (sp 42 [(0,x0),(5,x5)]) H)) (by kernel_rfl) (fun x => by kernel_rfl) (fun x H kn => N15_3b_eq ρ call yc lim k x0 x1 (x.1) (x.2) H kn k0 R) (x5,x6) (sp 42 [(0,x0),(1,x1),(5,x5),(6,x6)]) H (by kernel_rfl)
noncomputable def N15_2 (ρ : RO) (call : CallF) (yc : YieldF) (lim k : Nat) (x0 x1 x5 x6 : AV) (H : Heap) (kn : AV → AV → Heap → Res) : Res :=
 N15_3 ρ call yc lim k x0 x1 x5 x6 H kn
theorem N15_2_x (ρ call yc lim k J x0 x1 x5 x6 H kn R) :
 evX (cx ρ) call yc false 15 lim k J (Code.at [1,1,1,0,1] c15) (sp 42 [(0,x0),(1,x1),(5,x5),(6,x6)]) H (kk (some [0,5]) kn [] R [4]) =
 J (Code.at [1,1,1,0,1,0] c15) (sp 42 [(0,x0),(1,x1),(5,x5),(6,x6)]) H (kk (some [0,5]) kn [(0,(some [0,5]),kn)] R [4]) := by
 kernel_rfl
theorem N15_2_eq (ρ call yc lim k x0 x1 x5 x6 H kn R) :
 evL (cx ρ) call yc false 15 lim k (Code.at [1,1,1,0,1] c15) (sp 42 [(0,x0),(1,x1),(5,x5),(6,x6)]) H (kk (some [0,5]) kn [] R [4]) = N15_2 ρ call yc lim k x0 x1 x5 x6 H (fun x0 x5 H => kn (sp 42 [(0,x0),(5,x5)]) H) := by
 rw [evL_X,N15_2_x]
 simp only [← evL_X,N15_2,N15_3_eq]
noncomputable def L15 (ρ : RO) (call : CallF) (yc : YieldF) (lim k : Nat) (x0 x1 : AV) (H : Heap) : Res :=
 resK (call lim 25 [x0,x1] H) fun x10 H =>
 purK (binA Try.prog H .eql 3 x10 (.int .i64 (-1))) fun x12 =>
 condK x12
 (
 retK [x0] H)
 (
 purK (binA Try.prog H .add 3 x10 (.int .i64 1)) fun x15 =>
 N15_2 ρ call yc lim k x0 x1 x10 x15 H (fun x0_1 x5 H =>
 N15_1 ρ call yc lim k x0_1 x5 H retK))
theorem L15_x (ρ call yc lim k J x0 x1 H) :
 evX (cx ρ) call yc false 15 lim k J c15 ([x0,x1] ++ List.replicate 40 (.tup [])) H (kk none (fun s H => retK (gs [4] s) H) [] retK [4]) =
 resK (call lim 25 [x0,x1] H) fun x10 H =>
 purK (binA Try.prog H .eql 3 x10 (.int .i64 (-1))) fun x12 =>
 condK x12
 (
 retK [x0] H)
 (
 purK (binA Try.prog H .add 3 x10 (.int .i64 1)) fun x15 =>
 J (Code.at [1,1,1,0,1] c15) (sp 42 [(0,x0),(1,x1),(5,x10),(6,x15)]) H (kk (some [0,5]) (fun s H => J (Code.at [1,1,1,1] c15) s H (kk none (fun s H => retK (gs [4] s) H) [] retK [4])) [] retK [4])) := by
 kernel_rfl
theorem G15 (ρ call yc lim k x0 x1 H) :
 evL (cx ρ) call yc false 15 lim k c15 ([x0,x1] ++ List.replicate 40 (.tup [])) H (kk none (fun s H => retK (gs [4] s) H) [] retK [4]) = L15 ρ call yc lim k x0 x1 H := by
 rw [evL_X,L15_x]
 simp only [← evL_X,L15,N15_1_eq,N15_2_eq]
theorem E15 (ρ : RO) (k lim : Nat) (x0 x1 : AV) (H : Heap) : evCall (cx ρ) (k + 1) lim 15 [x0,x1] H = L15 ρ (evCall (cx ρ) k) (evCY (cx ρ) k).2 lim k x0 x1 H := by
 rw [evCall_body (cx ρ) k lim 15 _ H Try.f15 c15 [4] (by kernel_rfl) (by kernel_rfl) (by kernel_rfl) (by kernel_rfl) (by kernel_rfl)]
 exact G15 ρ (evCall (cx ρ) k) (evCY (cx ρ) k).2 lim k x0 x1 H
-- (*haycroft/history.search).reach
noncomputable def c16 : Code := Code.of Try.prog 16
noncomputable def N16_1 (ρ : RO) (call : CallF) (yc : YieldF) (lim k : Nat) (x3 : AV) (H : Heap) (R : KR) : Res :=
 R [x3] H
theorem N16_1_eq (ρ call yc lim k x3 H R) :
 evL (cx ρ) call yc false 16 lim k (Code.at [1,1,1,1] c16) (sp 72 [(3,x3)]) H (kk none (fun s H => R (gs [2] s) H) [] R [2]) = N16_1 ρ call yc lim k x3 H R := by
 kernel_rfl
noncomputable def N16_4 (ρ : RO) (call : CallF) (yc : YieldF) (lim k : Nat) (x0 x3 x4 x5 : AV) (H : Heap) (kn : AV → AV → Heap → Res) : Res :=
 purK (binA Try.prog H .add 3 x5 (.int .i64 1)) fun x19_1 =>
 kn x3 x19_1 H
theorem N16_4_eq (ρ call yc lim k x0 x3 x4 x5 H kn k0 R) :
 evL (cx ρ) call yc false 16 lim k (Code.at [1,1,1,0,1,0,0,1,1] c16) (sp 72 [(0,x0),(3,x3),(4,x4),(5,x5)]) H (kk (some [0,3,4,5]) kn [(0,(some [3]),k0)] R [2]) = N16_4 ρ call yc lim k x0 x3 x4 x5 H (fun x3 x5 H => kn (sp 72 [(0,x0),(3,x3),(4,x4),(5,x5)]) H) := by
 kernel_rfl
noncomputable def N16_7 (ρ : RO) (call : CallF) (yc : YieldF) (lim k : Nat) (x0 x3 x4 x5 x24 x25 : AV) (H : Heap) (kn : AV → AV → Heap → Res) : Res :=
 purK (binA Try.prog H .add 3 x25 (.int .i64 1)) fun x70_1 =>
 kn x3 x70_1 H
theorem N16_7_eq (ρ call yc lim k x0 x3 x4 x5 x24 x25 H kn k2 k1 k0 R) :
 evL (cx ρ) call yc false 16 lim k (Code.at [1,1,1,0,1,0,0,1,0,0,1,0,0,1,1,1] c16) (sp 72 [(0,x0),(3,x3),(4,x4),(5,x5),(24,x24),(25,x25)]) H (kk (some [0,3,4,5,24,25]) kn [(2,(some [0,3,4,5]),k2),(1,(some [0,3,4,5]),k1),(0,(some [3]),k0)] R [2]) = N16_7 ρ call yc lim k x0 x3 x4 x5 x24 x25 H (fun x3 x25 H => kn (sp 72 [(0,x0),(3,x3),(4,x4),(5,x5),(24,x24),(25,x25)]) H) := by
 kernel_rfl
noncomputable def N16_8 (ρ : RO) (call : CallF) (yc : YieldF) (lim k : Nat) (x0 x3 x4 x5 x6 x7 x24 x25 : AV) (H : Heap) (kn : AV → AV → Heap → Res) : Res :=
 purK (nilChkA x0) fun x48_1 =>
 purK (addA 4 x48_1) fun x49_1 =>
 purK (ld1 ρ H x49_1) fun x50_1 =>
 purK (ldN ρ H 3 x7) fun x51_1 =>
 purK (nilChkA x0) fun x53_1 =>
 purK (addA 5 x53_1) fun x54_1 =>
 purK (ld1 ρ H x54_1) fun x55_1 =>
 purK (ldN ρ H 3 x7) fun x56_1 =>
 purK (ixS 3 x3 x5) fun x59_1 =>
 purK (ldN ρ H 3 x59_1) fun x60_1 =>
 effK H (mapEntryA (cx ρ) lim H 60 x50_1 x51_1) fun x62_1 H => bif (agn (ldN ρ H 3 x59_1) x60_1 && (agn (ldN ρ H 3 x7) x56_1 && true)) then
 purK (extA 1 x62_1) fun x63_1 =>
 effK H ((entryStoreA lim H x50_1 x63_1 x60_1).map skips) fun _ H => bif (agn (ldN ρ H 3 x7) x56_1 && true) then
 effK H (mapEntryA (cx ρ) lim H 61 x55_1 x56_1) fun x64_1 H =>
 purK (extA 1 x64_1) fun x65_1 =>
 effK H ((entryStoreA lim H x55_1 x65_1 x6).map skips) fun _ H =>
 purK (ldN ρ H 3 x7) fun x67_1 =>
 effK H (bldS H 52 3 [.int .u32 0,.str ByteArray.empty,.bool false] 1 [(0,3,x67_1)]) fun x68_1 H =>
 effK H (apA ρ lim H 52 3 32 x3 x68_1) fun x69_1 H =>
 kn x69_1 x25 H
 else .stop
 else .stop
theorem N16_8_eq (ρ call yc lim k x0 x3 x4 x5 x6 x7 x24 x25 H kn k3 k2 k1 k0 R) :
 evL (cx ρ) call yc false 16 lim k (Code.at [1,1,1,0,1,0,0,1,0,0,1,0,0,1,1,0,0,1,1,1,1] c16) (sp 72 [(0,x0),(3,x3),(4,x4),(5,x5),(6,x6),(7,x7),(24,x24),(25,x25)]) H (kk (some [0,3,4,5,24,25]) kn [(3,(some [0,3,4,5,24,25]),k3),(2,(some [0,3,4,5]),k2),(1,(some [0,3,4,5]),k1),(0,(some [3]),k0)] R [2]) = N16_8 ρ call yc lim k x0 x3 x4 x5 x6 x7 x24 x25 H (fun x3 x25 H => kn (sp 72 [(0,x0),(3,x3),(4,x4),(5,x5),(24,x24),(25,x25)]) H) := by
 kernel_rfl
noncomputable def N16_6b (ρ : RO) (call : CallF) (yc : YieldF) (lim k : Nat) (x0 x3 x4 x5 x24 x25 : AV) (H : Heap) (kn : AV → AV → Heap → Res) (k2 : AV → AV → Heap → Res) : Res :=
 purK (binA Try.prog H .lss 3 x25 x24) fun x26_1 =>
 condK x26_1
 (
 purK (ixS 3 x3 x5) fun x32_1 =>
 purK (ldN ρ H 3 x32_1) fun x33_1 =>
 resK (call lim 26 [x0,x33_1,x25] H) fun x35_1 H =>
 purK (extA 0 x35_1) fun x36_1 =>
 purK (extA 1 x35_1) fun x37_1 =>
 effK H (some (.ptr H.sz 0 0,.new (newCells 52 false [.int .u32 0,.str ByteArray.empty,.bool false]))) fun x7_1 H =>
 effK H (stA lim H 3 x7_1 x36_1) fun _ H =>
 purK (unA .not x37_1) fun x39_1 =>
 purK (gPur (wantV x39_1 false) (some x4)) fun x41_1 =>
 purK (gPur (wantV x39_1 false) (ldN ρ H 3 x7_1)) fun x42_1 =>
 purK (gPur (wantV x39_1 false) (lookupA (cx ρ) H 74 x41_1 x42_1 false)) fun x43_1 =>
 purK (pickA x39_1 (.bool true) x43_1) fun x44_1 =>
 condK x44_1
 (
 N16_7 ρ call yc lim k x0 x3 x4 x5 x24 x25 H kn)
 (
 purK (ldN ρ H 3 x7_1) fun x46_1 =>
 effK H ((mapPutA (cx ρ) lim H 74 x4 x46_1 (.bool true)).map skips) fun _ H =>
 N16_8 ρ call yc lim k x0 x3 x4 x5 x25 x7_1 x24 x25 H (fun x3_1 x25_1 H =>
 N16_7 ρ call yc lim k x0 x3_1 x4 x5 x24 x25_1 H kn)))
 (
 k2 x3 x5 H)
theorem N16_6b_x (ρ call yc lim k J x0 x3 x4 x5 x24 x25 H kn k2 k1 k0 R) :
 evX (cx ρ) call yc false 16 lim k J (Code.at [1,1,1,0,1,0,0,1,0,0,1,0,0] c16) (sp 72 [(0,x0),(3,x3),(4,x4),(5,x5),(24,x24),(25,x25)]) H (kk (some [0,3,4,5,24,25]) kn [(2,(some [0,3,4,5]),k2),(1,(some [0,3,4,5]),k1),(0,(some [3]),k0)] R [2]) =
 purK (binA Try.prog H .lss 3 x25 x24) fun x26_1 =>
 condK x26_1
 (
 purK (ixS 3 x3 x5) fun x32_1 =>
 purK (ldN ρ H 3 x32_1) fun x33_1 =>
 resK (call lim 26 [x0,x33_1,x25] H) fun x35_1 H =>
 purK (extA 0 x35_1) fun x36_1 =>
 purK (extA 1 x35_1) fun x37_1 =>
 effK H (some (.ptr H.sz 0 0,.new (newCells 52 false [.int .u32 0,.str ByteArray.empty,.bool false]))) fun x7_1 H =>
 effK H (stA lim H 3 x7_1 x36_1) fun _ H =>
 purK (unA .not x37_1) fun x39_1 =>
 purK (gPur (wantV x39_1 false) (some x4)) fun x41_1 =>
 purK (gPur (wantV x39_1 false) (ldN ρ H 3 x7_1)) fun x42_1 =>
 purK (gPur (wantV x39_1 false) (lookupA (cx ρ) H 74 x41_1 x42_1 false)) fun x43_1 =>
 purK (pickA x39_1 (.bool true) x43_1) fun x44_1 =>
 condK x44_1
 (
 J (Code.at [1,1,1,0,1,0,0,1,0,0,1,0,0,1,1,1] c16) (sp 72 [(0,x0),(3,x3),(4,x4),(5,x5),(24,x24),(25,x25)]) H (kk (some [0,3,4,5,24,25]) kn [(2,(some [0,3,4,5]),k2),(1,(some [0,3,4,5]),k1),(0,(some [3]),k0)] R [2]))
 (
 purK (ldN ρ H 3 x7_1) fun x46_1 =>
 effK H ((mapPutA (cx ρ) lim H 74 x4 x46_1 (.bool true)).map skips) fun _ H =>
 J (Code.at [1,1,1,0,1,0,0,1,0,0,1,0,0,1,1,0,0,1,1,1,1] c16) (sp 72 [(0,x0),(3,x3),(4,x4),(5,x5),(6,x25),(7,x7_1),(24,x24),(25,x25)]) H (kk (some [0,3,4,5,24,25]) (fun s H => J (Code.at [1,1,1,0,1,0,0,1,0,0,1,0,0,1,1,1] c16) s H (kk (some [0,3,4,5,24,25]) kn [(2,(some [0,3,4,5]),k2),(1,(some [0,3,4,5]),k1),(0,(some [3]),k0)] R [2])) [(3,(some [0,3,4,5,24,25]),(fun s H => J (Code.at [1,1,1,0,1,0,0,1,0,0,1,0,0,1,1,1] c16) s H (kk (some [0,3,4,5,24,25]) kn [(2,(some [0,3,4,5]),k2),(1,(some [0,3,4,5]),k1),(0,(some [3]),k0)] R [2]))),(2,(some [0,3,4,5]),k2),(1,(some [0,3,4,5]),k1),(0,(some [3]),k0)] R [2])))
 (
 k2 (sp 72 [(0,x0),(3,x3),(4,x4),(5,x5)]) H) := by
 kernel_rfl
theorem N16_6b_eq (ρ call yc lim k x0 x3 x4 x5 x24 x25 H kn k2 k1 k0 R) :
 evL (cx ρ) call yc false 16 lim k (Code.at [1,1,1,0,1,0,0,1,0,0,1,0,0] c16) (sp 72 [(0,x0),(3,x3),(4,x4),(5,x5),(24,x24),(25,x25)]) H (kk (some [0,3,4,5,24,25]) kn [(2,(some [0,3,4,5]),k2),(1,(some [0,3,4,5]),k1),(0,(some [3]),k0)] R [2]) = N16_6b ρ call yc lim k x0 x3 x4 x5 x24 x25 H (fun x3 x25 H => kn (sp 72 [(0,x0),(3,x3),(4,x4),(5,x5),(24,x24),(25,x25)]) H) (fun x3 x5 H => k2 (sp 72 [(0,x0),(3,x3),(4,x4),(5,x5)]) H) := by
 rw [evL_X,N16_6b_x]
 simp only [← evL_X,N16_6b,N16_7_eq,N16_8_eq]
noncomputable def N16_6 (ρ : RO) (call : CallF) (yc : YieldF) (lim k : Nat) (x0 x3 x4 x5 x24 x25 : AV) (H : Heap) (k2 : AV → AV → Heap → Res) : Res :=
 loopL (fun (x : AV × AV) H kn => N16_6b ρ call yc lim k x0 x.1 x4 x5 x24 x.2 H (fun x3 x25 H => kn (x3,x25) H) k2) k (x3,x25) H
theorem N16_6_eq (ρ call yc lim k x0 x3 x4 x5 x24 x25 H kn k2 k1 k0 R) :
 evL (cx ρ) call yc false 16 lim k (Code.at [1,1,1,0,1,0,0,1,0,0,1,0] c16) (sp 72 [(0,x0),(3,x3),(4,x4),(5,x5),(24,x24),(25,x25)]) H (kk (some [0,3,4,5]) kn [(2,(some [0,3,4,5]),k2),(1,(some [0,3,4,5]),k1),(0,(some [3]),k0)] R [2]) = N16_6 ρ call yc lim k x0 x3 x4 x5 x24 x25 H (fun x3 x5 H => k2 (sp 72 [(0,x0),(3,x3),(4,x4),(5,x5)]) H) := by
 have e : Code.at [1,1,1,0,1,0,0,1,0,0,1,0] c16 = .loop (Code.at [1,1,1,0,1,0,0,1,0,0,1,0,0] c16) := by kernel_rfl
 rw [e]
 unfold N16_6
 exact loop_node [0,3,4,5,24,25] (fun x : AV × AV => (sp 72 [(0,x0),(3,(x.1)),(4,x4),(5,x5),(24,x24),(25,(x.2))])) (fun (x : AV × AV) H kn => N16_6b ρ call yc lim k x0 x.1 x4 x5 x24 x.2 H (fun x3 x25 H => kn (x3,x25) H) (fun x3 x5 H => k2 (sp 72 [(0,x0),(3,x3),(4,x4),(5,x5)]) H)) (by kernel_rfl) (fun x => by kernel_rfl) (fun x H kn => N16_6b_eq ρ call yc lim k x0 (x.1) x4 x5 x24 (x.2) H kn k2 k1 k0 R) (x3,x25) (sp 72 [(0,x0),(3,x3),(4,x4),(5,x5),(24,x24),(25,x25)]) H (by kernel_rfl)
noncomputable def N16_5 (ρ : RO) (call : CallF) (yc : YieldF) (lim k : Nat) (x0 x3 x4 x5 x24 x25 : AV) (H : Heap) (kn : AV → AV → Heap → Res) : Res :=
 N16_6 ρ call yc lim k x0 x3 x4 x5 x24 x25 H kn
theorem N16_5_x (ρ call yc lim k J x0 x3 x4 x5 x24 x25 H kn k1 k0 R) :
 evX (cx ρ) call yc false 16 lim k J (Code.at [1,1,1,0,1,0,0,1,0,0,1] c16) (sp 72 [(0,x0),(3,x3),(4,x4),(5,x5),(24,x24),(25,x25)]) H (kk (some [0,3,4,5]) kn [(1,(some [0,3,4,5]),k1),(0,(some [3]),k0)] R [2]) =
 J (Code.at [1,1,1,0,1,0,0,1,0,0,1,0] c16) (sp 72 [(0,x0),(3,x3),(4,x4),(5,x5),(24,x24),(25,x25)]) H (kk (some [0,3,4,5]) kn [(2,(some [0,3,4,5]),kn),(1,(some [0,3,4,5]),k1),(0,(some [3]),k0)] R [2]) := by
 kernel_rfl
theorem N16_5_eq (ρ call yc lim k x0 x3 x4 x5 x24 x25 H kn k1 k0 R) :
 evL (cx ρ) call yc false 16 lim k (Code.at [1,1,1,0,1,0,0,1,0,0,1] c16) (sp 72 [(0,x0),(3,x3),(4,x4),(5,x5),(24,x24),(25,x25)]) H (kk (some [0,3,4,5]) kn [(1,(some [0,3,4,5]),k1),(0,(some [3]),k0)] R [2]) = N16_5 ρ call yc lim k x0 x3 x4 x5 x24 x25 H (fun x3 x5 H => kn (sp 72 [(0,x0),(3,x3),(4,x4),(5,x5)]) H) := by
 rw [evL_X,N16_5_x]
 simp only [← evL_X,N16_5,N16_6_eq]
noncomputable def N16_3b (ρ : RO) (call : CallF) (yc : YieldF) (lim k : Nat) (x0 x3 x4 x5 : AV) (H : Heap) (kn : AV → AV → Heap → Res) (k0 : AV → Heap → Res) : Res :=
 purK (lenS x3) fun x16_1 =>
 purK (binA Try.prog H .lss 3 x5 x16_1) fun x17_1 =>
 condK x17_1
 (
 purK (nilChkA x0) fun x21_1 =>
 purK (addA 0 x21_1) fun x22_1 =>
 purK (ld1 ρ H x22_1) fun x23_1 =>
 purK (lenS x23_1) fun x24_1 =>
 N16_5 ρ call yc lim k x0 x3 x4 x5 x24_1 (.int .i64 0) H (fun x3_1 x5_1 H =>
 N16_4 ρ call yc lim k x0 x3_1 x4 x5_1 H kn))
 (
 k0 x3 H)
theorem N16_3b_x (ρ call yc lim k J x0 x3 x4 x5 H kn k0 R) :
 evX (cx ρ) call yc false 16 lim k J (Code.at [1,1,1,0,1,0,0] c16) (sp 72 [(0,x0),(3,x3),(4,x4),(5,x5)]) H (kk (some [0,3,4,5]) kn [(0,(some [3]),k0)] R [2]) =
 purK (lenS x3) fun x16_1 =>
 purK (binA Try.prog H .lss 3 x5 x16_1) fun x17_1 =>
 condK x17_1
 (
 purK (nilChkA x0) fun x21_1 =>
 purK (addA 0 x21_1) fun x22_1 =>
 purK (ld1 ρ H x22_1) fun x23_1 =>
 purK (lenS x23_1) fun x24_1 =>
 J (Code.at [1,1,1,0,1,0,0,1,0,0,1] c16) (sp 72 [(0,x0),(3,x3),(4,x4),(5,x5),(24,x24_1),(25,(.int .i64 0))]) H (kk (some [0,3,4,5]) (fun s H => J (Code.at [1,1,1,0,1,0,0,1,1] c16) s H (kk (some [0,3,4,5]) kn [(0,(some [3]),k0)] R [2])) [(1,(some [0,3,4,5]),(fun s H => J (Code.at [1,1,1,0,1,0,0,1,1] c16) s H (kk (some [0,3,4,5]) kn [(0,(some [3]),k0)] R [2]))),(0,(some [3]),k0)] R [2]))
 (
 k0 (sp 72 [(3,x3)]) H) := by
 kernel_rfl
theorem N16_3b_eq (ρ call yc lim k x0 x3 x4 x5 H kn k0 R) :
 evL (cx ρ) call yc false 16 lim k (Code.at [1,1,1,0,1,0,0] c16) (sp 72 [(0,x0),(3,x3),(4,x4),(5,x5)]) H (kk (some [0,3,4,5]) kn [(0,(some [3]),k0)] R [2]) = N16_3b ρ call yc lim k x0 x3 x4 x5 H (fun x3 x5 H => kn (sp 72 [(0,x0),(3,x3),(4,x4),(5,x5)]) H) (fun x3 H => k0 (sp 72 [(3,x3)]) H) := by
 rw [evL_X,N16_3b_x]
 simp only [← evL_X,N16_3b,N16_4_eq,N16_5_eq]
noncomputable def N16_3 (ρ : RO) (call : CallF) (yc : YieldF) (lim k : Nat) (x0 x3 x4 x5 : AV) (H : Heap) (k0 : AV → Heap → Res) : Res :=
 loopL (fun (x : AV × AV) H kn => N16_3b ρ call yc lim k x0 x.1 x4 x.2 H (fun x3 x5 H => kn (x3,x5) H) k0) k (x3,x5) H
theorem N16_3_eq (ρ call yc lim k x0 x3 x4 x5 H kn k0 R) :
 evL (cx ρ) call yc false 16 lim k (Code.at [1,1,1,0,1,0] c16) (sp 72 [(0,x0),(3,x3),(4,x4),(5,x5)]) H (kk (some [3]) kn [(0,(some [3]),k0)] R [2]) = N16_3 ρ call yc lim k x0 x3 x4 x5 H (fun x3 H => k0 (sp 72 [(3,x3)]) H) := by
 have e : Code.at [1,1,1,0,1,0] c16 = .loop (Code.at [1,1,1,0,1,0,0] c16) := by kernel_rfl
 rw [e]
 unfold N16_3
 exact loop_node [0,3,4,5] (fun x : AV × AV => (sp 72 [(0,x0),(3,(x.1)),(4,x4),(5,(x.2))])) (fun (x : AV × AV) H kn => N16_3b ρ call yc lim k x0 x.1 x4 x.2 H (fun x3 x5 H => kn (x3,x5) H) (fun x3 H => k0 (sp 72 [(3,x3)]) H)) (by kernel_rfl) (fun x => by kernel_rfl) (fun x H kn => N16_3b_eq ρ call yc lim k x0 (x.1) x4 (x.2) H kn k0 R) (x3,x5) (sp 72 [(0,x0),(3,x3),(4,x4),(5,x5)]) H (by kernel_rfl)
noncomputable def N16_2 (ρ : RO) (call : CallF) (yc : YieldF) (lim k : Nat) (x0 x3 x4 x5 : AV) (H : Heap) (kn : AV → Heap → Res) : Res :=
 N16_3 ρ call yc lim k x0 x3 x4 x5 H kn
theorem N16_2_x (ρ call yc lim k J x0 x3 x4 x5 H kn R) :
 evX (cx ρ) call yc false 16 lim k J (Code.at [1,1,1,0,1] c16) (sp 72 [(0,x0),(3,x3),(4,x4),(5,x5)]) H (kk (some [3]) kn [] R [2]) =
 J (Code.at [1,1,1,0,1,0] c16) (sp 72 [(0,x0),(3,x3),(4,x4),(5,x5)]) H (kk (some [3]) kn [(0,(some [3]),kn)] R [2]) := by
 kernel_rfl
theorem N16_2_eq (ρ call yc lim k x0 x3 x4 x5 H kn R) :
 evL (cx ρ) call yc false 16 lim k (Code.at [1,1,1,0,1] c16) (sp 72 [(0,x0),(3,x3),(4,x4),(5,x5)]) H (kk (some [3]) kn [] R [2]) = N16_2 ρ call yc lim k x0 x3 x4 x5 H (fun x3 H => kn (sp 72 [(3,x3)]) H) := by
 rw [evL_X,N16_2_x]
 simp only [← evL_X,N16_2,N16_3_eq]
noncomputable def L16 (ρ : RO) (call : CallF) (yc : YieldF) (lim k : Nat) (x0 : AV) (H : Heap) : Res :=
 purK (bldA [.int .u32 0,.str ByteArray.empty,.bool false] []) fun x9 =>
 effK H (bldS H 52 3 [.int .u32 0,.str ByteArray.empty,.bool false] 1 [(0,3,x9)]) fun x10 H =>
 effK H (some (makeMapA H)) fun x11 H =>
 purK (bldA [.int .u32 0,.str ByteArray.empty,.bool false] []) fun x12 =>
 effK H ((mapPutA (cx ρ) lim H 74 x11 x12 (.bool true)).map skips) fun _ H =>
 N16_2 ρ call yc lim k x0 x10 x11 (.int .i64 0) H (fun x3 H =>
 N16_1 ρ call yc lim k x3 H retK)
theorem L16_x (ρ call yc lim k J x0 H) :
 evX (cx ρ) call yc false 16 lim k J c16 ([x0] ++ List.replicate 71 (.tup [])) H (kk none (fun s H => retK (gs [2] s) H) [] retK [2]) =
 purK (bldA [.int .u32 0,.str ByteArray.empty,.bool false] []) fun x9 =>
 effK H (bldS H 52 3 [.int .u32 0,.str ByteArray.empty,.bool false] 1 [(0,3,x9)]) fun x10 H =>
 effK H (some (makeMapA H)) fun x11 H =>
 purK (bldA [.int .u32 0,.str ByteArray.empty,.bool false] []) fun x12 =>
 effK H ((mapPutA (cx ρ) lim H 74 x11 x12 (.bool true)).map skips) fun _ H =>
 J (Code.at [1,1,1,0,1] c16) (sp 72 [(0,x0),(3,x10),(4,x11),(5,(.int .i64 0))]) H (kk (some [3]) (fun s H => J (Code.at [1,1,1,1] c16) s H (kk none (fun s H => retK (gs [2] s) H) [] retK [2])) [] retK [2]) := by
 kernel_rfl
theorem G16 (ρ call yc lim k x0 H) :
 evL (cx ρ) call yc false 16 lim k c16 ([x0] ++ List.replicate 71 (.tup [])) H (kk none (fun s H => retK (gs [2] s) H) [] retK [2]) = L16 ρ call yc lim k x0 H := by
 rw [evL_X,L16_x]
 simp only [← evL_X,L16,N16_1_eq,N16_2_eq]
theorem E16 (ρ : RO) (k lim : Nat) (x0 : AV) (H : Heap) : evCall (cx ρ) (k + 1) lim 16 [x0] H = L16 ρ (evCall (cx ρ) k) (evCY (cx ρ) k).2 lim k x0 H := by
 rw [evCall_body (cx ρ) k lim 16 _ H Try.f16 c16 [2] (by kernel_rfl) (by kernel_rfl) (by kernel_rfl) (by kernel_rfl) (by kernel_rfl)]
 exact G16 ρ (evCall (cx ρ) k) (evCY (cx ρ) k).2 lim k x0 H
-- (*haycroft/history.search).whole$1
noncomputable def c17 : Code := Code.of Try.prog 17
noncomputable def L17 (ρ : RO) (call : CallF) (yc : YieldF) (lim k : Nat) (x0 x1 : AV) (H : Heap) : Res :=
 effK H (boxA H 52 x0) fun x2 H =>
 purK (ld1 ρ H x1) fun x4 =>
 purK (nilChkA x4) fun x5 =>
 purK (addA 3 x5) fun x6 =>
 purK (ld1 ρ H x6) fun x7 =>
 purK (addA 0 x2) fun x8 =>
 purK (ld1 ρ H x8) fun x9 =>
 purK (binA Try.prog H .andNot 48 x7 x9) fun x10 =>
 purK (binA Try.prog H .neq 48 x10 (.int .u32 0)) fun x11 =>
 retK [x11] H
theorem G17 (ρ call yc lim k x0 x1 H) :
 evL (cx ρ) call yc false 17 lim k c17 ([x0,x1] ++ List.replicate 10 (.tup [])) H (kk none (fun s H => retK (gs [3] s) H) [] retK [3]) = L17 ρ call yc lim k x0 x1 H := by
 kernel_rfl
theorem E17 (ρ : RO) (k lim : Nat) (x0 x1 : AV) (H : Heap) : evCall (cx ρ) (k + 1) lim 17 [x0,x1] H = L17 ρ (evCall (cx ρ) k) (evCY (cx ρ) k).2 lim k x0 x1 H := by
 rw [evCall_body (cx ρ) k lim 17 _ H Try.f17 c17 [3] (by kernel_rfl) (by kernel_rfl) (by kernel_rfl) (by kernel_rfl) (by kernel_rfl)]
 exact G17 ρ (evCall (cx ρ) k) (evCY (cx ρ) k).2 lim k x0 x1 H
-- slices.Reverse[[]int,int]
noncomputable def c18 : Code := Code.of Try.prog 18
noncomputable def N18_2b (ρ : RO) (call : CallF) (yc : YieldF) (lim k : Nat) (x0 x2 x3 : AV) (H : Heap) (kn : AV → AV → Heap → Res) (R : KR) : Res :=
 purK (binA Try.prog H .lss 3 x2 x3) fun x9_1 =>
 condK x9_1
 (
 purK (ixS 1 x0 x3) fun x20_1 =>
 purK (ld1 ρ H x20_1) fun x21_1 =>
 purK (ixS 1 x0 x2) fun x24_1 =>
 purK (ld1 ρ H x24_1) fun x25_1 =>
 purK (ixS 1 x0 x2) fun x26_1 =>
 effK H (stA lim H 1 x26_1 x21_1) fun _ H =>
 purK (ixS 1 x0 x3) fun x27_1 =>
 effK H (stA lim H 1 x27_1 x25_1) fun _ H =>
 purK (binA Try.prog H .add 3 x2 (.int .i64 1)) fun x11_1 =>
 purK (binA Try.prog H .sub 3 x3 (.int .i64 1)) fun x13_1 =>
 kn x11_1 x13_1 H)
 (
 R [] H)
theorem N18_2b_eq (ρ call yc lim k x0 x2 x3 H kn R) :
 evL (cx ρ) call yc false 18 lim k (Code.at [1,0,0] c18) (sp 28 [(0,x0),(2,x2),(3,x3)]) H (kk (some [0,2,3]) kn [(0,none,(fun s H => R (gs [] s) H))] R []) = N18_2b ρ call yc lim k x0 x2 x3 H (fun x2 x3 H => kn (sp 28 [(0,x0),(2,x2),(3,x3)]) H) R := by
 kernel_rfl
noncomputable def N18_2 (ρ : RO) (call : CallF) (yc : YieldF) (lim k : Nat) (x0 x2 x3 : AV) (H : Heap) (R : KR) : Res :=
 loopL (fun (x : AV × AV) H kn => N18_2b ρ call yc lim k x0 x.1 x.2 H (fun x2 x3 H => kn (x2,x3) H) R) k (x2,x3) H
theorem N18_2_eq (ρ call yc lim k x0 x2 x3 H R) :
 evL (cx ρ) call yc false 18 lim k (Code.at [1,0] c18) (sp 28 [(0,x0),(2,x2),(3,x3)]) H (kk none (fun s H => R (gs [] s) H) [(0,none,(fun s H => R (gs [] s) H))] R []) = N18_2 ρ call yc lim k x0 x2 x3 H R := by
 have e : Code.at [1,0] c18 = .loop (Code.at [1,0,0] c18) := by kernel_rfl
 rw [e]
 unfold N18_2
 exact loop_node [0,2,3] (fun x : AV × AV => (sp 28 [(0,x0),(2,(x.1)),(3,(x.2))])) (fun (x : AV × AV) H kn => N18_2b ρ call yc lim k x0 x.1 x.2 H (fun x2 x3 H => kn (x2,x3) H) R) (by kernel_rfl) (fun x => by kernel_rfl) (fun x H kn => N18_2b_eq ρ call yc lim k x0 (x.1) (x.2) H kn R) (x2,x3) (sp 28 [(0,x0),(2,x2),(3,x3)]) H (by kernel_rfl)
noncomputable def N18_1 (ρ : RO) (call : CallF) (yc : YieldF) (lim k : Nat) (x0 x2 x3 : AV) (H : Heap) (R : KR) : Res :=
 N18_2 ρ call yc lim k x0 x2 x3 H R
theorem N18_1_x (ρ call yc lim k J x0 x2 x3 H R) :
 evX (cx ρ) call yc false 18 lim k J (Code.at [1] c18) (sp 28 [(0,x0),(2,x2),(3,x3)]) H (kk none (fun s H => R (gs [] s) H) [] R []) =
 J (Code.at [1,0] c18) (sp 28 [(0,x0),(2,x2),(3,x3)]) H (kk none (fun s H => R (gs [] s) H) [(0,none,(fun s H => R (gs [] s) H))] R []) := by
 kernel_rfl
theorem N18_1_eq (ρ call yc lim k x0 x2 x3 H R) :
 evL (cx ρ) call yc false 18 lim k (Code.at [1] c18) (sp 28 [(0,x0),(2,x2),(3,x3)]) H (kk none (fun s H => R (gs [] s) H) [] R []) = N18_1 ρ call yc lim k x0 x2 x3 H R := by
 rw [evL_X,N18_1_x]
 simp only [← evL_X,N18_1,N18_2_eq]
noncomputable def L18 (ρ : RO) (call : CallF) (yc : YieldF) (lim k : Nat) (x0 : AV) (H : Heap) : Res :=
 purK (lenS x0) fun x5 =>
 purK (binA Try.prog H .sub 3 x5 (.int .i64 1)) fun x6 =>
 N18_1 ρ call yc lim k x0 (.int .i64 0) x6 H retK
theorem L18_x (ρ call yc lim k J x0 H) :
 evX (cx ρ) call yc false 18 lim k J c18 ([x0] ++ List.replicate 27 (.tup [])) H (kk none (fun s H => retK (gs [] s) H) [] retK []) =
 purK (lenS x0) fun x5 =>
 purK (binA Try.prog H .sub 3 x5 (.int .i64 1)) fun x6 =>
 J (Code.at [1] c18) (sp 28 [(0,x0),(2,(.int .i64 0)),(3,x6)]) H (kk none (fun s H => retK (gs [] s) H) [] retK []) := by
 kernel_rfl
theorem G18 (ρ call yc lim k x0 H) :
 evL (cx ρ) call yc false 18 lim k c18 ([x0] ++ List.replicate 27 (.tup [])) H (kk none (fun s H => retK (gs [] s) H) [] retK []) = L18 ρ call yc lim k x0 H := by
 rw [evL_X,L18_x]
 simp only [← evL_X,L18,N18_1_eq]
theorem E18 (ρ : RO) (k lim : Nat) (x0 : AV) (H : Heap) : evCall (cx ρ) (k + 1) lim 18 [x0] H = L18 ρ (evCall (cx ρ) k) (evCY (cx ρ) k).2 lim k x0 H := by
 rw [evCall_body (cx ρ) k lim 18 _ H Try.f18 c18 [] (by kernel_rfl) (by kernel_rfl) (by kernel_rfl) (by kernel_rfl) (by kernel_rfl)]
 exact G18 ρ (evCall (cx ρ) k) (evCY (cx ρ) k).2 lim k x0 H
-- slices.Collect[string]
noncomputable def c19 : Code := Code.of Try.prog 19
noncomputable def L19 (ρ : RO) (call : CallF) (yc : YieldF) (lim k : Nat) (x0 : AV) (H : Heap) : Res :=
 resK (call lim 27 [.nils,x0] H) fun x4 H =>
 retK [x4] H
theorem G19 (ρ call yc lim k x0 H) :
 evL (cx ρ) call yc false 19 lim k c19 ([x0] ++ List.replicate 4 (.tup [])) H (kk none (fun s H => retK (gs [2] s) H) [] retK [2]) = L19 ρ call yc lim k x0 H := by
 kernel_rfl
theorem E19 (ρ : RO) (k lim : Nat) (x0 : AV) (H : Heap) : evCall (cx ρ) (k + 1) lim 19 [x0] H = L19 ρ (evCall (cx ρ) k) (evCY (cx ρ) k).2 lim k x0 H := by
 rw [evCall_body (cx ρ) k lim 19 _ H Try.f19 c19 [2] (by kernel_rfl) (by kernel_rfl) (by kernel_rfl) (by kernel_rfl) (by kernel_rfl)]
 exact G19 ρ (evCall (cx ρ) k) (evCY (cx ρ) k).2 lim k x0 H
-- slices.Sort[[]string,string]
noncomputable def c20 : Code := Code.of Try.prog 20
noncomputable def L20 (ρ : RO) (call : CallF) (yc : YieldF) (lim k : Nat) (x0 : AV) (H : Heap) : Res :=
 purK (lenS x0) fun x4 =>
 purK (cvI .u64 x4) fun x8 =>
 resK (call lim 29 [x8] H) fun x9 H =>
 resK (call lim 28 [x0,(.int .i64 0),x4,x9] H) fun x10 H =>
 retK [] H
theorem G20 (ρ call yc lim k x0 H) :
 evL (cx ρ) call yc false 20 lim k c20 ([x0] ++ List.replicate 10 (.tup [])) H (kk none (fun s H => retK (gs [] s) H) [] retK []) = L20 ρ call yc lim k x0 H := by
 kernel_rfl
theorem E20 (ρ : RO) (k lim : Nat) (x0 : AV) (H : Heap) : evCall (cx ρ) (k + 1) lim 20 [x0] H = L20 ρ (evCall (cx ρ) k) (evCY (cx ρ) k).2 lim k x0 H := by
 rw [evCall_body (cx ρ) k lim 20 _ H Try.f20 c20 [] (by kernel_rfl) (by kernel_rfl) (by kernel_rfl) (by kernel_rfl) (by kernel_rfl)]
 exact G20 ρ (evCall (cx ρ) k) (evCY (cx ρ) k).2 lim k x0 H
-- maps.Keys[map[string]bool,string,bool]$1
noncomputable def c21 : Code := Code.of Try.prog 21
noncomputable def N21_2b (ρ : RO) (call : CallF) (yc : YieldF) (lim k : Nat) (x0 x5 : AV) (H : Heap) (kn : Heap → Res) (R : KR) : Res :=
 nextK lim H x5 false fun x6_1 H =>
 purK (extA 0 x6_1) fun x7_1 =>
 condK x7_1
 (
 purK (entryA H x5) fun x8_1 =>
 purK (extA 0 x8_1) fun x9_1 =>
 valK call yc lim x0 [x9_1] H fun x12_1 H =>
 purK (unA .not x12_1) fun x13_1 =>
 condK x13_1
 (
 R [] H)
 (
 kn H))
 (
 R [] H)
theorem N21_2b_eq (ρ call yc lim k x0 x5 H kn R) :
 evL (cx ρ) call yc false 21 lim k (Code.at [1,0,0] c21) (sp 14 [(0,x0),(5,x5)]) H (kk (some [0,5]) kn [(0,none,(fun s H => R (gs [] s) H))] R []) = N21_2b ρ call yc lim k x0 x5 H (fun H => kn (sp 14 [(0,x0),(5,x5)]) H) R := by
 kernel_rfl
noncomputable def N21_2 (ρ : RO) (call : CallF) (yc : YieldF) (lim k : Nat) (x0 x5 : AV) (H : Heap) (R : KR) : Res :=
 loopL (fun (x : Unit) H kn => N21_2b ρ call yc lim k x0 x5 H (fun H => kn () H) R) k () H
theorem N21_2_eq (ρ call yc lim k x0 x5 H R) :
 evL (cx ρ) call yc false 21 lim k (Code.at [1,0] c21) (sp 14 [(0,x0),(5,x5)]) H (kk none (fun s H => R (gs [] s) H) [(0,none,(fun s H => R (gs [] s) H))] R []) = N21_2 ρ call yc lim k x0 x5 H R := by
 have e : Code.at [1,0] c21 = .loop (Code.at [1,0,0] c21) := by kernel_rfl
 rw [e]
 unfold N21_2
 exact loop_node [0,5] (fun x : Unit => (sp 14 [(0,x0),(5,x5)])) (fun (x : Unit) H kn => N21_2b ρ call yc lim k x0 x5 H (fun H => kn () H) R) (by kernel_rfl) (fun x => by kernel_rfl) (fun x H kn => N21_2b_eq ρ call yc lim k x0 x5 H kn R) () (sp 14 [(0,x0),(5,x5)]) H (by kernel_rfl)
noncomputable def N21_1 (ρ : RO) (call : CallF) (yc : YieldF) (lim k : Nat) (x0 x5 : AV) (H : Heap) (R : KR) : Res :=
 N21_2 ρ call yc lim k x0 x5 H R
theorem N21_1_x (ρ call yc lim k J x0 x5 H R) :
 evX (cx ρ) call yc false 21 lim k J (Code.at [1] c21) (sp 14 [(0,x0),(5,x5)]) H (kk none (fun s H => R (gs [] s) H) [] R []) =
 J (Code.at [1,0] c21) (sp 14 [(0,x0),(5,x5)]) H (kk none (fun s H => R (gs [] s) H) [(0,none,(fun s H => R (gs [] s) H))] R []) := by
 kernel_rfl
theorem N21_1_eq (ρ call yc lim k x0 x5 H R) :
 evL (cx ρ) call yc false 21 lim k (Code.at [1] c21) (sp 14 [(0,x0),(5,x5)]) H (kk none (fun s H => R (gs [] s) H) [] R []) = N21_1 ρ call yc lim k x0 x5 H R := by
 rw [evL_X,N21_1_x]
 simp only [← evL_X,N21_1,N21_2_eq]
noncomputable def L21 (ρ : RO) (call : CallF) (yc : YieldF) (lim k : Nat) (x0 x1 : AV) (H : Heap) : Res :=
 purK (ld1 ρ H x1) fun x4 =>
 effK H (rangeA H Try.prog 53 x4) fun x5 H =>
 N21_1 ρ call yc lim k x0 x5 H retK
theorem L21_x (ρ call yc lim k J x0 x1 H) :
 evX (cx ρ) call yc false 21 lim k J c21 ([x0,x1] ++ List.replicate 12 (.tup [])) H (kk none (fun s H => retK (gs [] s) H) [] retK []) =
 purK (ld1 ρ H x1) fun x4 =>
 effK H (rangeA H Try.prog 53 x4) fun x5 H =>
 J (Code.at [1] c21) (sp 14 [(0,x0),(5,x5)]) H (kk none (fun s H => retK (gs [] s) H) [] retK []) := by
 kernel_rfl
theorem G21 (ρ call yc lim k x0 x1 H) :
 evL (cx ρ) call yc false 21 lim k c21 ([x0,x1] ++ List.replicate 12 (.tup [])) H (kk none (fun s H => retK (gs [] s) H) [] retK []) = L21 ρ call yc lim k x0 x1 H := by
 rw [evL_X,L21_x]
 simp only [← evL_X,L21,N21_1_eq]
theorem E21 (ρ : RO) (k lim : Nat) (x0 x1 : AV) (H : Heap) : evCall (cx ρ) (k + 1) lim 21 [x0,x1] H = L21 ρ (evCall (cx ρ) k) (evCY (cx ρ) k).2 lim k x0 x1 H := by
 rw [evCall_body (cx ρ) k lim 21 _ H Try.f21 c21 [] (by kernel_rfl) (by kernel_rfl) (by kernel_rfl) (by kernel_rfl) (by kernel_rfl)]
 exact G21 ρ (evCall (cx ρ) k) (evCY (cx ρ) k).2 lim k x0 x1 H
-- slices.ContainsFunc[[]haycroft/api.Event,haycroft/api.Event]
noncomputable def c22 : Code := Code.of Try.prog 22
noncomputable def L22 (ρ : RO) (call : CallF) (yc : YieldF) (lim k : Nat) (x0 x1 : AV) (H : Heap) : Res :=
 resK (call lim 30 [x0,x1] H) fun x7 H =>
 purK (binA Try.prog H .geq 3 x7 (.int .i64 0)) fun x8 =>
 retK [x8] H
theorem G22 (ρ call yc lim k x0 x1 H) :
 evL (cx ρ) call yc false 22 lim k c22 ([x0,x1] ++ List.replicate 7 (.tup [])) H (kk none (fun s H => retK (gs [4] s) H) [] retK [4]) = L22 ρ call yc lim k x0 x1 H := by
 kernel_rfl
theorem E22 (ρ : RO) (k lim : Nat) (x0 x1 : AV) (H : Heap) : evCall (cx ρ) (k + 1) lim 22 [x0,x1] H = L22 ρ (evCall (cx ρ) k) (evCY (cx ρ) k).2 lim k x0 x1 H := by
 rw [evCall_body (cx ρ) k lim 22 _ H Try.f22 c22 [4] (by kernel_rfl) (by kernel_rfl) (by kernel_rfl) (by kernel_rfl) (by kernel_rfl)]
 exact G22 ρ (evCall (cx ρ) k) (evCY (cx ρ) k).2 lim k x0 x1 H
-- haycroft/history.Right$1
noncomputable def c23 : Code := Code.of Try.prog 23
noncomputable def L23 (ρ : RO) (call : CallF) (yc : YieldF) (lim k : Nat) (x0 : AV) (H : Heap) : Res :=
 effK H (boxA H 31 x0) fun x1 H =>
 purK (addA 0 x1) fun x3 =>
 purK (addA 0 x3) fun x4 =>
 purK (ld1 ρ H x4) fun x5 =>
 purK (binA Try.prog H .lss 3 x5 (.int .i64 1)) fun x6 =>
 purK (gPur (wantV x6 false) (addA 0 x1)) fun x8 =>
 purK (gPur (wantV x6 false) (addA 0 x8)) fun x9 =>
 purK (gPur (wantV x6 false) (ld1 ρ H x9)) fun x10 =>
 purK (gPur (wantV x6 false) (binA Try.prog H .gtr 3 x10 (.int .i64 4))) fun x11 =>
 purK (pickA x6 (.bool true) x11) fun x12 =>
 purK (gPur (wantV x12 false) (addA 6 x1)) fun x14 =>
 purK (gPur (wantV x12 false) (ld1 ρ H x14)) fun x15 =>
 purK (gPur (wantV x12 false) (binA Try.prog H .lss 3 x15 (.int .i64 1))) fun x16 =>
 purK (pickA x12 (.bool true) x16) fun x17 =>
 purK (gPur (wantV x17 false) (addA 7 x1)) fun x19 =>
 purK (gPur (wantV x17 false) (ld1 ρ H x19)) fun x20 =>
 purK (gPur (wantV x17 false) (binA Try.prog H .neq 3 x20 (.int .i64 0))) fun x21 =>
 purK (gPur (wantV x17 false) (some x21)) fun x22 =>
 purK (gPur (wantV x22 true) (addA 7 x1)) fun x23 =>
 purK (gPur (wantV x22 true) (ld1 ρ H x23)) fun x24 =>
 purK (gPur (wantV x22 true) (addA 6 x1)) fun x25 =>
 purK (gPur (wantV x22 true) (ld1 ρ H x25)) fun x26 =>
 purK (gPur (wantV x22 true) (binA Try.prog H .leq 3 x24 x26)) fun x27 =>
 purK (gPur (wantV x17 false) (pickA x22 x27 (.bool false))) fun x28 =>
 purK (pickA x17 (.bool true) x28) fun x29 =>
 retK [x29] H
theorem G23 (ρ call yc lim k x0 H) :
 evL (cx ρ) call yc false 23 lim k c23 ([x0] ++ List.replicate 29 (.tup [])) H (kk none (fun s H => retK (gs [2] s) H) [] retK [2]) = L23 ρ call yc lim k x0 H := by
 kernel_rfl
theorem E23 (ρ : RO) (k lim : Nat) (x0 : AV) (H : Heap) : evCall (cx ρ) (k + 1) lim 23 [x0] H = L23 ρ (evCall (cx ρ) k) (evCY (cx ρ) k).2 lim k x0 H := by
 rw [evCall_body (cx ρ) k lim 23 _ H Try.f23 c23 [2] (by kernel_rfl) (by kernel_rfl) (by kernel_rfl) (by kernel_rfl) (by kernel_rfl)]
 exact G23 ρ (evCall (cx ρ) k) (evCY (cx ρ) k).2 lim k x0 H
end Go.Proofs.Ytkmohjddojpdjab

-- part Hl3
/- Functions, lifted. Printed by a program of this repo. -/
set_option linter.unusedVariables false
set_option linter.unusedSimpArgs false
set_option maxRecDepth 100000
set_option maxHeartbeats 4000000
namespace Go.Proofs.Ytkmohjddojpdjab
open Go.Ev Go.RowKit
-- slices.Compact[[]string,string]
noncomputable def c24 : Code := Code.of Try.prog 24
noncomputable def N24_1 (ρ : RO) (call : CallF) (yc : YieldF) (lim k : Nat) (x0 : AV) (H : Heap) (R : KR) : Res :=
 R [x0] H
theorem N24_1_eq (ρ call yc lim k x0 H R) :
 evL (cx ρ) call yc false 24 lim k (Code.at [1,1,1] c24) (sp 61 [(0,x0)]) H (kk none (fun s H => R (gs [2] s) H) [] R [2]) = N24_1 ρ call yc lim k x0 H R := by
 kernel_rfl
noncomputable def N24_4 (ρ : RO) (call : CallF) (yc : YieldF) (lim k : Nat) (x0 x3 : AV) (H : Heap) (kn : AV → Heap → Res) : Res :=
 purK (binA Try.prog H .add 3 x3 (.int .i64 1)) fun x15_1 =>
 kn x15_1 H
theorem N24_4_eq (ρ call yc lim k x0 x3 H kn k0 R) :
 evL (cx ρ) call yc false 24 lim k (Code.at [1,1,0,1,0,0,1,1] c24) (sp 61 [(0,x0),(3,x3)]) H (kk (some [0,3]) kn [(0,(some [0]),k0)] R [2]) = N24_4 ρ call yc lim k x0 x3 H (fun x3 H => kn (sp 61 [(0,x0),(3,x3)]) H) := by
 kernel_rfl
noncomputable def N24_5 (ρ : RO) (call : CallF) (yc : YieldF) (lim k : Nat) (x0 x3 : AV) (H : Heap) (R : KR) : Res :=
 purK (slS 1 x0 (some x3) none none) fun x56_1 =>
 effK H (builtinA (cx ρ) lim H .clear #[35] [x56_1]) fun _ H =>
 purK (slS 1 x0 none (some x3) none) fun x59_1 =>
 R [x59_1] H
theorem N24_5_eq (ρ call yc lim k x0 x3 H kn k1 k0 R) :
 evL (cx ρ) call yc false 24 lim k (Code.at [1,1,0,1,0,0,1,0,0,1,0,1,1] c24) (sp 61 [(0,x0),(3,x3)]) H (kk (some [0,3]) kn [(1,(some [0,3]),k1),(0,(some [0]),k0)] R [2]) = N24_5 ρ call yc lim k x0 x3 H R := by
 kernel_rfl
noncomputable def N24_8 (ρ : RO) (call : CallF) (yc : YieldF) (lim k : Nat) (x0 x3 x4 x5 : AV) (H : Heap) (kn : AV → AV → Heap → Res) : Res :=
 purK (binA Try.prog H .add 3 x5 (.int .i64 1)) fun x34_1 =>
 kn x3 x34_1 H
theorem N24_8_eq (ρ call yc lim k x0 x3 x4 x5 H kn k2 k1 k0 R) :
 evL (cx ρ) call yc false 24 lim k (Code.at [1,1,0,1,0,0,1,0,0,1,0,1,0,1,0,0,1,1] c24) (sp 61 [(0,x0),(3,x3),(4,x4),(5,x5)]) H (kk (some [0,3,4,5]) kn [(2,(some [0,3]),k2),(1,(some [0,3]),k1),(0,(some [0]),k0)] R [2]) = N24_8 ρ call yc lim k x0 x3 x4 x5 H (fun x3 x5 H => kn (sp 61 [(0,x0),(3,x3),(4,x4),(5,x5)]) H) := by
 kernel_rfl
noncomputable def N24_7b (ρ : RO) (call : CallF) (yc : YieldF) (lim k : Nat) (x0 x3 x4 x5 : AV) (H : Heap) (kn : AV → AV → Heap → Res) (k2 : AV → Heap → Res) : Res :=
 purK (lenS x4) fun x31_1 =>
 purK (binA Try.prog H .lss 3 x5 x31_1) fun x32_1 =>
 condK x32_1
 (
 purK (ixS 1 x4 x5) fun x37_1 =>
 purK (ld1 ρ H x37_1) fun x38_1 =>
 purK (binA Try.prog H .sub 3 x5 (.int .i64 1)) fun x41_1 =>
 purK (ixS 1 x4 x41_1) fun x42_1 =>
 purK (ld1 ρ H x42_1) fun x43_1 =>
 purK (binA Try.prog H .neq 9 x38_1 x43_1) fun x44_1 =>
 condK x44_1
 (
 purK (ixS 1 x4 x5) fun x49_1 =>
 purK (ld1 ρ H x49_1) fun x50_1 =>
 purK (ixS 1 x0 x3) fun x51_1 =>
 effK H (stA lim H 1 x51_1 x50_1) fun _ H =>
 purK (binA Try.prog H .add 3 x3 (.int .i64 1)) fun x53_1 =>
 N24_8 ρ call yc lim k x0 x53_1 x4 x5 H kn)
 (
 N24_8 ρ call yc lim k x0 x3 x4 x5 H kn))
 (
 k2 x3 H)
theorem N24_7b_x (ρ call yc lim k J x0 x3 x4 x5 H kn k2 k1 k0 R) :
 evX (cx ρ) call yc false 24 lim k J (Code.at [1,1,0,1,0,0,1,0,0,1,0,1,0,1,0,0] c24) (sp 61 [(0,x0),(3,x3),(4,x4),(5,x5)]) H (kk (some [0,3,4,5]) kn [(2,(some [0,3]),k2),(1,(some [0,3]),k1),(0,(some [0]),k0)] R [2]) =
 purK (lenS x4) fun x31_1 =>
 purK (binA Try.prog H .lss 3 x5 x31_1) fun x32_1 =>
 condK x32_1
 (
 purK (ixS 1 x4 x5) fun x37_1 =>
 purK (ld1 ρ H x37_1) fun x38_1 =>
 purK (binA Try.prog H .sub 3 x5 (.int .i64 1)) fun x41_1 =>
 purK (ixS 1 x4 x41_1) fun x42_1 =>
 purK (ld1 ρ H x42_1) fun x43_1 =>
 purK (binA Try.prog H .neq 9 x38_1 x43_1) fun x44_1 =>
 condK x44_1
 (
 purK (ixS 1 x4 x5) fun x49_1 =>
 purK (ld1 ρ H x49_1) fun x50_1 =>
 purK (ixS 1 x0 x3) fun x51_1 =>
 effK H (stA lim H 1 x51_1 x50_1) fun _ H =>
 purK (binA Try.prog H .add 3 x3 (.int .i64 1)) fun x53_1 =>
 J (Code.at [1,1,0,1,0,0,1,0,0,1,0,1,0,1,0,0,1,1] c24) (sp 61 [(0,x0),(3,x53_1),(4,x4),(5,x5)]) H (kk (some [0,3,4,5]) kn [(2,(some [0,3]),k2),(1,(some [0,3]),k1),(0,(some [0]),k0)] R [2]))
 (
 J (Code.at [1,1,0,1,0,0,1,0,0,1,0,1,0,1,0,0,1,1] c24) (sp 61 [(0,x0),(3,x3),(4,x4),(5,x5)]) H (kk (some [0,3,4,5]) kn [(2,(some [0,3]),k2),(1,(some [0,3]),k1),(0,(some [0]),k0)] R [2])))
 (
 k2 (sp 61 [(0,x0),(3,x3)]) H) := by
 kernel_rfl
theorem N24_7b_eq (ρ call yc lim k x0 x3 x4 x5 H kn k2 k1 k0 R) :
 evL (cx ρ) call yc false 24 lim k (Code.at [1,1,0,1,0,0,1,0,0,1,0,1,0,1,0,0] c24) (sp 61 [(0,x0),(3,x3),(4,x4),(5,x5)]) H (kk (some [0,3,4,5]) kn [(2,(some [0,3]),k2),(1,(some [0,3]),k1),(0,(some [0]),k0)] R [2]) = N24_7b ρ call yc lim k x0 x3 x4 x5 H (fun x3 x5 H => kn (sp 61 [(0,x0),(3,x3),(4,x4),(5,x5)]) H) (fun x3 H => k2 (sp 61 [(0,x0),(3,x3)]) H) := by
 rw [evL_X,N24_7b_x]
 simp only [← evL_X,N24_7b,N24_8_eq]
noncomputable def N24_7 (ρ : RO) (call : CallF) (yc : YieldF) (lim k : Nat) (x0 x3 x4 x5 : AV) (H : Heap) (k2 : AV → Heap → Res) : Res :=
 loopL (fun (x : AV × AV) H kn => N24_7b ρ call yc lim k x0 x.1 x4 x.2 H (fun x3 x5 H => kn (x3,x5) H) k2) k (x3,x5) H
theorem N24_7_eq (ρ call yc lim k x0 x3 x4 x5 H kn k2 k1 k0 R) :
 evL (cx ρ) call yc false 24 lim k (Code.at [1,1,0,1,0,0,1,0,0,1,0,1,0,1,0] c24) (sp 61 [(0,x0),(3,x3),(4,x4),(5,x5)]) H (kk (some [0,3]) kn [(2,(some [0,3]),k2),(1,(some [0,3]),k1),(0,(some [0]),k0)] R [2]) = N24_7 ρ call yc lim k x0 x3 x4 x5 H (fun x3 H => k2 (sp 61 [(0,x0),(3,x3)]) H) := by
 have e : Code.at [1,1,0,1,0,0,1,0,0,1,0,1,0,1,0] c24 = .loop (Code.at [1,1,0,1,0,0,1,0,0,1,0,1,0,1,0,0] c24) := by kernel_rfl
 rw [e]
 unfold N24_7
 exact loop_node [0,3,4,5] (fun x : AV × AV => (sp 61 [(0,x0),(3,(x.1)),(4,x4),(5,(x.2))])) (fun (x : AV × AV) H kn => N24_7b ρ call yc lim k x0 x.1 x4 x.2 H (fun x3 x5 H => kn (x3,x5) H) (fun x3 H => k2 (sp 61 [(0,x0),(3,x3)]) H)) (by kernel_rfl) (fun x => by kernel_rfl) (fun x H kn => N24_7b_eq ρ call yc lim k x0 (x.1) x4 (x.2) H kn k2 k1 k0 R) (x3,x5) (sp 61 [(0,x0),(3,x3),(4,x4),(5,x5)]) H (by kernel_rfl)
noncomputable def N24_6 (ρ : RO) (call : CallF) (yc : YieldF) (lim k : Nat) (x0 x3 x4 x5 : AV) (H : Heap) (kn : AV → Heap → Res) : Res :=
 N24_7 ρ call yc lim k x0 x3 x4 x5 H kn
theorem N24_6_x (ρ call yc lim k J x0 x3 x4 x5 H kn k1 k0 R) :
 evX (cx ρ) call yc false 24 lim k J (Code.at [1,1,0,1,0,0,1,0,0,1,0,1,0,1] c24) (sp 61 [(0,x0),(3,x3),(4,x4),(5,x5)]) H (kk (some [0,3]) kn [(1,(some [0,3]),k1),(0,(some [0]),k0)] R [2]) =
 J (Code.at [1,1,0,1,0,0,1,0,0,1,0,1,0,1,0] c24) (sp 61 [(0,x0),(3,x3),(4,x4),(5,x5)]) H (kk (some [0,3]) kn [(2,(some [0,3]),kn),(1,(some [0,3]),k1),(0,(some [0]),k0)] R [2]) := by
 kernel_rfl
theorem N24_6_eq (ρ call yc lim k x0 x3 x4 x5 H kn k1 k0 R) :
 evL (cx ρ) call yc false 24 lim k (Code.at [1,1,0,1,0,0,1,0,0,1,0,1,0,1] c24) (sp 61 [(0,x0),(3,x3),(4,x4),(5,x5)]) H (kk (some [0,3]) kn [(1,(some [0,3]),k1),(0,(some [0]),k0)] R [2]) = N24_6 ρ call yc lim k x0 x3 x4 x5 H (fun x3 H => kn (sp 61 [(0,x0),(3,x3)]) H) := by
 rw [evL_X,N24_6_x]
 simp only [← evL_X,N24_6,N24_7_eq]
noncomputable def N24_3b (ρ : RO) (call : CallF) (yc : YieldF) (lim k : Nat) (x0 x3 : AV) (H : Heap) (kn : AV → Heap → Res) (k0 : AV → Heap → Res) (R : KR) : Res :=
 purK (lenS x0) fun x12_1 =>
 purK (binA Try.prog H .lss 3 x3 x12_1) fun x13_1 =>
 condK x13_1
 (
 purK (ixS 1 x0 x3) fun x18_1 =>
 purK (ld1 ρ H x18_1) fun x19_1 =>
 purK (binA Try.prog H .sub 3 x3 (.int .i64 1)) fun x22_1 =>
 purK (ixS 1 x0 x22_1) fun x23_1 =>
 purK (ld1 ρ H x23_1) fun x24_1 =>
 purK (binA Try.prog H .eql 9 x19_1 x24_1) fun x25_1 =>
 condK x25_1
 (
 purK (slS 1 x0 (some x3) none none) fun x28_1 =>
 N24_6 ρ call yc lim k x0 x3 x28_1 (.int .i64 1) H (fun x3_1 H =>
 N24_5 ρ call yc lim k x0 x3_1 H R))
 (
 N24_4 ρ call yc lim k x0 x3 H kn))
 (
 k0 x0 H)
theorem N24_3b_x (ρ call yc lim k J x0 x3 H kn k0 R) :
 evX (cx ρ) call yc false 24 lim k J (Code.at [1,1,0,1,0,0] c24) (sp 61 [(0,x0),(3,x3)]) H (kk (some [0,3]) kn [(0,(some [0]),k0)] R [2]) =
 purK (lenS x0) fun x12_1 =>
 purK (binA Try.prog H .lss 3 x3 x12_1) fun x13_1 =>
 condK x13_1
 (
 purK (ixS 1 x0 x3) fun x18_1 =>
 purK (ld1 ρ H x18_1) fun x19_1 =>
 purK (binA Try.prog H .sub 3 x3 (.int .i64 1)) fun x22_1 =>
 purK (ixS 1 x0 x22_1) fun x23_1 =>
 purK (ld1 ρ H x23_1) fun x24_1 =>
 purK (binA Try.prog H .eql 9 x19_1 x24_1) fun x25_1 =>
 condK x25_1
 (
 purK (slS 1 x0 (some x3) none none) fun x28_1 =>
 J (Code.at [1,1,0,1,0,0,1,0,0,1,0,1,0,1] c24) (sp 61 [(0,x0),(3,x3),(4,x28_1),(5,(.int .i64 1))]) H (kk (some [0,3]) (fun s H => J (Code.at [1,1,0,1,0,0,1,0,0,1,0,1,1] c24) s H (kk (some [0,3]) (fun s H => J (Code.at [1,1,0,1,0,0,1,1] c24) s H (kk (some [0,3]) kn [(0,(some [0]),k0)] R [2])) [(1,(some [0,3]),(fun s H => J (Code.at [1,1,0,1,0,0,1,1] c24) s H (kk (some [0,3]) kn [(0,(some [0]),k0)] R [2]))),(0,(some [0]),k0)] R [2])) [(1,(some [0,3]),(fun s H => J (Code.at [1,1,0,1,0,0,1,1] c24) s H (kk (some [0,3]) kn [(0,(some [0]),k0)] R [2]))),(0,(some [0]),k0)] R [2]))
 (
 J (Code.at [1,1,0,1,0,0,1,1] c24) (sp 61 [(0,x0),(3,x3)]) H (kk (some [0,3]) kn [(0,(some [0]),k0)] R [2])))
 (
 k0 (sp 61 [(0,x0)]) H) := by
 kernel_rfl
theorem N24_3b_eq (ρ call yc lim k x0 x3 H kn k0 R) :
 evL (cx ρ) call yc false 24 lim k (Code.at [1,1,0,1,0,0] c24) (sp 61 [(0,x0),(3,x3)]) H (kk (some [0,3]) kn [(0,(some [0]),k0)] R [2]) = N24_3b ρ call yc lim k x0 x3 H (fun x3 H => kn (sp 61 [(0,x0),(3,x3)]) H) (fun x0 H => k0 (sp 61 [(0,x0)]) H) R := by
 rw [evL_X,N24_3b_x]
 simp only [← evL_X,N24_3b,N24_4_eq,N24_5_eq,N24_6_eq]
noncomputable def N24_3 (ρ : RO) (call : CallF) (yc : YieldF) (lim k : Nat) (x0 x3 : AV) (H : Heap) (k0 : AV → Heap → Res) (R : KR) : Res :=
 loopL (fun (x : AV) H kn => N24_3b ρ call yc lim k x0 x H (fun x3 H => kn x3 H) k0 R) k x3 H
theorem N24_3_eq (ρ call yc lim k x0 x3 H kn k0 R) :
 evL (cx ρ) call yc false 24 lim k (Code.at [1,1,0,1,0] c24) (sp 61 [(0,x0),(3,x3)]) H (kk (some [0]) kn [(0,(some [0]),k0)] R [2]) = N24_3 ρ call yc lim k x0 x3 H (fun x0 H => k0 (sp 61 [(0,x0)]) H) R := by
 have e : Code.at [1,1,0,1,0] c24 = .loop (Code.at [1,1,0,1,0,0] c24) := by kernel_rfl
 rw [e]
 unfold N24_3
 exact loop_node [0,3] (fun x : AV => (sp 61 [(0,x0),(3,(x))])) (fun (x : AV) H kn => N24_3b ρ call yc lim k x0 x H (fun x3 H => kn x3 H) (fun x0 H => k0 (sp 61 [(0,x0)]) H) R) (by kernel_rfl) (fun x => by kernel_rfl) (fun x H kn => N24_3b_eq ρ call yc lim k x0 (x) H kn k0 R) x3 (sp 61 [(0,x0),(3,x3)]) H (by kernel_rfl)
noncomputable def N24_2 (ρ : RO) (call : CallF) (yc : YieldF) (lim k : Nat) (x0 x3 : AV) (H : Heap) (kn : AV → Heap → Res) (R : KR) : Res :=
 N24_3 ρ call yc lim k x0 x3 H kn R
theorem N24_2_x (ρ call yc lim k J x0 x3 H kn R) :
 evX (cx ρ) call yc false 24 lim k J (Code.at [1,1,0,1] c24) (sp 61 [(0,x0),(3,x3)]) H (kk (some [0]) kn [] R [2]) =
 J (Code.at [1,1,0,1,0] c24) (sp 61 [(0,x0),(3,x3)]) H (kk (some [0]) kn [(0,(some [0]),kn)] R [2]) := by
 kernel_rfl
theorem N24_2_eq (ρ call yc lim k x0 x3 H kn R) :
 evL (cx ρ) call yc false 24 lim k (Code.at [1,1,0,1] c24) (sp 61 [(0,x0),(3,x3)]) H (kk (some [0]) kn [] R [2]) = N24_2 ρ call yc lim k x0 x3 H (fun x0 H => kn (sp 61 [(0,x0)]) H) R := by
 rw [evL_X,N24_2_x]
 simp only [← evL_X,N24_2,N24_3_eq]
noncomputable def L24 (ρ : RO) (call : CallF) (yc : YieldF) (lim k : Nat) (x0 : AV) (H : Heap) : Res :=
 purK (lenS x0) fun x7 =>
 purK (binA Try.prog H .lss 3 x7 (.int .i64 2)) fun x8 =>
 condK x8
 (
 retK [x0] H)
 (
 N24_2 ρ call yc lim k x0 (.int .i64 1) H (fun x0_1 H =>
 N24_1 ρ call yc lim k x0_1 H retK) retK)
theorem L24_x (ρ call yc lim k J x0 H) :
 evX (cx ρ) call yc false 24 lim k J c24 ([x0] ++ List.replicate 60 (.tup [])) H (kk none (fun s H => retK (gs [2] s) H) [] retK [2]) =
 purK (lenS x0) fun x7 =>
 purK (binA Try.prog H .lss 3 x7 (.int .i64 2)) fun x8 =>
 condK x8
 (
 retK [x0] H)
 (
 J (Code.at [1,1,0,1] c24) (sp 61 [(0,x0),(3,(.int .i64 1))]) H (kk (some [0]) (fun s H => J (Code.at [1,1,1] c24) s H (kk none (fun s H => retK (gs [2] s) H) [] retK [2])) [] retK [2])) := by
 kernel_rfl
theorem G24 (ρ call yc lim k x0 H) :
 evL (cx ρ) call yc false 24 lim k c24 ([x0] ++ List.replicate 60 (.tup [])) H (kk none (fun s H => retK (gs [2] s) H) [] retK [2]) = L24 ρ call yc lim k x0 H := by
 rw [evL_X,L24_x]
 simp only [← evL_X,L24,N24_1_eq,N24_2_eq]
theorem E24 (ρ : RO) (k lim : Nat) (x0 : AV) (H : Heap) : evCall (cx ρ) (k + 1) lim 24 [x0] H = L24 ρ (evCall (cx ρ) k) (evCY (cx ρ) k).2 lim k x0 H := by
 rw [evCall_body (cx ρ) k lim 24 _ H Try.f24 c24 [2] (by kernel_rfl) (by kernel_rfl) (by kernel_rfl) (by kernel_rfl) (by kernel_rfl)]
 exact G24 ρ (evCall (cx ρ) k) (evCY (cx ρ) k).2 lim k x0 H
-- slices.IndexFunc[[]haycroft/history.node,haycroft/history.node]
noncomputable def c25 : Code := Code.of Try.prog 25
noncomputable def N25_1 (ρ : RO) (call : CallF) (yc : YieldF) (lim k : Nat) (H : Heap) (R : KR) : Res :=
 R [(.int .i64 (-1))] H
theorem N25_1_eq (ρ call yc lim k H R) :
 evL (cx ρ) call yc false 25 lim k (Code.at [1,1] c25) (sp 19 []) H (kk none (fun s H => R (gs [4] s) H) [] R [4]) = N25_1 ρ call yc lim k H R := by
 kernel_rfl
noncomputable def N25_3b (ρ : RO) (call : CallF) (yc : YieldF) (lim k : Nat) (x0 x1 x7 x8 : AV) (H : Heap) (kn : AV → Heap → Res) (k0 : Heap → Res) (R : KR) : Res :=
 purK (binA Try.prog H .lss 3 x8 x7) fun x9_1 =>
 condK x9_1
 (
 purK (ixS 3 x0 x8) fun x14_1 =>
 purK (ldN ρ H 3 x14_1) fun x15_1 =>
 valK call yc lim x1 [x15_1] H fun x16_1 H =>
 condK x16_1
 (
 R [x8] H)
 (
 purK (binA Try.prog H .add 3 x8 (.int .i64 1)) fun x18_1 =>
 kn x18_1 H))
 (
 k0 H)
theorem N25_3b_eq (ρ call yc lim k x0 x1 x7 x8 H kn k0 R) :
 evL (cx ρ) call yc false 25 lim k (Code.at [1,0,1,0,0] c25) (sp 19 [(0,x0),(1,x1),(7,x7),(8,x8)]) H (kk (some [0,1,7,8]) kn [(0,(some []),k0)] R [4]) = N25_3b ρ call yc lim k x0 x1 x7 x8 H (fun x8 H => kn (sp 19 [(0,x0),(1,x1),(7,x7),(8,x8)]) H) (fun H => k0 (sp 19 []) H) R := by
 kernel_rfl
noncomputable def N25_3 (ρ : RO) (call : CallF) (yc : YieldF) (lim k : Nat) (x0 x1 x7 x8 : AV) (H : Heap) (k0 : Heap → Res) (R : KR) : Res :=
 loopL (fun (x : AV) H kn => N25_3b ρ call yc lim k x0 x1 x7 x H (fun x8 H => kn x8 H) k0 R) k x8 H
theorem N25_3_eq (ρ call yc lim k x0 x1 x7 x8 H kn k0 R) :
 evL (cx ρ) call yc false 25 lim k (Code.at [1,0,1,0] c25) (sp 19 [(0,x0),(1,x1),(7,x7),(8,x8)]) H (kk (some []) kn [(0,(some []),k0)] R [4]) = N25_3 ρ call yc lim k x0 x1 x7 x8 H (fun H => k0 (sp 19 []) H) R := by
 have e : Code.at [1,0,1,0] c25 = .loop (Code.at [1,0,1,0,0] c25) := by kernel_rfl
 rw [e]
 unfold N25_3
 exact loop_node [0,1,7,8] (fun x : AV => (sp 19 [(0,x0),(1,x1),(7,x7),(8,(x))])) (fun (x : AV) H kn => N25_3b ρ call yc lim k x0 x1 x7 x H (fun x8 H => kn x8 H) (fun H => k0 (sp 19 []) H) R) (by kernel_rfl) (fun x => by kernel_rfl) (fun x H kn => N25_3b_eq ρ call yc lim k x0 x1 x7 (x) H kn k0 R) x8 (sp 19 [(0,x0),(1,x1),(7,x7),(8,x8)]) H (by kernel_rfl)
noncomputable def N25_2 (ρ : RO) (call : CallF) (yc : YieldF) (lim k : Nat) (x0 x1 x7 x8 : AV) (H : Heap) (kn : Heap → Res) (R : KR) : Res :=
 N25_3 ρ call yc lim k x0 x1 x7 x8 H kn R
theorem N25_2_x (ρ call yc lim k J x0 x1 x7 x8 H kn R) :
 evX (cx ρ) call yc false 25 lim k J (Code.at [1,0,1] c25) (sp 19 [(0,x0),(1,x1),(7,x7),(8,x8)]) H (kk (some []) kn [] R [4]) =
 J (Code.at [1,0,1,0] c25) (sp 19 [(0,x0),(1,x1),(7,x7),(8,x8)]) H (kk (some []) kn [(0,(some []),kn)] R [4]) := by
 kernel_rfl
theorem N25_2_eq (ρ call yc lim k x0 x1 x7 x8 H kn R) :
 evL (cx ρ) call yc false 25 lim k (Code.at [1,0,1] c25) (sp 19 [(0,x0),(1,x1),(7,x7),(8,x8)]) H (kk (some []) kn [] R [4]) = N25_2 ρ call yc lim k x0 x1 x7 x8 H (fun H => kn (sp 19 []) H) R := by
 rw [evL_X,N25_2_x]
 simp only [← evL_X,N25_2,N25_3_eq]
noncomputable def L25 (ρ : RO) (call : CallF) (yc : YieldF) (lim k : Nat) (x0 x1 : AV) (H : Heap) : Res :=
 purK (lenS x0) fun x7 =>
 N25_2 ρ call yc lim k x0 x1 x7 (.int .i64 0) H (fun H =>
 N25_1 ρ call yc lim k H retK) retK
theorem L25_x (ρ call yc lim k J x0 x1 H) :
 evX (cx ρ) call yc false 25 lim k J c25 ([x0,x1] ++ List.replicate 17 (.tup [])) H (kk none (fun s H => retK (gs [4] s) H) [] retK [4]) =
 purK (lenS x0) fun x7 =>
 J (Code.at [1,0,1] c25) (sp 19 [(0,x0),(1,x1),(7,x7),(8,(.int .i64 0))]) H (kk (some []) (fun s H => J (Code.at [1,1] c25) s H (kk none (fun s H => retK (gs [4] s) H) [] retK [4])) [] retK [4]) := by
 kernel_rfl
theorem G25 (ρ call yc lim k x0 x1 H) :
 evL (cx ρ) call yc false 25 lim k c25 ([x0,x1] ++ List.replicate 17 (.tup [])) H (kk none (fun s H => retK (gs [4] s) H) [] retK [4]) = L25 ρ call yc lim k x0 x1 H := by
 rw [evL_X,L25_x]
 simp only [← evL_X,L25,N25_1_eq,N25_2_eq]
theorem E25 (ρ : RO) (k lim : Nat) (x0 x1 : AV) (H : Heap) : evCall (cx ρ) (k + 1) lim 25 [x0,x1] H = L25 ρ (evCall (cx ρ) k) (evCY (cx ρ) k).2 lim k x0 x1 H := by
 rw [evCall_body (cx ρ) k lim 25 _ H Try.f25 c25 [4] (by kernel_rfl) (by kernel_rfl) (by kernel_rfl) (by kernel_rfl) (by kernel_rfl)]
 exact G25 ρ (evCall (cx ρ) k) (evCY (cx ρ) k).2 lim k x0 x1 H
-- (*haycroft/history.search).may
noncomputable def c26 : Code := Code.of Try.prog 26
noncomputable def N26_2 (ρ : RO) (call : CallF) (yc : YieldF) (lim k : Nat) (x2 x4 x6 x10 x11 : AV) (H : Heap) (R : KR) : Res :=
 purK (addA 0 x4) fun x75_1 =>
 purK (ld1 ρ H x75_1) fun x76_1 =>
 purK (binA Try.prog H .shl 48 (.int .u32 1) x2) fun x78_1 =>
 purK (binA Try.prog H .or 48 x76_1 x78_1) fun x79_1 =>
 purK (bldA [.str ByteArray.empty,.bool false] [(0,1,x10),(1,1,x11)]) fun x82_1 =>
 purK (bldA [.int .u32 0,.str ByteArray.empty,.bool false] [(0,1,x79_1),(1,2,x82_1)]) fun x83_1 =>
 effK H (stA lim H 3 x6 x83_1) fun _ H =>
 R [x6,(.bool true)] H
theorem N26_2_eq (ρ call yc lim k x2 x4 x6 x10 x11 H R) :
 evL (cx ρ) call yc false 26 lim k (Code.at [1,1,1,1,1,1] c26) (sp 84 [(2,x2),(4,x4),(6,x6),(10,x10),(11,x11)]) H (kk none (fun s H => R (gs [6,7] s) H) [] R [6,7]) = N26_2 ρ call yc lim k x2 x4 x6 x10 x11 H R := by
 kernel_rfl
noncomputable def N26_3 (ρ : RO) (call : CallF) (yc : YieldF) (lim k : Nat) (x2 x4 x6 x10 x11 x73 : AV) (H : Heap) (kn : AV → AV → AV → AV → AV → Heap → Res) (R : KR) : Res :=
 condK x73
 (
 purK (bldA [.int .u32 0,.str ByteArray.empty,.bool false] []) fun x74_1 =>
 effK H (stA lim H 3 x6 x74_1) fun _ H =>
 R [x6,(.bool false)] H)
 (
 kn x2 x4 x6 x10 x11 H)
theorem N26_3_eq (ρ call yc lim k x2 x4 x6 x10 x11 x73 H kn R) :
 evL (cx ρ) call yc false 26 lim k (Code.at [1,1,1,1,1,0,1] c26) (sp 84 [(2,x2),(4,x4),(6,x6),(10,x10),(11,x11),(73,x73)]) H (kk (some [2,4,6,10,11]) kn [] R [6,7]) = N26_3 ρ call yc lim k x2 x4 x6 x10 x11 x73 H (fun x2 x4 x6 x10 x11 H => kn (sp 84 [(2,x2),(4,x4),(6,x6),(10,x10),(11,x11)]) H) R := by
 kernel_rfl
noncomputable def N26_1 (ρ : RO) (call : CallF) (yc : YieldF) (lim k : Nat) (x2 x4 x6 x8 : AV) (H : Heap) (R : KR) : Res :=
 purK (addA 1 x4) fun x53_1 =>
 purK (addA 0 x53_1) fun x54_1 =>
 purK (ld1 ρ H x54_1) fun x55_1 =>
 purK (addA 1 x4) fun x56_1 =>
 purK (addA 1 x56_1) fun x57_1 =>
 purK (ld1 ρ H x57_1) fun x58_1 =>
 purK (addA 0 x8) fun x59_1 =>
 purK (ldN ρ H 4 x59_1) fun x60_1 =>
 resK (call lim 31 [x55_1,x58_1,x60_1] H) fun x61_1 H =>
 purK (extA 0 x61_1) fun x62_1 =>
 purK (extA 1 x61_1) fun x63_1 =>
 purK (extA 2 x61_1) fun x64_1 =>
 effK H (some (.ptr H.sz 0 0,.new (newCells 29 false [.int .i64 0,.str ByteArray.empty]))) fun x12_1 H =>
 effK H (stA lim H 2 x12_1 x64_1) fun _ H =>
 purK (addA 7 x8) fun x65_1 =>
 purK (ld1 ρ H x65_1) fun x66_1 =>
 purK (binA Try.prog H .gtr 3 x66_1 (.int .i64 0)) fun x67_1 =>
 purK (gPur (wantV x67_1 true) (ldN ρ H 2 x12_1)) fun x69_1 =>
 purK (gPur (wantV x67_1 true) (addA 4 x8)) fun x70_1 =>
 purK (gPur (wantV x67_1 true) (ldN ρ H 2 x70_1)) fun x71_1 =>
 purK (gPur (wantV x67_1 true) (binA Try.prog H .neq 29 x69_1 x71_1)) fun x72_1 =>
 purK (pickA x67_1 x72_1 (.bool false)) fun x73_1 =>
 N26_3 ρ call yc lim k x2 x4 x6 x62_1 x63_1 x73_1 H (fun x2_1 x4_1 x6_1 x10_1 x11_1 H =>
 N26_2 ρ call yc lim k x2_1 x4_1 x6_1 x10_1 x11_1 H R) R
theorem N26_1_x (ρ call yc lim k J x2 x4 x6 x8 H R) :
 evX (cx ρ) call yc false 26 lim k J (Code.at [1,1,1,1] c26) (sp 84 [(2,x2),(4,x4),(6,x6),(8,x8)]) H (kk none (fun s H => R (gs [6,7] s) H) [] R [6,7]) =
 purK (addA 1 x4) fun x53_1 =>
 purK (addA 0 x53_1) fun x54_1 =>
 purK (ld1 ρ H x54_1) fun x55_1 =>
 purK (addA 1 x4) fun x56_1 =>
 purK (addA 1 x56_1) fun x57_1 =>
 purK (ld1 ρ H x57_1) fun x58_1 =>
 purK (addA 0 x8) fun x59_1 =>
 purK (ldN ρ H 4 x59_1) fun x60_1 =>
 resK (call lim 31 [x55_1,x58_1,x60_1] H) fun x61_1 H =>
 purK (extA 0 x61_1) fun x62_1 =>
 purK (extA 1 x61_1) fun x63_1 =>
 purK (extA 2 x61_1) fun x64_1 =>
 effK H (some (.ptr H.sz 0 0,.new (newCells 29 false [.int .i64 0,.str ByteArray.empty]))) fun x12_1 H =>
 effK H (stA lim H 2 x12_1 x64_1) fun _ H =>
 purK (addA 7 x8) fun x65_1 =>
 purK (ld1 ρ H x65_1) fun x66_1 =>
 purK (binA Try.prog H .gtr 3 x66_1 (.int .i64 0)) fun x67_1 =>
 purK (gPur (wantV x67_1 true) (ldN ρ H 2 x12_1)) fun x69_1 =>
 purK (gPur (wantV x67_1 true) (addA 4 x8)) fun x70_1 =>
 purK (gPur (wantV x67_1 true) (ldN ρ H 2 x70_1)) fun x71_1 =>
 purK (gPur (wantV x67_1 true) (binA Try.prog H .neq 29 x69_1 x71_1)) fun x72_1 =>
 purK (pickA x67_1 x72_1 (.bool false)) fun x73_1 =>
 J (Code.at [1,1,1,1,1,0,1] c26) (sp 84 [(2,x2),(4,x4),(6,x6),(10,x62_1),(11,x63_1),(73,x73_1)]) H (kk (some [2,4,6,10,11]) (fun s H => J (Code.at [1,1,1,1,1,1] c26) s H (kk none (fun s H => R (gs [6,7] s) H) [] R [6,7])) [] R [6,7]) := by
 kernel_rfl
theorem N26_1_eq (ρ call yc lim k x2 x4 x6 x8 H R) :
 evL (cx ρ) call yc false 26 lim k (Code.at [1,1,1,1] c26) (sp 84 [(2,x2),(4,x4),(6,x6),(8,x8)]) H (kk none (fun s H => R (gs [6,7] s) H) [] R [6,7]) = N26_1 ρ call yc lim k x2 x4 x6 x8 H R := by
 rw [evL_X,N26_1_x]
 simp only [← evL_X,N26_1,N26_2_eq,N26_3_eq]
noncomputable def N26_4 (ρ : RO) (call : CallF) (yc : YieldF) (lim k : Nat) (x2 x4 x6 x8 x50 : AV) (H : Heap) (kn : AV → AV → AV → AV → Heap → Res) (R : KR) : Res :=
 condK x50
 (
 purK (bldA [.int .u32 0,.str ByteArray.empty,.bool false] []) fun x51_1 =>
 effK H (stA lim H 3 x6 x51_1) fun _ H =>
 R [x6,(.bool false)] H)
 (
 kn x2 x4 x6 x8 H)
theorem N26_4_eq (ρ call yc lim k x2 x4 x6 x8 x50 H kn R) :
 evL (cx ρ) call yc false 26 lim k (Code.at [1,1,1,0,1] c26) (sp 84 [(2,x2),(4,x4),(6,x6),(8,x8),(50,x50)]) H (kk (some [2,4,6,8]) kn [] R [6,7]) = N26_4 ρ call yc lim k x2 x4 x6 x8 x50 H (fun x2 x4 x6 x8 H => kn (sp 84 [(2,x2),(4,x4),(6,x6),(8,x8)]) H) R := by
 kernel_rfl
noncomputable def L26 (ρ : RO) (call : CallF) (yc : YieldF) (lim k : Nat) (x0 x1 x2 : AV) (H : Heap) : Res :=
 effK H (boxA H 52 x1) fun x4 H =>
 effK H (some (.ptr H.sz 0 0,.new (newCells 52 false [.int .u32 0,.str ByteArray.empty,.bool false]))) fun x6 H =>
 purK (nilChkA x0) fun x14 =>
 purK (addA 0 x14) fun x15 =>
 purK (ld1 ρ H x15) fun x16 =>
 purK (ixS 8 x16 x2) fun x18 =>
 purK (ldN ρ H 8 x18) fun x19 =>
 effK H (some (.ptr H.sz 0 0,.new (newCells 31 false [.int .i64 0,.str ByteArray.empty,.str ByteArray.empty,.int .u64 0,.int .i64 0,.str ByteArray.empty,.int .i64 0,.int .i64 0]))) fun x8 H =>
 effK H (stA lim H 8 x8 x19) fun _ H =>
 purK (addA 7 x8) fun x20 =>
 purK (ld1 ρ H x20) fun x21 =>
 purK (binA Try.prog H .gtr 3 x21 (.int .i64 0)) fun x22 =>
 purK (gPur (wantV x22 true) (addA 4 x8)) fun x24 =>
 purK (gPur (wantV x22 true) (addA 0 x24)) fun x25 =>
 purK (gPur (wantV x22 true) (ld1 ρ H x25)) fun x26 =>
 purK (gPur (wantV x22 true) (binA Try.prog H .eql 27 x26 (.int .i64 9))) fun x27 =>
 purK (pickA x22 x27 (.bool false)) fun x28 =>
 purK (gPur (wantV x28 false) (addA 0 x4)) fun x31 =>
 purK (gPur (wantV x28 false) (ld1 ρ H x31)) fun x32 =>
 purK (gPur (wantV x28 false) (some x2)) fun x33 =>
 purK (gPur (wantV x28 false) (binA Try.prog H .shr 48 x32 x33)) fun x34 =>
 purK (gPur (wantV x28 false) (binA Try.prog H .and 48 x34 (.int .u32 1))) fun x35 =>
 purK (gPur (wantV x28 false) (binA Try.prog H .eql 48 x35 (.int .u32 1))) fun x36 =>
 purK (pickA x28 (.bool true) x36) fun x37 =>
 purK (gPur (wantV x37 false) (some x0)) fun x39 =>
 purK (gPur (wantV x37 false) (nilChkA x39)) fun x40 =>
 purK (gPur (wantV x37 false) (addA 2 x40)) fun x41 =>
 purK (gPur (wantV x37 false) (ld1 ρ H x41)) fun x42 =>
 purK (gPur (wantV x37 false) (some x2)) fun x43 =>
 purK (gPur (wantV x37 false) (ixS 1 x42 x43)) fun x44 =>
 purK (gPur (wantV x37 false) (ld1 ρ H x44)) fun x45 =>
 purK (gPur (wantV x37 false) (addA 0 x4)) fun x46 =>
 purK (gPur (wantV x37 false) (ld1 ρ H x46)) fun x47 =>
 purK (gPur (wantV x37 false) (binA Try.prog H .andNot 48 x45 x47)) fun x48 =>
 purK (gPur (wantV x37 false) (binA Try.prog H .neq 48 x48 (.int .u32 0))) fun x49 =>
 purK (pickA x37 (.bool true) x49) fun x50 =>
 N26_4 ρ call yc lim k x2 x4 x6 x8 x50 H (fun x2_1 x4_1 x6_1 x8_1 H =>
 N26_1 ρ call yc lim k x2_1 x4_1 x6_1 x8_1 H (retC (cx ρ) [some 52,none])) (retC (cx ρ) [some 52,none])
theorem L26_x (ρ call yc lim k J x0 x1 x2 H) :
 evX (cx ρ) call yc false 26 lim k J c26 ([x0,x1,x2] ++ List.replicate 81 (.tup [])) H (kk none (fun s H => (retC (cx ρ) [some 52,none]) (gs [6,7] s) H) [] (retC (cx ρ) [some 52,none]) [6,7]) =
 effK H (boxA H 52 x1) fun x4 H =>
 effK H (some (.ptr H.sz 0 0,.new (newCells 52 false [.int .u32 0,.str ByteArray.empty,.bool false]))) fun x6 H =>
 purK (nilChkA x0) fun x14 =>
 purK (addA 0 x14) fun x15 =>
 purK (ld1 ρ H x15) fun x16 =>
 purK (ixS 8 x16 x2) fun x18 =>
 purK (ldN ρ H 8 x18) fun x19 =>
 effK H (some (.ptr H.sz 0 0,.new (newCells 31 false [.int .i64 0,.str ByteArray.empty,.str ByteArray.empty,.int .u64 0,.int .i64 0,.str ByteArray.empty,.int .i64 0,.int .i64 0]))) fun x8 H =>
 effK H (stA lim H 8 x8 x19) fun _ H =>
 purK (addA 7 x8) fun x20 =>
 purK (ld1 ρ H x20) fun x21 =>
 purK (binA Try.prog H .gtr 3 x21 (.int .i64 0)) fun x22 =>
 purK (gPur (wantV x22 true) (addA 4 x8)) fun x24 =>
 purK (gPur (wantV x22 true) (addA 0 x24)) fun x25 =>
 purK (gPur (wantV x22 true) (ld1 ρ H x25)) fun x26 =>
 purK (gPur (wantV x22 true) (binA Try.prog H .eql 27 x26 (.int .i64 9))) fun x27 =>
 purK (pickA x22 x27 (.bool false)) fun x28 =>
 purK (gPur (wantV x28 false) (addA 0 x4)) fun x31 =>
 purK (gPur (wantV x28 false) (ld1 ρ H x31)) fun x32 =>
 purK (gPur (wantV x28 false) (some x2)) fun x33 =>
 purK (gPur (wantV x28 false) (binA Try.prog H .shr 48 x32 x33)) fun x34 =>
 purK (gPur (wantV x28 false) (binA Try.prog H .and 48 x34 (.int .u32 1))) fun x35 =>
 purK (gPur (wantV x28 false) (binA Try.prog H .eql 48 x35 (.int .u32 1))) fun x36 =>
 purK (pickA x28 (.bool true) x36) fun x37 =>
 purK (gPur (wantV x37 false) (some x0)) fun x39 =>
 purK (gPur (wantV x37 false) (nilChkA x39)) fun x40 =>
 purK (gPur (wantV x37 false) (addA 2 x40)) fun x41 =>
 purK (gPur (wantV x37 false) (ld1 ρ H x41)) fun x42 =>
 purK (gPur (wantV x37 false) (some x2)) fun x43 =>
 purK (gPur (wantV x37 false) (ixS 1 x42 x43)) fun x44 =>
 purK (gPur (wantV x37 false) (ld1 ρ H x44)) fun x45 =>
 purK (gPur (wantV x37 false) (addA 0 x4)) fun x46 =>
 purK (gPur (wantV x37 false) (ld1 ρ H x46)) fun x47 =>
 purK (gPur (wantV x37 false) (binA Try.prog H .andNot 48 x45 x47)) fun x48 =>
 purK (gPur (wantV x37 false) (binA Try.prog H .neq 48 x48 (.int .u32 0))) fun x49 =>
 purK (pickA x37 (.bool true) x49) fun x50 =>
 J (Code.at [1,1,1,0,1] c26) (sp 84 [(2,x2),(4,x4),(6,x6),(8,x8),(50,x50)]) H (kk (some [2,4,6,8]) (fun s H => J (Code.at [1,1,1,1] c26) s H (kk none (fun s H => (retC (cx ρ) [some 52,none]) (gs [6,7] s) H) [] (retC (cx ρ) [some 52,none]) [6,7])) [] (retC (cx ρ) [some 52,none]) [6,7]) := by
 kernel_rfl
theorem G26 (ρ call yc lim k x0 x1 x2 H) :
 evL (cx ρ) call yc false 26 lim k c26 ([x0,x1,x2] ++ List.replicate 81 (.tup [])) H (kk none (fun s H => (retC (cx ρ) [some 52,none]) (gs [6,7] s) H) [] (retC (cx ρ) [some 52,none]) [6,7]) = L26 ρ call yc lim k x0 x1 x2 H := by
 rw [evL_X,L26_x]
 simp only [← evL_X,L26,N26_1_eq,N26_4_eq]
theorem E26 (ρ : RO) (k lim : Nat) (x0 x1 x2 : AV) (H : Heap) : evCall (cx ρ) (k + 1) lim 26 [x0,x1,x2] H = L26 ρ (evCall (cx ρ) k) (evCY (cx ρ) k).2 lim k x0 x1 x2 H := by
 rw [evCall_cells (cx ρ) k lim 26 _ H Try.f26 c26 [6,7] [some 52,none] (by kernel_rfl) (by kernel_rfl) (by kernel_rfl) (by kernel_rfl) (by kernel_rfl) (by kernel_rfl)]
 exact G26 ρ (evCall (cx ρ) k) (evCY (cx ρ) k).2 lim k x0 x1 x2 H
end Go.Proofs.Ytkmohjddojpdjab

-- part Hl4
/- Functions, lifted. Printed by a program of this repo. -/
set_option linter.unusedVariables false
set_option linter.unusedSimpArgs false
set_option maxRecDepth 100000
set_option maxHeartbeats 4000000
namespace Go.Proofs.Ytkmohjddojpdjab
open Go.Ev Go.RowKit
-- slices.pdqsortOrdered[string]
noncomputable def c28 : Code := Code.of Try.prog 28
noncomputable def N28_8 (ρ : RO) (call : CallF) (yc : YieldF) (lim k : Nat) (x0 x2 x3 x8 x9 x14 : AV) (H : Heap) (kn : AV → AV → AV → AV → AV → Heap → Res) : Res :=
 purK (binA Try.prog H .add 3 x14 (.int .i64 1)) fun x123_1 =>
 kn x123_1 x2 x3 x8 x9 H
theorem N28_8_eq (ρ call yc lim k x0 x2 x3 x8 x9 x14 H kn k1 R) :
 evL (cx ρ) call yc false 28 lim k (Code.at [1,1,0,0,0,1,1,1,1,1,1,1,1,1,1,1,1,1,0,1,1] c28) (sp 134 [(0,x0),(2,x2),(3,x3),(8,x8),(9,x9),(14,x14)]) H (kk (some [0,1,2,3,8,9]) kn [(1,(some [0,1,2,3,8,9]),k1),(0,none,(fun s H => R (gs [] s) H))] R []) = N28_8 ρ call yc lim k x0 x2 x3 x8 x9 x14 H (fun x1 x2 x3 x8 x9 H => kn (sp 134 [(0,x0),(1,x1),(2,x2),(3,x3),(8,x8),(9,x9)]) H) := by
 kernel_rfl
noncomputable def N28_9 (ρ : RO) (call : CallF) (yc : YieldF) (lim k : Nat) (x0 x1 x3 x8 x9 x14 : AV) (H : Heap) (kn : AV → AV → AV → AV → AV → Heap → Res) : Res :=
 kn x1 x14 x3 x8 x9 H
theorem N28_9_eq (ρ call yc lim k x0 x1 x3 x8 x9 x14 H kn k1 R) :
 evL (cx ρ) call yc false 28 lim k (Code.at [1,1,0,0,0,1,1,1,1,1,1,1,1,1,1,1,1,1,1,1,1] c28) (sp 134 [(0,x0),(1,x1),(3,x3),(8,x8),(9,x9),(14,x14)]) H (kk (some [0,1,2,3,8,9]) kn [(1,(some [0,1,2,3,8,9]),k1),(0,none,(fun s H => R (gs [] s) H))] R []) = N28_9 ρ call yc lim k x0 x1 x3 x8 x9 x14 H (fun x1 x2 x3 x8 x9 H => kn (sp 134 [(0,x0),(1,x1),(2,x2),(3,x3),(8,x8),(9,x9)]) H) := by
 kernel_rfl
noncomputable def N28_7 (ρ : RO) (call : CallF) (yc : YieldF) (lim k : Nat) (x0 x1 x2 x3 x10 x14 x15 : AV) (H : Heap) (kn : AV → AV → AV → AV → AV → Heap → Res) : Res :=
 purK (binA Try.prog H .sub 3 x14 x1) fun x105_1 =>
 purK (binA Try.prog H .sub 3 x2 x14) fun x108_1 =>
 purK (binA Try.prog H .quo 3 x10 (.int .i64 8)) fun x110_1 =>
 purK (binA Try.prog H .lss 3 x105_1 x108_1) fun x113_1 =>
 condK x113_1
 (
 purK (binA Try.prog H .geq 3 x105_1 x110_1) fun x116_1 =>
 resK (call lim 28 [x0,x1,x14,x3] H) fun x121_1 H =>
 N28_8 ρ call yc lim k x0 x2 x3 x116_1 x15 x14 H kn)
 (
 purK (binA Try.prog H .geq 3 x108_1 x110_1) fun x126_1 =>
 purK (binA Try.prog H .add 3 x14 (.int .i64 1)) fun x129_1 =>
 resK (call lim 28 [x0,x129_1,x2,x3] H) fun x132_1 H =>
 N28_9 ρ call yc lim k x0 x1 x3 x126_1 x15 x14 H kn)
theorem N28_7_x (ρ call yc lim k J x0 x1 x2 x3 x10 x14 x15 H kn k1 R) :
 evX (cx ρ) call yc false 28 lim k J (Code.at [1,1,0,0,0,1,1,1,1,1,1,1,1,1] c28) (sp 134 [(0,x0),(1,x1),(2,x2),(3,x3),(10,x10),(14,x14),(15,x15)]) H (kk (some [0,1,2,3,8,9]) kn [(1,(some [0,1,2,3,8,9]),k1),(0,none,(fun s H => R (gs [] s) H))] R []) =
 purK (binA Try.prog H .sub 3 x14 x1) fun x105_1 =>
 purK (binA Try.prog H .sub 3 x2 x14) fun x108_1 =>
 purK (binA Try.prog H .quo 3 x10 (.int .i64 8)) fun x110_1 =>
 purK (binA Try.prog H .lss 3 x105_1 x108_1) fun x113_1 =>
 condK x113_1
 (
 purK (binA Try.prog H .geq 3 x105_1 x110_1) fun x116_1 =>
 resK (call lim 28 [x0,x1,x14,x3] H) fun x121_1 H =>
 J (Code.at [1,1,0,0,0,1,1,1,1,1,1,1,1,1,1,1,1,1,0,1,1] c28) (sp 134 [(0,x0),(2,x2),(3,x3),(8,x116_1),(9,x15),(14,x14)]) H (kk (some [0,1,2,3,8,9]) kn [(1,(some [0,1,2,3,8,9]),k1),(0,none,(fun s H => R (gs [] s) H))] R []))
 (
 purK (binA Try.prog H .geq 3 x108_1 x110_1) fun x126_1 =>
 purK (binA Try.prog H .add 3 x14 (.int .i64 1)) fun x129_1 =>
 resK (call lim 28 [x0,x129_1,x2,x3] H) fun x132_1 H =>
 J (Code.at [1,1,0,0,0,1,1,1,1,1,1,1,1,1,1,1,1,1,1,1,1] c28) (sp 134 [(0,x0),(1,x1),(3,x3),(8,x126_1),(9,x15),(14,x14)]) H (kk (some [0,1,2,3,8,9]) kn [(1,(some [0,1,2,3,8,9]),k1),(0,none,(fun s H => R (gs [] s) H))] R [])) := by
 kernel_rfl
theorem N28_7_eq (ρ call yc lim k x0 x1 x2 x3 x10 x14 x15 H kn k1 R) :
 evL (cx ρ) call yc false 28 lim k (Code.at [1,1,0,0,0,1,1,1,1,1,1,1,1,1] c28) (sp 134 [(0,x0),(1,x1),(2,x2),(3,x3),(10,x10),(14,x14),(15,x15)]) H (kk (some [0,1,2,3,8,9]) kn [(1,(some [0,1,2,3,8,9]),k1),(0,none,(fun s H => R (gs [] s) H))] R []) = N28_7 ρ call yc lim k x0 x1 x2 x3 x10 x14 x15 H (fun x1 x2 x3 x8 x9 H => kn (sp 134 [(0,x0),(1,x1),(2,x2),(3,x3),(8,x8),(9,x9)]) H) := by
 rw [evL_X,N28_7_x]
 simp only [← evL_X,N28_7,N28_8_eq,N28_9_eq]
noncomputable def N28_6 (ρ : RO) (call : CallF) (yc : YieldF) (lim k : Nat) (x0 x1 x2 x3 x10 x11 : AV) (H : Heap) (kn : AV → AV → AV → AV → AV → Heap → Res) : Res :=
 resK (call lim 40 [x0,x1,x2,x11] H) fun x99_1 H =>
 purK (extA 0 x99_1) fun x100_1 =>
 purK (extA 1 x99_1) fun x101_1 =>
 N28_7 ρ call yc lim k x0 x1 x2 x3 x10 x100_1 x101_1 H kn
theorem N28_6_x (ρ call yc lim k J x0 x1 x2 x3 x10 x11 H kn k1 R) :
 evX (cx ρ) call yc false 28 lim k J (Code.at [1,1,0,0,0,1,1,1,1,1,1,1,1] c28) (sp 134 [(0,x0),(1,x1),(2,x2),(3,x3),(10,x10),(11,x11)]) H (kk (some [0,1,2,3,8,9]) kn [(1,(some [0,1,2,3,8,9]),k1),(0,none,(fun s H => R (gs [] s) H))] R []) =
 resK (call lim 40 [x0,x1,x2,x11] H) fun x99_1 H =>
 purK (extA 0 x99_1) fun x100_1 =>
 purK (extA 1 x99_1) fun x101_1 =>
 J (Code.at [1,1,0,0,0,1,1,1,1,1,1,1,1,1] c28) (sp 134 [(0,x0),(1,x1),(2,x2),(3,x3),(10,x10),(14,x100_1),(15,x101_1)]) H (kk (some [0,1,2,3,8,9]) kn [(1,(some [0,1,2,3,8,9]),k1),(0,none,(fun s H => R (gs [] s) H))] R []) := by
 kernel_rfl
theorem N28_6_eq (ρ call yc lim k x0 x1 x2 x3 x10 x11 H kn k1 R) :
 evL (cx ρ) call yc false 28 lim k (Code.at [1,1,0,0,0,1,1,1,1,1,1,1,1] c28) (sp 134 [(0,x0),(1,x1),(2,x2),(3,x3),(10,x10),(11,x11)]) H (kk (some [0,1,2,3,8,9]) kn [(1,(some [0,1,2,3,8,9]),k1),(0,none,(fun s H => R (gs [] s) H))] R []) = N28_6 ρ call yc lim k x0 x1 x2 x3 x10 x11 H (fun x1 x2 x3 x8 x9 H => kn (sp 134 [(0,x0),(1,x1),(2,x2),(3,x3),(8,x8),(9,x9)]) H) := by
 rw [evL_X,N28_6_x]
 simp only [← evL_X,N28_6,N28_7_eq]
noncomputable def N28_10 (ρ : RO) (call : CallF) (yc : YieldF) (lim k : Nat) (x0 x2 x3 x8 x9 x13 : AV) (H : Heap) (k1 : AV → AV → AV → AV → AV → Heap → Res) : Res :=
 k1 x13 x2 x3 x8 x9 H
theorem N28_10_eq (ρ call yc lim k x0 x2 x3 x8 x9 x13 H kn k1 R) :
 evL (cx ρ) call yc false 28 lim k (Code.at [1,1,0,0,0,1,1,1,1,1,1,1,0,1,0,1] c28) (sp 134 [(0,x0),(2,x2),(3,x3),(8,x8),(9,x9),(13,x13)]) H (kk (some [0,1,2,3,10,11]) kn [(1,(some [0,1,2,3,8,9]),k1),(0,none,(fun s H => R (gs [] s) H))] R []) = N28_10 ρ call yc lim k x0 x2 x3 x8 x9 x13 H (fun x1 x2 x3 x8 x9 H => k1 (sp 134 [(0,x0),(1,x1),(2,x2),(3,x3),(8,x8),(9,x9)]) H) := by
 kernel_rfl
noncomputable def N28_5 (ρ : RO) (call : CallF) (yc : YieldF) (lim k : Nat) (x0 x1 x2 x3 x8 x9 x10 x11 : AV) (H : Heap) (kn : AV → AV → AV → AV → AV → Heap → Res) (k1 : AV → AV → AV → AV → AV → Heap → Res) : Res :=
 purK (binA Try.prog H .gtr 3 x1 (.int .i64 0)) fun x74_1 =>
 boolK (wantV x74_1 true) fun b1 => purK (bif b1 then some x0 else some (.tup [])) fun x76_1 =>
 boolK (wantV x74_1 true) fun b2 => purK (bif b2 then some x1 else some (.tup [])) fun x77_1 =>
 boolK (wantV x74_1 true) fun b3 => purK (bif b3 then binA Try.prog H .sub 3 x77_1 (.int .i64 1) else some (.tup [])) fun x78_1 =>
 boolK (wantV x74_1 true) fun b4 => purK (bif b4 then ixS 1 x76_1 x78_1 else some (.tup [])) fun x79_1 =>
 boolK (wantV x74_1 true) fun b5 => purK (bif b5 then ld1 ρ H x79_1 else some (.tup [])) fun x80_1 =>
 boolK (wantV x74_1 true) fun b6 => purK (bif b6 then some x0 else some (.tup [])) fun x81_1 =>
 boolK (wantV x74_1 true) fun b7 => purK (bif b7 then some x11 else some (.tup [])) fun x82_1 =>
 boolK (wantV x74_1 true) fun b8 => purK (bif b8 then ixS 1 x81_1 x82_1 else some (.tup [])) fun x83_1 =>
 boolK (wantV x74_1 true) fun b9 => purK (bif b9 then ld1 ρ H x83_1 else some (.tup [])) fun x84_1 =>
 boolK (wantV x74_1 true) fun b10 => resK (gRes (some b10) H (call lim 38 [x80_1,x84_1] H)) fun x85_1 H => bif !b10 || ((!b9 || true) && ((!b5 || true) && ((!b3 || true) && true))) then
 purK (gPur (wantV x74_1 true) (unA .not x85_1)) fun x86_1 =>
 purK (pickA x74_1 x86_1 (.bool false)) fun x87_1 =>
 condK x87_1
 (
 resK (call lim 39 [x0,x1,x2,x11] H) fun x92_1 H =>
 N28_10 ρ call yc lim k x0 x2 x3 x8 x9 x92_1 H k1)
 (
 N28_6 ρ call yc lim k x0 x1 x2 x3 x10 x11 H kn)
 else .stop
theorem N28_5_x (ρ call yc lim k J x0 x1 x2 x3 x8 x9 x10 x11 H kn k1 R) :
 evX (cx ρ) call yc false 28 lim k J (Code.at [1,1,0,0,0,1,1,1,1,1,1,1] c28) (sp 134 [(0,x0),(1,x1),(2,x2),(3,x3),(8,x8),(9,x9),(10,x10),(11,x11)]) H (kk (some [0,1,2,3,8,9]) kn [(1,(some [0,1,2,3,8,9]),k1),(0,none,(fun s H => R (gs [] s) H))] R []) =
 purK (binA Try.prog H .gtr 3 x1 (.int .i64 0)) fun x74_1 =>
 boolK (wantV x74_1 true) fun b1 => purK (bif b1 then some x0 else some (.tup [])) fun x76_1 =>
 boolK (wantV x74_1 true) fun b2 => purK (bif b2 then some x1 else some (.tup [])) fun x77_1 =>
 boolK (wantV x74_1 true) fun b3 => purK (bif b3 then binA Try.prog H .sub 3 x77_1 (.int .i64 1) else some (.tup [])) fun x78_1 =>
 boolK (wantV x74_1 true) fun b4 => purK (bif b4 then ixS 1 x76_1 x78_1 else some (.tup [])) fun x79_1 =>
 boolK (wantV x74_1 true) fun b5 => purK (bif b5 then ld1 ρ H x79_1 else some (.tup [])) fun x80_1 =>
 boolK (wantV x74_1 true) fun b6 => purK (bif b6 then some x0 else some (.tup [])) fun x81_1 =>
 boolK (wantV x74_1 true) fun b7 => purK (bif b7 then some x11 else some (.tup [])) fun x82_1 =>
 boolK (wantV x74_1 true) fun b8 => purK (bif b8 then ixS 1 x81_1 x82_1 else some (.tup [])) fun x83_1 =>
 boolK (wantV x74_1 true) fun b9 => purK (bif b9 then ld1 ρ H x83_1 else some (.tup [])) fun x84_1 =>
 boolK (wantV x74_1 true) fun b10 => resK (gRes (some b10) H (call lim 38 [x80_1,x84_1] H)) fun x85_1 H => bif !b10 || ((!b9 || true) && ((!b5 || true) && ((!b3 || true) && true))) then
 purK (gPur (wantV x74_1 true) (unA .not x85_1)) fun x86_1 =>
 purK (pickA x74_1 x86_1 (.bool false)) fun x87_1 =>
 condK x87_1
 (
 resK (call lim 39 [x0,x1,x2,x11] H) fun x92_1 H =>
 J (Code.at [1,1,0,0,0,1,1,1,1,1,1,1,0,1,0,1] c28) (sp 134 [(0,x0),(2,x2),(3,x3),(8,x8),(9,x9),(13,x92_1)]) H (kk (some [0,1,2,3,10,11]) (fun s H => J (Code.at [1,1,0,0,0,1,1,1,1,1,1,1,1] c28) s H (kk (some [0,1,2,3,8,9]) kn [(1,(some [0,1,2,3,8,9]),k1),(0,none,(fun s H => R (gs [] s) H))] R [])) [(1,(some [0,1,2,3,8,9]),k1),(0,none,(fun s H => R (gs [] s) H))] R []))
 (
 J (Code.at [1,1,0,0,0,1,1,1,1,1,1,1,1] c28) (sp 134 [(0,x0),(1,x1),(2,x2),(3,x3),(10,x10),(11,x11)]) H (kk (some [0,1,2,3,8,9]) kn [(1,(some [0,1,2,3,8,9]),k1),(0,none,(fun s H => R (gs [] s) H))] R []))
 else .stop := by
 kernel_rfl
theorem N28_5_eq (ρ call yc lim k x0 x1 x2 x3 x8 x9 x10 x11 H kn k1 R) :
 evL (cx ρ) call yc false 28 lim k (Code.at [1,1,0,0,0,1,1,1,1,1,1,1] c28) (sp 134 [(0,x0),(1,x1),(2,x2),(3,x3),(8,x8),(9,x9),(10,x10),(11,x11)]) H (kk (some [0,1,2,3,8,9]) kn [(1,(some [0,1,2,3,8,9]),k1),(0,none,(fun s H => R (gs [] s) H))] R []) = N28_5 ρ call yc lim k x0 x1 x2 x3 x8 x9 x10 x11 H (fun x1 x2 x3 x8 x9 H => kn (sp 134 [(0,x0),(1,x1),(2,x2),(3,x3),(8,x8),(9,x9)]) H) (fun x1 x2 x3 x8 x9 H => k1 (sp 134 [(0,x0),(1,x1),(2,x2),(3,x3),(8,x8),(9,x9)]) H) := by
 rw [evL_X,N28_5_x]
 simp only [← evL_X,N28_5,N28_10_eq,N28_6_eq]
noncomputable def N28_11 (ρ : RO) (call : CallF) (yc : YieldF) (lim k : Nat) (x0 x1 x2 x3 x8 x9 x10 x11 x68 : AV) (H : Heap) (kn : AV → AV → AV → AV → AV → AV → AV → Heap → Res) (R : KR) : Res :=
 condK x68
 (
 resK (call lim 37 [x0,x1,x2] H) fun x72_1 H =>
 condK x72_1
 (
 R [] H)
 (
 kn x1 x2 x3 x8 x9 x10 x11 H))
 (
 kn x1 x2 x3 x8 x9 x10 x11 H)
theorem N28_11_eq (ρ call yc lim k x0 x1 x2 x3 x8 x9 x10 x11 x68 H kn k1 R) :
 evL (cx ρ) call yc false 28 lim k (Code.at [1,1,0,0,0,1,1,1,1,1,1,0,1] c28) (sp 134 [(0,x0),(1,x1),(2,x2),(3,x3),(8,x8),(9,x9),(10,x10),(11,x11),(68,x68)]) H (kk (some [0,1,2,3,8,9,10,11]) kn [(1,(some [0,1,2,3,8,9]),k1),(0,none,(fun s H => R (gs [] s) H))] R []) = N28_11 ρ call yc lim k x0 x1 x2 x3 x8 x9 x10 x11 x68 H (fun x1 x2 x3 x8 x9 x10 x11 H => kn (sp 134 [(0,x0),(1,x1),(2,x2),(3,x3),(8,x8),(9,x9),(10,x10),(11,x11)]) H) R := by
 kernel_rfl
noncomputable def N28_4 (ρ : RO) (call : CallF) (yc : YieldF) (lim k : Nat) (x0 x1 x2 x3 x8 x9 x10 x11 x12 : AV) (H : Heap) (kn : AV → AV → AV → AV → AV → Heap → Res) (k1 : AV → AV → AV → AV → AV → Heap → Res) (R : KR) : Res :=
 purK (gPur (wantV x8 true) (some x9)) fun x63_1 =>
 purK (pickA x8 x63_1 (.bool false)) fun x64_1 =>
 purK (gPur (wantV x64_1 true) (some x12)) fun x66_1 =>
 purK (gPur (wantV x64_1 true) (binA Try.prog H .eql 85 x66_1 (.int .i64 1))) fun x67_1 =>
 purK (pickA x64_1 x67_1 (.bool false)) fun x68_1 =>
 N28_11 ρ call yc lim k x0 x1 x2 x3 x8 x9 x10 x11 x68_1 H (fun x1_1 x2_1 x3_1 x8_1 x9_1 x10_1 x11_1 H =>
 N28_5 ρ call yc lim k x0 x1_1 x2_1 x3_1 x8_1 x9_1 x10_1 x11_1 H kn k1) R
theorem N28_4_x (ρ call yc lim k J x0 x1 x2 x3 x8 x9 x10 x11 x12 H kn k1 R) :
 evX (cx ρ) call yc false 28 lim k J (Code.at [1,1,0,0,0,1,1,1,1,1,1] c28) (sp 134 [(0,x0),(1,x1),(2,x2),(3,x3),(8,x8),(9,x9),(10,x10),(11,x11),(12,x12)]) H (kk (some [0,1,2,3,8,9]) kn [(1,(some [0,1,2,3,8,9]),k1),(0,none,(fun s H => R (gs [] s) H))] R []) =
 purK (gPur (wantV x8 true) (some x9)) fun x63_1 =>
 purK (pickA x8 x63_1 (.bool false)) fun x64_1 =>
 purK (gPur (wantV x64_1 true) (some x12)) fun x66_1 =>
 purK (gPur (wantV x64_1 true) (binA Try.prog H .eql 85 x66_1 (.int .i64 1))) fun x67_1 =>
 purK (pickA x64_1 x67_1 (.bool false)) fun x68_1 =>
 J (Code.at [1,1,0,0,0,1,1,1,1,1,1,0,1] c28) (sp 134 [(0,x0),(1,x1),(2,x2),(3,x3),(8,x8),(9,x9),(10,x10),(11,x11),(68,x68_1)]) H (kk (some [0,1,2,3,8,9,10,11]) (fun s H => J (Code.at [1,1,0,0,0,1,1,1,1,1,1,1] c28) s H (kk (some [0,1,2,3,8,9]) kn [(1,(some [0,1,2,3,8,9]),k1),(0,none,(fun s H => R (gs [] s) H))] R [])) [(1,(some [0,1,2,3,8,9]),k1),(0,none,(fun s H => R (gs [] s) H))] R []) := by
 kernel_rfl
theorem N28_4_eq (ρ call yc lim k x0 x1 x2 x3 x8 x9 x10 x11 x12 H kn k1 R) :
 evL (cx ρ) call yc false 28 lim k (Code.at [1,1,0,0,0,1,1,1,1,1,1] c28) (sp 134 [(0,x0),(1,x1),(2,x2),(3,x3),(8,x8),(9,x9),(10,x10),(11,x11),(12,x12)]) H (kk (some [0,1,2,3,8,9]) kn [(1,(some [0,1,2,3,8,9]),k1),(0,none,(fun s H => R (gs [] s) H))] R []) = N28_4 ρ call yc lim k x0 x1 x2 x3 x8 x9 x10 x11 x12 H (fun x1 x2 x3 x8 x9 H => kn (sp 134 [(0,x0),(1,x1),(2,x2),(3,x3),(8,x8),(9,x9)]) H) (fun x1 x2 x3 x8 x9 H => k1 (sp 134 [(0,x0),(1,x1),(2,x2),(3,x3),(8,x8),(9,x9)]) H) R := by
 rw [evL_X,N28_4_x]
 simp only [← evL_X,N28_4,N28_11_eq,N28_5_eq]
noncomputable def N28_3 (ρ : RO) (call : CallF) (yc : YieldF) (lim k : Nat) (x0 x1 x2 x3 x8 x9 x10 : AV) (H : Heap) (kn : AV → AV → AV → AV → AV → Heap → Res) (k1 : AV → AV → AV → AV → AV → Heap → Res) (R : KR) : Res :=
 resK (call lim 35 [x0,x1,x2] H) fun x46_1 H =>
 purK (extA 0 x46_1) fun x47_1 =>
 purK (extA 1 x46_1) fun x48_1 =>
 purK (binA Try.prog H .eql 85 x48_1 (.int .i64 2)) fun x50_1 =>
 condK x50_1
 (
 resK (call lim 36 [x0,x1,x2] H) fun x54_1 H =>
 purK (binA Try.prog H .sub 3 x2 (.int .i64 1)) fun x56_1 =>
 purK (binA Try.prog H .sub 3 x47_1 x1) fun x59_1 =>
 purK (binA Try.prog H .sub 3 x56_1 x59_1) fun x60_1 =>
 N28_4 ρ call yc lim k x0 x1 x2 x3 x8 x9 x10 x60_1 (.int .i64 1) H kn k1 R)
 (
 N28_4 ρ call yc lim k x0 x1 x2 x3 x8 x9 x10 x47_1 x48_1 H kn k1 R)
theorem N28_3_x (ρ call yc lim k J x0 x1 x2 x3 x8 x9 x10 H kn k1 R) :
 evX (cx ρ) call yc false 28 lim k J (Code.at [1,1,0,0,0,1,1,1,1] c28) (sp 134 [(0,x0),(1,x1),(2,x2),(3,x3),(8,x8),(9,x9),(10,x10)]) H (kk (some [0,1,2,3,8,9]) kn [(1,(some [0,1,2,3,8,9]),k1),(0,none,(fun s H => R (gs [] s) H))] R []) =
 resK (call lim 35 [x0,x1,x2] H) fun x46_1 H =>
 purK (extA 0 x46_1) fun x47_1 =>
 purK (extA 1 x46_1) fun x48_1 =>
 purK (binA Try.prog H .eql 85 x48_1 (.int .i64 2)) fun x50_1 =>
 condK x50_1
 (
 resK (call lim 36 [x0,x1,x2] H) fun x54_1 H =>
 purK (binA Try.prog H .sub 3 x2 (.int .i64 1)) fun x56_1 =>
 purK (binA Try.prog H .sub 3 x47_1 x1) fun x59_1 =>
 purK (binA Try.prog H .sub 3 x56_1 x59_1) fun x60_1 =>
 J (Code.at [1,1,0,0,0,1,1,1,1,1,1] c28) (sp 134 [(0,x0),(1,x1),(2,x2),(3,x3),(8,x8),(9,x9),(10,x10),(11,x60_1),(12,(.int .i64 1))]) H (kk (some [0,1,2,3,8,9]) kn [(1,(some [0,1,2,3,8,9]),k1),(0,none,(fun s H => R (gs [] s) H))] R []))
 (
 J (Code.at [1,1,0,0,0,1,1,1,1,1,1] c28) (sp 134 [(0,x0),(1,x1),(2,x2),(3,x3),(8,x8),(9,x9),(10,x10),(11,x47_1),(12,x48_1)]) H (kk (some [0,1,2,3,8,9]) kn [(1,(some [0,1,2,3,8,9]),k1),(0,none,(fun s H => R (gs [] s) H))] R [])) := by
 kernel_rfl
theorem N28_3_eq (ρ call yc lim k x0 x1 x2 x3 x8 x9 x10 H kn k1 R) :
 evL (cx ρ) call yc false 28 lim k (Code.at [1,1,0,0,0,1,1,1,1] c28) (sp 134 [(0,x0),(1,x1),(2,x2),(3,x3),(8,x8),(9,x9),(10,x10)]) H (kk (some [0,1,2,3,8,9]) kn [(1,(some [0,1,2,3,8,9]),k1),(0,none,(fun s H => R (gs [] s) H))] R []) = N28_3 ρ call yc lim k x0 x1 x2 x3 x8 x9 x10 H (fun x1 x2 x3 x8 x9 H => kn (sp 134 [(0,x0),(1,x1),(2,x2),(3,x3),(8,x8),(9,x9)]) H) (fun x1 x2 x3 x8 x9 H => k1 (sp 134 [(0,x0),(1,x1),(2,x2),(3,x3),(8,x8),(9,x9)]) H) R := by
 rw [evL_X,N28_3_x]
 simp only [← evL_X,N28_3,N28_4_eq]
noncomputable def N28_2b (ρ : RO) (call : CallF) (yc : YieldF) (lim k : Nat) (x0 x1 x2 x3 x8 x9 : AV) (H : Heap) (kn : AV → AV → AV → AV → AV → Heap → Res) (R : KR) : Res :=
 purK (binA Try.prog H .sub 3 x2 x1) fun x21_1 =>
 purK (binA Try.prog H .leq 3 x21_1 (.int .i64 12)) fun x23_1 =>
 condK x23_1
 (
 resK (call lim 32 [x0,x1,x2] H) fun x27_1 H =>
 R [] H)
 (
 purK (binA Try.prog H .eql 3 x3 (.int .i64 0)) fun x29_1 =>
 condK x29_1
 (
 resK (call lim 33 [x0,x1,x2] H) fun x33_1 H =>
 R [] H)
 (
 purK (unA .not x8) fun x35_1 =>
 condK x35_1
 (
 resK (call lim 34 [x0,x1,x2] H) fun x39_1 H =>
 purK (binA Try.prog H .sub 3 x3 (.int .i64 1)) fun x41_1 =>
 N28_3 ρ call yc lim k x0 x1 x2 x41_1 x8 x9 x21_1 H kn kn R)
 (
 N28_3 ρ call yc lim k x0 x1 x2 x3 x8 x9 x21_1 H kn kn R)))
theorem N28_2b_x (ρ call yc lim k J x0 x1 x2 x3 x8 x9 H kn R) :
 evX (cx ρ) call yc false 28 lim k J (Code.at [1,1,0,0] c28) (sp 134 [(0,x0),(1,x1),(2,x2),(3,x3),(8,x8),(9,x9)]) H (kk (some [0,1,2,3,8,9]) kn [(0,none,(fun s H => R (gs [] s) H))] R []) =
 purK (binA Try.prog H .sub 3 x2 x1) fun x21_1 =>
 purK (binA Try.prog H .leq 3 x21_1 (.int .i64 12)) fun x23_1 =>
 condK x23_1
 (
 resK (call lim 32 [x0,x1,x2] H) fun x27_1 H =>
 R [] H)
 (
 purK (binA Try.prog H .eql 3 x3 (.int .i64 0)) fun x29_1 =>
 condK x29_1
 (
 resK (call lim 33 [x0,x1,x2] H) fun x33_1 H =>
 R [] H)
 (
 purK (unA .not x8) fun x35_1 =>
 condK x35_1
 (
 resK (call lim 34 [x0,x1,x2] H) fun x39_1 H =>
 purK (binA Try.prog H .sub 3 x3 (.int .i64 1)) fun x41_1 =>
 J (Code.at [1,1,0,0,0,1,1,1,1] c28) (sp 134 [(0,x0),(1,x1),(2,x2),(3,x41_1),(8,x8),(9,x9),(10,x21_1)]) H (kk (some [0,1,2,3,8,9]) kn [(1,(some [0,1,2,3,8,9]),kn),(0,none,(fun s H => R (gs [] s) H))] R []))
 (
 J (Code.at [1,1,0,0,0,1,1,1,1] c28) (sp 134 [(0,x0),(1,x1),(2,x2),(3,x3),(8,x8),(9,x9),(10,x21_1)]) H (kk (some [0,1,2,3,8,9]) kn [(1,(some [0,1,2,3,8,9]),kn),(0,none,(fun s H => R (gs [] s) H))] R [])))) := by
 kernel_rfl
theorem N28_2b_eq (ρ call yc lim k x0 x1 x2 x3 x8 x9 H kn R) :
 evL (cx ρ) call yc false 28 lim k (Code.at [1,1,0,0] c28) (sp 134 [(0,x0),(1,x1),(2,x2),(3,x3),(8,x8),(9,x9)]) H (kk (some [0,1,2,3,8,9]) kn [(0,none,(fun s H => R (gs [] s) H))] R []) = N28_2b ρ call yc lim k x0 x1 x2 x3 x8 x9 H (fun x1 x2 x3 x8 x9 H => kn (sp 134 [(0,x0),(1,x1),(2,x2),(3,x3),(8,x8),(9,x9)]) H) R := by
 rw [evL_X,N28_2b_x]
 simp only [← evL_X,N28_2b,N28_3_eq]
noncomputable def N28_2 (ρ : RO) (call : CallF) (yc : YieldF) (lim k : Nat) (x0 x1 x2 x3 x8 x9 : AV) (H : Heap) (R : KR) : Res :=
 loopL (fun (x : AV × AV × AV × AV × AV) H kn => N28_2b ρ call yc lim k x0 x.1 x.2.1 x.2.2.1 x.2.2.2.1 x.2.2.2.2 H (fun x1 x2 x3 x8 x9 H => kn (x1,x2,x3,x8,x9) H) R) k (x1,x2,x3,x8,x9) H
theorem N28_2_eq (ρ call yc lim k x0 x1 x2 x3 x8 x9 H R) :
 evL (cx ρ) call yc false 28 lim k (Code.at [1,1,0] c28) (sp 134 [(0,x0),(1,x1),(2,x2),(3,x3),(8,x8),(9,x9)]) H (kk none (fun s H => R (gs [] s) H) [(0,none,(fun s H => R (gs [] s) H))] R []) = N28_2 ρ call yc lim k x0 x1 x2 x3 x8 x9 H R := by
 have e : Code.at [1,1,0] c28 = .loop (Code.at [1,1,0,0] c28) := by kernel_rfl
 rw [e]
 unfold N28_2
 exact loop_node [0,1,2,3,8,9] (fun x : AV × AV × AV × AV × AV => (sp 134 [(0,x0),(1,(x.1)),(2,(x.2.1)),(3,(x.2.2.1)),(8,(x.2.2.2.1)),(9,(x.2.2.2.2))])) (fun (x : AV × AV × AV × AV × AV) H kn => N28_2b ρ call yc lim k x0 x.1 x.2.1 x.2.2.1 x.2.2.2.1 x.2.2.2.2 H (fun x1 x2 x3 x8 x9 H => kn (x1,x2,x3,x8,x9) H) R) (by kernel_rfl) (fun x => by kernel_rfl) (fun x H kn => N28_2b_eq ρ call yc lim k x0 (x.1) (x.2.1) (x.2.2.1) (x.2.2.2.1) (x.2.2.2.2) H kn R) (x1,x2,x3,x8,x9) (sp 134 [(0,x0),(1,x1),(2,x2),(3,x3),(8,x8),(9,x9)]) H (by kernel_rfl)
noncomputable def N28_1 (ρ : RO) (call : CallF) (yc : YieldF) (lim k : Nat) (x0 x1 x2 x3 x8 x9 : AV) (H : Heap) (R : KR) : Res :=
 N28_2 ρ call yc lim k x0 x1 x2 x3 x8 x9 H R
theorem N28_1_x (ρ call yc lim k J x0 x1 x2 x3 x8 x9 H R) :
 evX (cx ρ) call yc false 28 lim k J (Code.at [1,1] c28) (sp 134 [(0,x0),(1,x1),(2,x2),(3,x3),(8,x8),(9,x9)]) H (kk none (fun s H => R (gs [] s) H) [] R []) =
 J (Code.at [1,1,0] c28) (sp 134 [(0,x0),(1,x1),(2,x2),(3,x3),(8,x8),(9,x9)]) H (kk none (fun s H => R (gs [] s) H) [(0,none,(fun s H => R (gs [] s) H))] R []) := by
 kernel_rfl
theorem N28_1_eq (ρ call yc lim k x0 x1 x2 x3 x8 x9 H R) :
 evL (cx ρ) call yc false 28 lim k (Code.at [1,1] c28) (sp 134 [(0,x0),(1,x1),(2,x2),(3,x3),(8,x8),(9,x9)]) H (kk none (fun s H => R (gs [] s) H) [] R []) = N28_1 ρ call yc lim k x0 x1 x2 x3 x8 x9 H R := by
 rw [evL_X,N28_1_x]
 simp only [← evL_X,N28_1,N28_2_eq]
noncomputable def L28 (ρ : RO) (call : CallF) (yc : YieldF) (lim k : Nat) (x0 x1 x2 x3 : AV) (H : Heap) : Res :=
 N28_1 ρ call yc lim k x0 x1 x2 x3 (.bool true) (.bool true) H retK
theorem L28_x (ρ call yc lim k J x0 x1 x2 x3 H) :
 evX (cx ρ) call yc false 28 lim k J c28 ([x0,x1,x2,x3] ++ List.replicate 130 (.tup [])) H (kk none (fun s H => retK (gs [] s) H) [] retK []) =
 J (Code.at [1,1] c28) (sp 134 [(0,x0),(1,x1),(2,x2),(3,x3),(8,(.bool true)),(9,(.bool true))]) H (kk none (fun s H => retK (gs [] s) H) [] retK []) := by
 kernel_rfl
theorem G28 (ρ call yc lim k x0 x1 x2 x3 H) :
 evL (cx ρ) call yc false 28 lim k c28 ([x0,x1,x2,x3] ++ List.replicate 130 (.tup [])) H (kk none (fun s H => retK (gs [] s) H) [] retK []) = L28 ρ call yc lim k x0 x1 x2 x3 H := by
 rw [evL_X,L28_x]
 simp only [← evL_X,L28,N28_1_eq]
theorem E28 (ρ : RO) (k lim : Nat) (x0 x1 x2 x3 : AV) (H : Heap) : evCall (cx ρ) (k + 1) lim 28 [x0,x1,x2,x3] H = L28 ρ (evCall (cx ρ) k) (evCY (cx ρ) k).2 lim k x0 x1 x2 x3 H := by
 rw [evCall_body (cx ρ) k lim 28 _ H Try.f28 c28 [] (by kernel_rfl) (by kernel_rfl) (by kernel_rfl) (by kernel_rfl) (by kernel_rfl)]
 exact G28 ρ (evCall (cx ρ) k) (evCY (cx ρ) k).2 lim k x0 x1 x2 x3 H
-- math/bits.Len
noncomputable def c29 : Code := Code.of Try.prog 29
noncomputable def L29 (ρ : RO) (call : CallF) (yc : YieldF) (lim k : Nat) (x0 : AV) (H : Heap) : Res :=
 condK (.bool false)
 (
 purK (cvI .u32 x0) fun x4 =>
 resK (call lim 41 [x4] H) fun x5 H =>
 retK [x5] H)
 (
 resK (call lim 42 [x0] H) fun x7 H =>
 retK [x7] H)
theorem G29 (ρ call yc lim k x0 H) :
 evL (cx ρ) call yc false 29 lim k c29 ([x0] ++ List.replicate 7 (.tup [])) H (kk none (fun s H => retK (gs [2] s) H) [] retK [2]) = L29 ρ call yc lim k x0 H := by
 kernel_rfl
theorem E29 (ρ : RO) (k lim : Nat) (x0 : AV) (H : Heap) : evCall (cx ρ) (k + 1) lim 29 [x0] H = L29 ρ (evCall (cx ρ) k) (evCY (cx ρ) k).2 lim k x0 H := by
 rw [evCall_body (cx ρ) k lim 29 _ H Try.f29 c29 [2] (by kernel_rfl) (by kernel_rfl) (by kernel_rfl) (by kernel_rfl) (by kernel_rfl)]
 exact G29 ρ (evCall (cx ρ) k) (evCY (cx ρ) k).2 lim k x0 H
-- slices.IndexFunc[[]haycroft/api.Event,haycroft/api.Event]
noncomputable def c30 : Code := Code.of Try.prog 30
noncomputable def N30_1 (ρ : RO) (call : CallF) (yc : YieldF) (lim k : Nat) (H : Heap) (R : KR) : Res :=
 R [(.int .i64 (-1))] H
theorem N30_1_eq (ρ call yc lim k H R) :
 evL (cx ρ) call yc false 30 lim k (Code.at [1,1] c30) (sp 19 []) H (kk none (fun s H => R (gs [4] s) H) [] R [4]) = N30_1 ρ call yc lim k H R := by
 kernel_rfl
noncomputable def N30_3b (ρ : RO) (call : CallF) (yc : YieldF) (lim k : Nat) (x0 x1 x7 x8 : AV) (H : Heap) (kn : AV → Heap → Res) (k0 : Heap → Res) (R : KR) : Res :=
 purK (binA Try.prog H .lss 3 x8 x7) fun x9_1 =>
 condK x9_1
 (
 purK (ixS 8 x0 x8) fun x14_1 =>
 purK (ldN ρ H 8 x14_1) fun x15_1 =>
 valK call yc lim x1 [x15_1] H fun x16_1 H =>
 condK x16_1
 (
 R [x8] H)
 (
 purK (binA Try.prog H .add 3 x8 (.int .i64 1)) fun x18_1 =>
 kn x18_1 H))
 (
 k0 H)
theorem N30_3b_eq (ρ call yc lim k x0 x1 x7 x8 H kn k0 R) :
 evL (cx ρ) call yc false 30 lim k (Code.at [1,0,1,0,0] c30) (sp 19 [(0,x0),(1,x1),(7,x7),(8,x8)]) H (kk (some [0,1,7,8]) kn [(0,(some []),k0)] R [4]) = N30_3b ρ call yc lim k x0 x1 x7 x8 H (fun x8 H => kn (sp 19 [(0,x0),(1,x1),(7,x7),(8,x8)]) H) (fun H => k0 (sp 19 []) H) R := by
 kernel_rfl
noncomputable def N30_3 (ρ : RO) (call : CallF) (yc : YieldF) (lim k : Nat) (x0 x1 x7 x8 : AV) (H : Heap) (k0 : Heap → Res) (R : KR) : Res :=
 loopL (fun (x : AV) H kn => N30_3b ρ call yc lim k x0 x1 x7 x H (fun x8 H => kn x8 H) k0 R) k x8 H
theorem N30_3_eq (ρ call yc lim k x0 x1 x7 x8 H kn k0 R) :
 evL (cx ρ) call yc false 30 lim k (Code.at [1,0,1,0] c30) (sp 19 [(0,x0),(1,x1),(7,x7),(8,x8)]) H (kk (some []) kn [(0,(some []),k0)] R [4]) = N30_3 ρ call yc lim k x0 x1 x7 x8 H (fun H => k0 (sp 19 []) H) R := by
 have e : Code.at [1,0,1,0] c30 = .loop (Code.at [1,0,1,0,0] c30) := by kernel_rfl
 rw [e]
 unfold N30_3
 exact loop_node [0,1,7,8] (fun x : AV => (sp 19 [(0,x0),(1,x1),(7,x7),(8,(x))])) (fun (x : AV) H kn => N30_3b ρ call yc lim k x0 x1 x7 x H (fun x8 H => kn x8 H) (fun H => k0 (sp 19 []) H) R) (by kernel_rfl) (fun x => by kernel_rfl) (fun x H kn => N30_3b_eq ρ call yc lim k x0 x1 x7 (x) H kn k0 R) x8 (sp 19 [(0,x0),(1,x1),(7,x7),(8,x8)]) H (by kernel_rfl)
noncomputable def N30_2 (ρ : RO) (call : CallF) (yc : YieldF) (lim k : Nat) (x0 x1 x7 x8 : AV) (H : Heap) (kn : Heap → Res) (R : KR) : Res :=
 N30_3 ρ call yc lim k x0 x1 x7 x8 H kn R
theorem N30_2_x (ρ call yc lim k J x0 x1 x7 x8 H kn R) :
 evX (cx ρ) call yc false 30 lim k J (Code.at [1,0,1] c30) (sp 19 [(0,x0),(1,x1),(7,x7),(8,x8)]) H (kk (some []) kn [] R [4]) =
 J (Code.at [1,0,1,0] c30) (sp 19 [(0,x0),(1,x1),(7,x7),(8,x8)]) H (kk (some []) kn [(0,(some []),kn)] R [4]) := by
 kernel_rfl
theorem N30_2_eq (ρ call yc lim k x0 x1 x7 x8 H kn R) :
 evL (cx ρ) call yc false 30 lim k (Code.at [1,0,1] c30) (sp 19 [(0,x0),(1,x1),(7,x7),(8,x8)]) H (kk (some []) kn [] R [4]) = N30_2 ρ call yc lim k x0 x1 x7 x8 H (fun H => kn (sp 19 []) H) R := by
 rw [evL_X,N30_2_x]
 simp only [← evL_X,N30_2,N30_3_eq]
noncomputable def L30 (ρ : RO) (call : CallF) (yc : YieldF) (lim k : Nat) (x0 x1 : AV) (H : Heap) : Res :=
 purK (lenS x0) fun x7 =>
 N30_2 ρ call yc lim k x0 x1 x7 (.int .i64 0) H (fun H =>
 N30_1 ρ call yc lim k H retK) retK
theorem L30_x (ρ call yc lim k J x0 x1 H) :
 evX (cx ρ) call yc false 30 lim k J c30 ([x0,x1] ++ List.replicate 17 (.tup [])) H (kk none (fun s H => retK (gs [4] s) H) [] retK [4]) =
 purK (lenS x0) fun x7 =>
 J (Code.at [1,0,1] c30) (sp 19 [(0,x0),(1,x1),(7,x7),(8,(.int .i64 0))]) H (kk (some []) (fun s H => J (Code.at [1,1] c30) s H (kk none (fun s H => retK (gs [4] s) H) [] retK [4])) [] retK [4]) := by
 kernel_rfl
theorem G30 (ρ call yc lim k x0 x1 H) :
 evL (cx ρ) call yc false 30 lim k c30 ([x0,x1] ++ List.replicate 17 (.tup [])) H (kk none (fun s H => retK (gs [4] s) H) [] retK [4]) = L30 ρ call yc lim k x0 x1 H := by
 rw [evL_X,L30_x]
 simp only [← evL_X,L30,N30_1_eq,N30_2_eq]
theorem E30 (ρ : RO) (k lim : Nat) (x0 x1 : AV) (H : Heap) : evCall (cx ρ) (k + 1) lim 30 [x0,x1] H = L30 ρ (evCall (cx ρ) k) (evCY (cx ρ) k).2 lim k x0 x1 H := by
 rw [evCall_body (cx ρ) k lim 30 _ H Try.f30 c30 [4] (by kernel_rfl) (by kernel_rfl) (by kernel_rfl) (by kernel_rfl) (by kernel_rfl)]
 exact G30 ρ (evCall (cx ρ) k) (evCY (cx ρ) k).2 lim k x0 x1 H
-- haycroft/history.Apply
noncomputable def c31 : Code := Code.of Try.prog 31
noncomputable def N31_1 (ρ : RO) (call : CallF) (yc : YieldF) (lim k : Nat) (x0 x1 x5 x8 : AV) (H : Heap) (R : KR) : Res :=
 purK (addA 0 x5) fun x11_1 =>
 purK (ld1 ρ H x11_1) fun x12_1 =>
 purK (binA Try.prog H .eql 3 x12_1 (.int .i64 1)) fun x14_1 =>
 condK x14_1
 (
 purK (unA .not x1) fun x16_1 =>
 condK x16_1
 (
 purK (bldA [.int .i64 0,.str ByteArray.empty] [(0,1,(.int .i64 7))]) fun x17_1 =>
 effK H (stA lim H 2 x8 x17_1) fun _ H =>
 R [(.str (ByteArray.mk #[])),(.bool false),x8] H)
 (
 purK (bldA [.int .i64 0,.str ByteArray.empty] [(1,1,x0)]) fun x20_1 =>
 effK H (stA lim H 2 x8 x20_1) fun _ H =>
 R [x0,(.bool true),x8] H))
 (
 purK (binA Try.prog H .eql 3 x12_1 (.int .i64 2)) fun x22_1 =>
 condK x22_1
 (
 purK (addA 2 x5) fun x23_1 =>
 purK (ld1 ρ H x23_1) fun x24_1 =>
 purK (bldA [.int .i64 0,.str ByteArray.empty] []) fun x25_1 =>
 effK H (stA lim H 2 x8 x25_1) fun _ H =>
 R [x24_1,(.bool true),x8] H)
 (
 purK (binA Try.prog H .eql 3 x12_1 (.int .i64 3)) fun x27_1 =>
 condK x27_1
 (
 purK (addA 3 x5) fun x29_1 =>
 purK (ld1 ρ H x29_1) fun x30_1 =>
 resK (call lim 43 [x0,x30_1] H) fun x31_1 H =>
 purK (bldA [.int .i64 0,.str ByteArray.empty] []) fun x32_1 =>
 effK H (stA lim H 2 x8 x32_1) fun _ H =>
 R [x31_1,(.bool true),x8] H)
 (
 purK (binA Try.prog H .eql 3 x12_1 (.int .i64 4)) fun x34_1 =>
 condK x34_1
 (
 purK (bldA [.int .i64 0,.str ByteArray.empty] []) fun x35_1 =>
 effK H (stA lim H 2 x8 x35_1) fun _ H =>
 R [(.str (ByteArray.mk #[])),(.bool false),x8] H)
 (
 purK (bldA [.int .i64 0,.str ByteArray.empty] [(0,1,(.int .i64 1))]) fun x38_1 =>
 effK H (stA lim H 2 x8 x38_1) fun _ H =>
 R [x0,x1,x8] H))))
theorem N31_1_eq (ρ call yc lim k x0 x1 x5 x8 H R) :
 evL (cx ρ) call yc false 31 lim k (Code.at [1,1] c31) (sp 39 [(0,x0),(1,x1),(5,x5),(8,x8)]) H (kk none (fun s H => R (gs [6,7,8] s) H) [] R [6,7,8]) = N31_1 ρ call yc lim k x0 x1 x5 x8 H R := by
 kernel_rfl
noncomputable def L31 (ρ : RO) (call : CallF) (yc : YieldF) (lim k : Nat) (x0 x1 x2 : AV) (H : Heap) : Res :=
 effK H (boxA H 24 x2) fun x5 H =>
 effK H (some (.ptr H.sz 0 0,.new (newCells 29 false [.int .i64 0,.str ByteArray.empty]))) fun x8 H =>
 purK (unA .not x1) fun x10 =>
 condK x10
 (
 N31_1 ρ call yc lim k (.str (ByteArray.mk #[])) x1 x5 x8 H (retC (cx ρ) [none,none,some 29]))
 (
 N31_1 ρ call yc lim k x0 x1 x5 x8 H (retC (cx ρ) [none,none,some 29]))
theorem L31_x (ρ call yc lim k J x0 x1 x2 H) :
 evX (cx ρ) call yc false 31 lim k J c31 ([x0,x1,x2] ++ List.replicate 36 (.tup [])) H (kk none (fun s H => (retC (cx ρ) [none,none,some 29]) (gs [6,7,8] s) H) [] (retC (cx ρ) [none,none,some 29]) [6,7,8]) =
 effK H (boxA H 24 x2) fun x5 H =>
 effK H (some (.ptr H.sz 0 0,.new (newCells 29 false [.int .i64 0,.str ByteArray.empty]))) fun x8 H =>
 purK (unA .not x1) fun x10 =>
 condK x10
 (
 J (Code.at [1,1] c31) (sp 39 [(0,(.str (ByteArray.mk #[]))),(1,x1),(5,x5),(8,x8)]) H (kk none (fun s H => (retC (cx ρ) [none,none,some 29]) (gs [6,7,8] s) H) [] (retC (cx ρ) [none,none,some 29]) [6,7,8]))
 (
 J (Code.at [1,1] c31) (sp 39 [(0,x0),(1,x1),(5,x5),(8,x8)]) H (kk none (fun s H => (retC (cx ρ) [none,none,some 29]) (gs [6,7,8] s) H) [] (retC (cx ρ) [none,none,some 29]) [6,7,8])) := by
 kernel_rfl
theorem G31 (ρ call yc lim k x0 x1 x2 H) :
 evL (cx ρ) call yc false 31 lim k c31 ([x0,x1,x2] ++ List.replicate 36 (.tup [])) H (kk none (fun s H => (retC (cx ρ) [none,none,some 29]) (gs [6,7,8] s) H) [] (retC (cx ρ) [none,none,some 29]) [6,7,8]) = L31 ρ call yc lim k x0 x1 x2 H := by
 rw [evL_X,L31_x]
 simp only [← evL_X,L31,N31_1_eq]
theorem E31 (ρ : RO) (k lim : Nat) (x0 x1 x2 : AV) (H : Heap) : evCall (cx ρ) (k + 1) lim 31 [x0,x1,x2] H = L31 ρ (evCall (cx ρ) k) (evCY (cx ρ) k).2 lim k x0 x1 x2 H := by
 rw [evCall_cells (cx ρ) k lim 31 _ H Try.f31 c31 [6,7,8] [none,none,some 29] (by kernel_rfl) (by kernel_rfl) (by kernel_rfl) (by kernel_rfl) (by kernel_rfl) (by kernel_rfl)]
 exact G31 ρ (evCall (cx ρ) k) (evCY (cx ρ) k).2 lim k x0 x1 x2 H
end Go.Proofs.Ytkmohjddojpdjab

-- part Hl5
/- Functions, lifted. Printed by a program of this repo. -/
set_option linter.unusedVariables false
set_option linter.unusedSimpArgs false
set_option maxRecDepth 100000
set_option maxHeartbeats 4000000
namespace Go.Proofs.Ytkmohjddojpdjab
open Go.Ev Go.RowKit
-- slices.insertionSortOrdered[string]
noncomputable def c32 : Code := Code.of Try.prog 32
noncomputable def N32_3 (ρ : RO) (call : CallF) (yc : YieldF) (lim k : Nat) (x0 x1 x2 x6 : AV) (H : Heap) (kn : AV → Heap → Res) : Res :=
 purK (binA Try.prog H .add 3 x6 (.int .i64 1)) fun x14_1 =>
 kn x14_1 H
theorem N32_3_eq (ρ call yc lim k x0 x1 x2 x6 H kn R) :
 evL (cx ρ) call yc false 32 lim k (Code.at [1,0,0,1,1] c32) (sp 49 [(0,x0),(1,x1),(2,x2),(6,x6)]) H (kk (some [0,1,2,6]) kn [(0,none,(fun s H => R (gs [] s) H))] R []) = N32_3 ρ call yc lim k x0 x1 x2 x6 H (fun x6 H => kn (sp 49 [(0,x0),(1,x1),(2,x2),(6,x6)]) H) := by
 kernel_rfl
noncomputable def N32_6 (ρ : RO) (call : CallF) (yc : YieldF) (lim k : Nat) (x0 x1 x2 x6 x7 : AV) (H : Heap) (kn : AV → Heap → Res) : Res :=
 purK (binA Try.prog H .sub 3 x7 (.int .i64 1)) fun x32_1 =>
 kn x32_1 H
theorem N32_6_eq (ρ call yc lim k x0 x1 x2 x6 x7 H kn k2 k1 R) :
 evL (cx ρ) call yc false 32 lim k (Code.at [1,0,0,1,0,0,1,0,0,1,1] c32) (sp 49 [(0,x0),(1,x1),(2,x2),(6,x6),(7,x7)]) H (kk (some [0,1,2,6,7]) kn [(2,(some [0,1,2,6]),k2),(1,(some [0,1,2,6]),k1),(0,none,(fun s H => R (gs [] s) H))] R []) = N32_6 ρ call yc lim k x0 x1 x2 x6 x7 H (fun x7 H => kn (sp 49 [(0,x0),(1,x1),(2,x2),(6,x6),(7,x7)]) H) := by
 kernel_rfl
noncomputable def N32_5b (ρ : RO) (call : CallF) (yc : YieldF) (lim k : Nat) (x0 x1 x2 x6 x7 : AV) (H : Heap) (kn : AV → Heap → Res) (k2 : AV → Heap → Res) : Res :=
 purK (binA Try.prog H .gtr 3 x7 x1) fun x18_1 =>
 boolK (wantV x18_1 true) fun b1 => purK (bif b1 then some x0 else some (.tup [])) fun x20_1 =>
 boolK (wantV x18_1 true) fun b2 => purK (bif b2 then some x7 else some (.tup [])) fun x21_1 =>
 boolK (wantV x18_1 true) fun b3 => purK (bif b3 then ixS 1 x20_1 x21_1 else some (.tup [])) fun x22_1 =>
 boolK (wantV x18_1 true) fun b4 => purK (bif b4 then ld1 ρ H x22_1 else some (.tup [])) fun x23_1 =>
 boolK (wantV x18_1 true) fun b5 => purK (bif b5 then some x0 else some (.tup [])) fun x24_1 =>
 boolK (wantV x18_1 true) fun b6 => purK (bif b6 then some x7 else some (.tup [])) fun x25_1 =>
 boolK (wantV x18_1 true) fun b7 => purK (bif b7 then binA Try.prog H .sub 3 x25_1 (.int .i64 1) else some (.tup [])) fun x26_1 =>
 boolK (wantV x18_1 true) fun b8 => purK (bif b8 then ixS 1 x24_1 x26_1 else some (.tup [])) fun x27_1 =>
 boolK (wantV x18_1 true) fun b9 => purK (bif b9 then ld1 ρ H x27_1 else some (.tup [])) fun x28_1 =>
 boolK (wantV x18_1 true) fun b10 => resK (gRes (some b10) H (call lim 38 [x23_1,x28_1] H)) fun x29_1 H => bif !b10 || ((!b9 || true) && ((!b7 || true) && ((!b4 || true) && true))) then
 purK (pickA x18_1 x29_1 (.bool false)) fun x30_1 =>
 condK x30_1
 (
 purK (binA Try.prog H .sub 3 x7 (.int .i64 1)) fun x37_1 =>
 purK (binA Try.prog H .sub 3 x7 (.int .i64 1)) fun x40_1 =>
 purK (ixS 1 x0 x40_1) fun x41_1 =>
 purK (ld1 ρ H x41_1) fun x42_1 =>
 purK (ixS 1 x0 x7) fun x45_1 =>
 purK (ld1 ρ H x45_1) fun x46_1 =>
 purK (ixS 1 x0 x7) fun x47_1 =>
 effK H (stA lim H 1 x47_1 x42_1) fun _ H => bif (agn (binA Try.prog H .sub 3 x7 (.int .i64 1)) x37_1 && true) then
 purK (ixS 1 x0 x37_1) fun x48_1 =>
 effK H (stA lim H 1 x48_1 x46_1) fun _ H =>
 N32_6 ρ call yc lim k x0 x1 x2 x6 x7 H kn
 else .stop)
 (
 k2 x6 H)
 else .stop
theorem N32_5b_x (ρ call yc lim k J x0 x1 x2 x6 x7 H kn k2 k1 R) :
 evX (cx ρ) call yc false 32 lim k J (Code.at [1,0,0,1,0,0,1,0,0] c32) (sp 49 [(0,x0),(1,x1),(2,x2),(6,x6),(7,x7)]) H (kk (some [0,1,2,6,7]) kn [(2,(some [0,1,2,6]),k2),(1,(some [0,1,2,6]),k1),(0,none,(fun s H => R (gs [] s) H))] R []) =
 purK (binA Try.prog H .gtr 3 x7 x1) fun x18_1 =>
 boolK (wantV x18_1 true) fun b1 => purK (bif b1 then some x0 else some (.tup [])) fun x20_1 =>
 boolK (wantV x18_1 true) fun b2 => purK (bif b2 then some x7 else some (.tup [])) fun x21_1 =>
 boolK (wantV x18_1 true) fun b3 => purK (bif b3 then ixS 1 x20_1 x21_1 else some (.tup [])) fun x22_1 =>
 boolK (wantV x18_1 true) fun b4 => purK (bif b4 then ld1 ρ H x22_1 else some (.tup [])) fun x23_1 =>
 boolK (wantV x18_1 true) fun b5 => purK (bif b5 then some x0 else some (.tup [])) fun x24_1 =>
 boolK (wantV x18_1 true) fun b6 => purK (bif b6 then some x7 else some (.tup [])) fun x25_1 =>
 boolK (wantV x18_1 true) fun b7 => purK (bif b7 then binA Try.prog H .sub 3 x25_1 (.int .i64 1) else some (.tup [])) fun x26_1 =>
 boolK (wantV x18_1 true) fun b8 => purK (bif b8 then ixS 1 x24_1 x26_1 else some (.tup [])) fun x27_1 =>
 boolK (wantV x18_1 true) fun b9 => purK (bif b9 then ld1 ρ H x27_1 else some (.tup [])) fun x28_1 =>
 boolK (wantV x18_1 true) fun b10 => resK (gRes (some b10) H (call lim 38 [x23_1,x28_1] H)) fun x29_1 H => bif !b10 || ((!b9 || true) && ((!b7 || true) && ((!b4 || true) && true))) then
 purK (pickA x18_1 x29_1 (.bool false)) fun x30_1 =>
 condK x30_1
 (
 purK (binA Try.prog H .sub 3 x7 (.int .i64 1)) fun x37_1 =>
 purK (binA Try.prog H .sub 3 x7 (.int .i64 1)) fun x40_1 =>
 purK (ixS 1 x0 x40_1) fun x41_1 =>
 purK (ld1 ρ H x41_1) fun x42_1 =>
 purK (ixS 1 x0 x7) fun x45_1 =>
 purK (ld1 ρ H x45_1) fun x46_1 =>
 purK (ixS 1 x0 x7) fun x47_1 =>
 effK H (stA lim H 1 x47_1 x42_1) fun _ H => bif (agn (binA Try.prog H .sub 3 x7 (.int .i64 1)) x37_1 && true) then
 purK (ixS 1 x0 x37_1) fun x48_1 =>
 effK H (stA lim H 1 x48_1 x46_1) fun _ H =>
 J (Code.at [1,0,0,1,0,0,1,0,0,1,1] c32) (sp 49 [(0,x0),(1,x1),(2,x2),(6,x6),(7,x7)]) H (kk (some [0,1,2,6,7]) kn [(2,(some [0,1,2,6]),k2),(1,(some [0,1,2,6]),k1),(0,none,(fun s H => R (gs [] s) H))] R [])
 else .stop)
 (
 k2 (sp 49 [(0,x0),(1,x1),(2,x2),(6,x6)]) H)
 else .stop := by
 kernel_rfl
theorem N32_5b_eq (ρ call yc lim k x0 x1 x2 x6 x7 H kn k2 k1 R) :
 evL (cx ρ) call yc false 32 lim k (Code.at [1,0,0,1,0,0,1,0,0] c32) (sp 49 [(0,x0),(1,x1),(2,x2),(6,x6),(7,x7)]) H (kk (some [0,1,2,6,7]) kn [(2,(some [0,1,2,6]),k2),(1,(some [0,1,2,6]),k1),(0,none,(fun s H => R (gs [] s) H))] R []) = N32_5b ρ call yc lim k x0 x1 x2 x6 x7 H (fun x7 H => kn (sp 49 [(0,x0),(1,x1),(2,x2),(6,x6),(7,x7)]) H) (fun x6 H => k2 (sp 49 [(0,x0),(1,x1),(2,x2),(6,x6)]) H) := by
 rw [evL_X,N32_5b_x]
 simp only [← evL_X,N32_5b,N32_6_eq]
noncomputable def N32_5 (ρ : RO) (call : CallF) (yc : YieldF) (lim k : Nat) (x0 x1 x2 x6 x7 : AV) (H : Heap) (k2 : AV → Heap → Res) : Res :=
 loopL (fun (x : AV) H kn => N32_5b ρ call yc lim k x0 x1 x2 x6 x H (fun x7 H => kn x7 H) k2) k x7 H
theorem N32_5_eq (ρ call yc lim k x0 x1 x2 x6 x7 H kn k2 k1 R) :
 evL (cx ρ) call yc false 32 lim k (Code.at [1,0,0,1,0,0,1,0] c32) (sp 49 [(0,x0),(1,x1),(2,x2),(6,x6),(7,x7)]) H (kk (some [0,1,2,6]) kn [(2,(some [0,1,2,6]),k2),(1,(some [0,1,2,6]),k1),(0,none,(fun s H => R (gs [] s) H))] R []) = N32_5 ρ call yc lim k x0 x1 x2 x6 x7 H (fun x6 H => k2 (sp 49 [(0,x0),(1,x1),(2,x2),(6,x6)]) H) := by
 have e : Code.at [1,0,0,1,0,0,1,0] c32 = .loop (Code.at [1,0,0,1,0,0,1,0,0] c32) := by kernel_rfl
 rw [e]
 unfold N32_5
 exact loop_node [0,1,2,6,7] (fun x : AV => (sp 49 [(0,x0),(1,x1),(2,x2),(6,x6),(7,(x))])) (fun (x : AV) H kn => N32_5b ρ call yc lim k x0 x1 x2 x6 x H (fun x7 H => kn x7 H) (fun x6 H => k2 (sp 49 [(0,x0),(1,x1),(2,x2),(6,x6)]) H)) (by kernel_rfl) (fun x => by kernel_rfl) (fun x H kn => N32_5b_eq ρ call yc lim k x0 x1 x2 x6 (x) H kn k2 k1 R) x7 (sp 49 [(0,x0),(1,x1),(2,x2),(6,x6),(7,x7)]) H (by kernel_rfl)
noncomputable def N32_4 (ρ : RO) (call : CallF) (yc : YieldF) (lim k : Nat) (x0 x1 x2 x6 x7 : AV) (H : Heap) (kn : AV → Heap → Res) : Res :=
 N32_5 ρ call yc lim k x0 x1 x2 x6 x7 H kn
theorem N32_4_x (ρ call yc lim k J x0 x1 x2 x6 x7 H kn k1 R) :
 evX (cx ρ) call yc false 32 lim k J (Code.at [1,0,0,1,0,0,1] c32) (sp 49 [(0,x0),(1,x1),(2,x2),(6,x6),(7,x7)]) H (kk (some [0,1,2,6]) kn [(1,(some [0,1,2,6]),k1),(0,none,(fun s H => R (gs [] s) H))] R []) =
 J (Code.at [1,0,0,1,0,0,1,0] c32) (sp 49 [(0,x0),(1,x1),(2,x2),(6,x6),(7,x7)]) H (kk (some [0,1,2,6]) kn [(2,(some [0,1,2,6]),kn),(1,(some [0,1,2,6]),k1),(0,none,(fun s H => R (gs [] s) H))] R []) := by
 kernel_rfl
theorem N32_4_eq (ρ call yc lim k x0 x1 x2 x6 x7 H kn k1 R) :
 evL (cx ρ) call yc false 32 lim k (Code.at [1,0,0,1,0,0,1] c32) (sp 49 [(0,x0),(1,x1),(2,x2),(6,x6),(7,x7)]) H (kk (some [0,1,2,6]) kn [(1,(some [0,1,2,6]),k1),(0,none,(fun s H => R (gs [] s) H))] R []) = N32_4 ρ call yc lim k x0 x1 x2 x6 x7 H (fun x6 H => kn (sp 49 [(0,x0),(1,x1),(2,x2),(6,x6)]) H) := by
 rw [evL_X,N32_4_x]
 simp only [← evL_X,N32_4,N32_5_eq]
noncomputable def N32_2b (ρ : RO) (call : CallF) (yc : YieldF) (lim k : Nat) (x0 x1 x2 x6 : AV) (H : Heap) (kn : AV → Heap → Res) (R : KR) : Res :=
 purK (binA Try.prog H .lss 3 x6 x2) fun x12_1 =>
 condK x12_1
 (
 N32_4 ρ call yc lim k x0 x1 x2 x6 x6 H (fun x6_1 H =>
 N32_3 ρ call yc lim k x0 x1 x2 x6_1 H kn))
 (
 R [] H)
theorem N32_2b_x (ρ call yc lim k J x0 x1 x2 x6 H kn R) :
 evX (cx ρ) call yc false 32 lim k J (Code.at [1,0,0] c32) (sp 49 [(0,x0),(1,x1),(2,x2),(6,x6)]) H (kk (some [0,1,2,6]) kn [(0,none,(fun s H => R (gs [] s) H))] R []) =
 purK (binA Try.prog H .lss 3 x6 x2) fun x12_1 =>
 condK x12_1
 (
 J (Code.at [1,0,0,1,0,0,1] c32) (sp 49 [(0,x0),(1,x1),(2,x2),(6,x6),(7,x6)]) H (kk (some [0,1,2,6]) (fun s H => J (Code.at [1,0,0,1,1] c32) s H (kk (some [0,1,2,6]) kn [(0,none,(fun s H => R (gs [] s) H))] R [])) [(1,(some [0,1,2,6]),(fun s H => J (Code.at [1,0,0,1,1] c32) s H (kk (some [0,1,2,6]) kn [(0,none,(fun s H => R (gs [] s) H))] R []))),(0,none,(fun s H => R (gs [] s) H))] R []))
 (
 R [] H) := by
 kernel_rfl
theorem N32_2b_eq (ρ call yc lim k x0 x1 x2 x6 H kn R) :
 evL (cx ρ) call yc false 32 lim k (Code.at [1,0,0] c32) (sp 49 [(0,x0),(1,x1),(2,x2),(6,x6)]) H (kk (some [0,1,2,6]) kn [(0,none,(fun s H => R (gs [] s) H))] R []) = N32_2b ρ call yc lim k x0 x1 x2 x6 H (fun x6 H => kn (sp 49 [(0,x0),(1,x1),(2,x2),(6,x6)]) H) R := by
 rw [evL_X,N32_2b_x]
 simp only [← evL_X,N32_2b,N32_3_eq,N32_4_eq]
noncomputable def N32_2 (ρ : RO) (call : CallF) (yc : YieldF) (lim k : Nat) (x0 x1 x2 x6 : AV) (H : Heap) (R : KR) : Res :=
 loopL (fun (x : AV) H kn => N32_2b ρ call yc lim k x0 x1 x2 x H (fun x6 H => kn x6 H) R) k x6 H
theorem N32_2_eq (ρ call yc lim k x0 x1 x2 x6 H R) :
 evL (cx ρ) call yc false 32 lim k (Code.at [1,0] c32) (sp 49 [(0,x0),(1,x1),(2,x2),(6,x6)]) H (kk none (fun s H => R (gs [] s) H) [(0,none,(fun s H => R (gs [] s) H))] R []) = N32_2 ρ call yc lim k x0 x1 x2 x6 H R := by
 have e : Code.at [1,0] c32 = .loop (Code.at [1,0,0] c32) := by kernel_rfl
 rw [e]
 unfold N32_2
 exact loop_node [0,1,2,6] (fun x : AV => (sp 49 [(0,x0),(1,x1),(2,x2),(6,(x))])) (fun (x : AV) H kn => N32_2b ρ call yc lim k x0 x1 x2 x H (fun x6 H => kn x6 H) R) (by kernel_rfl) (fun x => by kernel_rfl) (fun x H kn => N32_2b_eq ρ call yc lim k x0 x1 x2 (x) H kn R) x6 (sp 49 [(0,x0),(1,x1),(2,x2),(6,x6)]) H (by kernel_rfl)
noncomputable def N32_1 (ρ : RO) (call : CallF) (yc : YieldF) (lim k : Nat) (x0 x1 x2 x6 : AV) (H : Heap) (R : KR) : Res :=
 N32_2 ρ call yc lim k x0 x1 x2 x6 H R
theorem N32_1_x (ρ call yc lim k J x0 x1 x2 x6 H R) :
 evX (cx ρ) call yc false 32 lim k J (Code.at [1] c32) (sp 49 [(0,x0),(1,x1),(2,x2),(6,x6)]) H (kk none (fun s H => R (gs [] s) H) [] R []) =
 J (Code.at [1,0] c32) (sp 49 [(0,x0),(1,x1),(2,x2),(6,x6)]) H (kk none (fun s H => R (gs [] s) H) [(0,none,(fun s H => R (gs [] s) H))] R []) := by
 kernel_rfl
theorem N32_1_eq (ρ call yc lim k x0 x1 x2 x6 H R) :
 evL (cx ρ) call yc false 32 lim k (Code.at [1] c32) (sp 49 [(0,x0),(1,x1),(2,x2),(6,x6)]) H (kk none (fun s H => R (gs [] s) H) [] R []) = N32_1 ρ call yc lim k x0 x1 x2 x6 H R := by
 rw [evL_X,N32_1_x]
 simp only [← evL_X,N32_1,N32_2_eq]
noncomputable def L32 (ρ : RO) (call : CallF) (yc : YieldF) (lim k : Nat) (x0 x1 x2 : AV) (H : Heap) : Res :=
 purK (binA Try.prog H .add 3 x1 (.int .i64 1)) fun x9 =>
 N32_1 ρ call yc lim k x0 x1 x2 x9 H retK
theorem L32_x (ρ call yc lim k J x0 x1 x2 H) :
 evX (cx ρ) call yc false 32 lim k J c32 ([x0,x1,x2] ++ List.replicate 46 (.tup [])) H (kk none (fun s H => retK (gs [] s) H) [] retK []) =
 purK (binA Try.prog H .add 3 x1 (.int .i64 1)) fun x9 =>
 J (Code.at [1] c32) (sp 49 [(0,x0),(1,x1),(2,x2),(6,x9)]) H (kk none (fun s H => retK (gs [] s) H) [] retK []) := by
 kernel_rfl
theorem G32 (ρ call yc lim k x0 x1 x2 H) :
 evL (cx ρ) call yc false 32 lim k c32 ([x0,x1,x2] ++ List.replicate 46 (.tup [])) H (kk none (fun s H => retK (gs [] s) H) [] retK []) = L32 ρ call yc lim k x0 x1 x2 H := by
 rw [evL_X,L32_x]
 simp only [← evL_X,L32,N32_1_eq]
theorem E32 (ρ : RO) (k lim : Nat) (x0 x1 x2 : AV) (H : Heap) : evCall (cx ρ) (k + 1) lim 32 [x0,x1,x2] H = L32 ρ (evCall (cx ρ) k) (evCY (cx ρ) k).2 lim k x0 x1 x2 H := by
 rw [evCall_body (cx ρ) k lim 32 _ H Try.f32 c32 [] (by kernel_rfl) (by kernel_rfl) (by kernel_rfl) (by kernel_rfl) (by kernel_rfl)]
 exact G32 ρ (evCall (cx ρ) k) (evCY (cx ρ) k).2 lim k x0 x1 x2 H
-- slices.heapSortOrdered[string]
noncomputable def c33 : Code := Code.of Try.prog 33
noncomputable def N33_4 (ρ : RO) (call : CallF) (yc : YieldF) (lim k : Nat) (x0 x6 x7 x10 : AV) (H : Heap) (kn : AV → Heap → Res) : Res :=
 purK (binA Try.prog H .sub 3 x10 (.int .i64 1)) fun x32_1 =>
 kn x32_1 H
theorem N33_4_eq (ρ call yc lim k x0 x6 x7 x10 H kn R) :
 evL (cx ρ) call yc false 33 lim k (Code.at [1,1,1,1,1,0,0,1,1] c33) (sp 56 [(0,x0),(6,x6),(7,x7),(10,x10)]) H (kk (some [0,6,7,10]) kn [(2,none,(fun s H => R (gs [] s) H))] R []) = N33_4 ρ call yc lim k x0 x6 x7 x10 H (fun x10 H => kn (sp 56 [(0,x0),(6,x6),(7,x7),(10,x10)]) H) := by
 kernel_rfl
noncomputable def N33_3b (ρ : RO) (call : CallF) (yc : YieldF) (lim k : Nat) (x0 x6 x7 x10 : AV) (H : Heap) (kn : AV → Heap → Res) (R : KR) : Res :=
 purK (binA Try.prog H .geq 3 x10 (.int .i64 0)) fun x30_1 =>
 condK x30_1
 (
 purK (binA Try.prog H .add 3 x6 x10) fun x38_1 =>
 purK (binA Try.prog H .add 3 x6 x10) fun x42_1 =>
 purK (ixS 1 x0 x42_1) fun x43_1 =>
 purK (ld1 ρ H x43_1) fun x44_1 =>
 purK (ixS 1 x0 x6) fun x47_1 =>
 purK (ld1 ρ H x47_1) fun x48_1 =>
 purK (ixS 1 x0 x6) fun x49_1 =>
 effK H (stA lim H 1 x49_1 x44_1) fun _ H => bif (agn (binA Try.prog H .add 3 x6 x10) x38_1 && true) then
 purK (ixS 1 x0 x38_1) fun x50_1 =>
 effK H (stA lim H 1 x50_1 x48_1) fun _ H =>
 resK (call lim 44 [x0,x7,x10,x6] H) fun x55_1 H =>
 N33_4 ρ call yc lim k x0 x6 x7 x10 H kn
 else .stop)
 (
 R [] H)
theorem N33_3b_x (ρ call yc lim k J x0 x6 x7 x10 H kn R) :
 evX (cx ρ) call yc false 33 lim k J (Code.at [1,1,1,1,1,0,0] c33) (sp 56 [(0,x0),(6,x6),(7,x7),(10,x10)]) H (kk (some [0,6,7,10]) kn [(2,none,(fun s H => R (gs [] s) H))] R []) =
 purK (binA Try.prog H .geq 3 x10 (.int .i64 0)) fun x30_1 =>
 condK x30_1
 (
 purK (binA Try.prog H .add 3 x6 x10) fun x38_1 =>
 purK (binA Try.prog H .add 3 x6 x10) fun x42_1 =>
 purK (ixS 1 x0 x42_1) fun x43_1 =>
 purK (ld1 ρ H x43_1) fun x44_1 =>
 purK (ixS 1 x0 x6) fun x47_1 =>
 purK (ld1 ρ H x47_1) fun x48_1 =>
 purK (ixS 1 x0 x6) fun x49_1 =>
 effK H (stA lim H 1 x49_1 x44_1) fun _ H => bif (agn (binA Try.prog H .add 3 x6 x10) x38_1 && true) then
 purK (ixS 1 x0 x38_1) fun x50_1 =>
 effK H (stA lim H 1 x50_1 x48_1) fun _ H =>
 resK (call lim 44 [x0,x7,x10,x6] H) fun x55_1 H =>
 J (Code.at [1,1,1,1,1,0,0,1,1] c33) (sp 56 [(0,x0),(6,x6),(7,x7),(10,x10)]) H (kk (some [0,6,7,10]) kn [(2,none,(fun s H => R (gs [] s) H))] R [])
 else .stop)
 (
 R [] H) := by
 kernel_rfl
theorem N33_3b_eq (ρ call yc lim k x0 x6 x7 x10 H kn R) :
 evL (cx ρ) call yc false 33 lim k (Code.at [1,1,1,1,1,0,0] c33) (sp 56 [(0,x0),(6,x6),(7,x7),(10,x10)]) H (kk (some [0,6,7,10]) kn [(2,none,(fun s H => R (gs [] s) H))] R []) = N33_3b ρ call yc lim k x0 x6 x7 x10 H (fun x10 H => kn (sp 56 [(0,x0),(6,x6),(7,x7),(10,x10)]) H) R := by
 rw [evL_X,N33_3b_x]
 simp only [← evL_X,N33_3b,N33_4_eq]
noncomputable def N33_3 (ρ : RO) (call : CallF) (yc : YieldF) (lim k : Nat) (x0 x6 x7 x10 : AV) (H : Heap) (R : KR) : Res :=
 loopL (fun (x : AV) H kn => N33_3b ρ call yc lim k x0 x6 x7 x H (fun x10 H => kn x10 H) R) k x10 H
theorem N33_3_eq (ρ call yc lim k x0 x6 x7 x10 H R) :
 evL (cx ρ) call yc false 33 lim k (Code.at [1,1,1,1,1,0] c33) (sp 56 [(0,x0),(6,x6),(7,x7),(10,x10)]) H (kk none (fun s H => R (gs [] s) H) [(2,none,(fun s H => R (gs [] s) H))] R []) = N33_3 ρ call yc lim k x0 x6 x7 x10 H R := by
 have e : Code.at [1,1,1,1,1,0] c33 = .loop (Code.at [1,1,1,1,1,0,0] c33) := by kernel_rfl
 rw [e]
 unfold N33_3
 exact loop_node [0,6,7,10] (fun x : AV => (sp 56 [(0,x0),(6,x6),(7,x7),(10,(x))])) (fun (x : AV) H kn => N33_3b ρ call yc lim k x0 x6 x7 x H (fun x10 H => kn x10 H) R) (by kernel_rfl) (fun x => by kernel_rfl) (fun x H kn => N33_3b_eq ρ call yc lim k x0 x6 x7 (x) H kn R) x10 (sp 56 [(0,x0),(6,x6),(7,x7),(10,x10)]) H (by kernel_rfl)
noncomputable def N33_2 (ρ : RO) (call : CallF) (yc : YieldF) (lim k : Nat) (x0 x6 x7 x10 : AV) (H : Heap) (R : KR) : Res :=
 N33_3 ρ call yc lim k x0 x6 x7 x10 H R
theorem N33_2_x (ρ call yc lim k J x0 x6 x7 x10 H R) :
 evX (cx ρ) call yc false 33 lim k J (Code.at [1,1,1,1,1] c33) (sp 56 [(0,x0),(6,x6),(7,x7),(10,x10)]) H (kk none (fun s H => R (gs [] s) H) [] R []) =
 J (Code.at [1,1,1,1,1,0] c33) (sp 56 [(0,x0),(6,x6),(7,x7),(10,x10)]) H (kk none (fun s H => R (gs [] s) H) [(2,none,(fun s H => R (gs [] s) H))] R []) := by
 kernel_rfl
theorem N33_2_eq (ρ call yc lim k x0 x6 x7 x10 H R) :
 evL (cx ρ) call yc false 33 lim k (Code.at [1,1,1,1,1] c33) (sp 56 [(0,x0),(6,x6),(7,x7),(10,x10)]) H (kk none (fun s H => R (gs [] s) H) [] R []) = N33_2 ρ call yc lim k x0 x6 x7 x10 H R := by
 rw [evL_X,N33_2_x]
 simp only [← evL_X,N33_2,N33_3_eq]
noncomputable def N33_1 (ρ : RO) (call : CallF) (yc : YieldF) (lim k : Nat) (x0 x6 x7 x8 : AV) (H : Heap) (R : KR) : Res :=
 purK (binA Try.prog H .sub 3 x8 (.int .i64 1)) fun x28_1 =>
 N33_2 ρ call yc lim k x0 x6 x7 x28_1 H R
theorem N33_1_x (ρ call yc lim k J x0 x6 x7 x8 H R) :
 evX (cx ρ) call yc false 33 lim k J (Code.at [1,1,1,1] c33) (sp 56 [(0,x0),(6,x6),(7,x7),(8,x8)]) H (kk none (fun s H => R (gs [] s) H) [] R []) =
 purK (binA Try.prog H .sub 3 x8 (.int .i64 1)) fun x28_1 =>
 J (Code.at [1,1,1,1,1] c33) (sp 56 [(0,x0),(6,x6),(7,x7),(10,x28_1)]) H (kk none (fun s H => R (gs [] s) H) [] R []) := by
 kernel_rfl
theorem N33_1_eq (ρ call yc lim k x0 x6 x7 x8 H R) :
 evL (cx ρ) call yc false 33 lim k (Code.at [1,1,1,1] c33) (sp 56 [(0,x0),(6,x6),(7,x7),(8,x8)]) H (kk none (fun s H => R (gs [] s) H) [] R []) = N33_1 ρ call yc lim k x0 x6 x7 x8 H R := by
 rw [evL_X,N33_1_x]
 simp only [← evL_X,N33_1,N33_2_eq]
noncomputable def N33_6b (ρ : RO) (call : CallF) (yc : YieldF) (lim k : Nat) (x0 x6 x7 x8 x9 : AV) (H : Heap) (kn : AV → Heap → Res) (k0 : AV → AV → AV → AV → Heap → Res) : Res :=
 purK (binA Try.prog H .geq 3 x9 (.int .i64 0)) fun x19_1 =>
 condK x19_1
 (
 resK (call lim 44 [x0,x9,x8,x6] H) fun x26_1 H =>
 purK (binA Try.prog H .sub 3 x9 (.int .i64 1)) fun x21_1 =>
 kn x21_1 H)
 (
 k0 x0 x6 x7 x8 H)
theorem N33_6b_eq (ρ call yc lim k x0 x6 x7 x8 x9 H kn k0 R) :
 evL (cx ρ) call yc false 33 lim k (Code.at [1,1,1,0,1,0,0] c33) (sp 56 [(0,x0),(6,x6),(7,x7),(8,x8),(9,x9)]) H (kk (some [0,6,7,8,9]) kn [(0,(some [0,6,7,8]),k0)] R []) = N33_6b ρ call yc lim k x0 x6 x7 x8 x9 H (fun x9 H => kn (sp 56 [(0,x0),(6,x6),(7,x7),(8,x8),(9,x9)]) H) (fun x0 x6 x7 x8 H => k0 (sp 56 [(0,x0),(6,x6),(7,x7),(8,x8)]) H) := by
 kernel_rfl
noncomputable def N33_6 (ρ : RO) (call : CallF) (yc : YieldF) (lim k : Nat) (x0 x6 x7 x8 x9 : AV) (H : Heap) (k0 : AV → AV → AV → AV → Heap → Res) : Res :=
 loopL (fun (x : AV) H kn => N33_6b ρ call yc lim k x0 x6 x7 x8 x H (fun x9 H => kn x9 H) k0) k x9 H
theorem N33_6_eq (ρ call yc lim k x0 x6 x7 x8 x9 H kn k0 R) :
 evL (cx ρ) call yc false 33 lim k (Code.at [1,1,1,0,1,0] c33) (sp 56 [(0,x0),(6,x6),(7,x7),(8,x8),(9,x9)]) H (kk (some [0,6,7,8]) kn [(0,(some [0,6,7,8]),k0)] R []) = N33_6 ρ call yc lim k x0 x6 x7 x8 x9 H (fun x0 x6 x7 x8 H => k0 (sp 56 [(0,x0),(6,x6),(7,x7),(8,x8)]) H) := by
 have e : Code.at [1,1,1,0,1,0] c33 = .loop (Code.at [1,1,1,0,1,0,0] c33) := by kernel_rfl
 rw [e]
 unfold N33_6
 exact loop_node [0,6,7,8,9] (fun x : AV => (sp 56 [(0,x0),(6,x6),(7,x7),(8,x8),(9,(x))])) (fun (x : AV) H kn => N33_6b ρ call yc lim k x0 x6 x7 x8 x H (fun x9 H => kn x9 H) (fun x0 x6 x7 x8 H => k0 (sp 56 [(0,x0),(6,x6),(7,x7),(8,x8)]) H)) (by kernel_rfl) (fun x => by kernel_rfl) (fun x H kn => N33_6b_eq ρ call yc lim k x0 x6 x7 x8 (x) H kn k0 R) x9 (sp 56 [(0,x0),(6,x6),(7,x7),(8,x8),(9,x9)]) H (by kernel_rfl)
noncomputable def N33_5 (ρ : RO) (call : CallF) (yc : YieldF) (lim k : Nat) (x0 x6 x7 x8 x9 : AV) (H : Heap) (kn : AV → AV → AV → AV → Heap → Res) : Res :=
 N33_6 ρ call yc lim k x0 x6 x7 x8 x9 H kn
theorem N33_5_x (ρ call yc lim k J x0 x6 x7 x8 x9 H kn R) :
 evX (cx ρ) call yc false 33 lim k J (Code.at [1,1,1,0,1] c33) (sp 56 [(0,x0),(6,x6),(7,x7),(8,x8),(9,x9)]) H (kk (some [0,6,7,8]) kn [] R []) =
 J (Code.at [1,1,1,0,1,0] c33) (sp 56 [(0,x0),(6,x6),(7,x7),(8,x8),(9,x9)]) H (kk (some [0,6,7,8]) kn [(0,(some [0,6,7,8]),kn)] R []) := by
 kernel_rfl
theorem N33_5_eq (ρ call yc lim k x0 x6 x7 x8 x9 H kn R) :
 evL (cx ρ) call yc false 33 lim k (Code.at [1,1,1,0,1] c33) (sp 56 [(0,x0),(6,x6),(7,x7),(8,x8),(9,x9)]) H (kk (some [0,6,7,8]) kn [] R []) = N33_5 ρ call yc lim k x0 x6 x7 x8 x9 H (fun x0 x6 x7 x8 H => kn (sp 56 [(0,x0),(6,x6),(7,x7),(8,x8)]) H) := by
 rw [evL_X,N33_5_x]
 simp only [← evL_X,N33_5,N33_6_eq]
noncomputable def L33 (ρ : RO) (call : CallF) (yc : YieldF) (lim k : Nat) (x0 x1 x2 : AV) (H : Heap) : Res :=
 purK (binA Try.prog H .sub 3 x2 x1) fun x14 =>
 purK (binA Try.prog H .sub 3 x14 (.int .i64 1)) fun x16 =>
 purK (binA Try.prog H .quo 3 x16 (.int .i64 2)) fun x17 =>
 N33_5 ρ call yc lim k x0 x1 (.int .i64 0) x14 x17 H (fun x0_1 x6 x7 x8 H =>
 N33_1 ρ call yc lim k x0_1 x6 x7 x8 H retK)
theorem L33_x (ρ call yc lim k J x0 x1 x2 H) :
 evX (cx ρ) call yc false 33 lim k J c33 ([x0,x1,x2] ++ List.replicate 53 (.tup [])) H (kk none (fun s H => retK (gs [] s) H) [] retK []) =
 purK (binA Try.prog H .sub 3 x2 x1) fun x14 =>
 purK (binA Try.prog H .sub 3 x14 (.int .i64 1)) fun x16 =>
 purK (binA Try.prog H .quo 3 x16 (.int .i64 2)) fun x17 =>
 J (Code.at [1,1,1,0,1] c33) (sp 56 [(0,x0),(6,x1),(7,(.int .i64 0)),(8,x14),(9,x17)]) H (kk (some [0,6,7,8]) (fun s H => J (Code.at [1,1,1,1] c33) s H (kk none (fun s H => retK (gs [] s) H) [] retK [])) [] retK []) := by
 kernel_rfl
theorem G33 (ρ call yc lim k x0 x1 x2 H) :
 evL (cx ρ) call yc false 33 lim k c33 ([x0,x1,x2] ++ List.replicate 53 (.tup [])) H (kk none (fun s H => retK (gs [] s) H) [] retK []) = L33 ρ call yc lim k x0 x1 x2 H := by
 rw [evL_X,L33_x]
 simp only [← evL_X,L33,N33_1_eq,N33_5_eq]
theorem E33 (ρ : RO) (k lim : Nat) (x0 x1 x2 : AV) (H : Heap) : evCall (cx ρ) (k + 1) lim 33 [x0,x1,x2] H = L33 ρ (evCall (cx ρ) k) (evCY (cx ρ) k).2 lim k x0 x1 x2 H := by
 rw [evCall_body (cx ρ) k lim 33 _ H Try.f33 c33 [] (by kernel_rfl) (by kernel_rfl) (by kernel_rfl) (by kernel_rfl) (by kernel_rfl)]
 exact G33 ρ (evCall (cx ρ) k) (evCY (cx ρ) k).2 lim k x0 x1 x2 H
-- slices.breakPatternsOrdered[string]
noncomputable def c34 : Code := Code.of Try.prog 34
noncomputable def N34_3 (ρ : RO) (call : CallF) (yc : YieldF) (lim k : Nat) (x0 x1 x6 x7 x8 x9 : AV) (H : Heap) (kn : AV → Heap → Res) : Res :=
 purK (binA Try.prog H .add 3 x9 (.int .i64 1)) fun x35_1 =>
 kn x35_1 H
theorem N34_3_eq (ρ call yc lim k x0 x1 x6 x7 x8 x9 H kn R) :
 evL (cx ρ) call yc false 34 lim k (Code.at [1,1,0,1,1,1,0,0,1,1] c34) (sp 65 [(0,x0),(1,x1),(6,x6),(7,x7),(8,x8),(9,x9)]) H (kk (some [0,1,6,7,8,9]) kn [(0,none,(fun s H => R (gs [] s) H))] R []) = N34_3 ρ call yc lim k x0 x1 x6 x7 x8 x9 H (fun x9 H => kn (sp 65 [(0,x0),(1,x1),(6,x6),(7,x7),(8,x8),(9,x9)]) H) := by
 kernel_rfl
noncomputable def N34_4 (ρ : RO) (call : CallF) (yc : YieldF) (lim k : Nat) (x0 x1 x6 x7 x8 x9 x10 : AV) (H : Heap) (kn : AV → Heap → Res) : Res :=
 purK (binA Try.prog H .add 3 x1 x10) fun x52_1 =>
 purK (binA Try.prog H .add 3 x1 x10) fun x56_1 =>
 purK (ixS 1 x0 x56_1) fun x57_1 =>
 purK (ld1 ρ H x57_1) fun x58_1 =>
 purK (ixS 1 x0 x9) fun x61_1 =>
 purK (ld1 ρ H x61_1) fun x62_1 =>
 purK (ixS 1 x0 x9) fun x63_1 =>
 effK H (stA lim H 1 x63_1 x58_1) fun _ H => bif (agn (binA Try.prog H .add 3 x1 x10) x52_1 && true) then
 purK (ixS 1 x0 x52_1) fun x64_1 =>
 effK H (stA lim H 1 x64_1 x62_1) fun _ H =>
 kn x9 H
 else .stop
theorem N34_4_eq (ρ call yc lim k x0 x1 x6 x7 x8 x9 x10 H kn k1 R) :
 evL (cx ρ) call yc false 34 lim k (Code.at [1,1,0,1,1,1,0,0,1,0,0,1,1] c34) (sp 65 [(0,x0),(1,x1),(6,x6),(7,x7),(8,x8),(9,x9),(10,x10)]) H (kk (some [0,1,6,7,8,9]) kn [(1,(some [0,1,6,7,8,9]),k1),(0,none,(fun s H => R (gs [] s) H))] R []) = N34_4 ρ call yc lim k x0 x1 x6 x7 x8 x9 x10 H (fun x9 H => kn (sp 65 [(0,x0),(1,x1),(6,x6),(7,x7),(8,x8),(9,x9)]) H) := by
 kernel_rfl
noncomputable def N34_2b (ρ : RO) (call : CallF) (yc : YieldF) (lim k : Nat) (x0 x1 x6 x7 x8 x9 : AV) (H : Heap) (kn : AV → Heap → Res) (R : KR) : Res :=
 purK (binA Try.prog H .quo 3 x6 (.int .i64 4)) fun x29_1 =>
 purK (binA Try.prog H .mul 3 x29_1 (.int .i64 2)) fun x30_1 =>
 purK (binA Try.prog H .add 3 x1 x30_1) fun x31_1 =>
 purK (binA Try.prog H .add 3 x31_1 (.int .i64 1)) fun x32_1 =>
 purK (binA Try.prog H .leq 3 x9 x32_1) fun x33_1 =>
 condK x33_1
 (
 resK (call lim 46 [x7] H) fun x36_1 H =>
 purK (binA Try.prog H .sub 80 x8 (.int .u64 1)) fun x38_1 =>
 purK (binA Try.prog H .and 80 x36_1 x38_1) fun x39_1 =>
 purK (cvI .i64 x39_1) fun x40_1 =>
 purK (binA Try.prog H .geq 3 x40_1 x6) fun x43_1 =>
 condK x43_1
 (
 purK (binA Try.prog H .sub 3 x40_1 x6) fun x46_1 =>
 N34_4 ρ call yc lim k x0 x1 x6 x7 x8 x9 x46_1 H (fun x9_1 H =>
 N34_3 ρ call yc lim k x0 x1 x6 x7 x8 x9_1 H kn))
 (
 N34_4 ρ call yc lim k x0 x1 x6 x7 x8 x9 x40_1 H (fun x9_2 H =>
 N34_3 ρ call yc lim k x0 x1 x6 x7 x8 x9_2 H kn)))
 (
 R [] H)
theorem N34_2b_x (ρ call yc lim k J x0 x1 x6 x7 x8 x9 H kn R) :
 evX (cx ρ) call yc false 34 lim k J (Code.at [1,1,0,1,1,1,0,0] c34) (sp 65 [(0,x0),(1,x1),(6,x6),(7,x7),(8,x8),(9,x9)]) H (kk (some [0,1,6,7,8,9]) kn [(0,none,(fun s H => R (gs [] s) H))] R []) =
 purK (binA Try.prog H .quo 3 x6 (.int .i64 4)) fun x29_1 =>
 purK (binA Try.prog H .mul 3 x29_1 (.int .i64 2)) fun x30_1 =>
 purK (binA Try.prog H .add 3 x1 x30_1) fun x31_1 =>
 purK (binA Try.prog H .add 3 x31_1 (.int .i64 1)) fun x32_1 =>
 purK (binA Try.prog H .leq 3 x9 x32_1) fun x33_1 =>
 condK x33_1
 (
 resK (call lim 46 [x7] H) fun x36_1 H =>
 purK (binA Try.prog H .sub 80 x8 (.int .u64 1)) fun x38_1 =>
 purK (binA Try.prog H .and 80 x36_1 x38_1) fun x39_1 =>
 purK (cvI .i64 x39_1) fun x40_1 =>
 purK (binA Try.prog H .geq 3 x40_1 x6) fun x43_1 =>
 condK x43_1
 (
 purK (binA Try.prog H .sub 3 x40_1 x6) fun x46_1 =>
 J (Code.at [1,1,0,1,1,1,0,0,1,0,0,1,1] c34) (sp 65 [(0,x0),(1,x1),(6,x6),(7,x7),(8,x8),(9,x9),(10,x46_1)]) H (kk (some [0,1,6,7,8,9]) (fun s H => J (Code.at [1,1,0,1,1,1,0,0,1,1] c34) s H (kk (some [0,1,6,7,8,9]) kn [(0,none,(fun s H => R (gs [] s) H))] R [])) [(1,(some [0,1,6,7,8,9]),(fun s H => J (Code.at [1,1,0,1,1,1,0,0,1,1] c34) s H (kk (some [0,1,6,7,8,9]) kn [(0,none,(fun s H => R (gs [] s) H))] R []))),(0,none,(fun s H => R (gs [] s) H))] R []))
 (
 J (Code.at [1,1,0,1,1,1,0,0,1,0,0,1,1] c34) (sp 65 [(0,x0),(1,x1),(6,x6),(7,x7),(8,x8),(9,x9),(10,x40_1)]) H (kk (some [0,1,6,7,8,9]) (fun s H => J (Code.at [1,1,0,1,1,1,0,0,1,1] c34) s H (kk (some [0,1,6,7,8,9]) kn [(0,none,(fun s H => R (gs [] s) H))] R [])) [(1,(some [0,1,6,7,8,9]),(fun s H => J (Code.at [1,1,0,1,1,1,0,0,1,1] c34) s H (kk (some [0,1,6,7,8,9]) kn [(0,none,(fun s H => R (gs [] s) H))] R []))),(0,none,(fun s H => R (gs [] s) H))] R [])))
 (
 R [] H) := by
 kernel_rfl
theorem N34_2b_eq (ρ call yc lim k x0 x1 x6 x7 x8 x9 H kn R) :
 evL (cx ρ) call yc false 34 lim k (Code.at [1,1,0,1,1,1,0,0] c34) (sp 65 [(0,x0),(1,x1),(6,x6),(7,x7),(8,x8),(9,x9)]) H (kk (some [0,1,6,7,8,9]) kn [(0,none,(fun s H => R (gs [] s) H))] R []) = N34_2b ρ call yc lim k x0 x1 x6 x7 x8 x9 H (fun x9 H => kn (sp 65 [(0,x0),(1,x1),(6,x6),(7,x7),(8,x8),(9,x9)]) H) R := by
 rw [evL_X,N34_2b_x]
 simp only [← evL_X,N34_2b,N34_3_eq,N34_4_eq]
noncomputable def N34_2 (ρ : RO) (call : CallF) (yc : YieldF) (lim k : Nat) (x0 x1 x6 x7 x8 x9 : AV) (H : Heap) (R : KR) : Res :=
 loopL (fun (x : AV) H kn => N34_2b ρ call yc lim k x0 x1 x6 x7 x8 x H (fun x9 H => kn x9 H) R) k x9 H
theorem N34_2_eq (ρ call yc lim k x0 x1 x6 x7 x8 x9 H R) :
 evL (cx ρ) call yc false 34 lim k (Code.at [1,1,0,1,1,1,0] c34) (sp 65 [(0,x0),(1,x1),(6,x6),(7,x7),(8,x8),(9,x9)]) H (kk none (fun s H => R (gs [] s) H) [(0,none,(fun s H => R (gs [] s) H))] R []) = N34_2 ρ call yc lim k x0 x1 x6 x7 x8 x9 H R := by
 have e : Code.at [1,1,0,1,1,1,0] c34 = .loop (Code.at [1,1,0,1,1,1,0,0] c34) := by kernel_rfl
 rw [e]
 unfold N34_2
 exact loop_node [0,1,6,7,8,9] (fun x : AV => (sp 65 [(0,x0),(1,x1),(6,x6),(7,x7),(8,x8),(9,(x))])) (fun (x : AV) H kn => N34_2b ρ call yc lim k x0 x1 x6 x7 x8 x H (fun x9 H => kn x9 H) R) (by kernel_rfl) (fun x => by kernel_rfl) (fun x H kn => N34_2b_eq ρ call yc lim k x0 x1 x6 x7 x8 (x) H kn R) x9 (sp 65 [(0,x0),(1,x1),(6,x6),(7,x7),(8,x8),(9,x9)]) H (by kernel_rfl)
noncomputable def N34_1 (ρ : RO) (call : CallF) (yc : YieldF) (lim k : Nat) (x0 x1 x6 x7 x8 x9 : AV) (H : Heap) (R : KR) : Res :=
 N34_2 ρ call yc lim k x0 x1 x6 x7 x8 x9 H R
theorem N34_1_x (ρ call yc lim k J x0 x1 x6 x7 x8 x9 H R) :
 evX (cx ρ) call yc false 34 lim k J (Code.at [1,1,0,1,1,1] c34) (sp 65 [(0,x0),(1,x1),(6,x6),(7,x7),(8,x8),(9,x9)]) H (kk none (fun s H => R (gs [] s) H) [] R []) =
 J (Code.at [1,1,0,1,1,1,0] c34) (sp 65 [(0,x0),(1,x1),(6,x6),(7,x7),(8,x8),(9,x9)]) H (kk none (fun s H => R (gs [] s) H) [(0,none,(fun s H => R (gs [] s) H))] R []) := by
 kernel_rfl
theorem N34_1_eq (ρ call yc lim k x0 x1 x6 x7 x8 x9 H R) :
 evL (cx ρ) call yc false 34 lim k (Code.at [1,1,0,1,1,1] c34) (sp 65 [(0,x0),(1,x1),(6,x6),(7,x7),(8,x8),(9,x9)]) H (kk none (fun s H => R (gs [] s) H) [] R []) = N34_1 ρ call yc lim k x0 x1 x6 x7 x8 x9 H R := by
 rw [evL_X,N34_1_x]
 simp only [← evL_X,N34_1,N34_2_eq]
noncomputable def L34 (ρ : RO) (call : CallF) (yc : YieldF) (lim k : Nat) (x0 x1 x2 : AV) (H : Heap) : Res :=
 purK (binA Try.prog H .sub 3 x2 x1) fun x13 =>
 purK (binA Try.prog H .geq 3 x13 (.int .i64 8)) fun x15 =>
 condK x15
 (
 purK (cvI .u64 x13) fun x17 =>
 effK H (some (.ptr H.sz 0 0,.new (newCells 96 false [.int .u64 0]))) fun x7 H =>
 effK H (stA lim H 1 x7 x17) fun _ H =>
 resK (call lim 45 [x13] H) fun x19 H =>
 purK (binA Try.prog H .quo 3 x13 (.int .i64 4)) fun x22 =>
 purK (binA Try.prog H .mul 3 x22 (.int .i64 2)) fun x23 =>
 purK (binA Try.prog H .add 3 x1 x23) fun x24 =>
 purK (binA Try.prog H .sub 3 x24 (.int .i64 1)) fun x25 =>
 N34_1 ρ call yc lim k x0 x1 x13 x7 x19 x25 H retK)
 (
 retK [] H)
theorem L34_x (ρ call yc lim k J x0 x1 x2 H) :
 evX (cx ρ) call yc false 34 lim k J c34 ([x0,x1,x2] ++ List.replicate 62 (.tup [])) H (kk none (fun s H => retK (gs [] s) H) [] retK []) =
 purK (binA Try.prog H .sub 3 x2 x1) fun x13 =>
 purK (binA Try.prog H .geq 3 x13 (.int .i64 8)) fun x15 =>
 condK x15
 (
 purK (cvI .u64 x13) fun x17 =>
 effK H (some (.ptr H.sz 0 0,.new (newCells 96 false [.int .u64 0]))) fun x7 H =>
 effK H (stA lim H 1 x7 x17) fun _ H =>
 resK (call lim 45 [x13] H) fun x19 H =>
 purK (binA Try.prog H .quo 3 x13 (.int .i64 4)) fun x22 =>
 purK (binA Try.prog H .mul 3 x22 (.int .i64 2)) fun x23 =>
 purK (binA Try.prog H .add 3 x1 x23) fun x24 =>
 purK (binA Try.prog H .sub 3 x24 (.int .i64 1)) fun x25 =>
 J (Code.at [1,1,0,1,1,1] c34) (sp 65 [(0,x0),(1,x1),(6,x13),(7,x7),(8,x19),(9,x25)]) H (kk none (fun s H => retK (gs [] s) H) [] retK []))
 (
 retK [] H) := by
 kernel_rfl
theorem G34 (ρ call yc lim k x0 x1 x2 H) :
 evL (cx ρ) call yc false 34 lim k c34 ([x0,x1,x2] ++ List.replicate 62 (.tup [])) H (kk none (fun s H => retK (gs [] s) H) [] retK []) = L34 ρ call yc lim k x0 x1 x2 H := by
 rw [evL_X,L34_x]
 simp only [← evL_X,L34,N34_1_eq]
theorem E34 (ρ : RO) (k lim : Nat) (x0 x1 x2 : AV) (H : Heap) : evCall (cx ρ) (k + 1) lim 34 [x0,x1,x2] H = L34 ρ (evCall (cx ρ) k) (evCY (cx ρ) k).2 lim k x0 x1 x2 H := by
 rw [evCall_body (cx ρ) k lim 34 _ H Try.f34 c34 [] (by kernel_rfl) (by kernel_rfl) (by kernel_rfl) (by kernel_rfl) (by kernel_rfl)]
 exact G34 ρ (evCall (cx ρ) k) (evCY (cx ρ) k).2 lim k x0 x1 x2 H
-- slices.choosePivotOrdered[string]
noncomputable def c35 : Code := Code.of Try.prog 35
noncomputable def N35_3 (ρ : RO) (call : CallF) (yc : YieldF) (lim k : Nat) (x11 x49 x51 : AV) (H : Heap) (R : KR) : Res :=
 condK x51
 (
 R [x11,(.int .i64 1)] H)
 (
 purK (binA Try.prog H .eql 3 x49 (.int .i64 12)) fun x55_1 =>
 condK x55_1
 (
 R [x11,(.int .i64 2)] H)
 (
 R [x11,(.int .i64 0)] H))
theorem N35_3_eq (ρ call yc lim k x11 x49 x51 H R) :
 evL (cx ρ) call yc false 35 lim k (Code.at [1,1,1,1,1,1,1,1,0,1] c35) (sp 57 [(11,x11),(49,x49),(51,x51)]) H (kk none (fun s H => R (gs [6,7] s) H) [(0,none,(fun s H => R (gs [6,7] s) H))] R [6,7]) = N35_3 ρ call yc lim k x11 x49 x51 H R := by
 kernel_rfl
noncomputable def N35_2 (ρ : RO) (call : CallF) (yc : YieldF) (lim k : Nat) (x9 x11 : AV) (H : Heap) (R : KR) : Res :=
 purK (ld1 ρ H x9) fun x49_1 =>
 purK (binA Try.prog H .eql 3 x49_1 (.int .i64 0)) fun x52_1 =>
 N35_3 ρ call yc lim k x11 x49_1 x52_1 H R
theorem N35_2_x (ρ call yc lim k J x9 x11 H R) :
 evX (cx ρ) call yc false 35 lim k J (Code.at [1,1,1,1,1,1,1] c35) (sp 57 [(9,x9),(11,x11)]) H (kk none (fun s H => R (gs [6,7] s) H) [] R [6,7]) =
 purK (ld1 ρ H x9) fun x49_1 =>
 purK (binA Try.prog H .eql 3 x49_1 (.int .i64 0)) fun x52_1 =>
 J (Code.at [1,1,1,1,1,1,1,1,0,1] c35) (sp 57 [(11,x11),(49,x49_1),(51,x52_1)]) H (kk none (fun s H => R (gs [6,7] s) H) [(0,none,(fun s H => R (gs [6,7] s) H))] R [6,7]) := by
 kernel_rfl
theorem N35_2_eq (ρ call yc lim k x9 x11 H R) :
 evL (cx ρ) call yc false 35 lim k (Code.at [1,1,1,1,1,1,1] c35) (sp 57 [(9,x9),(11,x11)]) H (kk none (fun s H => R (gs [6,7] s) H) [] R [6,7]) = N35_2 ρ call yc lim k x9 x11 H R := by
 rw [evL_X,N35_2_x]
 simp only [← evL_X,N35_2,N35_3_eq]
noncomputable def N35_4 (ρ : RO) (call : CallF) (yc : YieldF) (lim k : Nat) (x0 x9 x10 x11 x12 : AV) (H : Heap) (kn : AV → AV → Heap → Res) : Res :=
 resK (call lim 48 [x0,x10,x11,x12,x9] H) fun x48_1 H =>
 kn x9 x48_1 H
theorem N35_4_eq (ρ call yc lim k x0 x9 x10 x11 x12 H kn R) :
 evL (cx ρ) call yc false 35 lim k (Code.at [1,1,1,1,1,1,0,1,0,1] c35) (sp 57 [(0,x0),(9,x9),(10,x10),(11,x11),(12,x12)]) H (kk (some [9,11]) kn [] R [6,7]) = N35_4 ρ call yc lim k x0 x9 x10 x11 x12 H (fun x9 x11 H => kn (sp 57 [(9,x9),(11,x11)]) H) := by
 kernel_rfl
noncomputable def N35_1 (ρ : RO) (call : CallF) (yc : YieldF) (lim k : Nat) (x0 x8 x9 x10 x11 x12 : AV) (H : Heap) (R : KR) : Res :=
 purK (binA Try.prog H .geq 3 x8 (.int .i64 8)) fun x32_1 =>
 condK x32_1
 (
 purK (binA Try.prog H .geq 3 x8 (.int .i64 50)) fun x34_1 =>
 condK x34_1
 (
 resK (call lim 47 [x0,x10,x9] H) fun x37_1 H =>
 resK (call lim 47 [x0,x11,x9] H) fun x40_1 H =>
 resK (call lim 47 [x0,x12,x9] H) fun x43_1 H =>
 N35_4 ρ call yc lim k x0 x9 x37_1 x40_1 x43_1 H (fun x9_1 x11_1 H =>
 N35_2 ρ call yc lim k x9_1 x11_1 H R))
 (
 N35_4 ρ call yc lim k x0 x9 x10 x11 x12 H (fun x9_2 x11_2 H =>
 N35_2 ρ call yc lim k x9_2 x11_2 H R)))
 (
 N35_2 ρ call yc lim k x9 x11 H R)
theorem N35_1_x (ρ call yc lim k J x0 x8 x9 x10 x11 x12 H R) :
 evX (cx ρ) call yc false 35 lim k J (Code.at [1,1,1,1,1,1] c35) (sp 57 [(0,x0),(8,x8),(9,x9),(10,x10),(11,x11),(12,x12)]) H (kk none (fun s H => R (gs [6,7] s) H) [] R [6,7]) =
 purK (binA Try.prog H .geq 3 x8 (.int .i64 8)) fun x32_1 =>
 condK x32_1
 (
 purK (binA Try.prog H .geq 3 x8 (.int .i64 50)) fun x34_1 =>
 condK x34_1
 (
 resK (call lim 47 [x0,x10,x9] H) fun x37_1 H =>
 resK (call lim 47 [x0,x11,x9] H) fun x40_1 H =>
 resK (call lim 47 [x0,x12,x9] H) fun x43_1 H =>
 J (Code.at [1,1,1,1,1,1,0,1,0,1] c35) (sp 57 [(0,x0),(9,x9),(10,x37_1),(11,x40_1),(12,x43_1)]) H (kk (some [9,11]) (fun s H => J (Code.at [1,1,1,1,1,1,1] c35) s H (kk none (fun s H => R (gs [6,7] s) H) [] R [6,7])) [] R [6,7]))
 (
 J (Code.at [1,1,1,1,1,1,0,1,0,1] c35) (sp 57 [(0,x0),(9,x9),(10,x10),(11,x11),(12,x12)]) H (kk (some [9,11]) (fun s H => J (Code.at [1,1,1,1,1,1,1] c35) s H (kk none (fun s H => R (gs [6,7] s) H) [] R [6,7])) [] R [6,7])))
 (
 J (Code.at [1,1,1,1,1,1,1] c35) (sp 57 [(9,x9),(11,x11)]) H (kk none (fun s H => R (gs [6,7] s) H) [] R [6,7])) := by
 kernel_rfl
theorem N35_1_eq (ρ call yc lim k x0 x8 x9 x10 x11 x12 H R) :
 evL (cx ρ) call yc false 35 lim k (Code.at [1,1,1,1,1,1] c35) (sp 57 [(0,x0),(8,x8),(9,x9),(10,x10),(11,x11),(12,x12)]) H (kk none (fun s H => R (gs [6,7] s) H) [] R [6,7]) = N35_1 ρ call yc lim k x0 x8 x9 x10 x11 x12 H R := by
 rw [evL_X,N35_1_x]
 simp only [← evL_X,N35_1,N35_2_eq,N35_4_eq]
noncomputable def L35 (ρ : RO) (call : CallF) (yc : YieldF) (lim k : Nat) (x0 x1 x2 : AV) (H : Heap) : Res :=
 purK (binA Try.prog H .sub 3 x2 x1) fun x15 =>
 effK H (some (.ptr H.sz 0 0,.new (newCells 3 false [.int .i64 0]))) fun x9 H =>
 purK (binA Try.prog H .quo 3 x15 (.int .i64 4)) fun x18 =>
 purK (binA Try.prog H .mul 3 x18 (.int .i64 1)) fun x19 =>
 purK (binA Try.prog H .add 3 x1 x19) fun x20 =>
 purK (binA Try.prog H .quo 3 x15 (.int .i64 4)) fun x23 =>
 purK (binA Try.prog H .mul 3 x23 (.int .i64 2)) fun x24 =>
 purK (binA Try.prog H .add 3 x1 x24) fun x25 =>
 purK (binA Try.prog H .quo 3 x15 (.int .i64 4)) fun x28 =>
 purK (binA Try.prog H .mul 3 x28 (.int .i64 3)) fun x29 =>
 purK (binA Try.prog H .add 3 x1 x29) fun x30 =>
 N35_1 ρ call yc lim k x0 x15 x9 x20 x25 x30 H retK
theorem L35_x (ρ call yc lim k J x0 x1 x2 H) :
 evX (cx ρ) call yc false 35 lim k J c35 ([x0,x1,x2] ++ List.replicate 54 (.tup [])) H (kk none (fun s H => retK (gs [6,7] s) H) [] retK [6,7]) =
 purK (binA Try.prog H .sub 3 x2 x1) fun x15 =>
 effK H (some (.ptr H.sz 0 0,.new (newCells 3 false [.int .i64 0]))) fun x9 H =>
 purK (binA Try.prog H .quo 3 x15 (.int .i64 4)) fun x18 =>
 purK (binA Try.prog H .mul 3 x18 (.int .i64 1)) fun x19 =>
 purK (binA Try.prog H .add 3 x1 x19) fun x20 =>
 purK (binA Try.prog H .quo 3 x15 (.int .i64 4)) fun x23 =>
 purK (binA Try.prog H .mul 3 x23 (.int .i64 2)) fun x24 =>
 purK (binA Try.prog H .add 3 x1 x24) fun x25 =>
 purK (binA Try.prog H .quo 3 x15 (.int .i64 4)) fun x28 =>
 purK (binA Try.prog H .mul 3 x28 (.int .i64 3)) fun x29 =>
 purK (binA Try.prog H .add 3 x1 x29) fun x30 =>
 J (Code.at [1,1,1,1,1,1] c35) (sp 57 [(0,x0),(8,x15),(9,x9),(10,x20),(11,x25),(12,x30)]) H (kk none (fun s H => retK (gs [6,7] s) H) [] retK [6,7]) := by
 kernel_rfl
theorem G35 (ρ call yc lim k x0 x1 x2 H) :
 evL (cx ρ) call yc false 35 lim k c35 ([x0,x1,x2] ++ List.replicate 54 (.tup [])) H (kk none (fun s H => retK (gs [6,7] s) H) [] retK [6,7]) = L35 ρ call yc lim k x0 x1 x2 H := by
 rw [evL_X,L35_x]
 simp only [← evL_X,L35,N35_1_eq]
theorem E35 (ρ : RO) (k lim : Nat) (x0 x1 x2 : AV) (H : Heap) : evCall (cx ρ) (k + 1) lim 35 [x0,x1,x2] H = L35 ρ (evCall (cx ρ) k) (evCY (cx ρ) k).2 lim k x0 x1 x2 H := by
 rw [evCall_body (cx ρ) k lim 35 _ H Try.f35 c35 [6,7] (by kernel_rfl) (by kernel_rfl) (by kernel_rfl) (by kernel_rfl) (by kernel_rfl)]
 exact G35 ρ (evCall (cx ρ) k) (evCY (cx ρ) k).2 lim k x0 x1 x2 H
end Go.Proofs.Ytkmohjddojpdjab

-- part Hl6
/- Functions, lifted. Printed by a program of this repo. -/
set_option linter.unusedVariables false
set_option linter.unusedSimpArgs false
set_option maxRecDepth 100000
set_option maxHeartbeats 4000000
namespace Go.Proofs.Ytkmohjddojpdjab
open Go.Ev Go.RowKit
-- slices.reverseRangeOrdered[string]
noncomputable def c36 : Code := Code.of Try.prog 36
noncomputable def N36_2b (ρ : RO) (call : CallF) (yc : YieldF) (lim k : Nat) (x0 x6 x7 : AV) (H : Heap) (kn : AV → AV → Heap → Res) (R : KR) : Res :=
 purK (binA Try.prog H .lss 3 x6 x7) fun x13_1 =>
 condK x13_1
 (
 purK (ixS 1 x0 x7) fun x20_1 =>
 purK (ld1 ρ H x20_1) fun x21_1 =>
 purK (ixS 1 x0 x6) fun x24_1 =>
 purK (ld1 ρ H x24_1) fun x25_1 =>
 purK (ixS 1 x0 x6) fun x26_1 =>
 effK H (stA lim H 1 x26_1 x21_1) fun _ H =>
 purK (ixS 1 x0 x7) fun x27_1 =>
 effK H (stA lim H 1 x27_1 x25_1) fun _ H =>
 purK (binA Try.prog H .add 3 x6 (.int .i64 1)) fun x29_1 =>
 purK (binA Try.prog H .sub 3 x7 (.int .i64 1)) fun x31_1 =>
 kn x29_1 x31_1 H)
 (
 R [] H)
theorem N36_2b_eq (ρ call yc lim k x0 x6 x7 H kn R) :
 evL (cx ρ) call yc false 36 lim k (Code.at [1,1,0,0] c36) (sp 32 [(0,x0),(6,x6),(7,x7)]) H (kk (some [0,6,7]) kn [(0,none,(fun s H => R (gs [] s) H))] R []) = N36_2b ρ call yc lim k x0 x6 x7 H (fun x6 x7 H => kn (sp 32 [(0,x0),(6,x6),(7,x7)]) H) R := by
 kernel_rfl
noncomputable def N36_2 (ρ : RO) (call : CallF) (yc : YieldF) (lim k : Nat) (x0 x6 x7 : AV) (H : Heap) (R : KR) : Res :=
 loopL (fun (x : AV × AV) H kn => N36_2b ρ call yc lim k x0 x.1 x.2 H (fun x6 x7 H => kn (x6,x7) H) R) k (x6,x7) H
theorem N36_2_eq (ρ call yc lim k x0 x6 x7 H R) :
 evL (cx ρ) call yc false 36 lim k (Code.at [1,1,0] c36) (sp 32 [(0,x0),(6,x6),(7,x7)]) H (kk none (fun s H => R (gs [] s) H) [(0,none,(fun s H => R (gs [] s) H))] R []) = N36_2 ρ call yc lim k x0 x6 x7 H R := by
 have e : Code.at [1,1,0] c36 = .loop (Code.at [1,1,0,0] c36) := by kernel_rfl
 rw [e]
 unfold N36_2
 exact loop_node [0,6,7] (fun x : AV × AV => (sp 32 [(0,x0),(6,(x.1)),(7,(x.2))])) (fun (x : AV × AV) H kn => N36_2b ρ call yc lim k x0 x.1 x.2 H (fun x6 x7 H => kn (x6,x7) H) R) (by kernel_rfl) (fun x => by kernel_rfl) (fun x H kn => N36_2b_eq ρ call yc lim k x0 (x.1) (x.2) H kn R) (x6,x7) (sp 32 [(0,x0),(6,x6),(7,x7)]) H (by kernel_rfl)
noncomputable def N36_1 (ρ : RO) (call : CallF) (yc : YieldF) (lim k : Nat) (x0 x6 x7 : AV) (H : Heap) (R : KR) : Res :=
 N36_2 ρ call yc lim k x0 x6 x7 H R
theorem N36_1_x (ρ call yc lim k J x0 x6 x7 H R) :
 evX (cx ρ) call yc false 36 lim k J (Code.at [1,1] c36) (sp 32 [(0,x0),(6,x6),(7,x7)]) H (kk none (fun s H => R (gs [] s) H) [] R []) =
 J (Code.at [1,1,0] c36) (sp 32 [(0,x0),(6,x6),(7,x7)]) H (kk none (fun s H => R (gs [] s) H) [(0,none,(fun s H => R (gs [] s) H))] R []) := by
 kernel_rfl
theorem N36_1_eq (ρ call yc lim k x0 x6 x7 H R) :
 evL (cx ρ) call yc false 36 lim k (Code.at [1,1] c36) (sp 32 [(0,x0),(6,x6),(7,x7)]) H (kk none (fun s H => R (gs [] s) H) [] R []) = N36_1 ρ call yc lim k x0 x6 x7 H R := by
 rw [evL_X,N36_1_x]
 simp only [← evL_X,N36_1,N36_2_eq]
noncomputable def L36 (ρ : RO) (call : CallF) (yc : YieldF) (lim k : Nat) (x0 x1 x2 : AV) (H : Heap) : Res :=
 purK (binA Try.prog H .sub 3 x2 (.int .i64 1)) fun x10 =>
 N36_1 ρ call yc lim k x0 x1 x10 H retK
theorem L36_x (ρ call yc lim k J x0 x1 x2 H) :
 evX (cx ρ) call yc false 36 lim k J c36 ([x0,x1,x2] ++ List.replicate 29 (.tup [])) H (kk none (fun s H => retK (gs [] s) H) [] retK []) =
 purK (binA Try.prog H .sub 3 x2 (.int .i64 1)) fun x10 =>
 J (Code.at [1,1] c36) (sp 32 [(0,x0),(6,x1),(7,x10)]) H (kk none (fun s H => retK (gs [] s) H) [] retK []) := by
 kernel_rfl
theorem G36 (ρ call yc lim k x0 x1 x2 H) :
 evL (cx ρ) call yc false 36 lim k c36 ([x0,x1,x2] ++ List.replicate 29 (.tup [])) H (kk none (fun s H => retK (gs [] s) H) [] retK []) = L36 ρ call yc lim k x0 x1 x2 H := by
 rw [evL_X,L36_x]
 simp only [← evL_X,L36,N36_1_eq]
theorem E36 (ρ : RO) (k lim : Nat) (x0 x1 x2 : AV) (H : Heap) : evCall (cx ρ) (k + 1) lim 36 [x0,x1,x2] H = L36 ρ (evCall (cx ρ) k) (evCY (cx ρ) k).2 lim k x0 x1 x2 H := by
 rw [evCall_body (cx ρ) k lim 36 _ H Try.f36 c36 [] (by kernel_rfl) (by kernel_rfl) (by kernel_rfl) (by kernel_rfl) (by kernel_rfl)]
 exact G36 ρ (evCall (cx ρ) k) (evCY (cx ρ) k).2 lim k x0 x1 x2 H
-- slices.partialInsertionSortOrdered[string]
noncomputable def c37 : Code := Code.of Try.prog 37
noncomputable def N37_1 (ρ : RO) (call : CallF) (yc : YieldF) (lim k : Nat) (H : Heap) (R : KR) : Res :=
 R [(.bool false)] H
theorem N37_1_eq (ρ call yc lim k H R) :
 evL (cx ρ) call yc false 37 lim k (Code.at [1,1,1] c37) (sp 133 []) H (kk none (fun s H => R (gs [6] s) H) [] R [6]) = N37_1 ρ call yc lim k H R := by
 kernel_rfl
noncomputable def N37_5 (ρ : RO) (call : CallF) (yc : YieldF) (lim k : Nat) (x0 x1 x2 x7 x8 : AV) (H : Heap) (kn : AV → AV → Heap → Res) : Res :=
 purK (binA Try.prog H .add 3 x8 (.int .i64 1)) fun x16_1 =>
 kn x7 x16_1 H
theorem N37_5_eq (ρ call yc lim k x0 x1 x2 x7 x8 H kn k0 R) :
 evL (cx ρ) call yc false 37 lim k (Code.at [1,1,0,1,0,0,1,1] c37) (sp 133 [(0,x0),(1,x1),(2,x2),(7,x7),(8,x8)]) H (kk (some [0,1,2,7,8]) kn [(0,(some []),k0)] R [6]) = N37_5 ρ call yc lim k x0 x1 x2 x7 x8 H (fun x7 x8 H => kn (sp 133 [(0,x0),(1,x1),(2,x2),(7,x7),(8,x8)]) H) := by
 kernel_rfl
noncomputable def N37_11 (ρ : RO) (call : CallF) (yc : YieldF) (lim k : Nat) (x0 x1 x2 x7 x8 x10 : AV) (H : Heap) (kn : AV → Heap → Res) : Res :=
 purK (binA Try.prog H .add 3 x10 (.int .i64 1)) fun x105_1 =>
 kn x105_1 H
theorem N37_11_eq (ρ call yc lim k x0 x1 x2 x7 x8 x10 H kn k6 k1 k0 R) :
 evL (cx ρ) call yc false 37 lim k (Code.at [1,1,0,1,0,0,1,0,0,1,1,1,1,1,1,0,1,0,0,1,1] c37) (sp 133 [(0,x0),(1,x1),(2,x2),(7,x7),(8,x8),(10,x10)]) H (kk (some [0,1,2,7,8,10]) kn [(6,(some [0,1,2,7,8]),k6),(1,(some [0,1,2,7,8]),k1),(0,(some []),k0)] R [6]) = N37_11 ρ call yc lim k x0 x1 x2 x7 x8 x10 H (fun x10 H => kn (sp 133 [(0,x0),(1,x1),(2,x2),(7,x7),(8,x8),(10,x10)]) H) := by
 kernel_rfl
noncomputable def N37_10b (ρ : RO) (call : CallF) (yc : YieldF) (lim k : Nat) (x0 x1 x2 x7 x8 x10 : AV) (H : Heap) (kn : AV → Heap → Res) (k6 : AV → AV → Heap → Res) : Res :=
 purK (binA Try.prog H .lss 3 x10 x2) fun x103_1 =>
 condK x103_1
 (
 purK (ixS 1 x0 x10) fun x108_1 =>
 purK (ld1 ρ H x108_1) fun x109_1 =>
 purK (binA Try.prog H .sub 3 x10 (.int .i64 1)) fun x112_1 =>
 purK (ixS 1 x0 x112_1) fun x113_1 =>
 purK (ld1 ρ H x113_1) fun x114_1 =>
 resK (call lim 38 [x109_1,x114_1] H) fun x115_1 H =>
 purK (unA .not x115_1) fun x116_1 =>
 condK x116_1
 (
 k6 x7 x8 H)
 (
 purK (binA Try.prog H .sub 3 x10 (.int .i64 1)) fun x121_1 =>
 purK (binA Try.prog H .sub 3 x10 (.int .i64 1)) fun x124_1 =>
 purK (ixS 1 x0 x124_1) fun x125_1 =>
 purK (ld1 ρ H x125_1) fun x126_1 =>
 purK (ixS 1 x0 x10) fun x129_1 =>
 purK (ld1 ρ H x129_1) fun x130_1 =>
 purK (ixS 1 x0 x10) fun x131_1 =>
 effK H (stA lim H 1 x131_1 x126_1) fun _ H => bif (agn (binA Try.prog H .sub 3 x10 (.int .i64 1)) x121_1 && true) then
 purK (ixS 1 x0 x121_1) fun x132_1 =>
 effK H (stA lim H 1 x132_1 x130_1) fun _ H =>
 N37_11 ρ call yc lim k x0 x1 x2 x7 x8 x10 H kn
 else .stop))
 (
 k6 x7 x8 H)
theorem N37_10b_x (ρ call yc lim k J x0 x1 x2 x7 x8 x10 H kn k6 k1 k0 R) :
 evX (cx ρ) call yc false 37 lim k J (Code.at [1,1,0,1,0,0,1,0,0,1,1,1,1,1,1,0,1,0,0] c37) (sp 133 [(0,x0),(1,x1),(2,x2),(7,x7),(8,x8),(10,x10)]) H (kk (some [0,1,2,7,8,10]) kn [(6,(some [0,1,2,7,8]),k6),(1,(some [0,1,2,7,8]),k1),(0,(some []),k0)] R [6]) =
 purK (binA Try.prog H .lss 3 x10 x2) fun x103_1 =>
 condK x103_1
 (
 purK (ixS 1 x0 x10) fun x108_1 =>
 purK (ld1 ρ H x108_1) fun x109_1 =>
 purK (binA Try.prog H .sub 3 x10 (.int .i64 1)) fun x112_1 =>
 purK (ixS 1 x0 x112_1) fun x113_1 =>
 purK (ld1 ρ H x113_1) fun x114_1 =>
 resK (call lim 38 [x109_1,x114_1] H) fun x115_1 H =>
 purK (unA .not x115_1) fun x116_1 =>
 condK x116_1
 (
 k6 (sp 133 [(0,x0),(1,x1),(2,x2),(7,x7),(8,x8)]) H)
 (
 purK (binA Try.prog H .sub 3 x10 (.int .i64 1)) fun x121_1 =>
 purK (binA Try.prog H .sub 3 x10 (.int .i64 1)) fun x124_1 =>
 purK (ixS 1 x0 x124_1) fun x125_1 =>
 purK (ld1 ρ H x125_1) fun x126_1 =>
 purK (ixS 1 x0 x10) fun x129_1 =>
 purK (ld1 ρ H x129_1) fun x130_1 =>
 purK (ixS 1 x0 x10) fun x131_1 =>
 effK H (stA lim H 1 x131_1 x126_1) fun _ H => bif (agn (binA Try.prog H .sub 3 x10 (.int .i64 1)) x121_1 && true) then
 purK (ixS 1 x0 x121_1) fun x132_1 =>
 effK H (stA lim H 1 x132_1 x130_1) fun _ H =>
 J (Code.at [1,1,0,1,0,0,1,0,0,1,1,1,1,1,1,0,1,0,0,1,1] c37) (sp 133 [(0,x0),(1,x1),(2,x2),(7,x7),(8,x8),(10,x10)]) H (kk (some [0,1,2,7,8,10]) kn [(6,(some [0,1,2,7,8]),k6),(1,(some [0,1,2,7,8]),k1),(0,(some []),k0)] R [6])
 else .stop))
 (
 k6 (sp 133 [(0,x0),(1,x1),(2,x2),(7,x7),(8,x8)]) H) := by
 kernel_rfl
theorem N37_10b_eq (ρ call yc lim k x0 x1 x2 x7 x8 x10 H kn k6 k1 k0 R) :
 evL (cx ρ) call yc false 37 lim k (Code.at [1,1,0,1,0,0,1,0,0,1,1,1,1,1,1,0,1,0,0] c37) (sp 133 [(0,x0),(1,x1),(2,x2),(7,x7),(8,x8),(10,x10)]) H (kk (some [0,1,2,7,8,10]) kn [(6,(some [0,1,2,7,8]),k6),(1,(some [0,1,2,7,8]),k1),(0,(some []),k0)] R [6]) = N37_10b ρ call yc lim k x0 x1 x2 x7 x8 x10 H (fun x10 H => kn (sp 133 [(0,x0),(1,x1),(2,x2),(7,x7),(8,x8),(10,x10)]) H) (fun x7 x8 H => k6 (sp 133 [(0,x0),(1,x1),(2,x2),(7,x7),(8,x8)]) H) := by
 rw [evL_X,N37_10b_x]
 simp only [← evL_X,N37_10b,N37_11_eq]
noncomputable def N37_10 (ρ : RO) (call : CallF) (yc : YieldF) (lim k : Nat) (x0 x1 x2 x7 x8 x10 : AV) (H : Heap) (k6 : AV → AV → Heap → Res) : Res :=
 loopL (fun (x : AV) H kn => N37_10b ρ call yc lim k x0 x1 x2 x7 x8 x H (fun x10 H => kn x10 H) k6) k x10 H
theorem N37_10_eq (ρ call yc lim k x0 x1 x2 x7 x8 x10 H kn k6 k1 k0 R) :
 evL (cx ρ) call yc false 37 lim k (Code.at [1,1,0,1,0,0,1,0,0,1,1,1,1,1,1,0,1,0] c37) (sp 133 [(0,x0),(1,x1),(2,x2),(7,x7),(8,x8),(10,x10)]) H (kk (some [0,1,2,7,8]) kn [(6,(some [0,1,2,7,8]),k6),(1,(some [0,1,2,7,8]),k1),(0,(some []),k0)] R [6]) = N37_10 ρ call yc lim k x0 x1 x2 x7 x8 x10 H (fun x7 x8 H => k6 (sp 133 [(0,x0),(1,x1),(2,x2),(7,x7),(8,x8)]) H) := by
 have e : Code.at [1,1,0,1,0,0,1,0,0,1,1,1,1,1,1,0,1,0] c37 = .loop (Code.at [1,1,0,1,0,0,1,0,0,1,1,1,1,1,1,0,1,0,0] c37) := by kernel_rfl
 rw [e]
 unfold N37_10
 exact loop_node [0,1,2,7,8,10] (fun x : AV => (sp 133 [(0,x0),(1,x1),(2,x2),(7,x7),(8,x8),(10,(x))])) (fun (x : AV) H kn => N37_10b ρ call yc lim k x0 x1 x2 x7 x8 x H (fun x10 H => kn x10 H) (fun x7 x8 H => k6 (sp 133 [(0,x0),(1,x1),(2,x2),(7,x7),(8,x8)]) H)) (by kernel_rfl) (fun x => by kernel_rfl) (fun x H kn => N37_10b_eq ρ call yc lim k x0 x1 x2 x7 x8 (x) H kn k6 k1 k0 R) x10 (sp 133 [(0,x0),(1,x1),(2,x2),(7,x7),(8,x8),(10,x10)]) H (by kernel_rfl)
noncomputable def N37_9 (ρ : RO) (call : CallF) (yc : YieldF) (lim k : Nat) (x0 x1 x2 x7 x8 x10 : AV) (H : Heap) (kn : AV → AV → Heap → Res) : Res :=
 N37_10 ρ call yc lim k x0 x1 x2 x7 x8 x10 H kn
theorem N37_9_x (ρ call yc lim k J x0 x1 x2 x7 x8 x10 H kn k1 k0 R) :
 evX (cx ρ) call yc false 37 lim k J (Code.at [1,1,0,1,0,0,1,0,0,1,1,1,1,1,1,0,1] c37) (sp 133 [(0,x0),(1,x1),(2,x2),(7,x7),(8,x8),(10,x10)]) H (kk (some [0,1,2,7,8]) kn [(1,(some [0,1,2,7,8]),k1),(0,(some []),k0)] R [6]) =
 J (Code.at [1,1,0,1,0,0,1,0,0,1,1,1,1,1,1,0,1,0] c37) (sp 133 [(0,x0),(1,x1),(2,x2),(7,x7),(8,x8),(10,x10)]) H (kk (some [0,1,2,7,8]) kn [(6,(some [0,1,2,7,8]),kn),(1,(some [0,1,2,7,8]),k1),(0,(some []),k0)] R [6]) := by
 kernel_rfl
theorem N37_9_eq (ρ call yc lim k x0 x1 x2 x7 x8 x10 H kn k1 k0 R) :
 evL (cx ρ) call yc false 37 lim k (Code.at [1,1,0,1,0,0,1,0,0,1,1,1,1,1,1,0,1] c37) (sp 133 [(0,x0),(1,x1),(2,x2),(7,x7),(8,x8),(10,x10)]) H (kk (some [0,1,2,7,8]) kn [(1,(some [0,1,2,7,8]),k1),(0,(some []),k0)] R [6]) = N37_9 ρ call yc lim k x0 x1 x2 x7 x8 x10 H (fun x7 x8 H => kn (sp 133 [(0,x0),(1,x1),(2,x2),(7,x7),(8,x8)]) H) := by
 rw [evL_X,N37_9_x]
 simp only [← evL_X,N37_9,N37_10_eq]
noncomputable def N37_8 (ρ : RO) (call : CallF) (yc : YieldF) (lim k : Nat) (x0 x1 x2 x7 x8 : AV) (H : Heap) (kn : AV → AV → Heap → Res) : Res :=
 purK (binA Try.prog H .sub 3 x2 x7) fun x97_1 =>
 purK (binA Try.prog H .geq 3 x97_1 (.int .i64 2)) fun x98_1 =>
 condK x98_1
 (
 purK (binA Try.prog H .add 3 x7 (.int .i64 1)) fun x100_1 =>
 N37_9 ρ call yc lim k x0 x1 x2 x7 x8 x100_1 H kn)
 (
 kn x7 x8 H)
theorem N37_8_x (ρ call yc lim k J x0 x1 x2 x7 x8 H kn k1 k0 R) :
 evX (cx ρ) call yc false 37 lim k J (Code.at [1,1,0,1,0,0,1,0,0,1,1,1,1,1] c37) (sp 133 [(0,x0),(1,x1),(2,x2),(7,x7),(8,x8)]) H (kk (some [0,1,2,7,8]) kn [(1,(some [0,1,2,7,8]),k1),(0,(some []),k0)] R [6]) =
 purK (binA Try.prog H .sub 3 x2 x7) fun x97_1 =>
 purK (binA Try.prog H .geq 3 x97_1 (.int .i64 2)) fun x98_1 =>
 condK x98_1
 (
 purK (binA Try.prog H .add 3 x7 (.int .i64 1)) fun x100_1 =>
 J (Code.at [1,1,0,1,0,0,1,0,0,1,1,1,1,1,1,0,1] c37) (sp 133 [(0,x0),(1,x1),(2,x2),(7,x7),(8,x8),(10,x100_1)]) H (kk (some [0,1,2,7,8]) kn [(1,(some [0,1,2,7,8]),k1),(0,(some []),k0)] R [6]))
 (
 kn (sp 133 [(0,x0),(1,x1),(2,x2),(7,x7),(8,x8)]) H) := by
 kernel_rfl
theorem N37_8_eq (ρ call yc lim k x0 x1 x2 x7 x8 H kn k1 k0 R) :
 evL (cx ρ) call yc false 37 lim k (Code.at [1,1,0,1,0,0,1,0,0,1,1,1,1,1] c37) (sp 133 [(0,x0),(1,x1),(2,x2),(7,x7),(8,x8)]) H (kk (some [0,1,2,7,8]) kn [(1,(some [0,1,2,7,8]),k1),(0,(some []),k0)] R [6]) = N37_8 ρ call yc lim k x0 x1 x2 x7 x8 H (fun x7 x8 H => kn (sp 133 [(0,x0),(1,x1),(2,x2),(7,x7),(8,x8)]) H) := by
 rw [evL_X,N37_8_x]
 simp only [← evL_X,N37_8,N37_9_eq]
noncomputable def N37_14 (ρ : RO) (call : CallF) (yc : YieldF) (lim k : Nat) (x0 x1 x2 x7 x8 x9 : AV) (H : Heap) (kn : AV → Heap → Res) : Res :=
 purK (binA Try.prog H .sub 3 x9 (.int .i64 1)) fun x67_1 =>
 kn x67_1 H
theorem N37_14_eq (ρ call yc lim k x0 x1 x2 x7 x8 x9 H kn k4 k1 k0 R) :
 evL (cx ρ) call yc false 37 lim k (Code.at [1,1,0,1,0,0,1,0,0,1,1,1,1,0,1,0,1,0,0,1,1] c37) (sp 133 [(0,x0),(1,x1),(2,x2),(7,x7),(8,x8),(9,x9)]) H (kk (some [0,1,2,7,8,9]) kn [(4,(some [0,1,2,7,8]),k4),(1,(some [0,1,2,7,8]),k1),(0,(some []),k0)] R [6]) = N37_14 ρ call yc lim k x0 x1 x2 x7 x8 x9 H (fun x9 H => kn (sp 133 [(0,x0),(1,x1),(2,x2),(7,x7),(8,x8),(9,x9)]) H) := by
 kernel_rfl
noncomputable def N37_13b (ρ : RO) (call : CallF) (yc : YieldF) (lim k : Nat) (x0 x1 x2 x7 x8 x9 : AV) (H : Heap) (kn : AV → Heap → Res) (k4 : AV → AV → Heap → Res) : Res :=
 purK (binA Try.prog H .geq 3 x9 (.int .i64 1)) fun x65_1 =>
 condK x65_1
 (
 purK (ixS 1 x0 x9) fun x70_1 =>
 purK (ld1 ρ H x70_1) fun x71_1 =>
 purK (binA Try.prog H .sub 3 x9 (.int .i64 1)) fun x74_1 =>
 purK (ixS 1 x0 x74_1) fun x75_1 =>
 purK (ld1 ρ H x75_1) fun x76_1 =>
 resK (call lim 38 [x71_1,x76_1] H) fun x77_1 H =>
 purK (unA .not x77_1) fun x78_1 =>
 condK x78_1
 (
 k4 x7 x8 H)
 (
 purK (binA Try.prog H .sub 3 x9 (.int .i64 1)) fun x83_1 =>
 purK (binA Try.prog H .sub 3 x9 (.int .i64 1)) fun x86_1 =>
 purK (ixS 1 x0 x86_1) fun x87_1 =>
 purK (ld1 ρ H x87_1) fun x88_1 =>
 purK (ixS 1 x0 x9) fun x91_1 =>
 purK (ld1 ρ H x91_1) fun x92_1 =>
 purK (ixS 1 x0 x9) fun x93_1 =>
 effK H (stA lim H 1 x93_1 x88_1) fun _ H => bif (agn (binA Try.prog H .sub 3 x9 (.int .i64 1)) x83_1 && true) then
 purK (ixS 1 x0 x83_1) fun x94_1 =>
 effK H (stA lim H 1 x94_1 x92_1) fun _ H =>
 N37_14 ρ call yc lim k x0 x1 x2 x7 x8 x9 H kn
 else .stop))
 (
 k4 x7 x8 H)
theorem N37_13b_x (ρ call yc lim k J x0 x1 x2 x7 x8 x9 H kn k4 k1 k0 R) :
 evX (cx ρ) call yc false 37 lim k J (Code.at [1,1,0,1,0,0,1,0,0,1,1,1,1,0,1,0,1,0,0] c37) (sp 133 [(0,x0),(1,x1),(2,x2),(7,x7),(8,x8),(9,x9)]) H (kk (some [0,1,2,7,8,9]) kn [(4,(some [0,1,2,7,8]),k4),(1,(some [0,1,2,7,8]),k1),(0,(some []),k0)] R [6]) =
 purK (binA Try.prog H .geq 3 x9 (.int .i64 1)) fun x65_1 =>
 condK x65_1
 (
 purK (ixS 1 x0 x9) fun x70_1 =>
 purK (ld1 ρ H x70_1) fun x71_1 =>
 purK (binA Try.prog H .sub 3 x9 (.int .i64 1)) fun x74_1 =>
 purK (ixS 1 x0 x74_1) fun x75_1 =>
 purK (ld1 ρ H x75_1) fun x76_1 =>
 resK (call lim 38 [x71_1,x76_1] H) fun x77_1 H =>
 purK (unA .not x77_1) fun x78_1 =>
 condK x78_1
 (
 k4 (sp 133 [(0,x0),(1,x1),(2,x2),(7,x7),(8,x8)]) H)
 (
 purK (binA Try.prog H .sub 3 x9 (.int .i64 1)) fun x83_1 =>
 purK (binA Try.prog H .sub 3 x9 (.int .i64 1)) fun x86_1 =>
 purK (ixS 1 x0 x86_1) fun x87_1 =>
 purK (ld1 ρ H x87_1) fun x88_1 =>
 purK (ixS 1 x0 x9) fun x91_1 =>
 purK (ld1 ρ H x91_1) fun x92_1 =>
 purK (ixS 1 x0 x9) fun x93_1 =>
 effK H (stA lim H 1 x93_1 x88_1) fun _ H => bif (agn (binA Try.prog H .sub 3 x9 (.int .i64 1)) x83_1 && true) then
 purK (ixS 1 x0 x83_1) fun x94_1 =>
 effK H (stA lim H 1 x94_1 x92_1) fun _ H =>
 J (Code.at [1,1,0,1,0,0,1,0,0,1,1,1,1,0,1,0,1,0,0,1,1] c37) (sp 133 [(0,x0),(1,x1),(2,x2),(7,x7),(8,x8),(9,x9)]) H (kk (some [0,1,2,7,8,9]) kn [(4,(some [0,1,2,7,8]),k4),(1,(some [0,1,2,7,8]),k1),(0,(some []),k0)] R [6])
 else .stop))
 (
 k4 (sp 133 [(0,x0),(1,x1),(2,x2),(7,x7),(8,x8)]) H) := by
 kernel_rfl
theorem N37_13b_eq (ρ call yc lim k x0 x1 x2 x7 x8 x9 H kn k4 k1 k0 R) :
 evL (cx ρ) call yc false 37 lim k (Code.at [1,1,0,1,0,0,1,0,0,1,1,1,1,0,1,0,1,0,0] c37) (sp 133 [(0,x0),(1,x1),(2,x2),(7,x7),(8,x8),(9,x9)]) H (kk (some [0,1,2,7,8,9]) kn [(4,(some [0,1,2,7,8]),k4),(1,(some [0,1,2,7,8]),k1),(0,(some []),k0)] R [6]) = N37_13b ρ call yc lim k x0 x1 x2 x7 x8 x9 H (fun x9 H => kn (sp 133 [(0,x0),(1,x1),(2,x2),(7,x7),(8,x8),(9,x9)]) H) (fun x7 x8 H => k4 (sp 133 [(0,x0),(1,x1),(2,x2),(7,x7),(8,x8)]) H) := by
 rw [evL_X,N37_13b_x]
 simp only [← evL_X,N37_13b,N37_14_eq]
noncomputable def N37_13 (ρ : RO) (call : CallF) (yc : YieldF) (lim k : Nat) (x0 x1 x2 x7 x8 x9 : AV) (H : Heap) (k4 : AV → AV → Heap → Res) : Res :=
 loopL (fun (x : AV) H kn => N37_13b ρ call yc lim k x0 x1 x2 x7 x8 x H (fun x9 H => kn x9 H) k4) k x9 H
theorem N37_13_eq (ρ call yc lim k x0 x1 x2 x7 x8 x9 H kn k4 k1 k0 R) :
 evL (cx ρ) call yc false 37 lim k (Code.at [1,1,0,1,0,0,1,0,0,1,1,1,1,0,1,0,1,0] c37) (sp 133 [(0,x0),(1,x1),(2,x2),(7,x7),(8,x8),(9,x9)]) H (kk (some [0,1,2,7,8]) kn [(4,(some [0,1,2,7,8]),k4),(1,(some [0,1,2,7,8]),k1),(0,(some []),k0)] R [6]) = N37_13 ρ call yc lim k x0 x1 x2 x7 x8 x9 H (fun x7 x8 H => k4 (sp 133 [(0,x0),(1,x1),(2,x2),(7,x7),(8,x8)]) H) := by
 have e : Code.at [1,1,0,1,0,0,1,0,0,1,1,1,1,0,1,0,1,0] c37 = .loop (Code.at [1,1,0,1,0,0,1,0,0,1,1,1,1,0,1,0,1,0,0] c37) := by kernel_rfl
 rw [e]
 unfold N37_13
 exact loop_node [0,1,2,7,8,9] (fun x : AV => (sp 133 [(0,x0),(1,x1),(2,x2),(7,x7),(8,x8),(9,(x))])) (fun (x : AV) H kn => N37_13b ρ call yc lim k x0 x1 x2 x7 x8 x H (fun x9 H => kn x9 H) (fun x7 x8 H => k4 (sp 133 [(0,x0),(1,x1),(2,x2),(7,x7),(8,x8)]) H)) (by kernel_rfl) (fun x => by kernel_rfl) (fun x H kn => N37_13b_eq ρ call yc lim k x0 x1 x2 x7 x8 (x) H kn k4 k1 k0 R) x9 (sp 133 [(0,x0),(1,x1),(2,x2),(7,x7),(8,x8),(9,x9)]) H (by kernel_rfl)
noncomputable def N37_12 (ρ : RO) (call : CallF) (yc : YieldF) (lim k : Nat) (x0 x1 x2 x7 x8 x9 : AV) (H : Heap) (kn : AV → AV → Heap → Res) : Res :=
 N37_13 ρ call yc lim k x0 x1 x2 x7 x8 x9 H kn
theorem N37_12_x (ρ call yc lim k J x0 x1 x2 x7 x8 x9 H kn k1 k0 R) :
 evX (cx ρ) call yc false 37 lim k J (Code.at [1,1,0,1,0,0,1,0,0,1,1,1,1,0,1,0,1] c37) (sp 133 [(0,x0),(1,x1),(2,x2),(7,x7),(8,x8),(9,x9)]) H (kk (some [0,1,2,7,8]) kn [(1,(some [0,1,2,7,8]),k1),(0,(some []),k0)] R [6]) =
 J (Code.at [1,1,0,1,0,0,1,0,0,1,1,1,1,0,1,0,1,0] c37) (sp 133 [(0,x0),(1,x1),(2,x2),(7,x7),(8,x8),(9,x9)]) H (kk (some [0,1,2,7,8]) kn [(4,(some [0,1,2,7,8]),kn),(1,(some [0,1,2,7,8]),k1),(0,(some []),k0)] R [6]) := by
 kernel_rfl
theorem N37_12_eq (ρ call yc lim k x0 x1 x2 x7 x8 x9 H kn k1 k0 R) :
 evL (cx ρ) call yc false 37 lim k (Code.at [1,1,0,1,0,0,1,0,0,1,1,1,1,0,1,0,1] c37) (sp 133 [(0,x0),(1,x1),(2,x2),(7,x7),(8,x8),(9,x9)]) H (kk (some [0,1,2,7,8]) kn [(1,(some [0,1,2,7,8]),k1),(0,(some []),k0)] R [6]) = N37_12 ρ call yc lim k x0 x1 x2 x7 x8 x9 H (fun x7 x8 H => kn (sp 133 [(0,x0),(1,x1),(2,x2),(7,x7),(8,x8)]) H) := by
 rw [evL_X,N37_12_x]
 simp only [← evL_X,N37_12,N37_13_eq]
noncomputable def N37_7 (ρ : RO) (call : CallF) (yc : YieldF) (lim k : Nat) (x0 x1 x2 x7 x8 : AV) (H : Heap) (kn : AV → AV → Heap → Res) : Res :=
 purK (binA Try.prog H .sub 3 x7 x1) fun x60_1 =>
 purK (binA Try.prog H .geq 3 x60_1 (.int .i64 2)) fun x61_1 =>
 condK x61_1
 (
 purK (binA Try.prog H .sub 3 x7 (.int .i64 1)) fun x63_1 =>
 N37_12 ρ call yc lim k x0 x1 x2 x7 x8 x63_1 H (fun x7_1 x8_1 H =>
 N37_8 ρ call yc lim k x0 x1 x2 x7_1 x8_1 H kn))
 (
 N37_8 ρ call yc lim k x0 x1 x2 x7 x8 H kn)
theorem N37_7_x (ρ call yc lim k J x0 x1 x2 x7 x8 H kn k1 k0 R) :
 evX (cx ρ) call yc false 37 lim k J (Code.at [1,1,0,1,0,0,1,0,0,1,1,1,1] c37) (sp 133 [(0,x0),(1,x1),(2,x2),(7,x7),(8,x8)]) H (kk (some [0,1,2,7,8]) kn [(1,(some [0,1,2,7,8]),k1),(0,(some []),k0)] R [6]) =
 purK (binA Try.prog H .sub 3 x7 x1) fun x60_1 =>
 purK (binA Try.prog H .geq 3 x60_1 (.int .i64 2)) fun x61_1 =>
 condK x61_1
 (
 purK (binA Try.prog H .sub 3 x7 (.int .i64 1)) fun x63_1 =>
 J (Code.at [1,1,0,1,0,0,1,0,0,1,1,1,1,0,1,0,1] c37) (sp 133 [(0,x0),(1,x1),(2,x2),(7,x7),(8,x8),(9,x63_1)]) H (kk (some [0,1,2,7,8]) (fun s H => J (Code.at [1,1,0,1,0,0,1,0,0,1,1,1,1,1] c37) s H (kk (some [0,1,2,7,8]) kn [(1,(some [0,1,2,7,8]),k1),(0,(some []),k0)] R [6])) [(1,(some [0,1,2,7,8]),k1),(0,(some []),k0)] R [6]))
 (
 J (Code.at [1,1,0,1,0,0,1,0,0,1,1,1,1,1] c37) (sp 133 [(0,x0),(1,x1),(2,x2),(7,x7),(8,x8)]) H (kk (some [0,1,2,7,8]) kn [(1,(some [0,1,2,7,8]),k1),(0,(some []),k0)] R [6])) := by
 kernel_rfl
theorem N37_7_eq (ρ call yc lim k x0 x1 x2 x7 x8 H kn k1 k0 R) :
 evL (cx ρ) call yc false 37 lim k (Code.at [1,1,0,1,0,0,1,0,0,1,1,1,1] c37) (sp 133 [(0,x0),(1,x1),(2,x2),(7,x7),(8,x8)]) H (kk (some [0,1,2,7,8]) kn [(1,(some [0,1,2,7,8]),k1),(0,(some []),k0)] R [6]) = N37_7 ρ call yc lim k x0 x1 x2 x7 x8 H (fun x7 x8 H => kn (sp 133 [(0,x0),(1,x1),(2,x2),(7,x7),(8,x8)]) H) := by
 rw [evL_X,N37_7_x]
 simp only [← evL_X,N37_7,N37_12_eq,N37_8_eq]
noncomputable def N37_6 (ρ : RO) (call : CallF) (yc : YieldF) (lim k : Nat) (x0 x1 x2 x7 x8 : AV) (H : Heap) (kn : AV → AV → Heap → Res) (R : KR) : Res :=
 purK (binA Try.prog H .eql 3 x7 x2) fun x37_1 =>
 condK x37_1
 (
 R [(.bool true)] H)
 (
 purK (binA Try.prog H .sub 3 x2 x1) fun x40_1 =>
 purK (binA Try.prog H .lss 3 x40_1 (.int .i64 50)) fun x41_1 =>
 condK x41_1
 (
 R [(.bool false)] H)
 (
 purK (binA Try.prog H .sub 3 x7 (.int .i64 1)) fun x46_1 =>
 purK (binA Try.prog H .sub 3 x7 (.int .i64 1)) fun x49_1 =>
 purK (ixS 1 x0 x49_1) fun x50_1 =>
 purK (ld1 ρ H x50_1) fun x51_1 =>
 purK (ixS 1 x0 x7) fun x54_1 =>
 purK (ld1 ρ H x54_1) fun x55_1 =>
 purK (ixS 1 x0 x7) fun x56_1 =>
 effK H (stA lim H 1 x56_1 x51_1) fun _ H => bif (agn (binA Try.prog H .sub 3 x7 (.int .i64 1)) x46_1 && true) then
 purK (ixS 1 x0 x46_1) fun x57_1 =>
 effK H (stA lim H 1 x57_1 x55_1) fun _ H =>
 N37_7 ρ call yc lim k x0 x1 x2 x7 x8 H kn
 else .stop))
theorem N37_6_x (ρ call yc lim k J x0 x1 x2 x7 x8 H kn k1 k0 R) :
 evX (cx ρ) call yc false 37 lim k J (Code.at [1,1,0,1,0,0,1,0,0,1] c37) (sp 133 [(0,x0),(1,x1),(2,x2),(7,x7),(8,x8)]) H (kk (some [0,1,2,7,8]) kn [(1,(some [0,1,2,7,8]),k1),(0,(some []),k0)] R [6]) =
 purK (binA Try.prog H .eql 3 x7 x2) fun x37_1 =>
 condK x37_1
 (
 R [(.bool true)] H)
 (
 purK (binA Try.prog H .sub 3 x2 x1) fun x40_1 =>
 purK (binA Try.prog H .lss 3 x40_1 (.int .i64 50)) fun x41_1 =>
 condK x41_1
 (
 R [(.bool false)] H)
 (
 purK (binA Try.prog H .sub 3 x7 (.int .i64 1)) fun x46_1 =>
 purK (binA Try.prog H .sub 3 x7 (.int .i64 1)) fun x49_1 =>
 purK (ixS 1 x0 x49_1) fun x50_1 =>
 purK (ld1 ρ H x50_1) fun x51_1 =>
 purK (ixS 1 x0 x7) fun x54_1 =>
 purK (ld1 ρ H x54_1) fun x55_1 =>
 purK (ixS 1 x0 x7) fun x56_1 =>
 effK H (stA lim H 1 x56_1 x51_1) fun _ H => bif (agn (binA Try.prog H .sub 3 x7 (.int .i64 1)) x46_1 && true) then
 purK (ixS 1 x0 x46_1) fun x57_1 =>
 effK H (stA lim H 1 x57_1 x55_1) fun _ H =>
 J (Code.at [1,1,0,1,0,0,1,0,0,1,1,1,1] c37) (sp 133 [(0,x0),(1,x1),(2,x2),(7,x7),(8,x8)]) H (kk (some [0,1,2,7,8]) kn [(1,(some [0,1,2,7,8]),k1),(0,(some []),k0)] R [6])
 else .stop)) := by
 kernel_rfl
theorem N37_6_eq (ρ call yc lim k x0 x1 x2 x7 x8 H kn k1 k0 R) :
 evL (cx ρ) call yc false 37 lim k (Code.at [1,1,0,1,0,0,1,0,0,1] c37) (sp 133 [(0,x0),(1,x1),(2,x2),(7,x7),(8,x8)]) H (kk (some [0,1,2,7,8]) kn [(1,(some [0,1,2,7,8]),k1),(0,(some []),k0)] R [6]) = N37_6 ρ call yc lim k x0 x1 x2 x7 x8 H (fun x7 x8 H => kn (sp 133 [(0,x0),(1,x1),(2,x2),(7,x7),(8,x8)]) H) R := by
 rw [evL_X,N37_6_x]
 simp only [← evL_X,N37_6,N37_7_eq]
noncomputable def N37_15b (ρ : RO) (call : CallF) (yc : YieldF) (lim k : Nat) (x0 x1 x2 x7 x8 : AV) (H : Heap) (kn : AV → Heap → Res) (k2 : AV → AV → Heap → Res) : Res :=
 purK (binA Try.prog H .lss 3 x7 x2) fun x19_1 =>
 boolK (wantV x19_1 true) fun b1 => purK (bif b1 then some x0 else some (.tup [])) fun x21_1 =>
 boolK (wantV x19_1 true) fun b2 => purK (bif b2 then some x7 else some (.tup [])) fun x22_1 =>
 boolK (wantV x19_1 true) fun b3 => purK (bif b3 then ixS 1 x21_1 x22_1 else some (.tup [])) fun x23_1 =>
 boolK (wantV x19_1 true) fun b4 => purK (bif b4 then ld1 ρ H x23_1 else some (.tup [])) fun x24_1 =>
 boolK (wantV x19_1 true) fun b5 => purK (bif b5 then some x0 else some (.tup [])) fun x25_1 =>
 boolK (wantV x19_1 true) fun b6 => purK (bif b6 then some x7 else some (.tup [])) fun x26_1 =>
 boolK (wantV x19_1 true) fun b7 => purK (bif b7 then binA Try.prog H .sub 3 x26_1 (.int .i64 1) else some (.tup [])) fun x27_1 =>
 boolK (wantV x19_1 true) fun b8 => purK (bif b8 then ixS 1 x25_1 x27_1 else some (.tup [])) fun x28_1 =>
 boolK (wantV x19_1 true) fun b9 => purK (bif b9 then ld1 ρ H x28_1 else some (.tup [])) fun x29_1 =>
 boolK (wantV x19_1 true) fun b10 => resK (gRes (some b10) H (call lim 38 [x24_1,x29_1] H)) fun x30_1 H => bif !b10 || ((!b9 || true) && ((!b7 || true) && ((!b4 || true) && true))) then
 purK (gPur (wantV x19_1 true) (unA .not x30_1)) fun x31_1 =>
 purK (pickA x19_1 x31_1 (.bool false)) fun x32_1 =>
 condK x32_1
 (
 purK (binA Try.prog H .add 3 x7 (.int .i64 1)) fun x34_1 =>
 kn x34_1 H)
 (
 k2 x7 x8 H)
 else .stop
theorem N37_15b_eq (ρ call yc lim k x0 x1 x2 x7 x8 H kn k2 k1 k0 R) :
 evL (cx ρ) call yc false 37 lim k (Code.at [1,1,0,1,0,0,1,0,0,0,0,0] c37) (sp 133 [(0,x0),(1,x1),(2,x2),(7,x7),(8,x8)]) H (kk (some [0,1,2,7,8]) kn [(2,(some [0,1,2,7,8]),k2),(1,(some [0,1,2,7,8]),k1),(0,(some []),k0)] R [6]) = N37_15b ρ call yc lim k x0 x1 x2 x7 x8 H (fun x7 H => kn (sp 133 [(0,x0),(1,x1),(2,x2),(7,x7),(8,x8)]) H) (fun x7 x8 H => k2 (sp 133 [(0,x0),(1,x1),(2,x2),(7,x7),(8,x8)]) H) := by
 kernel_rfl
noncomputable def N37_15 (ρ : RO) (call : CallF) (yc : YieldF) (lim k : Nat) (x0 x1 x2 x7 x8 : AV) (H : Heap) (k2 : AV → AV → Heap → Res) : Res :=
 loopL (fun (x : AV) H kn => N37_15b ρ call yc lim k x0 x1 x2 x x8 H (fun x7 H => kn x7 H) k2) k x7 H
theorem N37_15_eq (ρ call yc lim k x0 x1 x2 x7 x8 H kn k2 k1 k0 R) :
 evL (cx ρ) call yc false 37 lim k (Code.at [1,1,0,1,0,0,1,0,0,0,0] c37) (sp 133 [(0,x0),(1,x1),(2,x2),(7,x7),(8,x8)]) H (kk (some [0,1,2,7,8]) kn [(2,(some [0,1,2,7,8]),k2),(1,(some [0,1,2,7,8]),k1),(0,(some []),k0)] R [6]) = N37_15 ρ call yc lim k x0 x1 x2 x7 x8 H (fun x7 x8 H => k2 (sp 133 [(0,x0),(1,x1),(2,x2),(7,x7),(8,x8)]) H) := by
 have e : Code.at [1,1,0,1,0,0,1,0,0,0,0] c37 = .loop (Code.at [1,1,0,1,0,0,1,0,0,0,0,0] c37) := by kernel_rfl
 rw [e]
 unfold N37_15
 exact loop_node [0,1,2,7,8] (fun x : AV => (sp 133 [(0,x0),(1,x1),(2,x2),(7,(x)),(8,x8)])) (fun (x : AV) H kn => N37_15b ρ call yc lim k x0 x1 x2 x x8 H (fun x7 H => kn x7 H) (fun x7 x8 H => k2 (sp 133 [(0,x0),(1,x1),(2,x2),(7,x7),(8,x8)]) H)) (by kernel_rfl) (fun x => by kernel_rfl) (fun x H kn => N37_15b_eq ρ call yc lim k x0 x1 x2 (x) x8 H kn k2 k1 k0 R) x7 (sp 133 [(0,x0),(1,x1),(2,x2),(7,x7),(8,x8)]) H (by kernel_rfl)
noncomputable def N37_4 (ρ : RO) (call : CallF) (yc : YieldF) (lim k : Nat) (x0 x1 x2 x7 x8 : AV) (H : Heap) (kn : AV → AV → Heap → Res) (R : KR) : Res :=
 N37_15 ρ call yc lim k x0 x1 x2 x7 x8 H (fun x7_1 x8_1 H =>
 N37_6 ρ call yc lim k x0 x1 x2 x7_1 x8_1 H (fun x7_2 x8_2 H =>
 N37_5 ρ call yc lim k x0 x1 x2 x7_2 x8_2 H kn) R)
theorem N37_4_x (ρ call yc lim k J x0 x1 x2 x7 x8 H kn k0 R) :
 evX (cx ρ) call yc false 37 lim k J (Code.at [1,1,0,1,0,0,1] c37) (sp 133 [(0,x0),(1,x1),(2,x2),(7,x7),(8,x8)]) H (kk (some [0,1,2,7,8]) kn [(0,(some []),k0)] R [6]) =
 J (Code.at [1,1,0,1,0,0,1,0,0,0,0] c37) (sp 133 [(0,x0),(1,x1),(2,x2),(7,x7),(8,x8)]) H (kk (some [0,1,2,7,8]) (fun s H => J (Code.at [1,1,0,1,0,0,1,0,0,1] c37) s H (kk (some [0,1,2,7,8]) (fun s H => J (Code.at [1,1,0,1,0,0,1,1] c37) s H (kk (some [0,1,2,7,8]) kn [(0,(some []),k0)] R [6])) [(1,(some [0,1,2,7,8]),(fun s H => J (Code.at [1,1,0,1,0,0,1,1] c37) s H (kk (some [0,1,2,7,8]) kn [(0,(some []),k0)] R [6]))),(0,(some []),k0)] R [6])) [(2,(some [0,1,2,7,8]),(fun s H => J (Code.at [1,1,0,1,0,0,1,0,0,1] c37) s H (kk (some [0,1,2,7,8]) (fun s H => J (Code.at [1,1,0,1,0,0,1,1] c37) s H (kk (some [0,1,2,7,8]) kn [(0,(some []),k0)] R [6])) [(1,(some [0,1,2,7,8]),(fun s H => J (Code.at [1,1,0,1,0,0,1,1] c37) s H (kk (some [0,1,2,7,8]) kn [(0,(some []),k0)] R [6]))),(0,(some []),k0)] R [6]))),(1,(some [0,1,2,7,8]),(fun s H => J (Code.at [1,1,0,1,0,0,1,1] c37) s H (kk (some [0,1,2,7,8]) kn [(0,(some []),k0)] R [6]))),(0,(some []),k0)] R [6]) := by
 kernel_rfl
theorem N37_4_eq (ρ call yc lim k x0 x1 x2 x7 x8 H kn k0 R) :
 evL (cx ρ) call yc false 37 lim k (Code.at [1,1,0,1,0,0,1] c37) (sp 133 [(0,x0),(1,x1),(2,x2),(7,x7),(8,x8)]) H (kk (some [0,1,2,7,8]) kn [(0,(some []),k0)] R [6]) = N37_4 ρ call yc lim k x0 x1 x2 x7 x8 H (fun x7 x8 H => kn (sp 133 [(0,x0),(1,x1),(2,x2),(7,x7),(8,x8)]) H) R := by
 rw [evL_X,N37_4_x]
 simp only [← evL_X,N37_4,N37_15_eq,N37_5_eq,N37_6_eq]
noncomputable def N37_3b (ρ : RO) (call : CallF) (yc : YieldF) (lim k : Nat) (x0 x1 x2 x7 x8 : AV) (H : Heap) (kn : AV → AV → Heap → Res) (k0 : Heap → Res) (R : KR) : Res :=
 purK (binA Try.prog H .lss 3 x8 (.int .i64 5)) fun x14_1 =>
 condK x14_1
 (
 N37_4 ρ call yc lim k x0 x1 x2 x7 x8 H kn R)
 (
 k0 H)
theorem N37_3b_x (ρ call yc lim k J x0 x1 x2 x7 x8 H kn k0 R) :
 evX (cx ρ) call yc false 37 lim k J (Code.at [1,1,0,1,0,0] c37) (sp 133 [(0,x0),(1,x1),(2,x2),(7,x7),(8,x8)]) H (kk (some [0,1,2,7,8]) kn [(0,(some []),k0)] R [6]) =
 purK (binA Try.prog H .lss 3 x8 (.int .i64 5)) fun x14_1 =>
 condK x14_1
 (
 J (Code.at [1,1,0,1,0,0,1] c37) (sp 133 [(0,x0),(1,x1),(2,x2),(7,x7),(8,x8)]) H (kk (some [0,1,2,7,8]) kn [(0,(some []),k0)] R [6]))
 (
 k0 (sp 133 []) H) := by
 kernel_rfl
theorem N37_3b_eq (ρ call yc lim k x0 x1 x2 x7 x8 H kn k0 R) :
 evL (cx ρ) call yc false 37 lim k (Code.at [1,1,0,1,0,0] c37) (sp 133 [(0,x0),(1,x1),(2,x2),(7,x7),(8,x8)]) H (kk (some [0,1,2,7,8]) kn [(0,(some []),k0)] R [6]) = N37_3b ρ call yc lim k x0 x1 x2 x7 x8 H (fun x7 x8 H => kn (sp 133 [(0,x0),(1,x1),(2,x2),(7,x7),(8,x8)]) H) (fun H => k0 (sp 133 []) H) R := by
 rw [evL_X,N37_3b_x]
 simp only [← evL_X,N37_3b,N37_4_eq]
noncomputable def N37_3 (ρ : RO) (call : CallF) (yc : YieldF) (lim k : Nat) (x0 x1 x2 x7 x8 : AV) (H : Heap) (k0 : Heap → Res) (R : KR) : Res :=
 loopL (fun (x : AV × AV) H kn => N37_3b ρ call yc lim k x0 x1 x2 x.1 x.2 H (fun x7 x8 H => kn (x7,x8) H) k0 R) k (x7,x8) H
theorem N37_3_eq (ρ call yc lim k x0 x1 x2 x7 x8 H kn k0 R) :
 evL (cx ρ) call yc false 37 lim k (Code.at [1,1,0,1,0] c37) (sp 133 [(0,x0),(1,x1),(2,x2),(7,x7),(8,x8)]) H (kk (some []) kn [(0,(some []),k0)] R [6]) = N37_3 ρ call yc lim k x0 x1 x2 x7 x8 H (fun H => k0 (sp 133 []) H) R := by
 have e : Code.at [1,1,0,1,0] c37 = .loop (Code.at [1,1,0,1,0,0] c37) := by kernel_rfl
 rw [e]
 unfold N37_3
 exact loop_node [0,1,2,7,8] (fun x : AV × AV => (sp 133 [(0,x0),(1,x1),(2,x2),(7,(x.1)),(8,(x.2))])) (fun (x : AV × AV) H kn => N37_3b ρ call yc lim k x0 x1 x2 x.1 x.2 H (fun x7 x8 H => kn (x7,x8) H) (fun H => k0 (sp 133 []) H) R) (by kernel_rfl) (fun x => by kernel_rfl) (fun x H kn => N37_3b_eq ρ call yc lim k x0 x1 x2 (x.1) (x.2) H kn k0 R) (x7,x8) (sp 133 [(0,x0),(1,x1),(2,x2),(7,x7),(8,x8)]) H (by kernel_rfl)
noncomputable def N37_2 (ρ : RO) (call : CallF) (yc : YieldF) (lim k : Nat) (x0 x1 x2 x7 x8 : AV) (H : Heap) (kn : Heap → Res) (R : KR) : Res :=
 N37_3 ρ call yc lim k x0 x1 x2 x7 x8 H kn R
theorem N37_2_x (ρ call yc lim k J x0 x1 x2 x7 x8 H kn R) :
 evX (cx ρ) call yc false 37 lim k J (Code.at [1,1,0,1] c37) (sp 133 [(0,x0),(1,x1),(2,x2),(7,x7),(8,x8)]) H (kk (some []) kn [] R [6]) =
 J (Code.at [1,1,0,1,0] c37) (sp 133 [(0,x0),(1,x1),(2,x2),(7,x7),(8,x8)]) H (kk (some []) kn [(0,(some []),kn)] R [6]) := by
 kernel_rfl
theorem N37_2_eq (ρ call yc lim k x0 x1 x2 x7 x8 H kn R) :
 evL (cx ρ) call yc false 37 lim k (Code.at [1,1,0,1] c37) (sp 133 [(0,x0),(1,x1),(2,x2),(7,x7),(8,x8)]) H (kk (some []) kn [] R [6]) = N37_2 ρ call yc lim k x0 x1 x2 x7 x8 H (fun H => kn (sp 133 []) H) R := by
 rw [evL_X,N37_2_x]
 simp only [← evL_X,N37_2,N37_3_eq]
noncomputable def L37 (ρ : RO) (call : CallF) (yc : YieldF) (lim k : Nat) (x0 x1 x2 : AV) (H : Heap) : Res :=
 purK (binA Try.prog H .add 3 x1 (.int .i64 1)) fun x12 =>
 N37_2 ρ call yc lim k x0 x1 x2 x12 (.int .i64 0) H (fun H =>
 N37_1 ρ call yc lim k H retK) retK
theorem L37_x (ρ call yc lim k J x0 x1 x2 H) :
 evX (cx ρ) call yc false 37 lim k J c37 ([x0,x1,x2] ++ List.replicate 130 (.tup [])) H (kk none (fun s H => retK (gs [6] s) H) [] retK [6]) =
 purK (binA Try.prog H .add 3 x1 (.int .i64 1)) fun x12 =>
 J (Code.at [1,1,0,1] c37) (sp 133 [(0,x0),(1,x1),(2,x2),(7,x12),(8,(.int .i64 0))]) H (kk (some []) (fun s H => J (Code.at [1,1,1] c37) s H (kk none (fun s H => retK (gs [6] s) H) [] retK [6])) [] retK [6]) := by
 kernel_rfl
theorem G37 (ρ call yc lim k x0 x1 x2 H) :
 evL (cx ρ) call yc false 37 lim k c37 ([x0,x1,x2] ++ List.replicate 130 (.tup [])) H (kk none (fun s H => retK (gs [6] s) H) [] retK [6]) = L37 ρ call yc lim k x0 x1 x2 H := by
 rw [evL_X,L37_x]
 simp only [← evL_X,L37,N37_1_eq,N37_2_eq]
theorem E37 (ρ : RO) (k lim : Nat) (x0 x1 x2 : AV) (H : Heap) : evCall (cx ρ) (k + 1) lim 37 [x0,x1,x2] H = L37 ρ (evCall (cx ρ) k) (evCY (cx ρ) k).2 lim k x0 x1 x2 H := by
 rw [evCall_body (cx ρ) k lim 37 _ H Try.f37 c37 [6] (by kernel_rfl) (by kernel_rfl) (by kernel_rfl) (by kernel_rfl) (by kernel_rfl)]
 exact G37 ρ (evCall (cx ρ) k) (evCY (cx ρ) k).2 lim k x0 x1 x2 H
-- cmp.Less[string]
noncomputable def c38 : Code := Code.of Try.prog 38
noncomputable def L38 (ρ : RO) (call : CallF) (yc : YieldF) (lim k : Nat) (x0 x1 : AV) (H : Heap) : Res :=
 resK (call lim 49 [x0] H) fun x6 H =>
 purK (gPur (wantV x6 true) (some x1)) fun x8 =>
 resK (gRes (wantV x6 true) H (call lim 49 [x8] H)) fun x9 H =>
 purK (gPur (wantV x6 true) (unA .not x9)) fun x10 =>
 purK (pickA x6 x10 (.bool false)) fun x11 =>
 purK (gPur (wantV x11 false) (some x0)) fun x13 =>
 purK (gPur (wantV x11 false) (some x1)) fun x14 =>
 purK (gPur (wantV x11 false) (binA Try.prog H .lss 9 x13 x14)) fun x15 =>
 purK (pickA x11 (.bool true) x15) fun x16 =>
 retK [x16] H
theorem G38 (ρ call yc lim k x0 x1 H) :
 evL (cx ρ) call yc false 38 lim k c38 ([x0,x1] ++ List.replicate 15 (.tup [])) H (kk none (fun s H => retK (gs [4] s) H) [] retK [4]) = L38 ρ call yc lim k x0 x1 H := by
 kernel_rfl
theorem E38 (ρ : RO) (k lim : Nat) (x0 x1 : AV) (H : Heap) : evCall (cx ρ) (k + 1) lim 38 [x0,x1] H = L38 ρ (evCall (cx ρ) k) (evCY (cx ρ) k).2 lim k x0 x1 H := by
 rw [evCall_body (cx ρ) k lim 38 _ H Try.f38 c38 [4] (by kernel_rfl) (by kernel_rfl) (by kernel_rfl) (by kernel_rfl) (by kernel_rfl)]
 exact G38 ρ (evCall (cx ρ) k) (evCY (cx ρ) k).2 lim k x0 x1 H
end Go.Proofs.Ytkmohjddojpdjab
