/- Part 4: HtTab Ht0 Ht1 Ht2 Ht3 Ht4 Ht5. -/
import Derived.Test.YtkmohjddojpdjaaBnB
import Derived.Test.YtkmohjddojpdjaaProg
import Derived.KernelRfl
-- part HtTab
/- The tables of the program: what is live, how draws go. Printed by a program of this repo. -/
set_option linter.unusedVariables false
namespace Go.Proofs.Ytkmohjddojpdjaa
open Go.Ev Go.RowKit
abbrev gs (l : List Nat) (s : List AV) : List AV := l.map fun t => s.getD t (.tup [])
abbrev RO := Addr → Option Value
abbrev KR := List AV → Heap → Res
def dr : FuncId → Nat → Option (List (Nat × Bool))
 | 5,32 => some [(0,true),(1,true),(2,true),(3,true),(4,true),(5,true),(6,true),(7,true),(8,true),(9,true),(10,true),(11,true),(12,true),(13,true),(14,false)]
 | 7,19 => some [(0,true),(1,true),(2,true),(3,true),(4,true),(5,true),(6,true),(7,true),(8,true),(9,true),(10,true),(11,true),(12,true),(13,false)]
 | 7,29 => some [(0,true),(1,true),(2,true),(3,true),(4,true),(5,true),(6,true),(7,true),(8,true),(9,true),(10,true),(11,true),(12,true),(13,true),(14,true),(15,true),(16,true),(17,true),(18,true),(19,true),(20,false)]
 | 8,17 => some [(0,true),(1,true),(2,true),(3,true),(4,true),(5,true),(6,true),(7,true),(8,true),(9,true),(10,true),(11,true),(12,true),(13,true),(14,true),(15,true),(16,true),(17,true),(18,true),(19,true),(20,true),(21,true),(22,false),(23,false)]
 | 8,25 => some [(0,true),(1,true),(2,true),(3,true),(4,true),(5,true),(6,true),(7,true),(8,true),(9,true),(10,true),(11,true),(12,true),(13,true),(14,false)]
 | 12,7 => some [(0,true),(1,true),(2,true),(3,true),(4,true),(5,true),(6,true),(7,true),(8,true),(9,true),(10,true),(11,true),(12,true),(13,true),(14,true),(15,true),(16,false),(17,false)]
 | 17,17 => some [(0,true),(1,true),(2,true),(3,true),(4,true),(5,true),(6,true),(7,true),(8,true),(9,true),(10,true),(11,true),(12,true),(13,true),(14,true),(15,true),(16,true),(17,true),(18,true),(19,false),(20,false)]
 | 27,20 => some [(10,true),(11,true),(0,true),(1,true),(2,true),(3,true),(4,true),(5,true),(6,false),(7,true),(8,true),(9,true),(12,false),(13,false)]
 | 28,15 => some [(10,true),(11,true),(0,true),(1,true),(2,true),(3,true),(4,true),(5,true),(6,false),(7,true),(8,true),(9,true),(12,false),(13,false)]
 | 35,1 => some [(0,true),(1,true),(2,true),(3,true),(5,true),(6,true),(7,true),(8,true),(9,true),(4,false),(10,false),(11,true)]
 | 40,4 => some [(0,true),(1,true),(2,true),(5,true),(6,true),(7,true),(3,false),(4,false),(8,true),(9,true)]
 | 49,8 => some [(0,true),(1,true),(2,true),(3,true),(4,true),(5,true),(6,true),(7,true),(9,true),(10,true),(11,true),(12,true),(13,true),(14,true),(8,false),(15,false),(16,true),(17,true),(18,false),(19,true),(20,true),(21,false)]
 | 51,3 => some [(0,true),(1,true),(2,true),(3,true),(4,true),(5,true),(6,true),(7,true),(8,true),(9,true),(10,true),(11,true),(12,true),(13,true),(14,false),(15,false)]
 | 60,4 => some [(0,true),(1,true),(2,true),(3,true),(4,true),(5,true),(7,true),(8,true),(9,true),(10,true),(11,true),(6,false),(12,false),(13,true)]
 | 101,0 => some [(0,true),(1,true),(2,true),(3,true),(4,true),(5,true),(6,true),(7,true),(9,true),(10,true),(11,true),(12,true),(13,true),(8,false),(14,true),(15,true)]
 | _,_ => none
def xk : FuncId → Option XK
 | 76 => some (.same)
 | 108 => some (.nozero #[3] 65)
 | _ => none
def lv7 : Nat → Option (List Nat)
 | 8 => some [0,1,5,6,7]
 | 12 => some [5,6,7,9,10,11]
 | 13 => some [5,6,7,9,10,11]
 | 17 => some [5,6,7,9,10,11,12,13]
 | 20 => some [5,6,7,9,10,11,12]
 | 22 => some [5,6,7,9,10]
 | 23 => some [5,6,7,9,10,14]
 | 24 => some [5,6,7,9,10,14]
 | 27 => some [5,6,7,9,10,14,15,16]
 | 28 => some [5,6,7,9,10,14,15,16]
 | 30 => some [5,6,7,9,10,14,15]
 | 32 => some [6,7,10]
 | _ => none
def lv19 : Nat → Option (List Nat)
 | 4 => some [2,3,4,5]
 | _ => none
def lv20 : Nat → Option (List Nat)
 | 4 => some [0,3]
 | 8 => some []
 | _ => none
def lv21 : Nat → Option (List Nat)
 | 2 => some [0,3]
 | 3 => some [0,3]
 | 7 => some []
 | 1000006 => some [0,3,41]
 | _ => none
def lv22 : Nat → Option (List Nat)
 | 5 => some [0,4,14,15,16]
 | 12 => some [4]
 | _ => none
def lv23 : Nat → Option (List Nat)
 | 3 => some [3,6,7,8]
 | 7 => some [3]
 | _ => none
def lv25 : Nat → Option (List Nat)
 | 7 => some [7,9]
 | _ => none
def lv26 : Nat → Option (List Nat)
 | 3 => some [0,1,5,6]
 | 4 => some [0,1,5,6]
 | 7 => some [5]
 | 1000006 => some [0,1,5,6,39]
 | _ => none
def lv27 : Nat → Option (List Nat)
 | 4 => some [0,1,5,7,8,9]
 | 5 => some [0,1,5,7,8,9]
 | 8 => some [0,1,5,7,8]
 | 10 => some [0,1,5,7]
 | 11 => some [0,1,5,7,10]
 | 12 => some [0,1,5,7,10]
 | 16 => some [0,1,5,7,10,11,12]
 | 17 => some [0,1,5,7,10,11,12]
 | 20 => some [0,1,5,7,10,11]
 | 22 => some [0,1,5,7,10,13]
 | 25 => some [7]
 | 1000019 => some [0,1,5,7,10,11,12,87]
 | _ => none
def lv29 : Nat → Option (List Nat)
 | 3 => some [0,1,5,8]
 | _ => none
def lv30 : Nat → Option (List Nat)
 | 7 => some [3,4,5,6]
 | 8 => some [2,3,4,5]
 | _ => none
def lv31 : Nat → Option (List Nat)
 | 7 => some [9,10,24,25,26]
 | 12 => some [9,10,24,25,26]
 | 13 => some [9,10]
 | _ => none
def lv44 : Nat → Option (List Nat)
 | 3 => some [0,1,5,6]
 | 4 => some [0,1,5,6]
 | 7 => some [5]
 | _ => none
def lv46 : Nat → Option (List Nat)
 | 4 => some [0,3]
 | 5 => some [0,3]
 | 9 => some [0,3,4,5]
 | 10 => some [0,3,4,5]
 | 14 => some [0,3]
 | 16 => some [0]
 | _ => none
def lv49 : Nat → Option (List Nat)
 | 5 => some [1,6,21,22,23]
 | 9 => some [1,6,21,22,23]
 | 10 => some [6]
 | 13 => some [6,63,64,65]
 | 17 => some [6,9,10,11,63,64,65,73,74,75]
 | 21 => some [6,9,10,11,63,64,65,73,74,75]
 | 22 => some [6,9,10,11,63,64,65]
 | 25 => some [6,63,64,65]
 | 26 => some [6]
 | _ => none
def lv51 : Nat → Option (List Nat)
 | 2 => some [0,3,5]
 | 5 => some [5]
 | _ => none
def lv53 : Nat → Option (List Nat)
 | 5 => some [0,3,4]
 | 8 => some [3]
 | _ => none
def lv54 : Nat → Option (List Nat)
 | 3 => some [0,3,4]
 | 7 => some [3]
 | _ => none
def lv65 : Nat → Option (List Nat)
 | 2 => some [0,1,2,3,8,9]
 | 10 => some [0,1,2,3,8,9,10]
 | 15 => some [0,1,2,3,8,9,10,11,12]
 | 17 => some [0,1,2,3,8,9,10,11]
 | 19 => some [0,2,3,8,9,13]
 | 20 => some [0,1,2,3,10,11]
 | 21 => some [0,1,2,3,10,14,15]
 | 27 => some [0,2,3,8,9,14]
 | 30 => some [0,1,3,8,9,14]
 | 1000016 => some [0,1,2,3,8,9,10,11,68]
 | _ => none
def lv67 : Nat → Option (List Nat)
 | 2 => some [0,1,7,8]
 | 7 => some []
 | _ => none
def lv68 : Nat → Option (List Nat)
 | 5 => some [0,1,5,6]
 | 6 => some [0,1,5,6]
 | 11 => some [0,5]
 | _ => none
def lv69 : Nat → Option (List Nat)
 | 4 => some [0,3,4,5]
 | 5 => some [0,3,4,5]
 | 7 => some [0,3,4,5,24,25]
 | 12 => some [0,3,4,5,6,7,24,25]
 | 14 => some [0,3,4,5,24,25]
 | 15 => some [3]
 | _ => none
def lv71 : Nat → Option (List Nat)
 | 1 => some [0,2,3]
 | _ => none
def lv75 : Nat → Option (List Nat)
 | 1 => some [0,5]
 | _ => none
def lv77 : Nat → Option (List Nat)
 | 7 => some [0,1,6,24,25]
 | 11 => some [0,1,6]
 | 14 => some [1,6,51,52,53]
 | 19 => some [1,6]
 | _ => none
def lv83 : Nat → Option (List Nat)
 | 1 => some [0,1,2,6]
 | 2 => some [0,1,2,6]
 | 4 => some [0,1,2,6,7]
 | 5 => some [0,1,2,6,7]
 | _ => none
def lv84 : Nat → Option (List Nat)
 | 4 => some [0,6,7,8,9]
 | 7 => some [0,6,7,8]
 | 8 => some [0,6,7,10]
 | 9 => some [0,6,7,10]
 | _ => none
def lv85 : Nat → Option (List Nat)
 | 5 => some [0,1,6,7,8,9]
 | 6 => some [0,1,6,7,8,9]
 | 10 => some [0,1,6,7,8,9,10]
 | _ => none
def lv86 : Nat → Option (List Nat)
 | 6 => some [0,8,9,10,11,12]
 | 11 => some [0,9,10,11,12]
 | 12 => some [9,11]
 | 1000015 => some [11,49,51]
 | _ => none
def lv87 : Nat → Option (List Nat)
 | 2 => some [0,6,7]
 | _ => none
def lv88 : Nat → Option (List Nat)
 | 3 => some [0,1,2,7,8]
 | 4 => some [0,1,2,7,8]
 | 5 => some [0,1,2,7,8]
 | 7 => some [0,1,2,7,8]
 | 12 => some [0,1,2,7,8]
 | 14 => some [0,1,2,7,8,9]
 | 15 => some [0,1,2,7,8,9]
 | 18 => some [0,1,2,7,8]
 | 20 => some [0,1,2,7,8,10]
 | 21 => some [0,1,2,7,8,10]
 | 24 => some []
 | _ => none
def lv90 : Nat → Option (List Nat)
 | 3 => some [0,1,9,10]
 | 5 => some [0,1,9,10]
 | 7 => some [0,1,9,10]
 | 11 => some [9]
 | _ => none
def lv91 : Nat → Option (List Nat)
 | 3 => some [0,1,10,11]
 | 5 => some [0,1,10,11]
 | 7 => some [0,1,10,11]
 | 11 => some [0,1,10,11]
 | 13 => some [0,1,10,11]
 | 15 => some [0,1,10,11]
 | 17 => some [0,1,10,11]
 | 21 => some [0,1,11]
 | _ => none
def lv92 : Nat → Option (List Nat)
 | 4 => some [0,2]
 | 7 => some [0,2]
 | _ => none
def lv93 : Nat → Option (List Nat)
 | 4 => some [0,2]
 | 7 => some [0,2]
 | 10 => some [0,2]
 | _ => none
def lv94 : Nat → Option (List Nat)
 | 2 => some [0,1,7,8]
 | 7 => some []
 | _ => none
def lv95 : Nat → Option (List Nat)
 | 5 => some [2,4,6,8]
 | 8 => some [2,4,6,10,11]
 | 1000004 => some [2,4,6,8,50]
 | 1000007 => some [2,4,6,10,11,73]
 | _ => none
def lv96 : Nat → Option (List Nat)
 | 3 => some [0,3,12,13]
 | 7 => some [3]
 | _ => none
def lv102 : Nat → Option (List Nat)
 | 1 => some [0,2,3,8]
 | 5 => some [0,2,3,8,9]
 | 7 => some [0,2,3,9]
 | 1000004 => some [0,2,3,8,9,36]
 | _ => none
def lv104 : Nat → Option (List Nat)
 | 4 => some [0]
 | _ => none
def lv106 : Nat → Option (List Nat)
 | 4 => some [2]
 | _ => none
def lv : FuncId → Nat → Option (List Nat)
 | 7 => lv7
 | 19 => lv19
 | 20 => lv20
 | 21 => lv21
 | 22 => lv22
 | 23 => lv23
 | 25 => lv25
 | 26 => lv26
 | 27 => lv27
 | 29 => lv29
 | 30 => lv30
 | 31 => lv31
 | 44 => lv44
 | 46 => lv46
 | 49 => lv49
 | 51 => lv51
 | 53 => lv53
 | 54 => lv54
 | 65 => lv65
 | 67 => lv67
 | 68 => lv68
 | 69 => lv69
 | 71 => lv71
 | 75 => lv75
 | 77 => lv77
 | 83 => lv83
 | 84 => lv84
 | 85 => lv85
 | 86 => lv86
 | 87 => lv87
 | 88 => lv88
 | 90 => lv90
 | 91 => lv91
 | 92 => lv92
 | 93 => lv93
 | 94 => lv94
 | 95 => lv95
 | 96 => lv96
 | 102 => lv102
 | 104 => lv104
 | 106 => lv106
 | _ => fun _ => none
noncomputable def cx (ρ : RO) : Ctx := { P := Try.prog,ext := xk,ρ := ρ,live := lv,draw := dr,pur := fun _ => false,strict := false }
end Go.Proofs.Ytkmohjddojpdjaa

-- part Ht0
/- Functions, lifted. Printed by a program of this repo. -/
set_option linter.unusedVariables false
set_option linter.unusedSimpArgs false
set_option maxRecDepth 100000
set_option maxHeartbeats 4000000
namespace Go.Proofs.Ytkmohjddojpdjaa
open Go.Ev Go.RowKit
-- haycroft/haycroftlaw20.HistoryLast
noncomputable def c7 : Code := Code.of Try.prog 7
noncomputable def N7_3 (ρ : RO) (call : CallF) (yc : YieldF) (lim k : Nat) (x6 x7 x10 : AV) (H : Heap) (R : KR) : Res :=
 purK (binA Try.prog H .eql 4 x6 x10) fun x140_1 =>
 purK (gPur (wantV x140_1 true) (some x7)) fun x142_1 =>
 purK (gPur (wantV x140_1 true) (binA Try.prog H .eql 25 x142_1 (.int .i64 0))) fun x143_1 =>
 purK (pickA x140_1 x143_1 (.bool false)) fun x144_1 =>
 R [x144_1] H
theorem N7_3_eq (ρ call yc lim k x6 x7 x10 H R) :
 evL (cx ρ) call yc false 7 lim k (Code.at [1,1,1,1,1,1,1,1,1,1] c7) (sp 145 [(6,x6),(7,x7),(10,x10)]) H (kk none (fun s H => R (gs [4] s) H) [] R [4]) = N7_3 ρ call yc lim k x6 x7 x10 H R := by
 kernel_rfl
noncomputable def N7_6 (ρ : RO) (call : CallF) (yc : YieldF) (lim k : Nat) (x5 x6 x7 x9 x10 x14 : AV) (H : Heap) (kn : AV → Heap → Res) : Res :=
 purK (binA Try.prog H .add 3 x14 (.int .i64 1)) fun x93_1 =>
 kn x93_1 H
theorem N7_6_eq (ρ call yc lim k x5 x6 x7 x9 x10 x14 H kn k4 R) :
 evL (cx ρ) call yc false 7 lim k (Code.at [1,1,1,1,1,1,1,1,1,0,1,0,0,1,1] c7) (sp 145 [(5,x5),(6,x6),(7,x7),(9,x9),(10,x10),(14,x14)]) H (kk (some [5,6,7,9,10,14]) kn [(4,(some [6,7,10]),k4)] R [4]) = N7_6 ρ call yc lim k x5 x6 x7 x9 x10 x14 H (fun x14 H => kn (sp 145 [(5,x5),(6,x6),(7,x7),(9,x9),(10,x10),(14,x14)]) H) := by
 kernel_rfl
noncomputable def N7_7 (ρ : RO) (call : CallF) (yc : YieldF) (lim k : Nat) (x5 x6 x7 x9 x10 x14 x15 : AV) (H : Heap) (kn : AV → Heap → Res) (R : KR) : Res :=
 purK (unA .not x15) fun x121_1 =>
 purK (gPur (wantV x121_1 false) (some x14)) fun x123_1 =>
 purK (gPur (wantV x121_1 false) (binA Try.prog H .gtr 3 x123_1 (.int .i64 0))) fun x124_1 =>
 purK (gPur (wantV x121_1 false) (some x124_1)) fun x125_1 =>
 purK (gPur (wantV x125_1 true) (some x5)) fun x126_1 =>
 purK (gPur (wantV x125_1 true) (some x14)) fun x127_1 =>
 purK (gPur (wantV x125_1 true) (binA Try.prog H .sub 3 x127_1 (.int .i64 1))) fun x128_1 =>
 purK (gPur (wantV x125_1 true) (ixS 1 x126_1 x128_1)) fun x129_1 =>
 purK (gPur (wantV x125_1 true) (ld1 ρ H x129_1)) fun x130_1 =>
 purK (gPur (wantV x125_1 true) (some x5)) fun x131_1 =>
 purK (gPur (wantV x125_1 true) (some x14)) fun x132_1 =>
 purK (gPur (wantV x125_1 true) (ixS 1 x131_1 x132_1)) fun x133_1 =>
 purK (gPur (wantV x125_1 true) (ld1 ρ H x133_1)) fun x134_1 =>
 purK (gPur (wantV x125_1 true) (binA Try.prog H .geq 9 x130_1 x134_1)) fun x135_1 =>
 purK (gPur (wantV x121_1 false) (pickA x125_1 x135_1 (.bool false))) fun x136_1 =>
 purK (pickA x121_1 (.bool true) x136_1) fun x137_1 =>
 condK x137_1
 (
 R [(.bool false)] H)
 (
 kn x14 H)
theorem N7_7_eq (ρ call yc lim k x5 x6 x7 x9 x10 x14 x15 H kn k5 k4 R) :
 evL (cx ρ) call yc false 7 lim k (Code.at [1,1,1,1,1,1,1,1,1,0,1,0,0,1,0,0,1,1] c7) (sp 145 [(5,x5),(6,x6),(7,x7),(9,x9),(10,x10),(14,x14),(15,x15)]) H (kk (some [5,6,7,9,10,14]) kn [(5,(some [5,6,7,9,10,14]),k5),(4,(some [6,7,10]),k4)] R [4]) = N7_7 ρ call yc lim k x5 x6 x7 x9 x10 x14 x15 H (fun x14 H => kn (sp 145 [(5,x5),(6,x6),(7,x7),(9,x9),(10,x10),(14,x14)]) H) R := by
 kernel_rfl
noncomputable def N7_10 (ρ : RO) (call : CallF) (yc : YieldF) (lim k : Nat) (x5 x6 x7 x9 x10 x14 x15 x16 : AV) (H : Heap) (kn : AV → AV → Heap → Res) : Res :=
 purK (binA Try.prog H .add 3 x16 (.int .i64 1)) fun x99_1 =>
 kn x15 x99_1 H
theorem N7_10_eq (ρ call yc lim k x5 x6 x7 x9 x10 x14 x15 x16 H kn k6 k5 k4 R) :
 evL (cx ρ) call yc false 7 lim k (Code.at [1,1,1,1,1,1,1,1,1,0,1,0,0,1,0,0,1,0,1,0,0,1,1] c7) (sp 145 [(5,x5),(6,x6),(7,x7),(9,x9),(10,x10),(14,x14),(15,x15),(16,x16)]) H (kk (some [5,6,7,9,10,14,15,16]) kn [(6,(some [5,6,7,9,10,14,15]),k6),(5,(some [5,6,7,9,10,14]),k5),(4,(some [6,7,10]),k4)] R [4]) = N7_10 ρ call yc lim k x5 x6 x7 x9 x10 x14 x15 x16 H (fun x15 x16 H => kn (sp 145 [(5,x5),(6,x6),(7,x7),(9,x9),(10,x10),(14,x14),(15,x15),(16,x16)]) H) := by
 kernel_rfl
noncomputable def N7_9b (ρ : RO) (call : CallF) (yc : YieldF) (lim k : Nat) (x5 x6 x7 x9 x10 x14 x15 x16 : AV) (H : Heap) (kn : AV → AV → Heap → Res) (k6 : AV → AV → Heap → Res) : Res :=
 purK (lenS x9) fun x96_1 =>
 purK (binA Try.prog H .lss 3 x16 x96_1) fun x97_1 =>
 condK x97_1
 (
 boolK (wantV x15 false) fun b1 => purK (bif b1 then some x9 else some (.tup [])) fun x102_1 =>
 boolK (wantV x15 false) fun b2 => purK (bif b2 then some x16 else some (.tup [])) fun x103_1 =>
 boolK (wantV x15 false) fun b3 => purK (bif b3 then ixS 2 x102_1 x103_1 else some (.tup [])) fun x104_1 =>
 boolK (wantV x15 false) fun b4 => purK (bif b4 then addA 1 x104_1 else some (.tup [])) fun x105_1 =>
 boolK (wantV x15 false) fun b5 => purK (bif b5 then ld1 ρ H x105_1 else some (.tup [])) fun x106_1 =>
 boolK (wantV x15 false) fun b6 => purK (bif b6 then some x106_1 else some (.tup [])) fun x107_1 =>
 boolK (wantV x107_1 true) fun b7 => purK (bif b7 then some x9 else some (.tup [])) fun x108_1 =>
 boolK (wantV x107_1 true) fun b8 => purK (bif b8 then some x16 else some (.tup [])) fun x109_1 =>
 boolK (wantV x107_1 true) fun b9 => purK (bif b9 then ixS 2 x108_1 x109_1 else some (.tup [])) fun x110_1 =>
 boolK (wantV x107_1 true) fun b10 => purK (bif b10 then addA 0 x110_1 else some (.tup [])) fun x111_1 =>
 boolK (wantV x107_1 true) fun b11 => purK (bif b11 then ld1 ρ H x111_1 else some (.tup [])) fun x112_1 =>
 boolK (wantV x107_1 true) fun b12 => purK (bif b12 then some x5 else some (.tup [])) fun x113_1 =>
 boolK (wantV x107_1 true) fun b13 => purK (bif b13 then some x14 else some (.tup [])) fun x114_1 =>
 boolK (wantV x107_1 true) fun b14 => purK (bif b14 then ixS 1 x113_1 x114_1 else some (.tup [])) fun x115_1 =>
 boolK (wantV x107_1 true) fun b15 => purK (bif b15 then ld1 ρ H x115_1 else some (.tup [])) fun x116_1 =>
 boolK (wantV x107_1 true) fun b16 => purK (bif b16 then binA Try.prog H .eql 9 x112_1 x116_1 else some (.tup [])) fun x117_1 =>
 boolK (wantV x15 false) fun b17 => purK (bif b17 then pickA x107_1 x117_1 (.bool false) else some (.tup [])) fun x118_1 =>
 purK (pickA x15 (.bool true) x118_1) fun x119_1 =>
 bif ((!b16 || true) && ((!b15 || true) && ((!b11 || true) && ((!b5 || true) && true)))) then
 N7_10 ρ call yc lim k x5 x6 x7 x9 x10 x14 x119_1 x16 H kn
 else .stop)
 (
 k6 x14 x15 H)
theorem N7_9b_x (ρ call yc lim k J x5 x6 x7 x9 x10 x14 x15 x16 H kn k6 k5 k4 R) :
 evX (cx ρ) call yc false 7 lim k J (Code.at [1,1,1,1,1,1,1,1,1,0,1,0,0,1,0,0,1,0,1,0,0] c7) (sp 145 [(5,x5),(6,x6),(7,x7),(9,x9),(10,x10),(14,x14),(15,x15),(16,x16)]) H (kk (some [5,6,7,9,10,14,15,16]) kn [(6,(some [5,6,7,9,10,14,15]),k6),(5,(some [5,6,7,9,10,14]),k5),(4,(some [6,7,10]),k4)] R [4]) =
 purK (lenS x9) fun x96_1 =>
 purK (binA Try.prog H .lss 3 x16 x96_1) fun x97_1 =>
 condK x97_1
 (
 boolK (wantV x15 false) fun b1 => purK (bif b1 then some x9 else some (.tup [])) fun x102_1 =>
 boolK (wantV x15 false) fun b2 => purK (bif b2 then some x16 else some (.tup [])) fun x103_1 =>
 boolK (wantV x15 false) fun b3 => purK (bif b3 then ixS 2 x102_1 x103_1 else some (.tup [])) fun x104_1 =>
 boolK (wantV x15 false) fun b4 => purK (bif b4 then addA 1 x104_1 else some (.tup [])) fun x105_1 =>
 boolK (wantV x15 false) fun b5 => purK (bif b5 then ld1 ρ H x105_1 else some (.tup [])) fun x106_1 =>
 boolK (wantV x15 false) fun b6 => purK (bif b6 then some x106_1 else some (.tup [])) fun x107_1 =>
 boolK (wantV x107_1 true) fun b7 => purK (bif b7 then some x9 else some (.tup [])) fun x108_1 =>
 boolK (wantV x107_1 true) fun b8 => purK (bif b8 then some x16 else some (.tup [])) fun x109_1 =>
 boolK (wantV x107_1 true) fun b9 => purK (bif b9 then ixS 2 x108_1 x109_1 else some (.tup [])) fun x110_1 =>
 boolK (wantV x107_1 true) fun b10 => purK (bif b10 then addA 0 x110_1 else some (.tup [])) fun x111_1 =>
 boolK (wantV x107_1 true) fun b11 => purK (bif b11 then ld1 ρ H x111_1 else some (.tup [])) fun x112_1 =>
 boolK (wantV x107_1 true) fun b12 => purK (bif b12 then some x5 else some (.tup [])) fun x113_1 =>
 boolK (wantV x107_1 true) fun b13 => purK (bif b13 then some x14 else some (.tup [])) fun x114_1 =>
 boolK (wantV x107_1 true) fun b14 => purK (bif b14 then ixS 1 x113_1 x114_1 else some (.tup [])) fun x115_1 =>
 boolK (wantV x107_1 true) fun b15 => purK (bif b15 then ld1 ρ H x115_1 else some (.tup [])) fun x116_1 =>
 boolK (wantV x107_1 true) fun b16 => purK (bif b16 then binA Try.prog H .eql 9 x112_1 x116_1 else some (.tup [])) fun x117_1 =>
 boolK (wantV x15 false) fun b17 => purK (bif b17 then pickA x107_1 x117_1 (.bool false) else some (.tup [])) fun x118_1 =>
 purK (pickA x15 (.bool true) x118_1) fun x119_1 =>
 bif ((!b16 || true) && ((!b15 || true) && ((!b11 || true) && ((!b5 || true) && true)))) then
 J (Code.at [1,1,1,1,1,1,1,1,1,0,1,0,0,1,0,0,1,0,1,0,0,1,1] c7) (sp 145 [(5,x5),(6,x6),(7,x7),(9,x9),(10,x10),(14,x14),(15,x119_1),(16,x16)]) H (kk (some [5,6,7,9,10,14,15,16]) kn [(6,(some [5,6,7,9,10,14,15]),k6),(5,(some [5,6,7,9,10,14]),k5),(4,(some [6,7,10]),k4)] R [4])
 else .stop)
 (
 k6 (sp 145 [(5,x5),(6,x6),(7,x7),(9,x9),(10,x10),(14,x14),(15,x15)]) H) := by
 kernel_rfl
theorem N7_9b_eq (ρ call yc lim k x5 x6 x7 x9 x10 x14 x15 x16 H kn k6 k5 k4 R) :
 evL (cx ρ) call yc false 7 lim k (Code.at [1,1,1,1,1,1,1,1,1,0,1,0,0,1,0,0,1,0,1,0,0] c7) (sp 145 [(5,x5),(6,x6),(7,x7),(9,x9),(10,x10),(14,x14),(15,x15),(16,x16)]) H (kk (some [5,6,7,9,10,14,15,16]) kn [(6,(some [5,6,7,9,10,14,15]),k6),(5,(some [5,6,7,9,10,14]),k5),(4,(some [6,7,10]),k4)] R [4]) = N7_9b ρ call yc lim k x5 x6 x7 x9 x10 x14 x15 x16 H (fun x15 x16 H => kn (sp 145 [(5,x5),(6,x6),(7,x7),(9,x9),(10,x10),(14,x14),(15,x15),(16,x16)]) H) (fun x14 x15 H => k6 (sp 145 [(5,x5),(6,x6),(7,x7),(9,x9),(10,x10),(14,x14),(15,x15)]) H) := by
 rw [evL_X,N7_9b_x]
 simp only [← evL_X,N7_9b,N7_10_eq]
noncomputable def N7_9 (ρ : RO) (call : CallF) (yc : YieldF) (lim k : Nat) (x5 x6 x7 x9 x10 x14 x15 x16 : AV) (H : Heap) (k6 : AV → AV → Heap → Res) : Res :=
 loopL (fun (x : AV × AV) H kn => N7_9b ρ call yc lim k x5 x6 x7 x9 x10 x14 x.1 x.2 H (fun x15 x16 H => kn (x15,x16) H) k6) k (x15,x16) H
theorem N7_9_eq (ρ call yc lim k x5 x6 x7 x9 x10 x14 x15 x16 H kn k6 k5 k4 R) :
 evL (cx ρ) call yc false 7 lim k (Code.at [1,1,1,1,1,1,1,1,1,0,1,0,0,1,0,0,1,0,1,0] c7) (sp 145 [(5,x5),(6,x6),(7,x7),(9,x9),(10,x10),(14,x14),(15,x15),(16,x16)]) H (kk (some [5,6,7,9,10,14,15]) kn [(6,(some [5,6,7,9,10,14,15]),k6),(5,(some [5,6,7,9,10,14]),k5),(4,(some [6,7,10]),k4)] R [4]) = N7_9 ρ call yc lim k x5 x6 x7 x9 x10 x14 x15 x16 H (fun x14 x15 H => k6 (sp 145 [(5,x5),(6,x6),(7,x7),(9,x9),(10,x10),(14,x14),(15,x15)]) H) := by
 have e : Code.at [1,1,1,1,1,1,1,1,1,0,1,0,0,1,0,0,1,0,1,0] c7 = .loop (Code.at [1,1,1,1,1,1,1,1,1,0,1,0,0,1,0,0,1,0,1,0,0] c7) := by kernel_rfl
 rw [e]
 unfold N7_9
 exact loop_node [5,6,7,9,10,14,15,16] (fun x : AV × AV => (sp 145 [(5,x5),(6,x6),(7,x7),(9,x9),(10,x10),(14,x14),(15,(x.1)),(16,(x.2))])) (fun (x : AV × AV) H kn => N7_9b ρ call yc lim k x5 x6 x7 x9 x10 x14 x.1 x.2 H (fun x15 x16 H => kn (x15,x16) H) (fun x14 x15 H => k6 (sp 145 [(5,x5),(6,x6),(7,x7),(9,x9),(10,x10),(14,x14),(15,x15)]) H)) (by kernel_rfl) (fun x => by kernel_rfl) (fun x H kn => N7_9b_eq ρ call yc lim k x5 x6 x7 x9 x10 x14 (x.1) (x.2) H kn k6 k5 k4 R) (x15,x16) (sp 145 [(5,x5),(6,x6),(7,x7),(9,x9),(10,x10),(14,x14),(15,x15),(16,x16)]) H (by kernel_rfl)
noncomputable def N7_8 (ρ : RO) (call : CallF) (yc : YieldF) (lim k : Nat) (x5 x6 x7 x9 x10 x14 x15 x16 : AV) (H : Heap) (kn : AV → AV → Heap → Res) : Res :=
 N7_9 ρ call yc lim k x5 x6 x7 x9 x10 x14 x15 x16 H kn
theorem N7_8_x (ρ call yc lim k J x5 x6 x7 x9 x10 x14 x15 x16 H kn k5 k4 R) :
 evX (cx ρ) call yc false 7 lim k J (Code.at [1,1,1,1,1,1,1,1,1,0,1,0,0,1,0,0,1,0,1] c7) (sp 145 [(5,x5),(6,x6),(7,x7),(9,x9),(10,x10),(14,x14),(15,x15),(16,x16)]) H (kk (some [5,6,7,9,10,14,15]) kn [(5,(some [5,6,7,9,10,14]),k5),(4,(some [6,7,10]),k4)] R [4]) =
 J (Code.at [1,1,1,1,1,1,1,1,1,0,1,0,0,1,0,0,1,0,1,0] c7) (sp 145 [(5,x5),(6,x6),(7,x7),(9,x9),(10,x10),(14,x14),(15,x15),(16,x16)]) H (kk (some [5,6,7,9,10,14,15]) kn [(6,(some [5,6,7,9,10,14,15]),kn),(5,(some [5,6,7,9,10,14]),k5),(4,(some [6,7,10]),k4)] R [4]) := by
 kernel_rfl
theorem N7_8_eq (ρ call yc lim k x5 x6 x7 x9 x10 x14 x15 x16 H kn k5 k4 R) :
 evL (cx ρ) call yc false 7 lim k (Code.at [1,1,1,1,1,1,1,1,1,0,1,0,0,1,0,0,1,0,1] c7) (sp 145 [(5,x5),(6,x6),(7,x7),(9,x9),(10,x10),(14,x14),(15,x15),(16,x16)]) H (kk (some [5,6,7,9,10,14,15]) kn [(5,(some [5,6,7,9,10,14]),k5),(4,(some [6,7,10]),k4)] R [4]) = N7_8 ρ call yc lim k x5 x6 x7 x9 x10 x14 x15 x16 H (fun x14 x15 H => kn (sp 145 [(5,x5),(6,x6),(7,x7),(9,x9),(10,x10),(14,x14),(15,x15)]) H) := by
 rw [evL_X,N7_8_x]
 simp only [← evL_X,N7_8,N7_9_eq]
noncomputable def N7_5b (ρ : RO) (call : CallF) (yc : YieldF) (lim k : Nat) (x5 x6 x7 x9 x10 x14 : AV) (H : Heap) (kn : AV → Heap → Res) (k4 : AV → AV → AV → Heap → Res) (R : KR) : Res :=
 purK (lenS x5) fun x90_1 =>
 purK (binA Try.prog H .lss 3 x14 x90_1) fun x91_1 =>
 condK x91_1
 (
 N7_8 ρ call yc lim k x5 x6 x7 x9 x10 x14 (.bool false) (.int .i64 0) H (fun x14_1 x15_1 H =>
 N7_7 ρ call yc lim k x5 x6 x7 x9 x10 x14_1 x15_1 H (fun x14_2 H =>
 N7_6 ρ call yc lim k x5 x6 x7 x9 x10 x14_2 H kn) R))
 (
 k4 x6 x7 x10 H)
theorem N7_5b_x (ρ call yc lim k J x5 x6 x7 x9 x10 x14 H kn k4 R) :
 evX (cx ρ) call yc false 7 lim k J (Code.at [1,1,1,1,1,1,1,1,1,0,1,0,0] c7) (sp 145 [(5,x5),(6,x6),(7,x7),(9,x9),(10,x10),(14,x14)]) H (kk (some [5,6,7,9,10,14]) kn [(4,(some [6,7,10]),k4)] R [4]) =
 purK (lenS x5) fun x90_1 =>
 purK (binA Try.prog H .lss 3 x14 x90_1) fun x91_1 =>
 condK x91_1
 (
 J (Code.at [1,1,1,1,1,1,1,1,1,0,1,0,0,1,0,0,1,0,1] c7) (sp 145 [(5,x5),(6,x6),(7,x7),(9,x9),(10,x10),(14,x14),(15,(.bool false)),(16,(.int .i64 0))]) H (kk (some [5,6,7,9,10,14,15]) (fun s H => J (Code.at [1,1,1,1,1,1,1,1,1,0,1,0,0,1,0,0,1,1] c7) s H (kk (some [5,6,7,9,10,14]) (fun s H => J (Code.at [1,1,1,1,1,1,1,1,1,0,1,0,0,1,1] c7) s H (kk (some [5,6,7,9,10,14]) kn [(4,(some [6,7,10]),k4)] R [4])) [(5,(some [5,6,7,9,10,14]),(fun s H => J (Code.at [1,1,1,1,1,1,1,1,1,0,1,0,0,1,1] c7) s H (kk (some [5,6,7,9,10,14]) kn [(4,(some [6,7,10]),k4)] R [4]))),(4,(some [6,7,10]),k4)] R [4])) [(5,(some [5,6,7,9,10,14]),(fun s H => J (Code.at [1,1,1,1,1,1,1,1,1,0,1,0,0,1,1] c7) s H (kk (some [5,6,7,9,10,14]) kn [(4,(some [6,7,10]),k4)] R [4]))),(4,(some [6,7,10]),k4)] R [4]))
 (
 k4 (sp 145 [(6,x6),(7,x7),(10,x10)]) H) := by
 kernel_rfl
theorem N7_5b_eq (ρ call yc lim k x5 x6 x7 x9 x10 x14 H kn k4 R) :
 evL (cx ρ) call yc false 7 lim k (Code.at [1,1,1,1,1,1,1,1,1,0,1,0,0] c7) (sp 145 [(5,x5),(6,x6),(7,x7),(9,x9),(10,x10),(14,x14)]) H (kk (some [5,6,7,9,10,14]) kn [(4,(some [6,7,10]),k4)] R [4]) = N7_5b ρ call yc lim k x5 x6 x7 x9 x10 x14 H (fun x14 H => kn (sp 145 [(5,x5),(6,x6),(7,x7),(9,x9),(10,x10),(14,x14)]) H) (fun x6 x7 x10 H => k4 (sp 145 [(6,x6),(7,x7),(10,x10)]) H) R := by
 rw [evL_X,N7_5b_x]
 simp only [← evL_X,N7_5b,N7_6_eq,N7_7_eq,N7_8_eq]
noncomputable def N7_5 (ρ : RO) (call : CallF) (yc : YieldF) (lim k : Nat) (x5 x6 x7 x9 x10 x14 : AV) (H : Heap) (k4 : AV → AV → AV → Heap → Res) (R : KR) : Res :=
 loopL (fun (x : AV) H kn => N7_5b ρ call yc lim k x5 x6 x7 x9 x10 x H (fun x14 H => kn x14 H) k4 R) k x14 H
theorem N7_5_eq (ρ call yc lim k x5 x6 x7 x9 x10 x14 H kn k4 R) :
 evL (cx ρ) call yc false 7 lim k (Code.at [1,1,1,1,1,1,1,1,1,0,1,0] c7) (sp 145 [(5,x5),(6,x6),(7,x7),(9,x9),(10,x10),(14,x14)]) H (kk (some [6,7,10]) kn [(4,(some [6,7,10]),k4)] R [4]) = N7_5 ρ call yc lim k x5 x6 x7 x9 x10 x14 H (fun x6 x7 x10 H => k4 (sp 145 [(6,x6),(7,x7),(10,x10)]) H) R := by
 have e : Code.at [1,1,1,1,1,1,1,1,1,0,1,0] c7 = .loop (Code.at [1,1,1,1,1,1,1,1,1,0,1,0,0] c7) := by kernel_rfl
 rw [e]
 unfold N7_5
 exact loop_node [5,6,7,9,10,14] (fun x : AV => (sp 145 [(5,x5),(6,x6),(7,x7),(9,x9),(10,x10),(14,(x))])) (fun (x : AV) H kn => N7_5b ρ call yc lim k x5 x6 x7 x9 x10 x H (fun x14 H => kn x14 H) (fun x6 x7 x10 H => k4 (sp 145 [(6,x6),(7,x7),(10,x10)]) H) R) (by kernel_rfl) (fun x => by kernel_rfl) (fun x H kn => N7_5b_eq ρ call yc lim k x5 x6 x7 x9 x10 (x) H kn k4 R) x14 (sp 145 [(5,x5),(6,x6),(7,x7),(9,x9),(10,x10),(14,x14)]) H (by kernel_rfl)
noncomputable def N7_4 (ρ : RO) (call : CallF) (yc : YieldF) (lim k : Nat) (x5 x6 x7 x9 x10 x14 : AV) (H : Heap) (kn : AV → AV → AV → Heap → Res) (R : KR) : Res :=
 N7_5 ρ call yc lim k x5 x6 x7 x9 x10 x14 H kn R
theorem N7_4_x (ρ call yc lim k J x5 x6 x7 x9 x10 x14 H kn R) :
 evX (cx ρ) call yc false 7 lim k J (Code.at [1,1,1,1,1,1,1,1,1,0,1] c7) (sp 145 [(5,x5),(6,x6),(7,x7),(9,x9),(10,x10),(14,x14)]) H (kk (some [6,7,10]) kn [] R [4]) =
 J (Code.at [1,1,1,1,1,1,1,1,1,0,1,0] c7) (sp 145 [(5,x5),(6,x6),(7,x7),(9,x9),(10,x10),(14,x14)]) H (kk (some [6,7,10]) kn [(4,(some [6,7,10]),kn)] R [4]) := by
 kernel_rfl
theorem N7_4_eq (ρ call yc lim k x5 x6 x7 x9 x10 x14 H kn R) :
 evL (cx ρ) call yc false 7 lim k (Code.at [1,1,1,1,1,1,1,1,1,0,1] c7) (sp 145 [(5,x5),(6,x6),(7,x7),(9,x9),(10,x10),(14,x14)]) H (kk (some [6,7,10]) kn [] R [4]) = N7_4 ρ call yc lim k x5 x6 x7 x9 x10 x14 H (fun x6 x7 x10 H => kn (sp 145 [(6,x6),(7,x7),(10,x10)]) H) R := by
 rw [evL_X,N7_4_x]
 simp only [← evL_X,N7_4,N7_5_eq]
noncomputable def N7_2 (ρ : RO) (call : CallF) (yc : YieldF) (lim k : Nat) (x5 x6 x7 x9 x10 : AV) (H : Heap) (R : KR) : Res :=
 N7_4 ρ call yc lim k x5 x6 x7 x9 x10 (.int .i64 0) H (fun x6_1 x7_1 x10_1 H =>
 N7_3 ρ call yc lim k x6_1 x7_1 x10_1 H R) R
theorem N7_2_x (ρ call yc lim k J x5 x6 x7 x9 x10 H R) :
 evX (cx ρ) call yc false 7 lim k J (Code.at [1,1,1,1,1,1,1,1,1] c7) (sp 145 [(5,x5),(6,x6),(7,x7),(9,x9),(10,x10)]) H (kk none (fun s H => R (gs [4] s) H) [] R [4]) =
 J (Code.at [1,1,1,1,1,1,1,1,1,0,1] c7) (sp 145 [(5,x5),(6,x6),(7,x7),(9,x9),(10,x10),(14,(.int .i64 0))]) H (kk (some [6,7,10]) (fun s H => J (Code.at [1,1,1,1,1,1,1,1,1,1] c7) s H (kk none (fun s H => R (gs [4] s) H) [] R [4])) [] R [4]) := by
 kernel_rfl
theorem N7_2_eq (ρ call yc lim k x5 x6 x7 x9 x10 H R) :
 evL (cx ρ) call yc false 7 lim k (Code.at [1,1,1,1,1,1,1,1,1] c7) (sp 145 [(5,x5),(6,x6),(7,x7),(9,x9),(10,x10)]) H (kk none (fun s H => R (gs [4] s) H) [] R [4]) = N7_2 ρ call yc lim k x5 x6 x7 x9 x10 H R := by
 rw [evL_X,N7_2_x]
 simp only [← evL_X,N7_2,N7_3_eq,N7_4_eq]
noncomputable def N7_13 (ρ : RO) (call : CallF) (yc : YieldF) (lim k : Nat) (x5 x6 x7 x9 x10 x11 : AV) (H : Heap) (kn : AV → AV → Heap → Res) : Res :=
 purK (binA Try.prog H .add 3 x11 (.int .i64 1)) fun x56_1 =>
 kn x10 x56_1 H
theorem N7_13_eq (ρ call yc lim k x5 x6 x7 x9 x10 x11 H kn k0 R) :
 evL (cx ρ) call yc false 7 lim k (Code.at [1,1,1,1,1,1,1,1,0,1,0,0,1,1] c7) (sp 145 [(5,x5),(6,x6),(7,x7),(9,x9),(10,x10),(11,x11)]) H (kk (some [5,6,7,9,10,11]) kn [(0,(some [5,6,7,9,10]),k0)] R [4]) = N7_13 ρ call yc lim k x5 x6 x7 x9 x10 x11 H (fun x10 x11 H => kn (sp 145 [(5,x5),(6,x6),(7,x7),(9,x9),(10,x10),(11,x11)]) H) := by
 kernel_rfl
noncomputable def N7_14 (ρ : RO) (call : CallF) (yc : YieldF) (lim k : Nat) (x5 x6 x7 x9 x10 x11 x12 : AV) (H : Heap) (kn : AV → AV → Heap → Res) (R : KR) : Res :=
 purK (unA .not x12) fun x87_1 =>
 condK x87_1
 (
 R [(.bool false)] H)
 (
 kn x10 x11 H)
theorem N7_14_eq (ρ call yc lim k x5 x6 x7 x9 x10 x11 x12 H kn k1 k0 R) :
 evL (cx ρ) call yc false 7 lim k (Code.at [1,1,1,1,1,1,1,1,0,1,0,0,1,0,0,1,1,1] c7) (sp 145 [(5,x5),(6,x6),(7,x7),(9,x9),(10,x10),(11,x11),(12,x12)]) H (kk (some [5,6,7,9,10,11]) kn [(1,(some [5,6,7,9,10,11]),k1),(0,(some [5,6,7,9,10]),k0)] R [4]) = N7_14 ρ call yc lim k x5 x6 x7 x9 x10 x11 x12 H (fun x10 x11 H => kn (sp 145 [(5,x5),(6,x6),(7,x7),(9,x9),(10,x10),(11,x11)]) H) R := by
 kernel_rfl
noncomputable def N7_16b (ρ : RO) (call : CallF) (yc : YieldF) (lim k : Nat) (x5 x6 x7 x9 x10 x11 x12 x13 : AV) (H : Heap) (kn : AV → AV → Heap → Res) (k2 : AV → AV → AV → Heap → Res) : Res :=
 purK (lenS x5) fun x69_1 =>
 purK (binA Try.prog H .lss 3 x13 x69_1) fun x70_1 =>
 condK x70_1
 (
 boolK (wantV x12 false) fun b1 => purK (bif b1 then some x5 else some (.tup [])) fun x75_1 =>
 boolK (wantV x12 false) fun b2 => purK (bif b2 then some x13 else some (.tup [])) fun x76_1 =>
 boolK (wantV x12 false) fun b3 => purK (bif b3 then ixS 1 x75_1 x76_1 else some (.tup [])) fun x77_1 =>
 boolK (wantV x12 false) fun b4 => purK (bif b4 then ld1 ρ H x77_1 else some (.tup [])) fun x78_1 =>
 boolK (wantV x12 false) fun b5 => purK (bif b5 then some x9 else some (.tup [])) fun x79_1 =>
 boolK (wantV x12 false) fun b6 => purK (bif b6 then some x11 else some (.tup [])) fun x80_1 =>
 boolK (wantV x12 false) fun b7 => purK (bif b7 then ixS 2 x79_1 x80_1 else some (.tup [])) fun x81_1 =>
 boolK (wantV x12 false) fun b8 => purK (bif b8 then addA 0 x81_1 else some (.tup [])) fun x82_1 =>
 boolK (wantV x12 false) fun b9 => purK (bif b9 then ld1 ρ H x82_1 else some (.tup [])) fun x83_1 =>
 boolK (wantV x12 false) fun b10 => purK (bif b10 then binA Try.prog H .eql 9 x78_1 x83_1 else some (.tup [])) fun x84_1 =>
 purK (pickA x12 (.bool true) x84_1) fun x85_1 =>
 bif ((!b10 || true) && ((!b9 || true) && ((!b4 || true) && true))) then
 purK (binA Try.prog H .add 3 x13 (.int .i64 1)) fun x72_1 =>
 kn x85_1 x72_1 H
 else .stop)
 (
 k2 x10 x11 x12 H)
theorem N7_16b_eq (ρ call yc lim k x5 x6 x7 x9 x10 x11 x12 x13 H kn k2 k1 k0 R) :
 evL (cx ρ) call yc false 7 lim k (Code.at [1,1,1,1,1,1,1,1,0,1,0,0,1,0,0,1,1,0,1,0,0] c7) (sp 145 [(5,x5),(6,x6),(7,x7),(9,x9),(10,x10),(11,x11),(12,x12),(13,x13)]) H (kk (some [5,6,7,9,10,11,12,13]) kn [(2,(some [5,6,7,9,10,11,12]),k2),(1,(some [5,6,7,9,10,11]),k1),(0,(some [5,6,7,9,10]),k0)] R [4]) = N7_16b ρ call yc lim k x5 x6 x7 x9 x10 x11 x12 x13 H (fun x12 x13 H => kn (sp 145 [(5,x5),(6,x6),(7,x7),(9,x9),(10,x10),(11,x11),(12,x12),(13,x13)]) H) (fun x10 x11 x12 H => k2 (sp 145 [(5,x5),(6,x6),(7,x7),(9,x9),(10,x10),(11,x11),(12,x12)]) H) := by
 kernel_rfl
noncomputable def N7_16 (ρ : RO) (call : CallF) (yc : YieldF) (lim k : Nat) (x5 x6 x7 x9 x10 x11 x12 x13 : AV) (H : Heap) (k2 : AV → AV → AV → Heap → Res) : Res :=
 loopL (fun (x : AV × AV) H kn => N7_16b ρ call yc lim k x5 x6 x7 x9 x10 x11 x.1 x.2 H (fun x12 x13 H => kn (x12,x13) H) k2) k (x12,x13) H
theorem N7_16_eq (ρ call yc lim k x5 x6 x7 x9 x10 x11 x12 x13 H kn k2 k1 k0 R) :
 evL (cx ρ) call yc false 7 lim k (Code.at [1,1,1,1,1,1,1,1,0,1,0,0,1,0,0,1,1,0,1,0] c7) (sp 145 [(5,x5),(6,x6),(7,x7),(9,x9),(10,x10),(11,x11),(12,x12),(13,x13)]) H (kk (some [5,6,7,9,10,11,12]) kn [(2,(some [5,6,7,9,10,11,12]),k2),(1,(some [5,6,7,9,10,11]),k1),(0,(some [5,6,7,9,10]),k0)] R [4]) = N7_16 ρ call yc lim k x5 x6 x7 x9 x10 x11 x12 x13 H (fun x10 x11 x12 H => k2 (sp 145 [(5,x5),(6,x6),(7,x7),(9,x9),(10,x10),(11,x11),(12,x12)]) H) := by
 have e : Code.at [1,1,1,1,1,1,1,1,0,1,0,0,1,0,0,1,1,0,1,0] c7 = .loop (Code.at [1,1,1,1,1,1,1,1,0,1,0,0,1,0,0,1,1,0,1,0,0] c7) := by kernel_rfl
 rw [e]
 unfold N7_16
 exact loop_node [5,6,7,9,10,11,12,13] (fun x : AV × AV => (sp 145 [(5,x5),(6,x6),(7,x7),(9,x9),(10,x10),(11,x11),(12,(x.1)),(13,(x.2))])) (fun (x : AV × AV) H kn => N7_16b ρ call yc lim k x5 x6 x7 x9 x10 x11 x.1 x.2 H (fun x12 x13 H => kn (x12,x13) H) (fun x10 x11 x12 H => k2 (sp 145 [(5,x5),(6,x6),(7,x7),(9,x9),(10,x10),(11,x11),(12,x12)]) H)) (by kernel_rfl) (fun x => by kernel_rfl) (fun x H kn => N7_16b_eq ρ call yc lim k x5 x6 x7 x9 x10 x11 (x.1) (x.2) H kn k2 k1 k0 R) (x12,x13) (sp 145 [(5,x5),(6,x6),(7,x7),(9,x9),(10,x10),(11,x11),(12,x12),(13,x13)]) H (by kernel_rfl)
noncomputable def N7_15 (ρ : RO) (call : CallF) (yc : YieldF) (lim k : Nat) (x5 x6 x7 x9 x10 x11 x12 x13 : AV) (H : Heap) (kn : AV → AV → AV → Heap → Res) : Res :=
 N7_16 ρ call yc lim k x5 x6 x7 x9 x10 x11 x12 x13 H kn
theorem N7_15_x (ρ call yc lim k J x5 x6 x7 x9 x10 x11 x12 x13 H kn k1 k0 R) :
 evX (cx ρ) call yc false 7 lim k J (Code.at [1,1,1,1,1,1,1,1,0,1,0,0,1,0,0,1,1,0,1] c7) (sp 145 [(5,x5),(6,x6),(7,x7),(9,x9),(10,x10),(11,x11),(12,x12),(13,x13)]) H (kk (some [5,6,7,9,10,11,12]) kn [(1,(some [5,6,7,9,10,11]),k1),(0,(some [5,6,7,9,10]),k0)] R [4]) =
 J (Code.at [1,1,1,1,1,1,1,1,0,1,0,0,1,0,0,1,1,0,1,0] c7) (sp 145 [(5,x5),(6,x6),(7,x7),(9,x9),(10,x10),(11,x11),(12,x12),(13,x13)]) H (kk (some [5,6,7,9,10,11,12]) kn [(2,(some [5,6,7,9,10,11,12]),kn),(1,(some [5,6,7,9,10,11]),k1),(0,(some [5,6,7,9,10]),k0)] R [4]) := by
 kernel_rfl
theorem N7_15_eq (ρ call yc lim k x5 x6 x7 x9 x10 x11 x12 x13 H kn k1 k0 R) :
 evL (cx ρ) call yc false 7 lim k (Code.at [1,1,1,1,1,1,1,1,0,1,0,0,1,0,0,1,1,0,1] c7) (sp 145 [(5,x5),(6,x6),(7,x7),(9,x9),(10,x10),(11,x11),(12,x12),(13,x13)]) H (kk (some [5,6,7,9,10,11,12]) kn [(1,(some [5,6,7,9,10,11]),k1),(0,(some [5,6,7,9,10]),k0)] R [4]) = N7_15 ρ call yc lim k x5 x6 x7 x9 x10 x11 x12 x13 H (fun x10 x11 x12 H => kn (sp 145 [(5,x5),(6,x6),(7,x7),(9,x9),(10,x10),(11,x11),(12,x12)]) H) := by
 rw [evL_X,N7_15_x]
 simp only [← evL_X,N7_15,N7_16_eq]
noncomputable def N7_12b (ρ : RO) (call : CallF) (yc : YieldF) (lim k : Nat) (x5 x6 x7 x9 x10 x11 : AV) (H : Heap) (kn : AV → AV → Heap → Res) (k0 : AV → AV → AV → AV → AV → Heap → Res) (R : KR) : Res :=
 purK (lenS x9) fun x53_1 =>
 purK (binA Try.prog H .lss 3 x11 x53_1) fun x54_1 =>
 condK x54_1
 (
 purK (ixS 2 x9 x11) fun x59_1 =>
 purK (addA 1 x59_1) fun x60_1 =>
 purK (ld1 ρ H x60_1) fun x61_1 =>
 purK (unA .not x61_1) fun x62_1 =>
 purK (gPur (wantV x10 false) (some x62_1)) fun x65_1 =>
 purK (pickA x10 (.bool true) x65_1) fun x66_1 =>
 N7_15 ρ call yc lim k x5 x6 x7 x9 x66_1 x11 x62_1 (.int .i64 0) H (fun x10_1 x11_1 x12_1 H =>
 N7_14 ρ call yc lim k x5 x6 x7 x9 x10_1 x11_1 x12_1 H (fun x10_2 x11_2 H =>
 N7_13 ρ call yc lim k x5 x6 x7 x9 x10_2 x11_2 H kn) R))
 (
 k0 x5 x6 x7 x9 x10 H)
theorem N7_12b_x (ρ call yc lim k J x5 x6 x7 x9 x10 x11 H kn k0 R) :
 evX (cx ρ) call yc false 7 lim k J (Code.at [1,1,1,1,1,1,1,1,0,1,0,0] c7) (sp 145 [(5,x5),(6,x6),(7,x7),(9,x9),(10,x10),(11,x11)]) H (kk (some [5,6,7,9,10,11]) kn [(0,(some [5,6,7,9,10]),k0)] R [4]) =
 purK (lenS x9) fun x53_1 =>
 purK (binA Try.prog H .lss 3 x11 x53_1) fun x54_1 =>
 condK x54_1
 (
 purK (ixS 2 x9 x11) fun x59_1 =>
 purK (addA 1 x59_1) fun x60_1 =>
 purK (ld1 ρ H x60_1) fun x61_1 =>
 purK (unA .not x61_1) fun x62_1 =>
 purK (gPur (wantV x10 false) (some x62_1)) fun x65_1 =>
 purK (pickA x10 (.bool true) x65_1) fun x66_1 =>
 J (Code.at [1,1,1,1,1,1,1,1,0,1,0,0,1,0,0,1,1,0,1] c7) (sp 145 [(5,x5),(6,x6),(7,x7),(9,x9),(10,x66_1),(11,x11),(12,x62_1),(13,(.int .i64 0))]) H (kk (some [5,6,7,9,10,11,12]) (fun s H => J (Code.at [1,1,1,1,1,1,1,1,0,1,0,0,1,0,0,1,1,1] c7) s H (kk (some [5,6,7,9,10,11]) (fun s H => J (Code.at [1,1,1,1,1,1,1,1,0,1,0,0,1,1] c7) s H (kk (some [5,6,7,9,10,11]) kn [(0,(some [5,6,7,9,10]),k0)] R [4])) [(1,(some [5,6,7,9,10,11]),(fun s H => J (Code.at [1,1,1,1,1,1,1,1,0,1,0,0,1,1] c7) s H (kk (some [5,6,7,9,10,11]) kn [(0,(some [5,6,7,9,10]),k0)] R [4]))),(0,(some [5,6,7,9,10]),k0)] R [4])) [(1,(some [5,6,7,9,10,11]),(fun s H => J (Code.at [1,1,1,1,1,1,1,1,0,1,0,0,1,1] c7) s H (kk (some [5,6,7,9,10,11]) kn [(0,(some [5,6,7,9,10]),k0)] R [4]))),(0,(some [5,6,7,9,10]),k0)] R [4]))
 (
 k0 (sp 145 [(5,x5),(6,x6),(7,x7),(9,x9),(10,x10)]) H) := by
 kernel_rfl
theorem N7_12b_eq (ρ call yc lim k x5 x6 x7 x9 x10 x11 H kn k0 R) :
 evL (cx ρ) call yc false 7 lim k (Code.at [1,1,1,1,1,1,1,1,0,1,0,0] c7) (sp 145 [(5,x5),(6,x6),(7,x7),(9,x9),(10,x10),(11,x11)]) H (kk (some [5,6,7,9,10,11]) kn [(0,(some [5,6,7,9,10]),k0)] R [4]) = N7_12b ρ call yc lim k x5 x6 x7 x9 x10 x11 H (fun x10 x11 H => kn (sp 145 [(5,x5),(6,x6),(7,x7),(9,x9),(10,x10),(11,x11)]) H) (fun x5 x6 x7 x9 x10 H => k0 (sp 145 [(5,x5),(6,x6),(7,x7),(9,x9),(10,x10)]) H) R := by
 rw [evL_X,N7_12b_x]
 simp only [← evL_X,N7_12b,N7_13_eq,N7_14_eq,N7_15_eq]
noncomputable def N7_12 (ρ : RO) (call : CallF) (yc : YieldF) (lim k : Nat) (x5 x6 x7 x9 x10 x11 : AV) (H : Heap) (k0 : AV → AV → AV → AV → AV → Heap → Res) (R : KR) : Res :=
 loopL (fun (x : AV × AV) H kn => N7_12b ρ call yc lim k x5 x6 x7 x9 x.1 x.2 H (fun x10 x11 H => kn (x10,x11) H) k0 R) k (x10,x11) H
theorem N7_12_eq (ρ call yc lim k x5 x6 x7 x9 x10 x11 H kn k0 R) :
 evL (cx ρ) call yc false 7 lim k (Code.at [1,1,1,1,1,1,1,1,0,1,0] c7) (sp 145 [(5,x5),(6,x6),(7,x7),(9,x9),(10,x10),(11,x11)]) H (kk (some [5,6,7,9,10]) kn [(0,(some [5,6,7,9,10]),k0)] R [4]) = N7_12 ρ call yc lim k x5 x6 x7 x9 x10 x11 H (fun x5 x6 x7 x9 x10 H => k0 (sp 145 [(5,x5),(6,x6),(7,x7),(9,x9),(10,x10)]) H) R := by
 have e : Code.at [1,1,1,1,1,1,1,1,0,1,0] c7 = .loop (Code.at [1,1,1,1,1,1,1,1,0,1,0,0] c7) := by kernel_rfl
 rw [e]
 unfold N7_12
 exact loop_node [5,6,7,9,10,11] (fun x : AV × AV => (sp 145 [(5,x5),(6,x6),(7,x7),(9,x9),(10,(x.1)),(11,(x.2))])) (fun (x : AV × AV) H kn => N7_12b ρ call yc lim k x5 x6 x7 x9 x.1 x.2 H (fun x10 x11 H => kn (x10,x11) H) (fun x5 x6 x7 x9 x10 H => k0 (sp 145 [(5,x5),(6,x6),(7,x7),(9,x9),(10,x10)]) H) R) (by kernel_rfl) (fun x => by kernel_rfl) (fun x H kn => N7_12b_eq ρ call yc lim k x5 x6 x7 x9 (x.1) (x.2) H kn k0 R) (x10,x11) (sp 145 [(5,x5),(6,x6),(7,x7),(9,x9),(10,x10),(11,x11)]) H (by kernel_rfl)
noncomputable def N7_11 (ρ : RO) (call : CallF) (yc : YieldF) (lim k : Nat) (x5 x6 x7 x9 x10 x11 : AV) (H : Heap) (kn : AV → AV → AV → AV → AV → Heap → Res) (R : KR) : Res :=
 N7_12 ρ call yc lim k x5 x6 x7 x9 x10 x11 H kn R
theorem N7_11_x (ρ call yc lim k J x5 x6 x7 x9 x10 x11 H kn R) :
 evX (cx ρ) call yc false 7 lim k J (Code.at [1,1,1,1,1,1,1,1,0,1] c7) (sp 145 [(5,x5),(6,x6),(7,x7),(9,x9),(10,x10),(11,x11)]) H (kk (some [5,6,7,9,10]) kn [] R [4]) =
 J (Code.at [1,1,1,1,1,1,1,1,0,1,0] c7) (sp 145 [(5,x5),(6,x6),(7,x7),(9,x9),(10,x10),(11,x11)]) H (kk (some [5,6,7,9,10]) kn [(0,(some [5,6,7,9,10]),kn)] R [4]) := by
 kernel_rfl
theorem N7_11_eq (ρ call yc lim k x5 x6 x7 x9 x10 x11 H kn R) :
 evL (cx ρ) call yc false 7 lim k (Code.at [1,1,1,1,1,1,1,1,0,1] c7) (sp 145 [(5,x5),(6,x6),(7,x7),(9,x9),(10,x10),(11,x11)]) H (kk (some [5,6,7,9,10]) kn [] R [4]) = N7_11 ρ call yc lim k x5 x6 x7 x9 x10 x11 H (fun x5 x6 x7 x9 x10 H => kn (sp 145 [(5,x5),(6,x6),(7,x7),(9,x9),(10,x10)]) H) R := by
 rw [evL_X,N7_11_x]
 simp only [← evL_X,N7_11,N7_12_eq]
noncomputable def N7_1 (ρ : RO) (call : CallF) (yc : YieldF) (lim k : Nat) (x0 x1 x5 x6 x7 : AV) (H : Heap) (R : KR) : Res :=
 resK (call lim 26 [x0,x1] H) fun x44_1 H =>
 purK (lenS x44_1) fun x47_1 =>
 effK H (mkS H 4 1 1 [.bool false] x47_1 x47_1) fun x48_1 H =>
 purK (bldA [.str ByteArray.empty,.bool false] []) fun x49_1 =>
 resK (call lim 27 [x44_1,x48_1,x49_1] H) fun x50_1 H =>
 N7_11 ρ call yc lim k x5 x6 x7 x50_1 (.bool false) (.int .i64 0) H (fun x5_1 x6_1 x7_1 x9_1 x10_1 H =>
 N7_2 ρ call yc lim k x5_1 x6_1 x7_1 x9_1 x10_1 H R) R
theorem N7_1_x (ρ call yc lim k J x0 x1 x5 x6 x7 H R) :
 evX (cx ρ) call yc false 7 lim k J (Code.at [1,1,1,1,1] c7) (sp 145 [(0,x0),(1,x1),(5,x5),(6,x6),(7,x7)]) H (kk none (fun s H => R (gs [4] s) H) [] R [4]) =
 resK (call lim 26 [x0,x1] H) fun x44_1 H =>
 purK (lenS x44_1) fun x47_1 =>
 effK H (mkS H 4 1 1 [.bool false] x47_1 x47_1) fun x48_1 H =>
 purK (bldA [.str ByteArray.empty,.bool false] []) fun x49_1 =>
 resK (call lim 27 [x44_1,x48_1,x49_1] H) fun x50_1 H =>
 J (Code.at [1,1,1,1,1,1,1,1,0,1] c7) (sp 145 [(5,x5),(6,x6),(7,x7),(9,x50_1),(10,(.bool false)),(11,(.int .i64 0))]) H (kk (some [5,6,7,9,10]) (fun s H => J (Code.at [1,1,1,1,1,1,1,1,1] c7) s H (kk none (fun s H => R (gs [4] s) H) [] R [4])) [] R [4]) := by
 kernel_rfl
theorem N7_1_eq (ρ call yc lim k x0 x1 x5 x6 x7 H R) :
 evL (cx ρ) call yc false 7 lim k (Code.at [1,1,1,1,1] c7) (sp 145 [(0,x0),(1,x1),(5,x5),(6,x6),(7,x7)]) H (kk none (fun s H => R (gs [4] s) H) [] R [4]) = N7_1 ρ call yc lim k x0 x1 x5 x6 x7 H R := by
 rw [evL_X,N7_1_x]
 simp only [← evL_X,N7_1,N7_11_eq,N7_2_eq]
noncomputable def L7 (ρ : RO) (call : CallF) (yc : YieldF) (lim k : Nat) (x0 x1 : AV) (H : Heap) : Res :=
 resK (call lim 19 [] H) fun x17 H =>
 purK (unA .not x17) fun x18 =>
 condK x18
 (
 retK [(.bool false)] H)
 (
 resK (call lim 20 [x0] H) fun x20 H =>
 condK x20
 (
 retK [(.bool true)] H)
 (
 resK (call lim 31 [x0,x1] H) fun x24 H =>
 purK (extA 0 x24) fun x25 =>
 purK (extA 1 x24) fun x26 =>
 purK (extA 2 x24) fun x27 =>
 resK (call lim 21 [x0] H) fun x29 H =>
 purK (unA .not x29) fun x30 =>
 condK x30
 (
 purK (lenS x25) fun x32 =>
 purK (binA Try.prog H .eql 3 x32 (.int .i64 0)) fun x33 =>
 purK (gPur (wantV x33 true) (some x26)) fun x35 =>
 purK (gPur (wantV x33 true) (unA .not x35)) fun x36 =>
 purK (pickA x33 x36 (.bool false)) fun x37 =>
 purK (gPur (wantV x37 true) (some x27)) fun x39 =>
 purK (gPur (wantV x37 true) (binA Try.prog H .eql 25 x39 (.int .i64 1))) fun x40 =>
 purK (pickA x37 x40 (.bool false)) fun x41 =>
 retK [x41] H)
 (
 N7_1 ρ call yc lim k x0 x1 x25 x26 x27 H retK)))
theorem L7_x (ρ call yc lim k J x0 x1 H) :
 evX (cx ρ) call yc false 7 lim k J c7 ([x0,x1] ++ List.replicate 143 (.tup [])) H (kk none (fun s H => retK (gs [4] s) H) [] retK [4]) =
 resK (call lim 19 [] H) fun x17 H =>
 purK (unA .not x17) fun x18 =>
 condK x18
 (
 retK [(.bool false)] H)
 (
 resK (call lim 20 [x0] H) fun x20 H =>
 condK x20
 (
 retK [(.bool true)] H)
 (
 resK (call lim 31 [x0,x1] H) fun x24 H =>
 purK (extA 0 x24) fun x25 =>
 purK (extA 1 x24) fun x26 =>
 purK (extA 2 x24) fun x27 =>
 resK (call lim 21 [x0] H) fun x29 H =>
 purK (unA .not x29) fun x30 =>
 condK x30
 (
 purK (lenS x25) fun x32 =>
 purK (binA Try.prog H .eql 3 x32 (.int .i64 0)) fun x33 =>
 purK (gPur (wantV x33 true) (some x26)) fun x35 =>
 purK (gPur (wantV x33 true) (unA .not x35)) fun x36 =>
 purK (pickA x33 x36 (.bool false)) fun x37 =>
 purK (gPur (wantV x37 true) (some x27)) fun x39 =>
 purK (gPur (wantV x37 true) (binA Try.prog H .eql 25 x39 (.int .i64 1))) fun x40 =>
 purK (pickA x37 x40 (.bool false)) fun x41 =>
 retK [x41] H)
 (
 J (Code.at [1,1,1,1,1] c7) (sp 145 [(0,x0),(1,x1),(5,x25),(6,x26),(7,x27)]) H (kk none (fun s H => retK (gs [4] s) H) [] retK [4])))) := by
 kernel_rfl
theorem G7 (ρ call yc lim k x0 x1 H) :
 evL (cx ρ) call yc false 7 lim k c7 ([x0,x1] ++ List.replicate 143 (.tup [])) H (kk none (fun s H => retK (gs [4] s) H) [] retK [4]) = L7 ρ call yc lim k x0 x1 H := by
 rw [evL_X,L7_x]
 simp only [← evL_X,L7,N7_1_eq]
theorem E7 (ρ : RO) (k lim : Nat) (x0 x1 : AV) (H : Heap) : evCall (cx ρ) (k + 1) lim 7 [x0,x1] H = L7 ρ (evCall (cx ρ) k) (evCY (cx ρ) k).2 lim k x0 x1 H := by
 rw [evCall_body (cx ρ) k lim 7 _ H Try.f7 c7 [4] (by kernel_rfl) (by kernel_rfl) (by kernel_rfl) (by kernel_rfl) (by kernel_rfl)]
 exact G7 ρ (evCall (cx ρ) k) (evCY (cx ρ) k).2 lim k x0 x1 H
-- haycroft/haycroftlaw20.awake
noncomputable def c19 : Code := Code.of Try.prog 19
noncomputable def N19_1 (ρ : RO) (call : CallF) (yc : YieldF) (lim k : Nat) (x2 x3 x4 x5 : AV) (H : Heap) (R : KR) : Res :=
 purK (gPur (wantV x2 true) (some x3)) fun x27_1 =>
 purK (gPur (wantV x2 true) (binA Try.prog H .eql 25 x27_1 (.int .i64 0))) fun x28_1 =>
 purK (pickA x2 x28_1 (.bool false)) fun x29_1 =>
 purK (gPur (wantV x29_1 true) (some x4)) fun x31_1 =>
 purK (gPur (wantV x29_1 true) (unA .not x31_1)) fun x32_1 =>
 purK (pickA x29_1 x32_1 (.bool false)) fun x33_1 =>
 purK (gPur (wantV x33_1 true) (some x5)) fun x35_1 =>
 purK (gPur (wantV x33_1 true) (binA Try.prog H .eql 25 x35_1 (.int .i64 0))) fun x36_1 =>
 purK (pickA x33_1 x36_1 (.bool false)) fun x37_1 =>
 R [x37_1] H
theorem N19_1_eq (ρ call yc lim k x2 x3 x4 x5 H R) :
 evL (cx ρ) call yc false 19 lim k (Code.at [1,1,1,1] c19) (sp 38 [(2,x2),(3,x3),(4,x4),(5,x5)]) H (kk none (fun s H => R (gs [0] s) H) [] R [0]) = N19_1 ρ call yc lim k x2 x3 x4 x5 H R := by
 kernel_rfl
noncomputable def L19 (ρ : RO) (call : CallF) (yc : YieldF) (lim k : Nat) (H : Heap) : Res :=
 purK (bldA [.int .i64 0,.str ByteArray.empty,.str ByteArray.empty,.int .u64 0] [(0,1,(.int .i64 1)),(1,1,(.str (ByteArray.mk #[107])))]) fun x6 =>
 purK (bldA [.int .i64 0,.str ByteArray.empty] [(1,1,(.str (ByteArray.mk #[49])))]) fun x7 =>
 purK (bldA [.int .i64 0,.str ByteArray.empty,.str ByteArray.empty,.int .u64 0,.int .i64 0,.str ByteArray.empty,.int .i64 0,.int .i64 0] [(0,4,x6),(4,2,x7),(6,1,(.int .i64 1)),(7,1,(.int .i64 4))]) fun x8 =>
 effK H (some (.ptr H.sz 0 0,.new (newCells 55 false [.int .i64 0,.str ByteArray.empty,.str ByteArray.empty,.int .u64 0,.int .i64 0,.str ByteArray.empty,.int .i64 0,.int .i64 0]))) fun x1 H =>
 effK H (stA lim H 8 x1 x8) fun _ H =>
 purK (ldN ρ H 8 x1) fun x10 =>
 purK (bldA [.int .i64 0,.str ByteArray.empty,.str ByteArray.empty,.int .u64 0] [(0,1,(.int .i64 2)),(1,1,(.str (ByteArray.mk #[107]))),(2,1,(.str (ByteArray.mk #[49])))]) fun x11 =>
 purK (bldA [.int .i64 0,.str ByteArray.empty,.str ByteArray.empty,.int .u64 0,.int .i64 0,.str ByteArray.empty,.int .i64 0,.int .i64 0] [(0,4,x11),(6,1,(.int .i64 2))]) fun x12 =>
 effK H (bldS H 55 8 [.int .i64 0,.str ByteArray.empty,.str ByteArray.empty,.int .u64 0,.int .i64 0,.str ByteArray.empty,.int .i64 0,.int .i64 0] 2 [(0,8,x10),(8,8,x12)]) fun x13 H =>
 resK (call lim 22 [x13] H) fun x14 H =>
 purK (extA 0 x14) fun x15 =>
 purK (extA 1 x14) fun x16 =>
 purK (ldN ρ H 8 x1) fun x18 =>
 purK (bldA [.int .i64 0,.str ByteArray.empty,.str ByteArray.empty,.int .u64 0] [(0,1,(.int .i64 2)),(1,1,(.str (ByteArray.mk #[107]))),(2,1,(.str (ByteArray.mk #[49])))]) fun x19 =>
 purK (bldA [.int .i64 0,.str ByteArray.empty,.str ByteArray.empty,.int .u64 0,.int .i64 0,.str ByteArray.empty,.int .i64 0,.int .i64 0] [(0,4,x19),(6,1,(.int .i64 5))]) fun x20 =>
 effK H (bldS H 55 8 [.int .i64 0,.str ByteArray.empty,.str ByteArray.empty,.int .u64 0,.int .i64 0,.str ByteArray.empty,.int .i64 0,.int .i64 0] 2 [(0,8,x18),(8,8,x20)]) fun x21 H =>
 resK (call lim 22 [x21] H) fun x22 H =>
 purK (extA 0 x22) fun x23 =>
 purK (extA 1 x22) fun x24 =>
 N19_1 ρ call yc lim k x15 x16 x23 x24 H retK
theorem L19_x (ρ call yc lim k J H) :
 evX (cx ρ) call yc false 19 lim k J c19 (List.replicate 38 (.tup [])) H (kk none (fun s H => retK (gs [0] s) H) [] retK [0]) =
 purK (bldA [.int .i64 0,.str ByteArray.empty,.str ByteArray.empty,.int .u64 0] [(0,1,(.int .i64 1)),(1,1,(.str (ByteArray.mk #[107])))]) fun x6 =>
 purK (bldA [.int .i64 0,.str ByteArray.empty] [(1,1,(.str (ByteArray.mk #[49])))]) fun x7 =>
 purK (bldA [.int .i64 0,.str ByteArray.empty,.str ByteArray.empty,.int .u64 0,.int .i64 0,.str ByteArray.empty,.int .i64 0,.int .i64 0] [(0,4,x6),(4,2,x7),(6,1,(.int .i64 1)),(7,1,(.int .i64 4))]) fun x8 =>
 effK H (some (.ptr H.sz 0 0,.new (newCells 55 false [.int .i64 0,.str ByteArray.empty,.str ByteArray.empty,.int .u64 0,.int .i64 0,.str ByteArray.empty,.int .i64 0,.int .i64 0]))) fun x1 H =>
 effK H (stA lim H 8 x1 x8) fun _ H =>
 purK (ldN ρ H 8 x1) fun x10 =>
 purK (bldA [.int .i64 0,.str ByteArray.empty,.str ByteArray.empty,.int .u64 0] [(0,1,(.int .i64 2)),(1,1,(.str (ByteArray.mk #[107]))),(2,1,(.str (ByteArray.mk #[49])))]) fun x11 =>
 purK (bldA [.int .i64 0,.str ByteArray.empty,.str ByteArray.empty,.int .u64 0,.int .i64 0,.str ByteArray.empty,.int .i64 0,.int .i64 0] [(0,4,x11),(6,1,(.int .i64 2))]) fun x12 =>
 effK H (bldS H 55 8 [.int .i64 0,.str ByteArray.empty,.str ByteArray.empty,.int .u64 0,.int .i64 0,.str ByteArray.empty,.int .i64 0,.int .i64 0] 2 [(0,8,x10),(8,8,x12)]) fun x13 H =>
 resK (call lim 22 [x13] H) fun x14 H =>
 purK (extA 0 x14) fun x15 =>
 purK (extA 1 x14) fun x16 =>
 purK (ldN ρ H 8 x1) fun x18 =>
 purK (bldA [.int .i64 0,.str ByteArray.empty,.str ByteArray.empty,.int .u64 0] [(0,1,(.int .i64 2)),(1,1,(.str (ByteArray.mk #[107]))),(2,1,(.str (ByteArray.mk #[49])))]) fun x19 =>
 purK (bldA [.int .i64 0,.str ByteArray.empty,.str ByteArray.empty,.int .u64 0,.int .i64 0,.str ByteArray.empty,.int .i64 0,.int .i64 0] [(0,4,x19),(6,1,(.int .i64 5))]) fun x20 =>
 effK H (bldS H 55 8 [.int .i64 0,.str ByteArray.empty,.str ByteArray.empty,.int .u64 0,.int .i64 0,.str ByteArray.empty,.int .i64 0,.int .i64 0] 2 [(0,8,x18),(8,8,x20)]) fun x21 H =>
 resK (call lim 22 [x21] H) fun x22 H =>
 purK (extA 0 x22) fun x23 =>
 purK (extA 1 x22) fun x24 =>
 J (Code.at [1,1,1,1] c19) (sp 38 [(2,x15),(3,x16),(4,x23),(5,x24)]) H (kk none (fun s H => retK (gs [0] s) H) [] retK [0]) := by
 kernel_rfl
theorem G19 (ρ call yc lim k H) :
 evL (cx ρ) call yc false 19 lim k c19 (List.replicate 38 (.tup [])) H (kk none (fun s H => retK (gs [0] s) H) [] retK [0]) = L19 ρ call yc lim k H := by
 rw [evL_X,L19_x]
 simp only [← evL_X,L19,N19_1_eq]
theorem E19 (ρ : RO) (k lim : Nat) (H : Heap) : evCall (cx ρ) (k + 1) lim 19 [] H = L19 ρ (evCall (cx ρ) k) (evCY (cx ρ) k).2 lim k H := by
 rw [evCall_body (cx ρ) k lim 19 _ H Try.f19 c19 [0] (by kernel_rfl) (by kernel_rfl) (by kernel_rfl) (by kernel_rfl) (by kernel_rfl)]
 exact G19 ρ (evCall (cx ρ) k) (evCY (cx ρ) k).2 lim k H
-- haycroft/haycroftlaw20.far
noncomputable def c20 : Code := Code.of Try.prog 20
noncomputable def N20_1 (ρ : RO) (call : CallF) (yc : YieldF) (lim k : Nat) (H : Heap) (R : KR) : Res :=
 R [(.bool false)] H
theorem N20_1_eq (ρ call yc lim k H R) :
 evL (cx ρ) call yc false 20 lim k (Code.at [1,1,1] c20) (sp 22 []) H (kk none (fun s H => R (gs [2] s) H) [] R [2]) = N20_1 ρ call yc lim k H R := by
 kernel_rfl
noncomputable def N20_3b (ρ : RO) (call : CallF) (yc : YieldF) (lim k : Nat) (x0 x3 : AV) (H : Heap) (kn : AV → Heap → Res) (k0 : Heap → Res) (R : KR) : Res :=
 purK (lenS x0) fun x9_1 =>
 purK (binA Try.prog H .lss 3 x3 x9_1) fun x10_1 =>
 condK x10_1
 (
 purK (ixS 8 x0 x3) fun x16_1 =>
 purK (addA 0 x16_1) fun x17_1 =>
 purK (addA 1 x17_1) fun x18_1 =>
 purK (ld1 ρ H x18_1) fun x19_1 =>
 resK (call lim 44 [x0,x19_1] H) fun x20_1 H =>
 purK (binA Try.prog H .gtr 3 x20_1 (.int .i64 6)) fun x21_1 =>
 condK x21_1
 (
 R [(.bool true)] H)
 (
 purK (binA Try.prog H .add 3 x3 (.int .i64 1)) fun x12_1 =>
 kn x12_1 H))
 (
 k0 H)
theorem N20_3b_eq (ρ call yc lim k x0 x3 H kn k0 R) :
 evL (cx ρ) call yc false 20 lim k (Code.at [1,1,0,1,0,0] c20) (sp 22 [(0,x0),(3,x3)]) H (kk (some [0,3]) kn [(0,(some []),k0)] R [2]) = N20_3b ρ call yc lim k x0 x3 H (fun x3 H => kn (sp 22 [(0,x0),(3,x3)]) H) (fun H => k0 (sp 22 []) H) R := by
 kernel_rfl
noncomputable def N20_3 (ρ : RO) (call : CallF) (yc : YieldF) (lim k : Nat) (x0 x3 : AV) (H : Heap) (k0 : Heap → Res) (R : KR) : Res :=
 loopL (fun (x : AV) H kn => N20_3b ρ call yc lim k x0 x H (fun x3 H => kn x3 H) k0 R) k x3 H
theorem N20_3_eq (ρ call yc lim k x0 x3 H kn k0 R) :
 evL (cx ρ) call yc false 20 lim k (Code.at [1,1,0,1,0] c20) (sp 22 [(0,x0),(3,x3)]) H (kk (some []) kn [(0,(some []),k0)] R [2]) = N20_3 ρ call yc lim k x0 x3 H (fun H => k0 (sp 22 []) H) R := by
 have e : Code.at [1,1,0,1,0] c20 = .loop (Code.at [1,1,0,1,0,0] c20) := by kernel_rfl
 rw [e]
 unfold N20_3
 exact loop_node [0,3] (fun x : AV => (sp 22 [(0,x0),(3,(x))])) (fun (x : AV) H kn => N20_3b ρ call yc lim k x0 x H (fun x3 H => kn x3 H) (fun H => k0 (sp 22 []) H) R) (by kernel_rfl) (fun x => by kernel_rfl) (fun x H kn => N20_3b_eq ρ call yc lim k x0 (x) H kn k0 R) x3 (sp 22 [(0,x0),(3,x3)]) H (by kernel_rfl)
noncomputable def N20_2 (ρ : RO) (call : CallF) (yc : YieldF) (lim k : Nat) (x0 x3 : AV) (H : Heap) (kn : Heap → Res) (R : KR) : Res :=
 N20_3 ρ call yc lim k x0 x3 H kn R
theorem N20_2_x (ρ call yc lim k J x0 x3 H kn R) :
 evX (cx ρ) call yc false 20 lim k J (Code.at [1,1,0,1] c20) (sp 22 [(0,x0),(3,x3)]) H (kk (some []) kn [] R [2]) =
 J (Code.at [1,1,0,1,0] c20) (sp 22 [(0,x0),(3,x3)]) H (kk (some []) kn [(0,(some []),kn)] R [2]) := by
 kernel_rfl
theorem N20_2_eq (ρ call yc lim k x0 x3 H kn R) :
 evL (cx ρ) call yc false 20 lim k (Code.at [1,1,0,1] c20) (sp 22 [(0,x0),(3,x3)]) H (kk (some []) kn [] R [2]) = N20_2 ρ call yc lim k x0 x3 H (fun H => kn (sp 22 []) H) R := by
 rw [evL_X,N20_2_x]
 simp only [← evL_X,N20_2,N20_3_eq]
noncomputable def L20 (ρ : RO) (call : CallF) (yc : YieldF) (lim k : Nat) (x0 : AV) (H : Heap) : Res :=
 purK (lenS x0) fun x5 =>
 purK (binA Try.prog H .gtr 3 x5 (.int .i64 30)) fun x6 =>
 condK x6
 (
 retK [(.bool true)] H)
 (
 N20_2 ρ call yc lim k x0 (.int .i64 0) H (fun H =>
 N20_1 ρ call yc lim k H retK) retK)
theorem L20_x (ρ call yc lim k J x0 H) :
 evX (cx ρ) call yc false 20 lim k J c20 ([x0] ++ List.replicate 21 (.tup [])) H (kk none (fun s H => retK (gs [2] s) H) [] retK [2]) =
 purK (lenS x0) fun x5 =>
 purK (binA Try.prog H .gtr 3 x5 (.int .i64 30)) fun x6 =>
 condK x6
 (
 retK [(.bool true)] H)
 (
 J (Code.at [1,1,0,1] c20) (sp 22 [(0,x0),(3,(.int .i64 0))]) H (kk (some []) (fun s H => J (Code.at [1,1,1] c20) s H (kk none (fun s H => retK (gs [2] s) H) [] retK [2])) [] retK [2])) := by
 kernel_rfl
theorem G20 (ρ call yc lim k x0 H) :
 evL (cx ρ) call yc false 20 lim k c20 ([x0] ++ List.replicate 21 (.tup [])) H (kk none (fun s H => retK (gs [2] s) H) [] retK [2]) = L20 ρ call yc lim k x0 H := by
 rw [evL_X,L20_x]
 simp only [← evL_X,L20,N20_1_eq,N20_2_eq]
theorem E20 (ρ : RO) (k lim : Nat) (x0 : AV) (H : Heap) : evCall (cx ρ) (k + 1) lim 20 [x0] H = L20 ρ (evCall (cx ρ) k) (evCY (cx ρ) k).2 lim k x0 H := by
 rw [evCall_body (cx ρ) k lim 20 _ H Try.f20 c20 [2] (by kernel_rfl) (by kernel_rfl) (by kernel_rfl) (by kernel_rfl) (by kernel_rfl)]
 exact G20 ρ (evCall (cx ρ) k) (evCY (cx ρ) k).2 lim k x0 H
end Go.Proofs.Ytkmohjddojpdjaa

-- part Ht1
/- Functions, lifted. Printed by a program of this repo. -/
set_option linter.unusedVariables false
set_option linter.unusedSimpArgs false
set_option maxRecDepth 100000
set_option maxHeartbeats 4000000
namespace Go.Proofs.Ytkmohjddojpdjaa
open Go.Ev Go.RowKit
-- haycroft/haycroftref20.Right
noncomputable def c21 : Code := Code.of Try.prog 21
noncomputable def N21_1 (ρ : RO) (call : CallF) (yc : YieldF) (lim k : Nat) (H : Heap) (R : KR) : Res :=
 R [(.bool true)] H
theorem N21_1_eq (ρ call yc lim k H R) :
 evL (cx ρ) call yc false 21 lim k (Code.at [1,1] c21) (sp 42 []) H (kk none (fun s H => R (gs [2] s) H) [] R [2]) = N21_1 ρ call yc lim k H R := by
 kernel_rfl
noncomputable def N21_4 (ρ : RO) (call : CallF) (yc : YieldF) (lim k : Nat) (x0 x3 : AV) (H : Heap) (kn : AV → Heap → Res) : Res :=
 purK (binA Try.prog H .add 3 x3 (.int .i64 1)) fun x10_1 =>
 kn x10_1 H
theorem N21_4_eq (ρ call yc lim k x0 x3 H kn k0 R) :
 evL (cx ρ) call yc false 21 lim k (Code.at [1,0,1,0,0,1,1] c21) (sp 42 [(0,x0),(3,x3)]) H (kk (some [0,3]) kn [(0,(some []),k0)] R [2]) = N21_4 ρ call yc lim k x0 x3 H (fun x3 H => kn (sp 42 [(0,x0),(3,x3)]) H) := by
 kernel_rfl
noncomputable def N21_5 (ρ : RO) (call : CallF) (yc : YieldF) (lim k : Nat) (x0 x3 x41 : AV) (H : Heap) (kn : AV → Heap → Res) (R : KR) : Res :=
 condK x41
 (
 R [(.bool false)] H)
 (
 kn x3 H)
theorem N21_5_eq (ρ call yc lim k x0 x3 x41 H kn k1 k0 R) :
 evL (cx ρ) call yc false 21 lim k (Code.at [1,0,1,0,0,1,0,0,1,1] c21) (sp 42 [(0,x0),(3,x3),(41,x41)]) H (kk (some [0,3]) kn [(1,(some [0,3]),k1),(0,(some []),k0)] R [2]) = N21_5 ρ call yc lim k x0 x3 x41 H (fun x3 H => kn (sp 42 [(0,x0),(3,x3)]) H) R := by
 kernel_rfl
noncomputable def N21_3b (ρ : RO) (call : CallF) (yc : YieldF) (lim k : Nat) (x0 x3 : AV) (H : Heap) (kn : AV → Heap → Res) (k0 : Heap → Res) (R : KR) : Res :=
 purK (lenS x0) fun x7_1 =>
 purK (binA Try.prog H .lss 3 x3 x7_1) fun x8_1 =>
 condK x8_1
 (
 purK (ixS 8 x0 x3) fun x13_1 =>
 purK (ldN ρ H 8 x13_1) fun x14_1 =>
 effK H (some (.ptr H.sz 0 0,.new (newCells 55 false [.int .i64 0,.str ByteArray.empty,.str ByteArray.empty,.int .u64 0,.int .i64 0,.str ByteArray.empty,.int .i64 0,.int .i64 0]))) fun x4_1 H =>
 effK H (stA lim H 8 x4_1 x14_1) fun _ H =>
 purK (addA 0 x4_1) fun x15_1 =>
 purK (addA 0 x15_1) fun x16_1 =>
 purK (ld1 ρ H x16_1) fun x17_1 =>
 purK (binA Try.prog H .lss 3 x17_1 (.int .i64 1)) fun x18_1 =>
 purK (gPur (wantV x18_1 false) (addA 0 x4_1)) fun x20_1 =>
 purK (gPur (wantV x18_1 false) (addA 0 x20_1)) fun x21_1 =>
 purK (gPur (wantV x18_1 false) (ld1 ρ H x21_1)) fun x22_1 =>
 purK (gPur (wantV x18_1 false) (binA Try.prog H .gtr 3 x22_1 (.int .i64 4))) fun x23_1 =>
 purK (pickA x18_1 (.bool true) x23_1) fun x24_1 =>
 purK (gPur (wantV x24_1 false) (addA 6 x4_1)) fun x26_1 =>
 purK (gPur (wantV x24_1 false) (ld1 ρ H x26_1)) fun x27_1 =>
 purK (gPur (wantV x24_1 false) (binA Try.prog H .lss 3 x27_1 (.int .i64 1))) fun x28_1 =>
 purK (pickA x24_1 (.bool true) x28_1) fun x29_1 =>
 purK (gPur (wantV x29_1 false) (addA 7 x4_1)) fun x31_1 =>
 purK (gPur (wantV x29_1 false) (ld1 ρ H x31_1)) fun x32_1 =>
 purK (gPur (wantV x29_1 false) (binA Try.prog H .neq 3 x32_1 (.int .i64 0))) fun x33_1 =>
 purK (gPur (wantV x29_1 false) (some x33_1)) fun x34_1 =>
 purK (gPur (wantV x34_1 true) (addA 7 x4_1)) fun x35_1 =>
 purK (gPur (wantV x34_1 true) (ld1 ρ H x35_1)) fun x36_1 =>
 purK (gPur (wantV x34_1 true) (addA 6 x4_1)) fun x37_1 =>
 purK (gPur (wantV x34_1 true) (ld1 ρ H x37_1)) fun x38_1 =>
 purK (gPur (wantV x34_1 true) (binA Try.prog H .leq 3 x36_1 x38_1)) fun x39_1 =>
 purK (gPur (wantV x29_1 false) (pickA x34_1 x39_1 (.bool false))) fun x40_1 =>
 purK (pickA x29_1 (.bool true) x40_1) fun x41_1 =>
 N21_5 ρ call yc lim k x0 x3 x41_1 H (fun x3_1 H =>
 N21_4 ρ call yc lim k x0 x3_1 H kn) R)
 (
 k0 H)
theorem N21_3b_x (ρ call yc lim k J x0 x3 H kn k0 R) :
 evX (cx ρ) call yc false 21 lim k J (Code.at [1,0,1,0,0] c21) (sp 42 [(0,x0),(3,x3)]) H (kk (some [0,3]) kn [(0,(some []),k0)] R [2]) =
 purK (lenS x0) fun x7_1 =>
 purK (binA Try.prog H .lss 3 x3 x7_1) fun x8_1 =>
 condK x8_1
 (
 purK (ixS 8 x0 x3) fun x13_1 =>
 purK (ldN ρ H 8 x13_1) fun x14_1 =>
 effK H (some (.ptr H.sz 0 0,.new (newCells 55 false [.int .i64 0,.str ByteArray.empty,.str ByteArray.empty,.int .u64 0,.int .i64 0,.str ByteArray.empty,.int .i64 0,.int .i64 0]))) fun x4_1 H =>
 effK H (stA lim H 8 x4_1 x14_1) fun _ H =>
 purK (addA 0 x4_1) fun x15_1 =>
 purK (addA 0 x15_1) fun x16_1 =>
 purK (ld1 ρ H x16_1) fun x17_1 =>
 purK (binA Try.prog H .lss 3 x17_1 (.int .i64 1)) fun x18_1 =>
 purK (gPur (wantV x18_1 false) (addA 0 x4_1)) fun x20_1 =>
 purK (gPur (wantV x18_1 false) (addA 0 x20_1)) fun x21_1 =>
 purK (gPur (wantV x18_1 false) (ld1 ρ H x21_1)) fun x22_1 =>
 purK (gPur (wantV x18_1 false) (binA Try.prog H .gtr 3 x22_1 (.int .i64 4))) fun x23_1 =>
 purK (pickA x18_1 (.bool true) x23_1) fun x24_1 =>
 purK (gPur (wantV x24_1 false) (addA 6 x4_1)) fun x26_1 =>
 purK (gPur (wantV x24_1 false) (ld1 ρ H x26_1)) fun x27_1 =>
 purK (gPur (wantV x24_1 false) (binA Try.prog H .lss 3 x27_1 (.int .i64 1))) fun x28_1 =>
 purK (pickA x24_1 (.bool true) x28_1) fun x29_1 =>
 purK (gPur (wantV x29_1 false) (addA 7 x4_1)) fun x31_1 =>
 purK (gPur (wantV x29_1 false) (ld1 ρ H x31_1)) fun x32_1 =>
 purK (gPur (wantV x29_1 false) (binA Try.prog H .neq 3 x32_1 (.int .i64 0))) fun x33_1 =>
 purK (gPur (wantV x29_1 false) (some x33_1)) fun x34_1 =>
 purK (gPur (wantV x34_1 true) (addA 7 x4_1)) fun x35_1 =>
 purK (gPur (wantV x34_1 true) (ld1 ρ H x35_1)) fun x36_1 =>
 purK (gPur (wantV x34_1 true) (addA 6 x4_1)) fun x37_1 =>
 purK (gPur (wantV x34_1 true) (ld1 ρ H x37_1)) fun x38_1 =>
 purK (gPur (wantV x34_1 true) (binA Try.prog H .leq 3 x36_1 x38_1)) fun x39_1 =>
 purK (gPur (wantV x29_1 false) (pickA x34_1 x39_1 (.bool false))) fun x40_1 =>
 purK (pickA x29_1 (.bool true) x40_1) fun x41_1 =>
 J (Code.at [1,0,1,0,0,1,0,0,1,1] c21) (sp 42 [(0,x0),(3,x3),(41,x41_1)]) H (kk (some [0,3]) (fun s H => J (Code.at [1,0,1,0,0,1,1] c21) s H (kk (some [0,3]) kn [(0,(some []),k0)] R [2])) [(1,(some [0,3]),(fun s H => J (Code.at [1,0,1,0,0,1,1] c21) s H (kk (some [0,3]) kn [(0,(some []),k0)] R [2]))),(0,(some []),k0)] R [2]))
 (
 k0 (sp 42 []) H) := by
 kernel_rfl
theorem N21_3b_eq (ρ call yc lim k x0 x3 H kn k0 R) :
 evL (cx ρ) call yc false 21 lim k (Code.at [1,0,1,0,0] c21) (sp 42 [(0,x0),(3,x3)]) H (kk (some [0,3]) kn [(0,(some []),k0)] R [2]) = N21_3b ρ call yc lim k x0 x3 H (fun x3 H => kn (sp 42 [(0,x0),(3,x3)]) H) (fun H => k0 (sp 42 []) H) R := by
 rw [evL_X,N21_3b_x]
 simp only [← evL_X,N21_3b,N21_4_eq,N21_5_eq]
noncomputable def N21_3 (ρ : RO) (call : CallF) (yc : YieldF) (lim k : Nat) (x0 x3 : AV) (H : Heap) (k0 : Heap → Res) (R : KR) : Res :=
 loopL (fun (x : AV) H kn => N21_3b ρ call yc lim k x0 x H (fun x3 H => kn x3 H) k0 R) k x3 H
theorem N21_3_eq (ρ call yc lim k x0 x3 H kn k0 R) :
 evL (cx ρ) call yc false 21 lim k (Code.at [1,0,1,0] c21) (sp 42 [(0,x0),(3,x3)]) H (kk (some []) kn [(0,(some []),k0)] R [2]) = N21_3 ρ call yc lim k x0 x3 H (fun H => k0 (sp 42 []) H) R := by
 have e : Code.at [1,0,1,0] c21 = .loop (Code.at [1,0,1,0,0] c21) := by kernel_rfl
 rw [e]
 unfold N21_3
 exact loop_node [0,3] (fun x : AV => (sp 42 [(0,x0),(3,(x))])) (fun (x : AV) H kn => N21_3b ρ call yc lim k x0 x H (fun x3 H => kn x3 H) (fun H => k0 (sp 42 []) H) R) (by kernel_rfl) (fun x => by kernel_rfl) (fun x H kn => N21_3b_eq ρ call yc lim k x0 (x) H kn k0 R) x3 (sp 42 [(0,x0),(3,x3)]) H (by kernel_rfl)
noncomputable def N21_2 (ρ : RO) (call : CallF) (yc : YieldF) (lim k : Nat) (x0 x3 : AV) (H : Heap) (kn : Heap → Res) (R : KR) : Res :=
 N21_3 ρ call yc lim k x0 x3 H kn R
theorem N21_2_x (ρ call yc lim k J x0 x3 H kn R) :
 evX (cx ρ) call yc false 21 lim k J (Code.at [1,0,1] c21) (sp 42 [(0,x0),(3,x3)]) H (kk (some []) kn [] R [2]) =
 J (Code.at [1,0,1,0] c21) (sp 42 [(0,x0),(3,x3)]) H (kk (some []) kn [(0,(some []),kn)] R [2]) := by
 kernel_rfl
theorem N21_2_eq (ρ call yc lim k x0 x3 H kn R) :
 evL (cx ρ) call yc false 21 lim k (Code.at [1,0,1] c21) (sp 42 [(0,x0),(3,x3)]) H (kk (some []) kn [] R [2]) = N21_2 ρ call yc lim k x0 x3 H (fun H => kn (sp 42 []) H) R := by
 rw [evL_X,N21_2_x]
 simp only [← evL_X,N21_2,N21_3_eq]
noncomputable def L21 (ρ : RO) (call : CallF) (yc : YieldF) (lim k : Nat) (x0 : AV) (H : Heap) : Res :=
 N21_2 ρ call yc lim k x0 (.int .i64 0) H (fun H =>
 N21_1 ρ call yc lim k H retK) retK
theorem L21_x (ρ call yc lim k J x0 H) :
 evX (cx ρ) call yc false 21 lim k J c21 ([x0] ++ List.replicate 41 (.tup [])) H (kk none (fun s H => retK (gs [2] s) H) [] retK [2]) =
 J (Code.at [1,0,1] c21) (sp 42 [(0,x0),(3,(.int .i64 0))]) H (kk (some []) (fun s H => J (Code.at [1,1] c21) s H (kk none (fun s H => retK (gs [2] s) H) [] retK [2])) [] retK [2]) := by
 kernel_rfl
theorem G21 (ρ call yc lim k x0 H) :
 evL (cx ρ) call yc false 21 lim k c21 ([x0] ++ List.replicate 41 (.tup [])) H (kk none (fun s H => retK (gs [2] s) H) [] retK [2]) = L21 ρ call yc lim k x0 H := by
 rw [evL_X,L21_x]
 simp only [← evL_X,L21,N21_1_eq,N21_2_eq]
theorem E21 (ρ : RO) (k lim : Nat) (x0 : AV) (H : Heap) : evCall (cx ρ) (k + 1) lim 21 [x0] H = L21 ρ (evCall (cx ρ) k) (evCY (cx ρ) k).2 lim k x0 H := by
 rw [evCall_body (cx ρ) k lim 21 _ H Try.f21 c21 [2] (by kernel_rfl) (by kernel_rfl) (by kernel_rfl) (by kernel_rfl) (by kernel_rfl)]
 exact G21 ρ (evCall (cx ρ) k) (evCY (cx ρ) k).2 lim k x0 H
-- haycroft/history.Check
noncomputable def c22 : Code := Code.of Try.prog 22
noncomputable def N22_1 (ρ : RO) (call : CallF) (yc : YieldF) (lim k : Nat) (x4 : AV) (H : Heap) (R : KR) : Res :=
 R [x4,(.int .i64 0)] H
theorem N22_1_eq (ρ call yc lim k x4 H R) :
 evL (cx ρ) call yc false 22 lim k (Code.at [1,1,1,1] c22) (sp 36 [(4,x4)]) H (kk none (fun s H => R (gs [2,3] s) H) [] R [2,3]) = N22_1 ρ call yc lim k x4 H R := by
 kernel_rfl
noncomputable def N22_3b (ρ : RO) (call : CallF) (yc : YieldF) (lim k : Nat) (x0 x4 x14 x15 x16 : AV) (H : Heap) (kn : AV → AV → Heap → Res) (k0 : AV → Heap → Res) (R : KR) : Res :=
 purK (binA Try.prog H .lss 3 x16 x15) fun x17_1 =>
 condK x17_1
 (
 purK (ixS 1 x14 x16) fun x18_1 =>
 purK (ld1 ρ H x18_1) fun x19_1 =>
 resK (call lim 25 [x0,x19_1] H) fun x23_1 H =>
 purK (extA 0 x23_1) fun x24_1 =>
 purK (extA 1 x23_1) fun x25_1 =>
 purK (extA 2 x23_1) fun x26_1 =>
 purK (binA Try.prog H .neq 25 x26_1 (.int .i64 0)) fun x28_1 =>
 condK x28_1
 (
 R [(.bool false),x26_1] H)
 (
 purK (gPur (wantV x4 true) (some x25_1)) fun x32_1 =>
 purK (pickA x4 x32_1 (.bool false)) fun x33_1 =>
 purK (binA Try.prog H .add 3 x16 (.int .i64 1)) fun x34_1 =>
 kn x33_1 x34_1 H))
 (
 k0 x4 H)
theorem N22_3b_eq (ρ call yc lim k x0 x4 x14 x15 x16 H kn k0 R) :
 evL (cx ρ) call yc false 22 lim k (Code.at [1,1,1,0,1,0,0] c22) (sp 36 [(0,x0),(4,x4),(14,x14),(15,x15),(16,x16)]) H (kk (some [0,4,14,15,16]) kn [(0,(some [4]),k0)] R [2,3]) = N22_3b ρ call yc lim k x0 x4 x14 x15 x16 H (fun x4 x16 H => kn (sp 36 [(0,x0),(4,x4),(14,x14),(15,x15),(16,x16)]) H) (fun x4 H => k0 (sp 36 [(4,x4)]) H) R := by
 kernel_rfl
noncomputable def N22_3 (ρ : RO) (call : CallF) (yc : YieldF) (lim k : Nat) (x0 x4 x14 x15 x16 : AV) (H : Heap) (k0 : AV → Heap → Res) (R : KR) : Res :=
 loopL (fun (x : AV × AV) H kn => N22_3b ρ call yc lim k x0 x.1 x14 x15 x.2 H (fun x4 x16 H => kn (x4,x16) H) k0 R) k (x4,x16) H
theorem N22_3_eq (ρ call yc lim k x0 x4 x14 x15 x16 H kn k0 R) :
 evL (cx ρ) call yc false 22 lim k (Code.at [1,1,1,0,1,0] c22) (sp 36 [(0,x0),(4,x4),(14,x14),(15,x15),(16,x16)]) H (kk (some [4]) kn [(0,(some [4]),k0)] R [2,3]) = N22_3 ρ call yc lim k x0 x4 x14 x15 x16 H (fun x4 H => k0 (sp 36 [(4,x4)]) H) R := by
 have e : Code.at [1,1,1,0,1,0] c22 = .loop (Code.at [1,1,1,0,1,0,0] c22) := by kernel_rfl
 rw [e]
 unfold N22_3
 exact loop_node [0,4,14,15,16] (fun x : AV × AV => (sp 36 [(0,x0),(4,(x.1)),(14,x14),(15,x15),(16,(x.2))])) (fun (x : AV × AV) H kn => N22_3b ρ call yc lim k x0 x.1 x14 x15 x.2 H (fun x4 x16 H => kn (x4,x16) H) (fun x4 H => k0 (sp 36 [(4,x4)]) H) R) (by kernel_rfl) (fun x => by kernel_rfl) (fun x H kn => N22_3b_eq ρ call yc lim k x0 (x.1) x14 x15 (x.2) H kn k0 R) (x4,x16) (sp 36 [(0,x0),(4,x4),(14,x14),(15,x15),(16,x16)]) H (by kernel_rfl)
noncomputable def N22_2 (ρ : RO) (call : CallF) (yc : YieldF) (lim k : Nat) (x0 x4 x14 x15 x16 : AV) (H : Heap) (kn : AV → Heap → Res) (R : KR) : Res :=
 N22_3 ρ call yc lim k x0 x4 x14 x15 x16 H kn R
theorem N22_2_x (ρ call yc lim k J x0 x4 x14 x15 x16 H kn R) :
 evX (cx ρ) call yc false 22 lim k J (Code.at [1,1,1,0,1] c22) (sp 36 [(0,x0),(4,x4),(14,x14),(15,x15),(16,x16)]) H (kk (some [4]) kn [] R [2,3]) =
 J (Code.at [1,1,1,0,1,0] c22) (sp 36 [(0,x0),(4,x4),(14,x14),(15,x15),(16,x16)]) H (kk (some [4]) kn [(0,(some [4]),kn)] R [2,3]) := by
 kernel_rfl
theorem N22_2_eq (ρ call yc lim k x0 x4 x14 x15 x16 H kn R) :
 evL (cx ρ) call yc false 22 lim k (Code.at [1,1,1,0,1] c22) (sp 36 [(0,x0),(4,x4),(14,x14),(15,x15),(16,x16)]) H (kk (some [4]) kn [] R [2,3]) = N22_2 ρ call yc lim k x0 x4 x14 x15 x16 H (fun x4 H => kn (sp 36 [(4,x4)]) H) R := by
 rw [evL_X,N22_2_x]
 simp only [← evL_X,N22_2,N22_3_eq]
noncomputable def L22 (ρ : RO) (call : CallF) (yc : YieldF) (lim k : Nat) (x0 : AV) (H : Heap) : Res :=
 resK (call lim 24 [x0] H) fun x11 H =>
 purK (unA .not x11) fun x12 =>
 condK x12
 (
 retK [(.bool false),(.int .i64 1)] H)
 (
 resK (call lim 23 [x0] H) fun x14 H =>
 purK (lenS x14) fun x15 =>
 N22_2 ρ call yc lim k x0 (.bool true) x14 x15 (.int .i64 0) H (fun x4 H =>
 N22_1 ρ call yc lim k x4 H retK) retK)
theorem L22_x (ρ call yc lim k J x0 H) :
 evX (cx ρ) call yc false 22 lim k J c22 ([x0] ++ List.replicate 35 (.tup [])) H (kk none (fun s H => retK (gs [2,3] s) H) [] retK [2,3]) =
 resK (call lim 24 [x0] H) fun x11 H =>
 purK (unA .not x11) fun x12 =>
 condK x12
 (
 retK [(.bool false),(.int .i64 1)] H)
 (
 resK (call lim 23 [x0] H) fun x14 H =>
 purK (lenS x14) fun x15 =>
 J (Code.at [1,1,1,0,1] c22) (sp 36 [(0,x0),(4,(.bool true)),(14,x14),(15,x15),(16,(.int .i64 0))]) H (kk (some [4]) (fun s H => J (Code.at [1,1,1,1] c22) s H (kk none (fun s H => retK (gs [2,3] s) H) [] retK [2,3])) [] retK [2,3])) := by
 kernel_rfl
theorem G22 (ρ call yc lim k x0 H) :
 evL (cx ρ) call yc false 22 lim k c22 ([x0] ++ List.replicate 35 (.tup [])) H (kk none (fun s H => retK (gs [2,3] s) H) [] retK [2,3]) = L22 ρ call yc lim k x0 H := by
 rw [evL_X,L22_x]
 simp only [← evL_X,L22,N22_1_eq,N22_2_eq]
theorem E22 (ρ : RO) (k lim : Nat) (x0 : AV) (H : Heap) : evCall (cx ρ) (k + 1) lim 22 [x0] H = L22 ρ (evCall (cx ρ) k) (evCY (cx ρ) k).2 lim k x0 H := by
 rw [evCall_body (cx ρ) k lim 22 _ H Try.f22 c22 [2,3] (by kernel_rfl) (by kernel_rfl) (by kernel_rfl) (by kernel_rfl) (by kernel_rfl)]
 exact G22 ρ (evCall (cx ρ) k) (evCY (cx ρ) k).2 lim k x0 H
-- haycroft/history.Keys
noncomputable def c23 : Code := Code.of Try.prog 23
noncomputable def N23_1 (ρ : RO) (call : CallF) (yc : YieldF) (lim k : Nat) (x3 : AV) (H : Heap) (R : KR) : Res :=
 resK (call lim 45 [x3] H) fun x20_1 H =>
 resK (call lim 46 [x3] H) fun x22_1 H =>
 R [x22_1] H
theorem N23_1_eq (ρ call yc lim k x3 H R) :
 evL (cx ρ) call yc false 23 lim k (Code.at [1,1,1] c23) (sp 23 [(3,x3)]) H (kk none (fun s H => R (gs [2] s) H) [] R [2]) = N23_1 ρ call yc lim k x3 H R := by
 kernel_rfl
noncomputable def N23_3b (ρ : RO) (call : CallF) (yc : YieldF) (lim k : Nat) (x3 x6 x7 x8 : AV) (H : Heap) (kn : AV → AV → Heap → Res) (k0 : AV → Heap → Res) : Res :=
 purK (binA Try.prog H .lss 3 x8 x7) fun x9_1 =>
 condK x9_1
 (
 purK (ixS 8 x6 x8) fun x10_1 =>
 purK (ldN ρ H 8 x10_1) fun x11_1 =>
 effK H (some (.ptr H.sz 0 0,.new (newCells 55 false [.int .i64 0,.str ByteArray.empty,.str ByteArray.empty,.int .u64 0,.int .i64 0,.str ByteArray.empty,.int .i64 0,.int .i64 0]))) fun x5_1 H =>
 effK H (stA lim H 8 x5_1 x11_1) fun _ H =>
 purK (addA 0 x5_1) fun x13_1 =>
 purK (addA 1 x13_1) fun x14_1 =>
 purK (ld1 ρ H x14_1) fun x15_1 =>
 effK H (bldS H 9 1 [.str ByteArray.empty] 1 [(0,1,x15_1)]) fun x16_1 H =>
 effK H (apA ρ lim H 9 1 16 x3 x16_1) fun x17_1 H =>
 purK (binA Try.prog H .add 3 x8 (.int .i64 1)) fun x18_1 =>
 kn x17_1 x18_1 H)
 (
 k0 x3 H)
theorem N23_3b_eq (ρ call yc lim k x3 x6 x7 x8 H kn k0 R) :
 evL (cx ρ) call yc false 23 lim k (Code.at [1,1,0,1,0,0] c23) (sp 23 [(3,x3),(6,x6),(7,x7),(8,x8)]) H (kk (some [3,6,7,8]) kn [(0,(some [3]),k0)] R [2]) = N23_3b ρ call yc lim k x3 x6 x7 x8 H (fun x3 x8 H => kn (sp 23 [(3,x3),(6,x6),(7,x7),(8,x8)]) H) (fun x3 H => k0 (sp 23 [(3,x3)]) H) := by
 kernel_rfl
noncomputable def N23_3 (ρ : RO) (call : CallF) (yc : YieldF) (lim k : Nat) (x3 x6 x7 x8 : AV) (H : Heap) (k0 : AV → Heap → Res) : Res :=
 loopL (fun (x : AV × AV) H kn => N23_3b ρ call yc lim k x.1 x6 x7 x.2 H (fun x3 x8 H => kn (x3,x8) H) k0) k (x3,x8) H
theorem N23_3_eq (ρ call yc lim k x3 x6 x7 x8 H kn k0 R) :
 evL (cx ρ) call yc false 23 lim k (Code.at [1,1,0,1,0] c23) (sp 23 [(3,x3),(6,x6),(7,x7),(8,x8)]) H (kk (some [3]) kn [(0,(some [3]),k0)] R [2]) = N23_3 ρ call yc lim k x3 x6 x7 x8 H (fun x3 H => k0 (sp 23 [(3,x3)]) H) := by
 have e : Code.at [1,1,0,1,0] c23 = .loop (Code.at [1,1,0,1,0,0] c23) := by kernel_rfl
 rw [e]
 unfold N23_3
 exact loop_node [3,6,7,8] (fun x : AV × AV => (sp 23 [(3,(x.1)),(6,x6),(7,x7),(8,(x.2))])) (fun (x : AV × AV) H kn => N23_3b ρ call yc lim k x.1 x6 x7 x.2 H (fun x3 x8 H => kn (x3,x8) H) (fun x3 H => k0 (sp 23 [(3,x3)]) H)) (by kernel_rfl) (fun x => by kernel_rfl) (fun x H kn => N23_3b_eq ρ call yc lim k (x.1) x6 x7 (x.2) H kn k0 R) (x3,x8) (sp 23 [(3,x3),(6,x6),(7,x7),(8,x8)]) H (by kernel_rfl)
noncomputable def N23_2 (ρ : RO) (call : CallF) (yc : YieldF) (lim k : Nat) (x3 x6 x7 x8 : AV) (H : Heap) (kn : AV → Heap → Res) : Res :=
 N23_3 ρ call yc lim k x3 x6 x7 x8 H kn
theorem N23_2_x (ρ call yc lim k J x3 x6 x7 x8 H kn R) :
 evX (cx ρ) call yc false 23 lim k J (Code.at [1,1,0,1] c23) (sp 23 [(3,x3),(6,x6),(7,x7),(8,x8)]) H (kk (some [3]) kn [] R [2]) =
 J (Code.at [1,1,0,1,0] c23) (sp 23 [(3,x3),(6,x6),(7,x7),(8,x8)]) H (kk (some [3]) kn [(0,(some [3]),kn)] R [2]) := by
 kernel_rfl
theorem N23_2_eq (ρ call yc lim k x3 x6 x7 x8 H kn R) :
 evL (cx ρ) call yc false 23 lim k (Code.at [1,1,0,1] c23) (sp 23 [(3,x3),(6,x6),(7,x7),(8,x8)]) H (kk (some [3]) kn [] R [2]) = N23_2 ρ call yc lim k x3 x6 x7 x8 H (fun x3 H => kn (sp 23 [(3,x3)]) H) := by
 rw [evL_X,N23_2_x]
 simp only [← evL_X,N23_2,N23_3_eq]
noncomputable def L23 (ρ : RO) (call : CallF) (yc : YieldF) (lim k : Nat) (x0 : AV) (H : Heap) : Res :=
 purK (lenS x0) fun x7 =>
 N23_2 ρ call yc lim k .nils x0 x7 (.int .i64 0) H (fun x3 H =>
 N23_1 ρ call yc lim k x3 H retK)
theorem L23_x (ρ call yc lim k J x0 H) :
 evX (cx ρ) call yc false 23 lim k J c23 ([x0] ++ List.replicate 22 (.tup [])) H (kk none (fun s H => retK (gs [2] s) H) [] retK [2]) =
 purK (lenS x0) fun x7 =>
 J (Code.at [1,1,0,1] c23) (sp 23 [(3,.nils),(6,x0),(7,x7),(8,(.int .i64 0))]) H (kk (some [3]) (fun s H => J (Code.at [1,1,1] c23) s H (kk none (fun s H => retK (gs [2] s) H) [] retK [2])) [] retK [2]) := by
 kernel_rfl
theorem G23 (ρ call yc lim k x0 H) :
 evL (cx ρ) call yc false 23 lim k c23 ([x0] ++ List.replicate 22 (.tup [])) H (kk none (fun s H => retK (gs [2] s) H) [] retK [2]) = L23 ρ call yc lim k x0 H := by
 rw [evL_X,L23_x]
 simp only [← evL_X,L23,N23_1_eq,N23_2_eq]
theorem E23 (ρ : RO) (k lim : Nat) (x0 : AV) (H : Heap) : evCall (cx ρ) (k + 1) lim 23 [x0] H = L23 ρ (evCall (cx ρ) k) (evCY (cx ρ) k).2 lim k x0 H := by
 rw [evCall_body (cx ρ) k lim 23 _ H Try.f23 c23 [2] (by kernel_rfl) (by kernel_rfl) (by kernel_rfl) (by kernel_rfl) (by kernel_rfl)]
 exact G23 ρ (evCall (cx ρ) k) (evCY (cx ρ) k).2 lim k x0 H
-- haycroft/history.Right
noncomputable def c24 : Code := Code.of Try.prog 24
noncomputable def L24 (ρ : RO) (call : CallF) (yc : YieldF) (lim k : Nat) (x0 : AV) (H : Heap) : Res :=
 resK (call lim 47 [x0,(.fn (.func 48) [] [])] H) fun x4 H =>
 purK (unA .not x4) fun x5 =>
 retK [x5] H
theorem G24 (ρ call yc lim k x0 H) :
 evL (cx ρ) call yc false 24 lim k c24 ([x0] ++ List.replicate 5 (.tup [])) H (kk none (fun s H => retK (gs [2] s) H) [] retK [2]) = L24 ρ call yc lim k x0 H := by
 kernel_rfl
theorem E24 (ρ : RO) (k lim : Nat) (x0 : AV) (H : Heap) : evCall (cx ρ) (k + 1) lim 24 [x0] H = L24 ρ (evCall (cx ρ) k) (evCY (cx ρ) k).2 lim k x0 H := by
 rw [evCall_body (cx ρ) k lim 24 _ H Try.f24 c24 [2] (by kernel_rfl) (by kernel_rfl) (by kernel_rfl) (by kernel_rfl) (by kernel_rfl)]
 exact G24 ρ (evCall (cx ρ) k) (evCY (cx ρ) k).2 lim k x0 H
-- haycroft/history.Order
noncomputable def c25 : Code := Code.of Try.prog 25
noncomputable def N25_1 (ρ : RO) (call : CallF) (yc : YieldF) (lim k : Nat) (x7 x9 : AV) (H : Heap) (R : KR) : Res :=
 purK (ixS 3 x9 (.int .i64 0)) fun x26_1 =>
 purK (ldN ρ H 3 x26_1) fun x27_1 =>
 resK (call lim 51 [x7,x27_1] H) fun x28_1 H =>
 R [x28_1,(.bool true),(.int .i64 0)] H
theorem N25_1_eq (ρ call yc lim k x7 x9 H R) :
 evL (cx ρ) call yc false 25 lim k (Code.at [1,1,1,1,1] c25) (sp 29 [(7,x7),(9,x9)]) H (kk none (fun s H => R (gs [4,5,6] s) H) [] R [4,5,6]) = N25_1 ρ call yc lim k x7 x9 H R := by
 kernel_rfl
noncomputable def L25 (ρ : RO) (call : CallF) (yc : YieldF) (lim k : Nat) (x0 x1 : AV) (H : Heap) : Res :=
 resK (call lim 49 [x0,x1] H) fun x13 H =>
 purK (extA 0 x13) fun x14 =>
 purK (extA 1 x13) fun x15 =>
 purK (binA Try.prog H .neq 25 x15 (.int .i64 0)) fun x17 =>
 condK x17
 (
 retK [.nils,(.bool false),x15] H)
 (
 resK (call lim 50 [x14] H) fun x20 H =>
 purK (lenS x20) fun x22 =>
 purK (binA Try.prog H .eql 3 x22 (.int .i64 0)) fun x23 =>
 condK x23
 (
 retK [.nils,(.bool false),(.int .i64 0)] H)
 (
 N25_1 ρ call yc lim k x14 x20 H retK))
theorem L25_x (ρ call yc lim k J x0 x1 H) :
 evX (cx ρ) call yc false 25 lim k J c25 ([x0,x1] ++ List.replicate 27 (.tup [])) H (kk none (fun s H => retK (gs [4,5,6] s) H) [] retK [4,5,6]) =
 resK (call lim 49 [x0,x1] H) fun x13 H =>
 purK (extA 0 x13) fun x14 =>
 purK (extA 1 x13) fun x15 =>
 purK (binA Try.prog H .neq 25 x15 (.int .i64 0)) fun x17 =>
 condK x17
 (
 retK [.nils,(.bool false),x15] H)
 (
 resK (call lim 50 [x14] H) fun x20 H =>
 purK (lenS x20) fun x22 =>
 purK (binA Try.prog H .eql 3 x22 (.int .i64 0)) fun x23 =>
 condK x23
 (
 retK [.nils,(.bool false),(.int .i64 0)] H)
 (
 J (Code.at [1,1,1,1,1] c25) (sp 29 [(7,x14),(9,x20)]) H (kk none (fun s H => retK (gs [4,5,6] s) H) [] retK [4,5,6]))) := by
 kernel_rfl
theorem G25 (ρ call yc lim k x0 x1 H) :
 evL (cx ρ) call yc false 25 lim k c25 ([x0,x1] ++ List.replicate 27 (.tup [])) H (kk none (fun s H => retK (gs [4,5,6] s) H) [] retK [4,5,6]) = L25 ρ call yc lim k x0 x1 H := by
 rw [evL_X,L25_x]
 simp only [← evL_X,L25,N25_1_eq]
theorem E25 (ρ : RO) (k lim : Nat) (x0 x1 : AV) (H : Heap) : evCall (cx ρ) (k + 1) lim 25 [x0,x1] H = L25 ρ (evCall (cx ρ) k) (evCY (cx ρ) k).2 lim k x0 x1 H := by
 rw [evCall_body (cx ρ) k lim 25 _ H Try.f25 c25 [4,5,6] (by kernel_rfl) (by kernel_rfl) (by kernel_rfl) (by kernel_rfl) (by kernel_rfl)]
 exact G25 ρ (evCall (cx ρ) k) (evCY (cx ρ) k).2 lim k x0 x1 H
-- haycroft/haycroftref20.Of
noncomputable def c26 : Code := Code.of Try.prog 26
noncomputable def N26_1 (ρ : RO) (call : CallF) (yc : YieldF) (lim k : Nat) (x5 : AV) (H : Heap) (R : KR) : Res :=
 R [x5] H
theorem N26_1_eq (ρ call yc lim k x5 H R) :
 evL (cx ρ) call yc false 26 lim k (Code.at [1,1,1] c26) (sp 48 [(5,x5)]) H (kk none (fun s H => R (gs [4] s) H) [] R [4]) = N26_1 ρ call yc lim k x5 H R := by
 kernel_rfl
noncomputable def N26_4 (ρ : RO) (call : CallF) (yc : YieldF) (lim k : Nat) (x0 x1 x5 x6 : AV) (H : Heap) (kn : AV → AV → Heap → Res) : Res :=
 purK (binA Try.prog H .add 3 x6 (.int .i64 1)) fun x13_1 =>
 kn x5 x13_1 H
theorem N26_4_eq (ρ call yc lim k x0 x1 x5 x6 H kn k0 R) :
 evL (cx ρ) call yc false 26 lim k (Code.at [1,1,0,1,0,0,1,1] c26) (sp 48 [(0,x0),(1,x1),(5,x5),(6,x6)]) H (kk (some [0,1,5,6]) kn [(0,(some [5]),k0)] R [4]) = N26_4 ρ call yc lim k x0 x1 x5 x6 H (fun x5 x6 H => kn (sp 48 [(0,x0),(1,x1),(5,x5),(6,x6)]) H) := by
 kernel_rfl
noncomputable def N26_5 (ρ : RO) (call : CallF) (yc : YieldF) (lim k : Nat) (x0 x1 x5 x6 x39 : AV) (H : Heap) (kn : AV → AV → Heap → Res) : Res :=
 condK x39
 (
 purK (ixS 8 x0 x6) fun x43_1 =>
 purK (ldN ρ H 8 x43_1) fun x44_1 =>
 effK H (bldS H 55 8 [.int .i64 0,.str ByteArray.empty,.str ByteArray.empty,.int .u64 0,.int .i64 0,.str ByteArray.empty,.int .i64 0,.int .i64 0] 1 [(0,8,x44_1)]) fun x45_1 H =>
 effK H (apA ρ lim H 55 8 88 x5 x45_1) fun x46_1 H =>
 kn x46_1 x6 H)
 (
 kn x5 x6 H)
theorem N26_5_eq (ρ call yc lim k x0 x1 x5 x6 x39 H kn k1 k0 R) :
 evL (cx ρ) call yc false 26 lim k (Code.at [1,1,0,1,0,0,1,0,0,1] c26) (sp 48 [(0,x0),(1,x1),(5,x5),(6,x6),(39,x39)]) H (kk (some [0,1,5,6]) kn [(1,(some [0,1,5,6]),k1),(0,(some [5]),k0)] R [4]) = N26_5 ρ call yc lim k x0 x1 x5 x6 x39 H (fun x5 x6 H => kn (sp 48 [(0,x0),(1,x1),(5,x5),(6,x6)]) H) := by
 kernel_rfl
noncomputable def N26_3b (ρ : RO) (call : CallF) (yc : YieldF) (lim k : Nat) (x0 x1 x5 x6 : AV) (H : Heap) (kn : AV → AV → Heap → Res) (k0 : AV → Heap → Res) : Res :=
 purK (lenS x0) fun x10_1 =>
 purK (binA Try.prog H .lss 3 x6 x10_1) fun x11_1 =>
 condK x11_1
 (
 purK (ixS 8 x0 x6) fun x16_1 =>
 purK (addA 0 x16_1) fun x17_1 =>
 purK (addA 1 x17_1) fun x18_1 =>
 purK (ld1 ρ H x18_1) fun x19_1 =>
 purK (binA Try.prog H .eql 9 x19_1 x1) fun x21_1 =>
 purK (gPur (wantV x21_1 true) (some x0)) fun x23_1 =>
 purK (gPur (wantV x21_1 true) (some x6)) fun x24_1 =>
 purK (gPur (wantV x21_1 true) (ixS 8 x23_1 x24_1)) fun x25_1 =>
 purK (gPur (wantV x21_1 true) (addA 7 x25_1)) fun x26_1 =>
 purK (gPur (wantV x21_1 true) (ld1 ρ H x26_1)) fun x27_1 =>
 purK (gPur (wantV x21_1 true) (binA Try.prog H .gtr 3 x27_1 (.int .i64 0))) fun x28_1 =>
 purK (gPur (wantV x21_1 true) (some x28_1)) fun x29_1 =>
 purK (gPur (wantV x29_1 true) (some x0)) fun x30_1 =>
 purK (gPur (wantV x29_1 true) (some x6)) fun x31_1 =>
 purK (gPur (wantV x29_1 true) (ixS 8 x30_1 x31_1)) fun x32_1 =>
 purK (gPur (wantV x29_1 true) (addA 4 x32_1)) fun x33_1 =>
 purK (gPur (wantV x29_1 true) (addA 0 x33_1)) fun x34_1 =>
 purK (gPur (wantV x29_1 true) (ld1 ρ H x34_1)) fun x35_1 =>
 purK (gPur (wantV x29_1 true) (binA Try.prog H .eql 25 x35_1 (.int .i64 9))) fun x36_1 =>
 purK (gPur (wantV x21_1 true) (pickA x29_1 x36_1 (.bool false))) fun x37_1 =>
 purK (gPur (wantV x21_1 true) (unA .not x37_1)) fun x38_1 =>
 purK (pickA x21_1 x38_1 (.bool false)) fun x39_1 =>
 N26_5 ρ call yc lim k x0 x1 x5 x6 x39_1 H (fun x5_1 x6_1 H =>
 N26_4 ρ call yc lim k x0 x1 x5_1 x6_1 H kn))
 (
 k0 x5 H)
theorem N26_3b_x (ρ call yc lim k J x0 x1 x5 x6 H kn k0 R) :
 evX (cx ρ) call yc false 26 lim k J (Code.at [1,1,0,1,0,0] c26) (sp 48 [(0,x0),(1,x1),(5,x5),(6,x6)]) H (kk (some [0,1,5,6]) kn [(0,(some [5]),k0)] R [4]) =
 purK (lenS x0) fun x10_1 =>
 purK (binA Try.prog H .lss 3 x6 x10_1) fun x11_1 =>
 condK x11_1
 (
 purK (ixS 8 x0 x6) fun x16_1 =>
 purK (addA 0 x16_1) fun x17_1 =>
 purK (addA 1 x17_1) fun x18_1 =>
 purK (ld1 ρ H x18_1) fun x19_1 =>
 purK (binA Try.prog H .eql 9 x19_1 x1) fun x21_1 =>
 purK (gPur (wantV x21_1 true) (some x0)) fun x23_1 =>
 purK (gPur (wantV x21_1 true) (some x6)) fun x24_1 =>
 purK (gPur (wantV x21_1 true) (ixS 8 x23_1 x24_1)) fun x25_1 =>
 purK (gPur (wantV x21_1 true) (addA 7 x25_1)) fun x26_1 =>
 purK (gPur (wantV x21_1 true) (ld1 ρ H x26_1)) fun x27_1 =>
 purK (gPur (wantV x21_1 true) (binA Try.prog H .gtr 3 x27_1 (.int .i64 0))) fun x28_1 =>
 purK (gPur (wantV x21_1 true) (some x28_1)) fun x29_1 =>
 purK (gPur (wantV x29_1 true) (some x0)) fun x30_1 =>
 purK (gPur (wantV x29_1 true) (some x6)) fun x31_1 =>
 purK (gPur (wantV x29_1 true) (ixS 8 x30_1 x31_1)) fun x32_1 =>
 purK (gPur (wantV x29_1 true) (addA 4 x32_1)) fun x33_1 =>
 purK (gPur (wantV x29_1 true) (addA 0 x33_1)) fun x34_1 =>
 purK (gPur (wantV x29_1 true) (ld1 ρ H x34_1)) fun x35_1 =>
 purK (gPur (wantV x29_1 true) (binA Try.prog H .eql 25 x35_1 (.int .i64 9))) fun x36_1 =>
 purK (gPur (wantV x21_1 true) (pickA x29_1 x36_1 (.bool false))) fun x37_1 =>
 purK (gPur (wantV x21_1 true) (unA .not x37_1)) fun x38_1 =>
 purK (pickA x21_1 x38_1 (.bool false)) fun x39_1 =>
 J (Code.at [1,1,0,1,0,0,1,0,0,1] c26) (sp 48 [(0,x0),(1,x1),(5,x5),(6,x6),(39,x39_1)]) H (kk (some [0,1,5,6]) (fun s H => J (Code.at [1,1,0,1,0,0,1,1] c26) s H (kk (some [0,1,5,6]) kn [(0,(some [5]),k0)] R [4])) [(1,(some [0,1,5,6]),(fun s H => J (Code.at [1,1,0,1,0,0,1,1] c26) s H (kk (some [0,1,5,6]) kn [(0,(some [5]),k0)] R [4]))),(0,(some [5]),k0)] R [4]))
 (
 k0 (sp 48 [(5,x5)]) H) := by
 kernel_rfl
theorem N26_3b_eq (ρ call yc lim k x0 x1 x5 x6 H kn k0 R) :
 evL (cx ρ) call yc false 26 lim k (Code.at [1,1,0,1,0,0] c26) (sp 48 [(0,x0),(1,x1),(5,x5),(6,x6)]) H (kk (some [0,1,5,6]) kn [(0,(some [5]),k0)] R [4]) = N26_3b ρ call yc lim k x0 x1 x5 x6 H (fun x5 x6 H => kn (sp 48 [(0,x0),(1,x1),(5,x5),(6,x6)]) H) (fun x5 H => k0 (sp 48 [(5,x5)]) H) := by
 rw [evL_X,N26_3b_x]
 simp only [← evL_X,N26_3b,N26_4_eq,N26_5_eq]
noncomputable def N26_3 (ρ : RO) (call : CallF) (yc : YieldF) (lim k : Nat) (x0 x1 x5 x6 : AV) (H : Heap) (k0 : AV → Heap → Res) : Res :=
 loopL (fun (x : AV × AV) H kn => N26_3b ρ call yc lim k x0 x1 x.1 x.2 H (fun x5 x6 H => kn (x5,x6) H) k0) k (x5,x6) H
theorem N26_3_eq (ρ call yc lim k x0 x1 x5 x6 H kn k0 R) :
 evL (cx ρ) call yc false 26 lim k (Code.at [1,1,0,1,0] c26) (sp 48 [(0,x0),(1,x1),(5,x5),(6,x6)]) H (kk (some [5]) kn [(0,(some [5]),k0)] R [4]) = N26_3 ρ call yc lim k x0 x1 x5 x6 H (fun x5 H => k0 (sp 48 [(5,x5)]) H) := by
 have e : Code.at [1,1,0,1,0] c26 = .loop (Code.at [1,1,0,1,0,0] c26) := by kernel_rfl
 rw [e]
 unfold N26_3
 exact loop_node [0,1,5,6] (fun x : AV × AV => (sp 48 [(0,x0),(1,x1),(5,(x.1)),(6,(x.2))])) (fun (x : AV × AV) H kn => N26_3b ρ call yc lim k x0 x1 x.1 x.2 H (fun x5 x6 H => kn (x5,x6) H) (fun x5 H => k0 (sp 48 [(5,x5)]) H)) (by kernel_rfl) (fun x => by kernel_rfl) (fun x H kn => N26_3b_eq ρ call yc lim k x0 x1 (x.1) (x.2) H kn k0 R) (x5,x6) (sp 48 [(0,x0),(1,x1),(5,x5),(6,x6)]) H (by kernel_rfl)
noncomputable def N26_2 (ρ : RO) (call : CallF) (yc : YieldF) (lim k : Nat) (x0 x1 x5 x6 : AV) (H : Heap) (kn : AV → Heap → Res) : Res :=
 N26_3 ρ call yc lim k x0 x1 x5 x6 H kn
theorem N26_2_x (ρ call yc lim k J x0 x1 x5 x6 H kn R) :
 evX (cx ρ) call yc false 26 lim k J (Code.at [1,1,0,1] c26) (sp 48 [(0,x0),(1,x1),(5,x5),(6,x6)]) H (kk (some [5]) kn [] R [4]) =
 J (Code.at [1,1,0,1,0] c26) (sp 48 [(0,x0),(1,x1),(5,x5),(6,x6)]) H (kk (some [5]) kn [(0,(some [5]),kn)] R [4]) := by
 kernel_rfl
theorem N26_2_eq (ρ call yc lim k x0 x1 x5 x6 H kn R) :
 evL (cx ρ) call yc false 26 lim k (Code.at [1,1,0,1] c26) (sp 48 [(0,x0),(1,x1),(5,x5),(6,x6)]) H (kk (some [5]) kn [] R [4]) = N26_2 ρ call yc lim k x0 x1 x5 x6 H (fun x5 H => kn (sp 48 [(5,x5)]) H) := by
 rw [evL_X,N26_2_x]
 simp only [← evL_X,N26_2,N26_3_eq]
noncomputable def L26 (ρ : RO) (call : CallF) (yc : YieldF) (lim k : Nat) (x0 x1 : AV) (H : Heap) : Res :=
 effK H (bldS H 55 8 [.int .i64 0,.str ByteArray.empty,.str ByteArray.empty,.int .u64 0,.int .i64 0,.str ByteArray.empty,.int .i64 0,.int .i64 0] 0 []) fun x7 H =>
 N26_2 ρ call yc lim k x0 x1 x7 (.int .i64 0) H (fun x5 H =>
 N26_1 ρ call yc lim k x5 H retK)
theorem L26_x (ρ call yc lim k J x0 x1 H) :
 evX (cx ρ) call yc false 26 lim k J c26 ([x0,x1] ++ List.replicate 46 (.tup [])) H (kk none (fun s H => retK (gs [4] s) H) [] retK [4]) =
 effK H (bldS H 55 8 [.int .i64 0,.str ByteArray.empty,.str ByteArray.empty,.int .u64 0,.int .i64 0,.str ByteArray.empty,.int .i64 0,.int .i64 0] 0 []) fun x7 H =>
 J (Code.at [1,1,0,1] c26) (sp 48 [(0,x0),(1,x1),(5,x7),(6,(.int .i64 0))]) H (kk (some [5]) (fun s H => J (Code.at [1,1,1] c26) s H (kk none (fun s H => retK (gs [4] s) H) [] retK [4])) [] retK [4]) := by
 kernel_rfl
theorem G26 (ρ call yc lim k x0 x1 H) :
 evL (cx ρ) call yc false 26 lim k c26 ([x0,x1] ++ List.replicate 46 (.tup [])) H (kk none (fun s H => retK (gs [4] s) H) [] retK [4]) = L26 ρ call yc lim k x0 x1 H := by
 rw [evL_X,L26_x]
 simp only [← evL_X,L26,N26_1_eq,N26_2_eq]
theorem E26 (ρ : RO) (k lim : Nat) (x0 x1 : AV) (H : Heap) : evCall (cx ρ) (k + 1) lim 26 [x0,x1] H = L26 ρ (evCall (cx ρ) k) (evCY (cx ρ) k).2 lim k x0 x1 H := by
 rw [evCall_body (cx ρ) k lim 26 _ H Try.f26 c26 [4] (by kernel_rfl) (by kernel_rfl) (by kernel_rfl) (by kernel_rfl) (by kernel_rfl)]
 exact G26 ρ (evCall (cx ρ) k) (evCY (cx ρ) k).2 lim k x0 x1 H
end Go.Proofs.Ytkmohjddojpdjaa

-- part Ht2
/- Functions, lifted. Printed by a program of this repo. -/
set_option linter.unusedVariables false
set_option linter.unusedSimpArgs false
set_option maxRecDepth 100000
set_option maxHeartbeats 4000000
namespace Go.Proofs.Ytkmohjddojpdjaa
open Go.Ev Go.RowKit
-- haycroft/haycroftref20.Ends
noncomputable def c27 : Code := Code.of Try.prog 27
noncomputable def N27_3 (ρ : RO) (call : CallF) (yc : YieldF) (lim k : Nat) (x7 : AV) (H : Heap) (R : KR) : Res :=
 R [x7] H
theorem N27_3_eq (ρ call yc lim k x7 H R) :
 evL (cx ρ) call yc false 27 lim k (Code.at [1,1,1,1,1,1] c27) (sp 130 [(7,x7)]) H (kk none (fun s H => R (gs [6] s) H) [] R [6]) = N27_3 ρ call yc lim k x7 H R := by
 kernel_rfl
noncomputable def N27_6 (ρ : RO) (call : CallF) (yc : YieldF) (lim k : Nat) (x0 x1 x5 x7 x10 : AV) (H : Heap) (kn : AV → AV → Heap → Res) : Res :=
 purK (binA Try.prog H .add 3 x10 (.int .i64 1)) fun x46_1 =>
 kn x7 x46_1 H
theorem N27_6_eq (ρ call yc lim k x0 x1 x5 x7 x10 H kn k2 R) :
 evL (cx ρ) call yc false 27 lim k (Code.at [1,1,1,1,1,0,1,0,0,1,1] c27) (sp 130 [(0,x0),(1,x1),(5,x5),(7,x7),(10,x10)]) H (kk (some [0,1,5,7,10]) kn [(2,(some [7]),k2)] R [6]) = N27_6 ρ call yc lim k x0 x1 x5 x7 x10 H (fun x7 x10 H => kn (sp 130 [(0,x0),(1,x1),(5,x5),(7,x7),(10,x10)]) H) := by
 kernel_rfl
noncomputable def N27_8 (ρ : RO) (call : CallF) (yc : YieldF) (lim k : Nat) (x0 x1 x5 x7 x10 x13 : AV) (H : Heap) (kn : AV → AV → Heap → Res) : Res :=
 effK H (bldS H 4 1 [.bool false] 0 []) fun x117_1 H =>
 effK H (apA ρ lim H 4 1 1 x117_1 x1) fun x119_1 H =>
 purK (ixS 1 x119_1 x10) fun x122_1 =>
 effK H (stA lim H 1 x122_1 (.bool true)) fun _ H =>
 purK (ldN ρ H 2 x13) fun x126_1 =>
 resK (call lim 27 [x0,x119_1,x126_1] H) fun x127_1 H =>
 effK H (apA ρ lim H 47 2 24 x7 x127_1) fun x128_1 H =>
 kn x128_1 x10 H
theorem N27_8_eq (ρ call yc lim k x0 x1 x5 x7 x10 x13 H kn k3 k2 R) :
 evL (cx ρ) call yc false 27 lim k (Code.at [1,1,1,1,1,0,1,0,0,1,0,0,1,1,1,1,1] c27) (sp 130 [(0,x0),(1,x1),(5,x5),(7,x7),(10,x10),(13,x13)]) H (kk (some [0,1,5,7,10]) kn [(3,(some [0,1,5,7,10]),k3),(2,(some [7]),k2)] R [6]) = N27_8 ρ call yc lim k x0 x1 x5 x7 x10 x13 H (fun x7 x10 H => kn (sp 130 [(0,x0),(1,x1),(5,x5),(7,x7),(10,x10)]) H) := by
 kernel_rfl
noncomputable def N27_7 (ρ : RO) (call : CallF) (yc : YieldF) (lim k : Nat) (x0 x1 x5 x7 x10 x11 : AV) (H : Heap) (kn : AV → AV → Heap → Res) (k3 : AV → AV → Heap → Res) : Res :=
 mkK H (some (.ptr H.sz 0 0,.new (newCells 47 false [.str ByteArray.empty,.bool false]))) true fun x13_1 H =>
 mkK H (some (.ptr H.sz 0 0,.new (newCells 53 false [.int .i64 0,.str ByteArray.empty]))) true fun x14_1 H =>
 purK (ldN ρ H 2 x5) fun x89_1 =>
 purK (ixS 8 x0 x10) fun x92_1 =>
 purK (addA 0 x92_1) fun x93_1 =>
 purK (ldN ρ H 4 x93_1) fun x94_1 =>
 resK (call lim 30 [x89_1,x94_1] H) fun x95_1 H =>
 purK (extA 0 x95_1) fun x96_1 =>
 purK (extA 1 x95_1) fun x97_1 =>
 effK H (stA lim H 2 x13_1 x96_1) fun _ H =>
 effK H (stA lim H 2 x14_1 x97_1) fun _ H =>
 purK (unA .not x11) fun x99_1 =>
 purK (gPur (wantV x99_1 false) (some x0)) fun x101_1 =>
 purK (gPur (wantV x99_1 false) (some x10)) fun x102_1 =>
 purK (gPur (wantV x99_1 false) (ixS 8 x101_1 x102_1)) fun x103_1 =>
 purK (gPur (wantV x99_1 false) (addA 7 x103_1)) fun x104_1 =>
 purK (gPur (wantV x99_1 false) (ld1 ρ H x104_1)) fun x105_1 =>
 purK (gPur (wantV x99_1 false) (binA Try.prog H .gtr 3 x105_1 (.int .i64 0))) fun x106_1 =>
 purK (gPur (wantV x99_1 false) (some x106_1)) fun x107_1 =>
 purK (gPur (wantV x107_1 true) (ldN ρ H 2 x14_1)) fun x108_1 =>
 purK (gPur (wantV x107_1 true) (some x0)) fun x109_1 =>
 purK (gPur (wantV x107_1 true) (some x10)) fun x110_1 =>
 purK (gPur (wantV x107_1 true) (ixS 8 x109_1 x110_1)) fun x111_1 =>
 purK (gPur (wantV x107_1 true) (addA 4 x111_1)) fun x112_1 =>
 purK (gPur (wantV x107_1 true) (ldN ρ H 2 x112_1)) fun x113_1 =>
 purK (gPur (wantV x107_1 true) (binA Try.prog H .neq 53 x108_1 x113_1)) fun x114_1 =>
 purK (gPur (wantV x99_1 false) (pickA x107_1 x114_1 (.bool false))) fun x115_1 =>
 purK (pickA x99_1 (.bool true) x115_1) fun x116_1 =>
 condK x116_1
 (
 k3 x7 x10 H)
 (
 N27_8 ρ call yc lim k x0 x1 x5 x7 x10 x13_1 H kn)
theorem N27_7_x (ρ call yc lim k J x0 x1 x5 x7 x10 x11 H kn k3 k2 R) :
 evX (cx ρ) call yc false 27 lim k J (Code.at [1,1,1,1,1,0,1,0,0,1,0,0,1,1,1] c27) (sp 130 [(0,x0),(1,x1),(5,x5),(7,x7),(10,x10),(11,x11)]) H (kk (some [0,1,5,7,10]) kn [(3,(some [0,1,5,7,10]),k3),(2,(some [7]),k2)] R [6]) =
 mkK H (some (.ptr H.sz 0 0,.new (newCells 47 false [.str ByteArray.empty,.bool false]))) true fun x13_1 H =>
 mkK H (some (.ptr H.sz 0 0,.new (newCells 53 false [.int .i64 0,.str ByteArray.empty]))) true fun x14_1 H =>
 purK (ldN ρ H 2 x5) fun x89_1 =>
 purK (ixS 8 x0 x10) fun x92_1 =>
 purK (addA 0 x92_1) fun x93_1 =>
 purK (ldN ρ H 4 x93_1) fun x94_1 =>
 resK (call lim 30 [x89_1,x94_1] H) fun x95_1 H =>
 purK (extA 0 x95_1) fun x96_1 =>
 purK (extA 1 x95_1) fun x97_1 =>
 effK H (stA lim H 2 x13_1 x96_1) fun _ H =>
 effK H (stA lim H 2 x14_1 x97_1) fun _ H =>
 purK (unA .not x11) fun x99_1 =>
 purK (gPur (wantV x99_1 false) (some x0)) fun x101_1 =>
 purK (gPur (wantV x99_1 false) (some x10)) fun x102_1 =>
 purK (gPur (wantV x99_1 false) (ixS 8 x101_1 x102_1)) fun x103_1 =>
 purK (gPur (wantV x99_1 false) (addA 7 x103_1)) fun x104_1 =>
 purK (gPur (wantV x99_1 false) (ld1 ρ H x104_1)) fun x105_1 =>
 purK (gPur (wantV x99_1 false) (binA Try.prog H .gtr 3 x105_1 (.int .i64 0))) fun x106_1 =>
 purK (gPur (wantV x99_1 false) (some x106_1)) fun x107_1 =>
 purK (gPur (wantV x107_1 true) (ldN ρ H 2 x14_1)) fun x108_1 =>
 purK (gPur (wantV x107_1 true) (some x0)) fun x109_1 =>
 purK (gPur (wantV x107_1 true) (some x10)) fun x110_1 =>
 purK (gPur (wantV x107_1 true) (ixS 8 x109_1 x110_1)) fun x111_1 =>
 purK (gPur (wantV x107_1 true) (addA 4 x111_1)) fun x112_1 =>
 purK (gPur (wantV x107_1 true) (ldN ρ H 2 x112_1)) fun x113_1 =>
 purK (gPur (wantV x107_1 true) (binA Try.prog H .neq 53 x108_1 x113_1)) fun x114_1 =>
 purK (gPur (wantV x99_1 false) (pickA x107_1 x114_1 (.bool false))) fun x115_1 =>
 purK (pickA x99_1 (.bool true) x115_1) fun x116_1 =>
 condK x116_1
 (
 k3 (sp 130 [(0,x0),(1,x1),(5,x5),(7,x7),(10,x10)]) H)
 (
 J (Code.at [1,1,1,1,1,0,1,0,0,1,0,0,1,1,1,1,1] c27) (sp 130 [(0,x0),(1,x1),(5,x5),(7,x7),(10,x10),(13,x13_1)]) H (kk (some [0,1,5,7,10]) kn [(3,(some [0,1,5,7,10]),k3),(2,(some [7]),k2)] R [6])) := by
 kernel_rfl
theorem N27_7_eq (ρ call yc lim k x0 x1 x5 x7 x10 x11 H kn k3 k2 R) :
 evL (cx ρ) call yc false 27 lim k (Code.at [1,1,1,1,1,0,1,0,0,1,0,0,1,1,1] c27) (sp 130 [(0,x0),(1,x1),(5,x5),(7,x7),(10,x10),(11,x11)]) H (kk (some [0,1,5,7,10]) kn [(3,(some [0,1,5,7,10]),k3),(2,(some [7]),k2)] R [6]) = N27_7 ρ call yc lim k x0 x1 x5 x7 x10 x11 H (fun x7 x10 H => kn (sp 130 [(0,x0),(1,x1),(5,x5),(7,x7),(10,x10)]) H) (fun x7 x10 H => k3 (sp 130 [(0,x0),(1,x1),(5,x5),(7,x7),(10,x10)]) H) := by
 rw [evL_X,N27_7_x]
 simp only [← evL_X,N27_7,N27_8_eq]
noncomputable def N27_11 (ρ : RO) (call : CallF) (yc : YieldF) (lim k : Nat) (x0 x1 x5 x7 x10 x11 x12 : AV) (H : Heap) (kn : AV → AV → Heap → Res) : Res :=
 purK (binA Try.prog H .add 3 x12 (.int .i64 1)) fun x56_1 =>
 kn x11 x56_1 H
theorem N27_11_eq (ρ call yc lim k x0 x1 x5 x7 x10 x11 x12 H kn k4 k3 k2 R) :
 evL (cx ρ) call yc false 27 lim k (Code.at [1,1,1,1,1,0,1,0,0,1,0,0,1,1,0,1,0,0,1,1] c27) (sp 130 [(0,x0),(1,x1),(5,x5),(7,x7),(10,x10),(11,x11),(12,x12)]) H (kk (some [0,1,5,7,10,11,12]) kn [(4,(some [0,1,5,7,10,11]),k4),(3,(some [0,1,5,7,10]),k3),(2,(some [7]),k2)] R [6]) = N27_11 ρ call yc lim k x0 x1 x5 x7 x10 x11 x12 H (fun x11 x12 H => kn (sp 130 [(0,x0),(1,x1),(5,x5),(7,x7),(10,x10),(11,x11),(12,x12)]) H) := by
 kernel_rfl
noncomputable def N27_12 (ρ : RO) (call : CallF) (yc : YieldF) (lim k : Nat) (x0 x1 x5 x7 x10 x11 x12 x87 : AV) (H : Heap) (kn : AV → AV → Heap → Res) : Res :=
 condK x87
 (
 kn (.bool false) x12 H)
 (
 kn x11 x12 H)
theorem N27_12_eq (ρ call yc lim k x0 x1 x5 x7 x10 x11 x12 x87 H kn k5 k4 k3 k2 R) :
 evL (cx ρ) call yc false 27 lim k (Code.at [1,1,1,1,1,0,1,0,0,1,0,0,1,1,0,1,0,0,1,0,0,1] c27) (sp 130 [(0,x0),(1,x1),(5,x5),(7,x7),(10,x10),(11,x11),(12,x12),(87,x87)]) H (kk (some [0,1,5,7,10,11,12]) kn [(5,(some [0,1,5,7,10,11,12]),k5),(4,(some [0,1,5,7,10,11]),k4),(3,(some [0,1,5,7,10]),k3),(2,(some [7]),k2)] R [6]) = N27_12 ρ call yc lim k x0 x1 x5 x7 x10 x11 x12 x87 H (fun x11 x12 H => kn (sp 130 [(0,x0),(1,x1),(5,x5),(7,x7),(10,x10),(11,x11),(12,x12)]) H) := by
 kernel_rfl
noncomputable def N27_10b (ρ : RO) (call : CallF) (yc : YieldF) (lim k : Nat) (x0 x1 x5 x7 x10 x11 x12 : AV) (H : Heap) (kn : AV → AV → Heap → Res) (k4 : AV → AV → AV → Heap → Res) : Res :=
 purK (lenS x0) fun x53_1 =>
 purK (binA Try.prog H .lss 3 x12 x53_1) fun x54_1 =>
 condK x54_1
 (
 purK (ixS 1 x1 x12) fun x59_1 =>
 purK (ld1 ρ H x59_1) fun x60_1 =>
 purK (unA .not x60_1) fun x61_1 =>
 purK (gPur (wantV x61_1 true) (some x12)) fun x63_1 =>
 purK (gPur (wantV x61_1 true) (some x10)) fun x64_1 =>
 purK (gPur (wantV x61_1 true) (binA Try.prog H .neq 3 x63_1 x64_1)) fun x65_1 =>
 purK (pickA x61_1 x65_1 (.bool false)) fun x66_1 =>
 purK (gPur (wantV x66_1 true) (some x0)) fun x68_1 =>
 purK (gPur (wantV x66_1 true) (some x12)) fun x69_1 =>
 purK (gPur (wantV x66_1 true) (ixS 8 x68_1 x69_1)) fun x70_1 =>
 purK (gPur (wantV x66_1 true) (addA 7 x70_1)) fun x71_1 =>
 purK (gPur (wantV x66_1 true) (ld1 ρ H x71_1)) fun x72_1 =>
 purK (gPur (wantV x66_1 true) (binA Try.prog H .gtr 3 x72_1 (.int .i64 0))) fun x73_1 =>
 purK (pickA x66_1 x73_1 (.bool false)) fun x74_1 =>
 purK (gPur (wantV x74_1 true) (some x0)) fun x76_1 =>
 purK (gPur (wantV x74_1 true) (some x12)) fun x77_1 =>
 purK (gPur (wantV x74_1 true) (ixS 8 x76_1 x77_1)) fun x78_1 =>
 purK (gPur (wantV x74_1 true) (addA 7 x78_1)) fun x79_1 =>
 purK (gPur (wantV x74_1 true) (ld1 ρ H x79_1)) fun x80_1 =>
 purK (gPur (wantV x74_1 true) (some x0)) fun x81_1 =>
 purK (gPur (wantV x74_1 true) (some x10)) fun x82_1 =>
 purK (gPur (wantV x74_1 true) (ixS 8 x81_1 x82_1)) fun x83_1 =>
 purK (gPur (wantV x74_1 true) (addA 6 x83_1)) fun x84_1 =>
 purK (gPur (wantV x74_1 true) (ld1 ρ H x84_1)) fun x85_1 =>
 purK (gPur (wantV x74_1 true) (binA Try.prog H .lss 3 x80_1 x85_1)) fun x86_1 =>
 purK (pickA x74_1 x86_1 (.bool false)) fun x87_1 =>
 N27_12 ρ call yc lim k x0 x1 x5 x7 x10 x11 x12 x87_1 H (fun x11_1 x12_1 H =>
 N27_11 ρ call yc lim k x0 x1 x5 x7 x10 x11_1 x12_1 H kn))
 (
 k4 x7 x10 x11 H)
theorem N27_10b_x (ρ call yc lim k J x0 x1 x5 x7 x10 x11 x12 H kn k4 k3 k2 R) :
 evX (cx ρ) call yc false 27 lim k J (Code.at [1,1,1,1,1,0,1,0,0,1,0,0,1,1,0,1,0,0] c27) (sp 130 [(0,x0),(1,x1),(5,x5),(7,x7),(10,x10),(11,x11),(12,x12)]) H (kk (some [0,1,5,7,10,11,12]) kn [(4,(some [0,1,5,7,10,11]),k4),(3,(some [0,1,5,7,10]),k3),(2,(some [7]),k2)] R [6]) =
 purK (lenS x0) fun x53_1 =>
 purK (binA Try.prog H .lss 3 x12 x53_1) fun x54_1 =>
 condK x54_1
 (
 purK (ixS 1 x1 x12) fun x59_1 =>
 purK (ld1 ρ H x59_1) fun x60_1 =>
 purK (unA .not x60_1) fun x61_1 =>
 purK (gPur (wantV x61_1 true) (some x12)) fun x63_1 =>
 purK (gPur (wantV x61_1 true) (some x10)) fun x64_1 =>
 purK (gPur (wantV x61_1 true) (binA Try.prog H .neq 3 x63_1 x64_1)) fun x65_1 =>
 purK (pickA x61_1 x65_1 (.bool false)) fun x66_1 =>
 purK (gPur (wantV x66_1 true) (some x0)) fun x68_1 =>
 purK (gPur (wantV x66_1 true) (some x12)) fun x69_1 =>
 purK (gPur (wantV x66_1 true) (ixS 8 x68_1 x69_1)) fun x70_1 =>
 purK (gPur (wantV x66_1 true) (addA 7 x70_1)) fun x71_1 =>
 purK (gPur (wantV x66_1 true) (ld1 ρ H x71_1)) fun x72_1 =>
 purK (gPur (wantV x66_1 true) (binA Try.prog H .gtr 3 x72_1 (.int .i64 0))) fun x73_1 =>
 purK (pickA x66_1 x73_1 (.bool false)) fun x74_1 =>
 purK (gPur (wantV x74_1 true) (some x0)) fun x76_1 =>
 purK (gPur (wantV x74_1 true) (some x12)) fun x77_1 =>
 purK (gPur (wantV x74_1 true) (ixS 8 x76_1 x77_1)) fun x78_1 =>
 purK (gPur (wantV x74_1 true) (addA 7 x78_1)) fun x79_1 =>
 purK (gPur (wantV x74_1 true) (ld1 ρ H x79_1)) fun x80_1 =>
 purK (gPur (wantV x74_1 true) (some x0)) fun x81_1 =>
 purK (gPur (wantV x74_1 true) (some x10)) fun x82_1 =>
 purK (gPur (wantV x74_1 true) (ixS 8 x81_1 x82_1)) fun x83_1 =>
 purK (gPur (wantV x74_1 true) (addA 6 x83_1)) fun x84_1 =>
 purK (gPur (wantV x74_1 true) (ld1 ρ H x84_1)) fun x85_1 =>
 purK (gPur (wantV x74_1 true) (binA Try.prog H .lss 3 x80_1 x85_1)) fun x86_1 =>
 purK (pickA x74_1 x86_1 (.bool false)) fun x87_1 =>
 J (Code.at [1,1,1,1,1,0,1,0,0,1,0,0,1,1,0,1,0,0,1,0,0,1] c27) (sp 130 [(0,x0),(1,x1),(5,x5),(7,x7),(10,x10),(11,x11),(12,x12),(87,x87_1)]) H (kk (some [0,1,5,7,10,11,12]) (fun s H => J (Code.at [1,1,1,1,1,0,1,0,0,1,0,0,1,1,0,1,0,0,1,1] c27) s H (kk (some [0,1,5,7,10,11,12]) kn [(4,(some [0,1,5,7,10,11]),k4),(3,(some [0,1,5,7,10]),k3),(2,(some [7]),k2)] R [6])) [(5,(some [0,1,5,7,10,11,12]),(fun s H => J (Code.at [1,1,1,1,1,0,1,0,0,1,0,0,1,1,0,1,0,0,1,1] c27) s H (kk (some [0,1,5,7,10,11,12]) kn [(4,(some [0,1,5,7,10,11]),k4),(3,(some [0,1,5,7,10]),k3),(2,(some [7]),k2)] R [6]))),(4,(some [0,1,5,7,10,11]),k4),(3,(some [0,1,5,7,10]),k3),(2,(some [7]),k2)] R [6]))
 (
 k4 (sp 130 [(0,x0),(1,x1),(5,x5),(7,x7),(10,x10),(11,x11)]) H) := by
 kernel_rfl
theorem N27_10b_eq (ρ call yc lim k x0 x1 x5 x7 x10 x11 x12 H kn k4 k3 k2 R) :
 evL (cx ρ) call yc false 27 lim k (Code.at [1,1,1,1,1,0,1,0,0,1,0,0,1,1,0,1,0,0] c27) (sp 130 [(0,x0),(1,x1),(5,x5),(7,x7),(10,x10),(11,x11),(12,x12)]) H (kk (some [0,1,5,7,10,11,12]) kn [(4,(some [0,1,5,7,10,11]),k4),(3,(some [0,1,5,7,10]),k3),(2,(some [7]),k2)] R [6]) = N27_10b ρ call yc lim k x0 x1 x5 x7 x10 x11 x12 H (fun x11 x12 H => kn (sp 130 [(0,x0),(1,x1),(5,x5),(7,x7),(10,x10),(11,x11),(12,x12)]) H) (fun x7 x10 x11 H => k4 (sp 130 [(0,x0),(1,x1),(5,x5),(7,x7),(10,x10),(11,x11)]) H) := by
 rw [evL_X,N27_10b_x]
 simp only [← evL_X,N27_10b,N27_11_eq,N27_12_eq]
noncomputable def N27_10 (ρ : RO) (call : CallF) (yc : YieldF) (lim k : Nat) (x0 x1 x5 x7 x10 x11 x12 : AV) (H : Heap) (k4 : AV → AV → AV → Heap → Res) : Res :=
 loopL (fun (x : AV × AV) H kn => N27_10b ρ call yc lim k x0 x1 x5 x7 x10 x.1 x.2 H (fun x11 x12 H => kn (x11,x12) H) k4) k (x11,x12) H
theorem N27_10_eq (ρ call yc lim k x0 x1 x5 x7 x10 x11 x12 H kn k4 k3 k2 R) :
 evL (cx ρ) call yc false 27 lim k (Code.at [1,1,1,1,1,0,1,0,0,1,0,0,1,1,0,1,0] c27) (sp 130 [(0,x0),(1,x1),(5,x5),(7,x7),(10,x10),(11,x11),(12,x12)]) H (kk (some [0,1,5,7,10,11]) kn [(4,(some [0,1,5,7,10,11]),k4),(3,(some [0,1,5,7,10]),k3),(2,(some [7]),k2)] R [6]) = N27_10 ρ call yc lim k x0 x1 x5 x7 x10 x11 x12 H (fun x7 x10 x11 H => k4 (sp 130 [(0,x0),(1,x1),(5,x5),(7,x7),(10,x10),(11,x11)]) H) := by
 have e : Code.at [1,1,1,1,1,0,1,0,0,1,0,0,1,1,0,1,0] c27 = .loop (Code.at [1,1,1,1,1,0,1,0,0,1,0,0,1,1,0,1,0,0] c27) := by kernel_rfl
 rw [e]
 unfold N27_10
 exact loop_node [0,1,5,7,10,11,12] (fun x : AV × AV => (sp 130 [(0,x0),(1,x1),(5,x5),(7,x7),(10,x10),(11,(x.1)),(12,(x.2))])) (fun (x : AV × AV) H kn => N27_10b ρ call yc lim k x0 x1 x5 x7 x10 x.1 x.2 H (fun x11 x12 H => kn (x11,x12) H) (fun x7 x10 x11 H => k4 (sp 130 [(0,x0),(1,x1),(5,x5),(7,x7),(10,x10),(11,x11)]) H)) (by kernel_rfl) (fun x => by kernel_rfl) (fun x H kn => N27_10b_eq ρ call yc lim k x0 x1 x5 x7 x10 (x.1) (x.2) H kn k4 k3 k2 R) (x11,x12) (sp 130 [(0,x0),(1,x1),(5,x5),(7,x7),(10,x10),(11,x11),(12,x12)]) H (by kernel_rfl)
noncomputable def N27_9 (ρ : RO) (call : CallF) (yc : YieldF) (lim k : Nat) (x0 x1 x5 x7 x10 x11 x12 : AV) (H : Heap) (kn : AV → AV → AV → Heap → Res) : Res :=
 N27_10 ρ call yc lim k x0 x1 x5 x7 x10 x11 x12 H kn
theorem N27_9_x (ρ call yc lim k J x0 x1 x5 x7 x10 x11 x12 H kn k3 k2 R) :
 evX (cx ρ) call yc false 27 lim k J (Code.at [1,1,1,1,1,0,1,0,0,1,0,0,1,1,0,1] c27) (sp 130 [(0,x0),(1,x1),(5,x5),(7,x7),(10,x10),(11,x11),(12,x12)]) H (kk (some [0,1,5,7,10,11]) kn [(3,(some [0,1,5,7,10]),k3),(2,(some [7]),k2)] R [6]) =
 J (Code.at [1,1,1,1,1,0,1,0,0,1,0,0,1,1,0,1,0] c27) (sp 130 [(0,x0),(1,x1),(5,x5),(7,x7),(10,x10),(11,x11),(12,x12)]) H (kk (some [0,1,5,7,10,11]) kn [(4,(some [0,1,5,7,10,11]),kn),(3,(some [0,1,5,7,10]),k3),(2,(some [7]),k2)] R [6]) := by
 kernel_rfl
theorem N27_9_eq (ρ call yc lim k x0 x1 x5 x7 x10 x11 x12 H kn k3 k2 R) :
 evL (cx ρ) call yc false 27 lim k (Code.at [1,1,1,1,1,0,1,0,0,1,0,0,1,1,0,1] c27) (sp 130 [(0,x0),(1,x1),(5,x5),(7,x7),(10,x10),(11,x11),(12,x12)]) H (kk (some [0,1,5,7,10,11]) kn [(3,(some [0,1,5,7,10]),k3),(2,(some [7]),k2)] R [6]) = N27_9 ρ call yc lim k x0 x1 x5 x7 x10 x11 x12 H (fun x7 x10 x11 H => kn (sp 130 [(0,x0),(1,x1),(5,x5),(7,x7),(10,x10),(11,x11)]) H) := by
 rw [evL_X,N27_9_x]
 simp only [← evL_X,N27_9,N27_10_eq]
noncomputable def N27_5b (ρ : RO) (call : CallF) (yc : YieldF) (lim k : Nat) (x0 x1 x5 x7 x10 : AV) (H : Heap) (kn : AV → AV → Heap → Res) (k2 : AV → Heap → Res) : Res :=
 purK (lenS x0) fun x43_1 =>
 purK (binA Try.prog H .lss 3 x10 x43_1) fun x44_1 =>
 condK x44_1
 (
 purK (ixS 1 x1 x10) fun x49_1 =>
 purK (ld1 ρ H x49_1) fun x50_1 =>
 condK x50_1
 (
 N27_6 ρ call yc lim k x0 x1 x5 x7 x10 H kn)
 (
 N27_9 ρ call yc lim k x0 x1 x5 x7 x10 (.bool true) (.int .i64 0) H (fun x7_1 x10_1 x11_1 H =>
 N27_7 ρ call yc lim k x0 x1 x5 x7_1 x10_1 x11_1 H (fun x7_2 x10_2 H =>
 N27_6 ρ call yc lim k x0 x1 x5 x7_2 x10_2 H kn) (fun x7_3 x10_3 H =>
 N27_6 ρ call yc lim k x0 x1 x5 x7_3 x10_3 H kn))))
 (
 k2 x7 H)
theorem N27_5b_x (ρ call yc lim k J x0 x1 x5 x7 x10 H kn k2 R) :
 evX (cx ρ) call yc false 27 lim k J (Code.at [1,1,1,1,1,0,1,0,0] c27) (sp 130 [(0,x0),(1,x1),(5,x5),(7,x7),(10,x10)]) H (kk (some [0,1,5,7,10]) kn [(2,(some [7]),k2)] R [6]) =
 purK (lenS x0) fun x43_1 =>
 purK (binA Try.prog H .lss 3 x10 x43_1) fun x44_1 =>
 condK x44_1
 (
 purK (ixS 1 x1 x10) fun x49_1 =>
 purK (ld1 ρ H x49_1) fun x50_1 =>
 condK x50_1
 (
 J (Code.at [1,1,1,1,1,0,1,0,0,1,1] c27) (sp 130 [(0,x0),(1,x1),(5,x5),(7,x7),(10,x10)]) H (kk (some [0,1,5,7,10]) kn [(2,(some [7]),k2)] R [6]))
 (
 J (Code.at [1,1,1,1,1,0,1,0,0,1,0,0,1,1,0,1] c27) (sp 130 [(0,x0),(1,x1),(5,x5),(7,x7),(10,x10),(11,(.bool true)),(12,(.int .i64 0))]) H (kk (some [0,1,5,7,10,11]) (fun s H => J (Code.at [1,1,1,1,1,0,1,0,0,1,0,0,1,1,1] c27) s H (kk (some [0,1,5,7,10]) (fun s H => J (Code.at [1,1,1,1,1,0,1,0,0,1,1] c27) s H (kk (some [0,1,5,7,10]) kn [(2,(some [7]),k2)] R [6])) [(3,(some [0,1,5,7,10]),(fun s H => J (Code.at [1,1,1,1,1,0,1,0,0,1,1] c27) s H (kk (some [0,1,5,7,10]) kn [(2,(some [7]),k2)] R [6]))),(2,(some [7]),k2)] R [6])) [(3,(some [0,1,5,7,10]),(fun s H => J (Code.at [1,1,1,1,1,0,1,0,0,1,1] c27) s H (kk (some [0,1,5,7,10]) kn [(2,(some [7]),k2)] R [6]))),(2,(some [7]),k2)] R [6])))
 (
 k2 (sp 130 [(7,x7)]) H) := by
 kernel_rfl
theorem N27_5b_eq (ρ call yc lim k x0 x1 x5 x7 x10 H kn k2 R) :
 evL (cx ρ) call yc false 27 lim k (Code.at [1,1,1,1,1,0,1,0,0] c27) (sp 130 [(0,x0),(1,x1),(5,x5),(7,x7),(10,x10)]) H (kk (some [0,1,5,7,10]) kn [(2,(some [7]),k2)] R [6]) = N27_5b ρ call yc lim k x0 x1 x5 x7 x10 H (fun x7 x10 H => kn (sp 130 [(0,x0),(1,x1),(5,x5),(7,x7),(10,x10)]) H) (fun x7 H => k2 (sp 130 [(7,x7)]) H) := by
 rw [evL_X,N27_5b_x]
 simp only [← evL_X,N27_5b,N27_6_eq,N27_7_eq,N27_9_eq]
noncomputable def N27_5 (ρ : RO) (call : CallF) (yc : YieldF) (lim k : Nat) (x0 x1 x5 x7 x10 : AV) (H : Heap) (k2 : AV → Heap → Res) : Res :=
 loopL (fun (x : AV × AV) H kn => N27_5b ρ call yc lim k x0 x1 x5 x.1 x.2 H (fun x7 x10 H => kn (x7,x10) H) k2) k (x7,x10) H
theorem N27_5_eq (ρ call yc lim k x0 x1 x5 x7 x10 H kn k2 R) :
 evL (cx ρ) call yc false 27 lim k (Code.at [1,1,1,1,1,0,1,0] c27) (sp 130 [(0,x0),(1,x1),(5,x5),(7,x7),(10,x10)]) H (kk (some [7]) kn [(2,(some [7]),k2)] R [6]) = N27_5 ρ call yc lim k x0 x1 x5 x7 x10 H (fun x7 H => k2 (sp 130 [(7,x7)]) H) := by
 have e : Code.at [1,1,1,1,1,0,1,0] c27 = .loop (Code.at [1,1,1,1,1,0,1,0,0] c27) := by kernel_rfl
 rw [e]
 unfold N27_5
 exact loop_node [0,1,5,7,10] (fun x : AV × AV => (sp 130 [(0,x0),(1,x1),(5,x5),(7,(x.1)),(10,(x.2))])) (fun (x : AV × AV) H kn => N27_5b ρ call yc lim k x0 x1 x5 x.1 x.2 H (fun x7 x10 H => kn (x7,x10) H) (fun x7 H => k2 (sp 130 [(7,x7)]) H)) (by kernel_rfl) (fun x => by kernel_rfl) (fun x H kn => N27_5b_eq ρ call yc lim k x0 x1 x5 (x.1) (x.2) H kn k2 R) (x7,x10) (sp 130 [(0,x0),(1,x1),(5,x5),(7,x7),(10,x10)]) H (by kernel_rfl)
noncomputable def N27_4 (ρ : RO) (call : CallF) (yc : YieldF) (lim k : Nat) (x0 x1 x5 x7 x10 : AV) (H : Heap) (kn : AV → Heap → Res) : Res :=
 N27_5 ρ call yc lim k x0 x1 x5 x7 x10 H kn
theorem N27_4_x (ρ call yc lim k J x0 x1 x5 x7 x10 H kn R) :
 evX (cx ρ) call yc false 27 lim k J (Code.at [1,1,1,1,1,0,1] c27) (sp 130 [(0,x0),(1,x1),(5,x5),(7,x7),(10,x10)]) H (kk (some [7]) kn [] R [6]) =
 J (Code.at [1,1,1,1,1,0,1,0] c27) (sp 130 [(0,x0),(1,x1),(5,x5),(7,x7),(10,x10)]) H (kk (some [7]) kn [(2,(some [7]),kn)] R [6]) := by
 kernel_rfl
theorem N27_4_eq (ρ call yc lim k x0 x1 x5 x7 x10 H kn R) :
 evL (cx ρ) call yc false 27 lim k (Code.at [1,1,1,1,1,0,1] c27) (sp 130 [(0,x0),(1,x1),(5,x5),(7,x7),(10,x10)]) H (kk (some [7]) kn [] R [6]) = N27_4 ρ call yc lim k x0 x1 x5 x7 x10 H (fun x7 H => kn (sp 130 [(7,x7)]) H) := by
 rw [evL_X,N27_4_x]
 simp only [← evL_X,N27_4,N27_5_eq]
noncomputable def N27_2 (ρ : RO) (call : CallF) (yc : YieldF) (lim k : Nat) (x0 x1 x5 x7 : AV) (H : Heap) (R : KR) : Res :=
 N27_4 ρ call yc lim k x0 x1 x5 x7 (.int .i64 0) H (fun x7_1 H =>
 N27_3 ρ call yc lim k x7_1 H R)
theorem N27_2_x (ρ call yc lim k J x0 x1 x5 x7 H R) :
 evX (cx ρ) call yc false 27 lim k J (Code.at [1,1,1,1,1] c27) (sp 130 [(0,x0),(1,x1),(5,x5),(7,x7)]) H (kk none (fun s H => R (gs [6] s) H) [] R [6]) =
 J (Code.at [1,1,1,1,1,0,1] c27) (sp 130 [(0,x0),(1,x1),(5,x5),(7,x7),(10,(.int .i64 0))]) H (kk (some [7]) (fun s H => J (Code.at [1,1,1,1,1,1] c27) s H (kk none (fun s H => R (gs [6] s) H) [] R [6])) [] R [6]) := by
 kernel_rfl
theorem N27_2_eq (ρ call yc lim k x0 x1 x5 x7 H R) :
 evL (cx ρ) call yc false 27 lim k (Code.at [1,1,1,1,1] c27) (sp 130 [(0,x0),(1,x1),(5,x5),(7,x7)]) H (kk none (fun s H => R (gs [6] s) H) [] R [6]) = N27_2 ρ call yc lim k x0 x1 x5 x7 H R := by
 rw [evL_X,N27_2_x]
 simp only [← evL_X,N27_2,N27_3_eq,N27_4_eq]
noncomputable def N27_1 (ρ : RO) (call : CallF) (yc : YieldF) (lim k : Nat) (x0 x1 x5 x7 x8 : AV) (H : Heap) (R : KR) : Res :=
 condK x8
 (
 purK (ldN ρ H 2 x5) fun x38_1 =>
 effK H (bldS H 47 2 [.str ByteArray.empty,.bool false] 1 [(0,2,x38_1)]) fun x39_1 H =>
 effK H (apA ρ lim H 47 2 24 x7 x39_1) fun x40_1 H =>
 N27_2 ρ call yc lim k x0 x1 x5 x40_1 H R)
 (
 N27_2 ρ call yc lim k x0 x1 x5 x7 H R)
theorem N27_1_x (ρ call yc lim k J x0 x1 x5 x7 x8 H R) :
 evX (cx ρ) call yc false 27 lim k J (Code.at [1,1,1,1] c27) (sp 130 [(0,x0),(1,x1),(5,x5),(7,x7),(8,x8)]) H (kk none (fun s H => R (gs [6] s) H) [] R [6]) =
 condK x8
 (
 purK (ldN ρ H 2 x5) fun x38_1 =>
 effK H (bldS H 47 2 [.str ByteArray.empty,.bool false] 1 [(0,2,x38_1)]) fun x39_1 H =>
 effK H (apA ρ lim H 47 2 24 x7 x39_1) fun x40_1 H =>
 J (Code.at [1,1,1,1,1] c27) (sp 130 [(0,x0),(1,x1),(5,x5),(7,x40_1)]) H (kk none (fun s H => R (gs [6] s) H) [] R [6]))
 (
 J (Code.at [1,1,1,1,1] c27) (sp 130 [(0,x0),(1,x1),(5,x5),(7,x7)]) H (kk none (fun s H => R (gs [6] s) H) [] R [6])) := by
 kernel_rfl
theorem N27_1_eq (ρ call yc lim k x0 x1 x5 x7 x8 H R) :
 evL (cx ρ) call yc false 27 lim k (Code.at [1,1,1,1] c27) (sp 130 [(0,x0),(1,x1),(5,x5),(7,x7),(8,x8)]) H (kk none (fun s H => R (gs [6] s) H) [] R [6]) = N27_1 ρ call yc lim k x0 x1 x5 x7 x8 H R := by
 rw [evL_X,N27_1_x]
 simp only [← evL_X,N27_1,N27_2_eq]
noncomputable def N27_15 (ρ : RO) (call : CallF) (yc : YieldF) (lim k : Nat) (x0 x1 x5 x7 x8 x9 : AV) (H : Heap) (kn : AV → AV → Heap → Res) : Res :=
 purK (binA Try.prog H .add 3 x9 (.int .i64 1)) fun x22_1 =>
 kn x8 x22_1 H
theorem N27_15_eq (ρ call yc lim k x0 x1 x5 x7 x8 x9 H kn k0 R) :
 evL (cx ρ) call yc false 27 lim k (Code.at [1,1,1,0,1,0,0,1,1] c27) (sp 130 [(0,x0),(1,x1),(5,x5),(7,x7),(8,x8),(9,x9)]) H (kk (some [0,1,5,7,8,9]) kn [(0,(some [0,1,5,7,8]),k0)] R [6]) = N27_15 ρ call yc lim k x0 x1 x5 x7 x8 x9 H (fun x8 x9 H => kn (sp 130 [(0,x0),(1,x1),(5,x5),(7,x7),(8,x8),(9,x9)]) H) := by
 kernel_rfl
noncomputable def N27_14b (ρ : RO) (call : CallF) (yc : YieldF) (lim k : Nat) (x0 x1 x5 x7 x8 x9 : AV) (H : Heap) (kn : AV → AV → Heap → Res) (k0 : AV → AV → AV → AV → AV → Heap → Res) : Res :=
 purK (lenS x0) fun x19_1 =>
 purK (binA Try.prog H .lss 3 x9 x19_1) fun x20_1 =>
 condK x20_1
 (
 purK (ixS 1 x1 x9) fun x25_1 =>
 purK (ld1 ρ H x25_1) fun x26_1 =>
 purK (unA .not x26_1) fun x27_1 =>
 purK (gPur (wantV x27_1 true) (some x0)) fun x29_1 =>
 purK (gPur (wantV x27_1 true) (some x9)) fun x30_1 =>
 purK (gPur (wantV x27_1 true) (ixS 8 x29_1 x30_1)) fun x31_1 =>
 purK (gPur (wantV x27_1 true) (addA 7 x31_1)) fun x32_1 =>
 purK (gPur (wantV x27_1 true) (ld1 ρ H x32_1)) fun x33_1 =>
 purK (gPur (wantV x27_1 true) (binA Try.prog H .gtr 3 x33_1 (.int .i64 0))) fun x34_1 =>
 purK (pickA x27_1 x34_1 (.bool false)) fun x35_1 =>
 condK x35_1
 (
 N27_15 ρ call yc lim k x0 x1 x5 x7 (.bool false) x9 H kn)
 (
 N27_15 ρ call yc lim k x0 x1 x5 x7 x8 x9 H kn))
 (
 k0 x0 x1 x5 x7 x8 H)
theorem N27_14b_x (ρ call yc lim k J x0 x1 x5 x7 x8 x9 H kn k0 R) :
 evX (cx ρ) call yc false 27 lim k J (Code.at [1,1,1,0,1,0,0] c27) (sp 130 [(0,x0),(1,x1),(5,x5),(7,x7),(8,x8),(9,x9)]) H (kk (some [0,1,5,7,8,9]) kn [(0,(some [0,1,5,7,8]),k0)] R [6]) =
 purK (lenS x0) fun x19_1 =>
 purK (binA Try.prog H .lss 3 x9 x19_1) fun x20_1 =>
 condK x20_1
 (
 purK (ixS 1 x1 x9) fun x25_1 =>
 purK (ld1 ρ H x25_1) fun x26_1 =>
 purK (unA .not x26_1) fun x27_1 =>
 purK (gPur (wantV x27_1 true) (some x0)) fun x29_1 =>
 purK (gPur (wantV x27_1 true) (some x9)) fun x30_1 =>
 purK (gPur (wantV x27_1 true) (ixS 8 x29_1 x30_1)) fun x31_1 =>
 purK (gPur (wantV x27_1 true) (addA 7 x31_1)) fun x32_1 =>
 purK (gPur (wantV x27_1 true) (ld1 ρ H x32_1)) fun x33_1 =>
 purK (gPur (wantV x27_1 true) (binA Try.prog H .gtr 3 x33_1 (.int .i64 0))) fun x34_1 =>
 purK (pickA x27_1 x34_1 (.bool false)) fun x35_1 =>
 condK x35_1
 (
 J (Code.at [1,1,1,0,1,0,0,1,1] c27) (sp 130 [(0,x0),(1,x1),(5,x5),(7,x7),(8,(.bool false)),(9,x9)]) H (kk (some [0,1,5,7,8,9]) kn [(0,(some [0,1,5,7,8]),k0)] R [6]))
 (
 J (Code.at [1,1,1,0,1,0,0,1,1] c27) (sp 130 [(0,x0),(1,x1),(5,x5),(7,x7),(8,x8),(9,x9)]) H (kk (some [0,1,5,7,8,9]) kn [(0,(some [0,1,5,7,8]),k0)] R [6])))
 (
 k0 (sp 130 [(0,x0),(1,x1),(5,x5),(7,x7),(8,x8)]) H) := by
 kernel_rfl
theorem N27_14b_eq (ρ call yc lim k x0 x1 x5 x7 x8 x9 H kn k0 R) :
 evL (cx ρ) call yc false 27 lim k (Code.at [1,1,1,0,1,0,0] c27) (sp 130 [(0,x0),(1,x1),(5,x5),(7,x7),(8,x8),(9,x9)]) H (kk (some [0,1,5,7,8,9]) kn [(0,(some [0,1,5,7,8]),k0)] R [6]) = N27_14b ρ call yc lim k x0 x1 x5 x7 x8 x9 H (fun x8 x9 H => kn (sp 130 [(0,x0),(1,x1),(5,x5),(7,x7),(8,x8),(9,x9)]) H) (fun x0 x1 x5 x7 x8 H => k0 (sp 130 [(0,x0),(1,x1),(5,x5),(7,x7),(8,x8)]) H) := by
 rw [evL_X,N27_14b_x]
 simp only [← evL_X,N27_14b,N27_15_eq]
noncomputable def N27_14 (ρ : RO) (call : CallF) (yc : YieldF) (lim k : Nat) (x0 x1 x5 x7 x8 x9 : AV) (H : Heap) (k0 : AV → AV → AV → AV → AV → Heap → Res) : Res :=
 loopL (fun (x : AV × AV) H kn => N27_14b ρ call yc lim k x0 x1 x5 x7 x.1 x.2 H (fun x8 x9 H => kn (x8,x9) H) k0) k (x8,x9) H
theorem N27_14_eq (ρ call yc lim k x0 x1 x5 x7 x8 x9 H kn k0 R) :
 evL (cx ρ) call yc false 27 lim k (Code.at [1,1,1,0,1,0] c27) (sp 130 [(0,x0),(1,x1),(5,x5),(7,x7),(8,x8),(9,x9)]) H (kk (some [0,1,5,7,8]) kn [(0,(some [0,1,5,7,8]),k0)] R [6]) = N27_14 ρ call yc lim k x0 x1 x5 x7 x8 x9 H (fun x0 x1 x5 x7 x8 H => k0 (sp 130 [(0,x0),(1,x1),(5,x5),(7,x7),(8,x8)]) H) := by
 have e : Code.at [1,1,1,0,1,0] c27 = .loop (Code.at [1,1,1,0,1,0,0] c27) := by kernel_rfl
 rw [e]
 unfold N27_14
 exact loop_node [0,1,5,7,8,9] (fun x : AV × AV => (sp 130 [(0,x0),(1,x1),(5,x5),(7,x7),(8,(x.1)),(9,(x.2))])) (fun (x : AV × AV) H kn => N27_14b ρ call yc lim k x0 x1 x5 x7 x.1 x.2 H (fun x8 x9 H => kn (x8,x9) H) (fun x0 x1 x5 x7 x8 H => k0 (sp 130 [(0,x0),(1,x1),(5,x5),(7,x7),(8,x8)]) H)) (by kernel_rfl) (fun x => by kernel_rfl) (fun x H kn => N27_14b_eq ρ call yc lim k x0 x1 x5 x7 (x.1) (x.2) H kn k0 R) (x8,x9) (sp 130 [(0,x0),(1,x1),(5,x5),(7,x7),(8,x8),(9,x9)]) H (by kernel_rfl)
noncomputable def N27_13 (ρ : RO) (call : CallF) (yc : YieldF) (lim k : Nat) (x0 x1 x5 x7 x8 x9 : AV) (H : Heap) (kn : AV → AV → AV → AV → AV → Heap → Res) : Res :=
 N27_14 ρ call yc lim k x0 x1 x5 x7 x8 x9 H kn
theorem N27_13_x (ρ call yc lim k J x0 x1 x5 x7 x8 x9 H kn R) :
 evX (cx ρ) call yc false 27 lim k J (Code.at [1,1,1,0,1] c27) (sp 130 [(0,x0),(1,x1),(5,x5),(7,x7),(8,x8),(9,x9)]) H (kk (some [0,1,5,7,8]) kn [] R [6]) =
 J (Code.at [1,1,1,0,1,0] c27) (sp 130 [(0,x0),(1,x1),(5,x5),(7,x7),(8,x8),(9,x9)]) H (kk (some [0,1,5,7,8]) kn [(0,(some [0,1,5,7,8]),kn)] R [6]) := by
 kernel_rfl
theorem N27_13_eq (ρ call yc lim k x0 x1 x5 x7 x8 x9 H kn R) :
 evL (cx ρ) call yc false 27 lim k (Code.at [1,1,1,0,1] c27) (sp 130 [(0,x0),(1,x1),(5,x5),(7,x7),(8,x8),(9,x9)]) H (kk (some [0,1,5,7,8]) kn [] R [6]) = N27_13 ρ call yc lim k x0 x1 x5 x7 x8 x9 H (fun x0 x1 x5 x7 x8 H => kn (sp 130 [(0,x0),(1,x1),(5,x5),(7,x7),(8,x8)]) H) := by
 rw [evL_X,N27_13_x]
 simp only [← evL_X,N27_13,N27_14_eq]
noncomputable def L27 (ρ : RO) (call : CallF) (yc : YieldF) (lim k : Nat) (x0 x1 x2 : AV) (H : Heap) : Res :=
 effK H (boxA H 47 x2) fun x5 H =>
 effK H (bldS H 47 2 [.str ByteArray.empty,.bool false] 0 []) fun x16 H =>
 N27_13 ρ call yc lim k x0 x1 x5 x16 (.bool true) (.int .i64 0) H (fun x0_1 x1_1 x5_1 x7 x8 H =>
 N27_1 ρ call yc lim k x0_1 x1_1 x5_1 x7 x8 H retK)
theorem L27_x (ρ call yc lim k J x0 x1 x2 H) :
 evX (cx ρ) call yc false 27 lim k J c27 ([x0,x1,x2] ++ List.replicate 127 (.tup [])) H (kk none (fun s H => retK (gs [6] s) H) [] retK [6]) =
 effK H (boxA H 47 x2) fun x5 H =>
 effK H (bldS H 47 2 [.str ByteArray.empty,.bool false] 0 []) fun x16 H =>
 J (Code.at [1,1,1,0,1] c27) (sp 130 [(0,x0),(1,x1),(5,x5),(7,x16),(8,(.bool true)),(9,(.int .i64 0))]) H (kk (some [0,1,5,7,8]) (fun s H => J (Code.at [1,1,1,1] c27) s H (kk none (fun s H => retK (gs [6] s) H) [] retK [6])) [] retK [6]) := by
 kernel_rfl
theorem G27 (ρ call yc lim k x0 x1 x2 H) :
 evL (cx ρ) call yc false 27 lim k c27 ([x0,x1,x2] ++ List.replicate 127 (.tup [])) H (kk none (fun s H => retK (gs [6] s) H) [] retK [6]) = L27 ρ call yc lim k x0 x1 x2 H := by
 rw [evL_X,L27_x]
 simp only [← evL_X,L27,N27_13_eq,N27_1_eq]
theorem E27 (ρ : RO) (k lim : Nat) (x0 x1 x2 : AV) (H : Heap) : evCall (cx ρ) (k + 1) lim 27 [x0,x1,x2] H = L27 ρ (evCall (cx ρ) k) (evCY (cx ρ) k).2 lim k x0 x1 x2 H := by
 rw [evCall_body (cx ρ) k lim 27 _ H Try.f27 c27 [6] (by kernel_rfl) (by kernel_rfl) (by kernel_rfl) (by kernel_rfl) (by kernel_rfl)]
 exact G27 ρ (evCall (cx ρ) k) (evCY (cx ρ) k).2 lim k x0 x1 x2 H
-- haycroft/history.Apply
noncomputable def c29 : Code := Code.of Try.prog 29
noncomputable def N29_1 (ρ : RO) (call : CallF) (yc : YieldF) (lim k : Nat) (x0 x1 x5 x8 : AV) (H : Heap) (R : KR) : Res :=
 purK (addA 0 x5) fun x11_1 =>
 purK (ld1 ρ H x11_1) fun x12_1 =>
 purK (binA Try.prog H .eql 3 x12_1 (.int .i64 1)) fun x14_1 =>
 condK x14_1
 (
 purK (unA .not x1) fun x16_1 =>
 condK x16_1
 (
 purK (bldA [.int .i64 0,.str ByteArray.empty] [(0,1,(.int .i64 7))]) fun x17_1 =>
 effK H (stA lim H 2 x8 x17_1) fun _ H =>
 R [(.str (ByteArray.mk #[])),(.bool false),x8] H)
 (
 purK (bldA [.int .i64 0,.str ByteArray.empty] [(1,1,x0)]) fun x20_1 =>
 effK H (stA lim H 2 x8 x20_1) fun _ H =>
 R [x0,(.bool true),x8] H))
 (
 purK (binA Try.prog H .eql 3 x12_1 (.int .i64 2)) fun x22_1 =>
 condK x22_1
 (
 purK (addA 2 x5) fun x23_1 =>
 purK (ld1 ρ H x23_1) fun x24_1 =>
 purK (bldA [.int .i64 0,.str ByteArray.empty] []) fun x25_1 =>
 effK H (stA lim H 2 x8 x25_1) fun _ H =>
 R [x24_1,(.bool true),x8] H)
 (
 purK (binA Try.prog H .eql 3 x12_1 (.int .i64 3)) fun x27_1 =>
 condK x27_1
 (
 purK (addA 3 x5) fun x29_1 =>
 purK (ld1 ρ H x29_1) fun x30_1 =>
 resK (call lim 52 [x0,x30_1] H) fun x31_1 H =>
 purK (bldA [.int .i64 0,.str ByteArray.empty] []) fun x32_1 =>
 effK H (stA lim H 2 x8 x32_1) fun _ H =>
 R [x31_1,(.bool true),x8] H)
 (
 purK (binA Try.prog H .eql 3 x12_1 (.int .i64 4)) fun x34_1 =>
 condK x34_1
 (
 purK (bldA [.int .i64 0,.str ByteArray.empty] []) fun x35_1 =>
 effK H (stA lim H 2 x8 x35_1) fun _ H =>
 R [(.str (ByteArray.mk #[])),(.bool false),x8] H)
 (
 purK (bldA [.int .i64 0,.str ByteArray.empty] [(0,1,(.int .i64 1))]) fun x38_1 =>
 effK H (stA lim H 2 x8 x38_1) fun _ H =>
 R [x0,x1,x8] H))))
theorem N29_1_eq (ρ call yc lim k x0 x1 x5 x8 H R) :
 evL (cx ρ) call yc false 29 lim k (Code.at [1,1] c29) (sp 39 [(0,x0),(1,x1),(5,x5),(8,x8)]) H (kk none (fun s H => R (gs [6,7,8] s) H) [] R [6,7,8]) = N29_1 ρ call yc lim k x0 x1 x5 x8 H R := by
 kernel_rfl
noncomputable def L29 (ρ : RO) (call : CallF) (yc : YieldF) (lim k : Nat) (x0 x1 x2 : AV) (H : Heap) : Res :=
 effK H (boxA H 51 x2) fun x5 H =>
 effK H (some (.ptr H.sz 0 0,.new (newCells 53 false [.int .i64 0,.str ByteArray.empty]))) fun x8 H =>
 purK (unA .not x1) fun x10 =>
 condK x10
 (
 N29_1 ρ call yc lim k (.str (ByteArray.mk #[])) x1 x5 x8 H (retC (cx ρ) [none,none,some 53]))
 (
 N29_1 ρ call yc lim k x0 x1 x5 x8 H (retC (cx ρ) [none,none,some 53]))
theorem L29_x (ρ call yc lim k J x0 x1 x2 H) :
 evX (cx ρ) call yc false 29 lim k J c29 ([x0,x1,x2] ++ List.replicate 36 (.tup [])) H (kk none (fun s H => (retC (cx ρ) [none,none,some 53]) (gs [6,7,8] s) H) [] (retC (cx ρ) [none,none,some 53]) [6,7,8]) =
 effK H (boxA H 51 x2) fun x5 H =>
 effK H (some (.ptr H.sz 0 0,.new (newCells 53 false [.int .i64 0,.str ByteArray.empty]))) fun x8 H =>
 purK (unA .not x1) fun x10 =>
 condK x10
 (
 J (Code.at [1,1] c29) (sp 39 [(0,(.str (ByteArray.mk #[]))),(1,x1),(5,x5),(8,x8)]) H (kk none (fun s H => (retC (cx ρ) [none,none,some 53]) (gs [6,7,8] s) H) [] (retC (cx ρ) [none,none,some 53]) [6,7,8]))
 (
 J (Code.at [1,1] c29) (sp 39 [(0,x0),(1,x1),(5,x5),(8,x8)]) H (kk none (fun s H => (retC (cx ρ) [none,none,some 53]) (gs [6,7,8] s) H) [] (retC (cx ρ) [none,none,some 53]) [6,7,8])) := by
 kernel_rfl
theorem G29 (ρ call yc lim k x0 x1 x2 H) :
 evL (cx ρ) call yc false 29 lim k c29 ([x0,x1,x2] ++ List.replicate 36 (.tup [])) H (kk none (fun s H => (retC (cx ρ) [none,none,some 53]) (gs [6,7,8] s) H) [] (retC (cx ρ) [none,none,some 53]) [6,7,8]) = L29 ρ call yc lim k x0 x1 x2 H := by
 rw [evL_X,L29_x]
 simp only [← evL_X,L29,N29_1_eq]
theorem E29 (ρ : RO) (k lim : Nat) (x0 x1 x2 : AV) (H : Heap) : evCall (cx ρ) (k + 1) lim 29 [x0,x1,x2] H = L29 ρ (evCall (cx ρ) k) (evCY (cx ρ) k).2 lim k x0 x1 x2 H := by
 rw [evCall_cells (cx ρ) k lim 29 _ H Try.f29 c29 [6,7,8] [none,none,some 53] (by kernel_rfl) (by kernel_rfl) (by kernel_rfl) (by kernel_rfl) (by kernel_rfl) (by kernel_rfl)]
 exact G29 ρ (evCall (cx ρ) k) (evCY (cx ρ) k).2 lim k x0 x1 x2 H
-- haycroft/haycroftref20.Apply
noncomputable def c30 : Code := Code.of Try.prog 30
noncomputable def N30_1 (ρ : RO) (call : CallF) (yc : YieldF) (lim k : Nat) (x2 x3 x4 x5 : AV) (H : Heap) (R : KR) : Res :=
 purK (addA 0 x3) fun x29_1 =>
 purK (ld1 ρ H x29_1) fun x30_1 =>
 purK (binA Try.prog H .eql 3 x30_1 (.int .i64 4)) fun x31_1 =>
 condK x31_1
 (
 purK (bldA [.str ByteArray.empty,.bool false] []) fun x32_1 =>
 purK (bldA [.int .i64 0,.str ByteArray.empty] []) fun x33_1 =>
 effK H (stA lim H 2 x4 x32_1) fun _ H =>
 effK H (stA lim H 2 x5 x33_1) fun _ H =>
 R [x4,x5] H)
 (
 purK (addA 1 x2) fun x34_1 =>
 purK (ld1 ρ H x34_1) fun x35_1 =>
 purK (unA .not x35_1) fun x36_1 =>
 condK x36_1
 (
 purK (bldA [.str ByteArray.empty,.bool false] []) fun x37_1 =>
 purK (bldA [.int .i64 0,.str ByteArray.empty] [(0,1,(.int .i64 7))]) fun x38_1 =>
 effK H (stA lim H 2 x4 x37_1) fun _ H =>
 effK H (stA lim H 2 x5 x38_1) fun _ H =>
 R [x4,x5] H)
 (
 purK (ldN ρ H 2 x2) fun x39_1 =>
 purK (addA 0 x2) fun x40_1 =>
 purK (ld1 ρ H x40_1) fun x41_1 =>
 purK (bldA [.int .i64 0,.str ByteArray.empty] [(1,1,x41_1)]) fun x42_1 =>
 effK H (stA lim H 2 x4 x39_1) fun _ H => bif (agn (ld1 ρ H x40_1) x41_1 && true) then
 effK H (stA lim H 2 x5 x42_1) fun _ H =>
 R [x4,x5] H
 else .stop))
theorem N30_1_eq (ρ call yc lim k x2 x3 x4 x5 H R) :
 evL (cx ρ) call yc false 30 lim k (Code.at [1,1,1] c30) (sp 43 [(2,x2),(3,x3),(4,x4),(5,x5)]) H (kk none (fun s H => R (gs [4,5] s) H) [] R [4,5]) = N30_1 ρ call yc lim k x2 x3 x4 x5 H R := by
 kernel_rfl
noncomputable def N30_2 (ρ : RO) (call : CallF) (yc : YieldF) (lim k : Nat) (x3 x4 x5 x6 : AV) (H : Heap) (R : KR) : Res :=
 purK (addA 3 x3) fun x23_1 =>
 purK (ld1 ρ H x23_1) fun x24_1 =>
 purK (binA Try.prog H .add 49 x6 x24_1) fun x25_1 =>
 resK (call lim 54 [x25_1] H) fun x26_1 H =>
 purK (bldA [.str ByteArray.empty,.bool false] [(0,1,x26_1),(1,1,(.bool true))]) fun x27_1 =>
 purK (bldA [.int .i64 0,.str ByteArray.empty] []) fun x28_1 =>
 effK H (stA lim H 2 x4 x27_1) fun _ H =>
 effK H (stA lim H 2 x5 x28_1) fun _ H =>
 R [x4,x5] H
theorem N30_2_eq (ρ call yc lim k x3 x4 x5 x6 H kn R) :
 evL (cx ρ) call yc false 30 lim k (Code.at [1,1,0,1,0,1,1] c30) (sp 43 [(3,x3),(4,x4),(5,x5),(6,x6)]) H (kk (some [2,3,4,5]) kn [] R [4,5]) = N30_2 ρ call yc lim k x3 x4 x5 x6 H R := by
 kernel_rfl
noncomputable def L30 (ρ : RO) (call : CallF) (yc : YieldF) (lim k : Nat) (x0 x1 : AV) (H : Heap) : Res :=
 effK H (boxA H 47 x0) fun x2 H =>
 effK H (boxA H 51 x1) fun x3 H =>
 effK H (some (.ptr H.sz 0 0,.new (newCells 47 false [.str ByteArray.empty,.bool false]))) fun x4 H =>
 effK H (some (.ptr H.sz 0 0,.new (newCells 53 false [.int .i64 0,.str ByteArray.empty]))) fun x5 H =>
 purK (addA 0 x3) fun x7 =>
 purK (ld1 ρ H x7) fun x8 =>
 purK (binA Try.prog H .eql 3 x8 (.int .i64 2)) fun x9 =>
 condK x9
 (
 purK (addA 2 x3) fun x10 =>
 purK (ld1 ρ H x10) fun x11 =>
 purK (bldA [.str ByteArray.empty,.bool false] [(0,1,x11),(1,1,(.bool true))]) fun x12 =>
 purK (bldA [.int .i64 0,.str ByteArray.empty] []) fun x13 =>
 effK H (stA lim H 2 x4 x12) fun _ H =>
 effK H (stA lim H 2 x5 x13) fun _ H =>
 (retC (cx ρ) [some 47,some 53]) [x4,x5] H)
 (
 purK (addA 0 x3) fun x14 =>
 purK (ld1 ρ H x14) fun x15 =>
 purK (binA Try.prog H .eql 3 x15 (.int .i64 3)) fun x16 =>
 condK x16
 (
 purK (addA 1 x2) fun x17 =>
 purK (ld1 ρ H x17) fun x18 =>
 condK x18
 (
 purK (addA 0 x2) fun x19 =>
 purK (ld1 ρ H x19) fun x20 =>
 resK (call lim 53 [x20] H) fun x21 H =>
 N30_2 ρ call yc lim k x3 x4 x5 x21 H (retC (cx ρ) [some 47,some 53]))
 (
 N30_2 ρ call yc lim k x3 x4 x5 (.int .u64 0) H (retC (cx ρ) [some 47,some 53])))
 (
 N30_1 ρ call yc lim k x2 x3 x4 x5 H (retC (cx ρ) [some 47,some 53])))
theorem L30_x (ρ call yc lim k J x0 x1 H) :
 evX (cx ρ) call yc false 30 lim k J c30 ([x0,x1] ++ List.replicate 41 (.tup [])) H (kk none (fun s H => (retC (cx ρ) [some 47,some 53]) (gs [4,5] s) H) [] (retC (cx ρ) [some 47,some 53]) [4,5]) =
 effK H (boxA H 47 x0) fun x2 H =>
 effK H (boxA H 51 x1) fun x3 H =>
 effK H (some (.ptr H.sz 0 0,.new (newCells 47 false [.str ByteArray.empty,.bool false]))) fun x4 H =>
 effK H (some (.ptr H.sz 0 0,.new (newCells 53 false [.int .i64 0,.str ByteArray.empty]))) fun x5 H =>
 purK (addA 0 x3) fun x7 =>
 purK (ld1 ρ H x7) fun x8 =>
 purK (binA Try.prog H .eql 3 x8 (.int .i64 2)) fun x9 =>
 condK x9
 (
 purK (addA 2 x3) fun x10 =>
 purK (ld1 ρ H x10) fun x11 =>
 purK (bldA [.str ByteArray.empty,.bool false] [(0,1,x11),(1,1,(.bool true))]) fun x12 =>
 purK (bldA [.int .i64 0,.str ByteArray.empty] []) fun x13 =>
 effK H (stA lim H 2 x4 x12) fun _ H =>
 effK H (stA lim H 2 x5 x13) fun _ H =>
 (retC (cx ρ) [some 47,some 53]) [x4,x5] H)
 (
 purK (addA 0 x3) fun x14 =>
 purK (ld1 ρ H x14) fun x15 =>
 purK (binA Try.prog H .eql 3 x15 (.int .i64 3)) fun x16 =>
 condK x16
 (
 purK (addA 1 x2) fun x17 =>
 purK (ld1 ρ H x17) fun x18 =>
 condK x18
 (
 purK (addA 0 x2) fun x19 =>
 purK (ld1 ρ H x19) fun x20 =>
 resK (call lim 53 [x20] H) fun x21 H =>
 J (Code.at [1,1,0,1,0,1,1] c30) (sp 43 [(3,x3),(4,x4),(5,x5),(6,x21)]) H (kk (some [2,3,4,5]) (fun s H => J (Code.at [1,1,1] c30) s H (kk none (fun s H => (retC (cx ρ) [some 47,some 53]) (gs [4,5] s) H) [] (retC (cx ρ) [some 47,some 53]) [4,5])) [] (retC (cx ρ) [some 47,some 53]) [4,5]))
 (
 J (Code.at [1,1,0,1,0,1,1] c30) (sp 43 [(3,x3),(4,x4),(5,x5),(6,(.int .u64 0))]) H (kk (some [2,3,4,5]) (fun s H => J (Code.at [1,1,1] c30) s H (kk none (fun s H => (retC (cx ρ) [some 47,some 53]) (gs [4,5] s) H) [] (retC (cx ρ) [some 47,some 53]) [4,5])) [] (retC (cx ρ) [some 47,some 53]) [4,5])))
 (
 J (Code.at [1,1,1] c30) (sp 43 [(2,x2),(3,x3),(4,x4),(5,x5)]) H (kk none (fun s H => (retC (cx ρ) [some 47,some 53]) (gs [4,5] s) H) [] (retC (cx ρ) [some 47,some 53]) [4,5]))) := by
 kernel_rfl
theorem G30 (ρ call yc lim k x0 x1 H) :
 evL (cx ρ) call yc false 30 lim k c30 ([x0,x1] ++ List.replicate 41 (.tup [])) H (kk none (fun s H => (retC (cx ρ) [some 47,some 53]) (gs [4,5] s) H) [] (retC (cx ρ) [some 47,some 53]) [4,5]) = L30 ρ call yc lim k x0 x1 H := by
 rw [evL_X,L30_x]
 simp only [← evL_X,L30,N30_1_eq,N30_2_eq]
theorem E30 (ρ : RO) (k lim : Nat) (x0 x1 : AV) (H : Heap) : evCall (cx ρ) (k + 1) lim 30 [x0,x1] H = L30 ρ (evCall (cx ρ) k) (evCY (cx ρ) k).2 lim k x0 x1 H := by
 rw [evCall_cells (cx ρ) k lim 30 _ H Try.f30 c30 [4,5] [some 47,some 53] (by kernel_rfl) (by kernel_rfl) (by kernel_rfl) (by kernel_rfl) (by kernel_rfl) (by kernel_rfl)]
 exact G30 ρ (evCall (cx ρ) k) (evCY (cx ρ) k).2 lim k x0 x1 H
end Go.Proofs.Ytkmohjddojpdjaa

-- part Ht3
/- Functions, lifted. Printed by a program of this repo. -/
set_option linter.unusedVariables false
set_option linter.unusedSimpArgs false
set_option maxRecDepth 100000
set_option maxHeartbeats 4000000
namespace Go.Proofs.Ytkmohjddojpdjaa
open Go.Ev Go.RowKit
-- haycroft/history.Last
noncomputable def c31 : Code := Code.of Try.prog 31
noncomputable def N31_1 (ρ : RO) (call : CallF) (yc : YieldF) (lim k : Nat) (x9 x10 : AV) (H : Heap) (R : KR) : Res :=
 resK (call lim 56 [x9] H) fun x39_1 H =>
 resK (call lim 55 [x39_1] H) fun x40_1 H =>
 R [x40_1,x10,(.int .i64 0)] H
theorem N31_1_eq (ρ call yc lim k x9 x10 H R) :
 evL (cx ρ) call yc false 31 lim k (Code.at [1,1,1,1,1,1] c31) (sp 42 [(9,x9),(10,x10)]) H (kk none (fun s H => R (gs [4,5,6] s) H) [] R [4,5,6]) = N31_1 ρ call yc lim k x9 x10 H R := by
 kernel_rfl
noncomputable def N31_4 (ρ : RO) (call : CallF) (yc : YieldF) (lim k : Nat) (x9 x10 x24 x25 x26 : AV) (H : Heap) (kn : AV → AV → Heap → Res) : Res :=
 purK (binA Try.prog H .add 3 x26 (.int .i64 1)) fun x37_1 =>
 kn x10 x37_1 H
theorem N31_4_eq (ρ call yc lim k x9 x10 x24 x25 x26 H kn k0 R) :
 evL (cx ρ) call yc false 31 lim k (Code.at [1,1,1,1,1,0,1,0,0,1,1,1] c31) (sp 42 [(9,x9),(10,x10),(24,x24),(25,x25),(26,x26)]) H (kk (some [9,10,24,25,26]) kn [(0,(some [9,10]),k0)] R [4,5,6]) = N31_4 ρ call yc lim k x9 x10 x24 x25 x26 H (fun x10 x26 H => kn (sp 42 [(9,x9),(10,x10),(24,x24),(25,x25),(26,x26)]) H) := by
 kernel_rfl
noncomputable def N31_3b (ρ : RO) (call : CallF) (yc : YieldF) (lim k : Nat) (x9 x10 x24 x25 x26 : AV) (H : Heap) (kn : AV → AV → Heap → Res) (k0 : AV → AV → Heap → Res) : Res :=
 purK (binA Try.prog H .lss 3 x26 x25) fun x27_1 =>
 condK x27_1
 (
 purK (ixS 3 x24 x26) fun x28_1 =>
 purK (ldN ρ H 3 x28_1) fun x29_1 =>
 effK H (some (.ptr H.sz 0 0,.new (newCells 105 false [.int .u32 0,.str ByteArray.empty,.bool false]))) fun x12_1 H =>
 effK H (stA lim H 3 x12_1 x29_1) fun _ H =>
 purK (addA 1 x12_1) fun x30_1 =>
 purK (addA 1 x30_1) fun x31_1 =>
 purK (ld1 ρ H x31_1) fun x32_1 =>
 condK x32_1
 (
 purK (addA 1 x12_1) fun x34_1 =>
 purK (addA 0 x34_1) fun x35_1 =>
 purK (ld1 ρ H x35_1) fun x36_1 =>
 effK H ((mapPutA (cx ρ) lim H 108 x9 x36_1 (.bool true)).map skips) fun _ H =>
 N31_4 ρ call yc lim k x9 x10 x24 x25 x26 H kn)
 (
 N31_4 ρ call yc lim k x9 (.bool true) x24 x25 x26 H kn))
 (
 k0 x9 x10 H)
theorem N31_3b_x (ρ call yc lim k J x9 x10 x24 x25 x26 H kn k0 R) :
 evX (cx ρ) call yc false 31 lim k J (Code.at [1,1,1,1,1,0,1,0,0] c31) (sp 42 [(9,x9),(10,x10),(24,x24),(25,x25),(26,x26)]) H (kk (some [9,10,24,25,26]) kn [(0,(some [9,10]),k0)] R [4,5,6]) =
 purK (binA Try.prog H .lss 3 x26 x25) fun x27_1 =>
 condK x27_1
 (
 purK (ixS 3 x24 x26) fun x28_1 =>
 purK (ldN ρ H 3 x28_1) fun x29_1 =>
 effK H (some (.ptr H.sz 0 0,.new (newCells 105 false [.int .u32 0,.str ByteArray.empty,.bool false]))) fun x12_1 H =>
 effK H (stA lim H 3 x12_1 x29_1) fun _ H =>
 purK (addA 1 x12_1) fun x30_1 =>
 purK (addA 1 x30_1) fun x31_1 =>
 purK (ld1 ρ H x31_1) fun x32_1 =>
 condK x32_1
 (
 purK (addA 1 x12_1) fun x34_1 =>
 purK (addA 0 x34_1) fun x35_1 =>
 purK (ld1 ρ H x35_1) fun x36_1 =>
 effK H ((mapPutA (cx ρ) lim H 108 x9 x36_1 (.bool true)).map skips) fun _ H =>
 J (Code.at [1,1,1,1,1,0,1,0,0,1,1,1] c31) (sp 42 [(9,x9),(10,x10),(24,x24),(25,x25),(26,x26)]) H (kk (some [9,10,24,25,26]) kn [(0,(some [9,10]),k0)] R [4,5,6]))
 (
 J (Code.at [1,1,1,1,1,0,1,0,0,1,1,1] c31) (sp 42 [(9,x9),(10,(.bool true)),(24,x24),(25,x25),(26,x26)]) H (kk (some [9,10,24,25,26]) kn [(0,(some [9,10]),k0)] R [4,5,6])))
 (
 k0 (sp 42 [(9,x9),(10,x10)]) H) := by
 kernel_rfl
theorem N31_3b_eq (ρ call yc lim k x9 x10 x24 x25 x26 H kn k0 R) :
 evL (cx ρ) call yc false 31 lim k (Code.at [1,1,1,1,1,0,1,0,0] c31) (sp 42 [(9,x9),(10,x10),(24,x24),(25,x25),(26,x26)]) H (kk (some [9,10,24,25,26]) kn [(0,(some [9,10]),k0)] R [4,5,6]) = N31_3b ρ call yc lim k x9 x10 x24 x25 x26 H (fun x10 x26 H => kn (sp 42 [(9,x9),(10,x10),(24,x24),(25,x25),(26,x26)]) H) (fun x9 x10 H => k0 (sp 42 [(9,x9),(10,x10)]) H) := by
 rw [evL_X,N31_3b_x]
 simp only [← evL_X,N31_3b,N31_4_eq]
noncomputable def N31_3 (ρ : RO) (call : CallF) (yc : YieldF) (lim k : Nat) (x9 x10 x24 x25 x26 : AV) (H : Heap) (k0 : AV → AV → Heap → Res) : Res :=
 loopL (fun (x : AV × AV) H kn => N31_3b ρ call yc lim k x9 x.1 x24 x25 x.2 H (fun x10 x26 H => kn (x10,x26) H) k0) k (x10,x26) H
theorem N31_3_eq (ρ call yc lim k x9 x10 x24 x25 x26 H kn k0 R) :
 evL (cx ρ) call yc false 31 lim k (Code.at [1,1,1,1,1,0,1,0] c31) (sp 42 [(9,x9),(10,x10),(24,x24),(25,x25),(26,x26)]) H (kk (some [9,10]) kn [(0,(some [9,10]),k0)] R [4,5,6]) = N31_3 ρ call yc lim k x9 x10 x24 x25 x26 H (fun x9 x10 H => k0 (sp 42 [(9,x9),(10,x10)]) H) := by
 have e : Code.at [1,1,1,1,1,0,1,0] c31 = .loop (Code.at [1,1,1,1,1,0,1,0,0] c31) := by kernel_rfl
 rw [e]
 unfold N31_3
 exact loop_node [9,10,24,25,26] (fun x : AV × AV => (sp 42 [(9,x9),(10,(x.1)),(24,x24),(25,x25),(26,(x.2))])) (fun (x : AV × AV) H kn => N31_3b ρ call yc lim k x9 x.1 x24 x25 x.2 H (fun x10 x26 H => kn (x10,x26) H) (fun x9 x10 H => k0 (sp 42 [(9,x9),(10,x10)]) H)) (by kernel_rfl) (fun x => by kernel_rfl) (fun x H kn => N31_3b_eq ρ call yc lim k x9 (x.1) x24 x25 (x.2) H kn k0 R) (x10,x26) (sp 42 [(9,x9),(10,x10),(24,x24),(25,x25),(26,x26)]) H (by kernel_rfl)
noncomputable def N31_2 (ρ : RO) (call : CallF) (yc : YieldF) (lim k : Nat) (x9 x10 x24 x25 x26 : AV) (H : Heap) (kn : AV → AV → Heap → Res) : Res :=
 N31_3 ρ call yc lim k x9 x10 x24 x25 x26 H kn
theorem N31_2_x (ρ call yc lim k J x9 x10 x24 x25 x26 H kn R) :
 evX (cx ρ) call yc false 31 lim k J (Code.at [1,1,1,1,1,0,1] c31) (sp 42 [(9,x9),(10,x10),(24,x24),(25,x25),(26,x26)]) H (kk (some [9,10]) kn [] R [4,5,6]) =
 J (Code.at [1,1,1,1,1,0,1,0] c31) (sp 42 [(9,x9),(10,x10),(24,x24),(25,x25),(26,x26)]) H (kk (some [9,10]) kn [(0,(some [9,10]),kn)] R [4,5,6]) := by
 kernel_rfl
theorem N31_2_eq (ρ call yc lim k x9 x10 x24 x25 x26 H kn R) :
 evL (cx ρ) call yc false 31 lim k (Code.at [1,1,1,1,1,0,1] c31) (sp 42 [(9,x9),(10,x10),(24,x24),(25,x25),(26,x26)]) H (kk (some [9,10]) kn [] R [4,5,6]) = N31_2 ρ call yc lim k x9 x10 x24 x25 x26 H (fun x9 x10 H => kn (sp 42 [(9,x9),(10,x10)]) H) := by
 rw [evL_X,N31_2_x]
 simp only [← evL_X,N31_2,N31_3_eq]
noncomputable def L31 (ρ : RO) (call : CallF) (yc : YieldF) (lim k : Nat) (x0 x1 : AV) (H : Heap) : Res :=
 resK (call lim 49 [x0,x1] H) fun x16 H =>
 purK (extA 0 x16) fun x17 =>
 purK (extA 1 x16) fun x18 =>
 purK (binA Try.prog H .neq 25 x18 (.int .i64 0)) fun x20 =>
 condK x20
 (
 retK [.nils,(.bool false),x18] H)
 (
 effK H (some (makeMapA H)) fun x22 H =>
 resK (call lim 50 [x17] H) fun x24 H =>
 purK (lenS x24) fun x25 =>
 N31_2 ρ call yc lim k x22 (.bool false) x24 x25 (.int .i64 0) H (fun x9 x10 H =>
 N31_1 ρ call yc lim k x9 x10 H retK))
theorem L31_x (ρ call yc lim k J x0 x1 H) :
 evX (cx ρ) call yc false 31 lim k J c31 ([x0,x1] ++ List.replicate 40 (.tup [])) H (kk none (fun s H => retK (gs [4,5,6] s) H) [] retK [4,5,6]) =
 resK (call lim 49 [x0,x1] H) fun x16 H =>
 purK (extA 0 x16) fun x17 =>
 purK (extA 1 x16) fun x18 =>
 purK (binA Try.prog H .neq 25 x18 (.int .i64 0)) fun x20 =>
 condK x20
 (
 retK [.nils,(.bool false),x18] H)
 (
 effK H (some (makeMapA H)) fun x22 H =>
 resK (call lim 50 [x17] H) fun x24 H =>
 purK (lenS x24) fun x25 =>
 J (Code.at [1,1,1,1,1,0,1] c31) (sp 42 [(9,x22),(10,(.bool false)),(24,x24),(25,x25),(26,(.int .i64 0))]) H (kk (some [9,10]) (fun s H => J (Code.at [1,1,1,1,1,1] c31) s H (kk none (fun s H => retK (gs [4,5,6] s) H) [] retK [4,5,6])) [] retK [4,5,6])) := by
 kernel_rfl
theorem G31 (ρ call yc lim k x0 x1 H) :
 evL (cx ρ) call yc false 31 lim k c31 ([x0,x1] ++ List.replicate 40 (.tup [])) H (kk none (fun s H => retK (gs [4,5,6] s) H) [] retK [4,5,6]) = L31 ρ call yc lim k x0 x1 H := by
 rw [evL_X,L31_x]
 simp only [← evL_X,L31,N31_1_eq,N31_2_eq]
theorem E31 (ρ : RO) (k lim : Nat) (x0 x1 : AV) (H : Heap) : evCall (cx ρ) (k + 1) lim 31 [x0,x1] H = L31 ρ (evCall (cx ρ) k) (evCY (cx ρ) k).2 lim k x0 x1 H := by
 rw [evCall_body (cx ρ) k lim 31 _ H Try.f31 c31 [4,5,6] (by kernel_rfl) (by kernel_rfl) (by kernel_rfl) (by kernel_rfl) (by kernel_rfl)]
 exact G31 ρ (evCall (cx ρ) k) (evCY (cx ρ) k).2 lim k x0 x1 H
-- haycroft/haycroftref20.Count
noncomputable def c44 : Code := Code.of Try.prog 44
noncomputable def N44_1 (ρ : RO) (call : CallF) (yc : YieldF) (lim k : Nat) (x5 : AV) (H : Heap) (R : KR) : Res :=
 R [x5] H
theorem N44_1_eq (ρ call yc lim k x5 H R) :
 evL (cx ρ) call yc false 44 lim k (Code.at [1,1,1] c44) (sp 24 [(5,x5)]) H (kk none (fun s H => R (gs [4] s) H) [] R [4]) = N44_1 ρ call yc lim k x5 H R := by
 kernel_rfl
noncomputable def N44_4 (ρ : RO) (call : CallF) (yc : YieldF) (lim k : Nat) (x0 x1 x5 x6 : AV) (H : Heap) (kn : AV → AV → Heap → Res) : Res :=
 purK (binA Try.prog H .add 3 x6 (.int .i64 1)) fun x12_1 =>
 kn x5 x12_1 H
theorem N44_4_eq (ρ call yc lim k x0 x1 x5 x6 H kn k0 R) :
 evL (cx ρ) call yc false 44 lim k (Code.at [1,1,0,1,0,0,1,1] c44) (sp 24 [(0,x0),(1,x1),(5,x5),(6,x6)]) H (kk (some [0,1,5,6]) kn [(0,(some [5]),k0)] R [4]) = N44_4 ρ call yc lim k x0 x1 x5 x6 H (fun x5 x6 H => kn (sp 24 [(0,x0),(1,x1),(5,x5),(6,x6)]) H) := by
 kernel_rfl
noncomputable def N44_3b (ρ : RO) (call : CallF) (yc : YieldF) (lim k : Nat) (x0 x1 x5 x6 : AV) (H : Heap) (kn : AV → AV → Heap → Res) (k0 : AV → Heap → Res) : Res :=
 purK (lenS x0) fun x9_1 =>
 purK (binA Try.prog H .lss 3 x6 x9_1) fun x10_1 =>
 condK x10_1
 (
 purK (ixS 8 x0 x6) fun x15_1 =>
 purK (addA 0 x15_1) fun x16_1 =>
 purK (addA 1 x16_1) fun x17_1 =>
 purK (ld1 ρ H x17_1) fun x18_1 =>
 purK (binA Try.prog H .eql 9 x18_1 x1) fun x20_1 =>
 condK x20_1
 (
 purK (binA Try.prog H .add 3 x5 (.int .i64 1)) fun x22_1 =>
 N44_4 ρ call yc lim k x0 x1 x22_1 x6 H kn)
 (
 N44_4 ρ call yc lim k x0 x1 x5 x6 H kn))
 (
 k0 x5 H)
theorem N44_3b_x (ρ call yc lim k J x0 x1 x5 x6 H kn k0 R) :
 evX (cx ρ) call yc false 44 lim k J (Code.at [1,1,0,1,0,0] c44) (sp 24 [(0,x0),(1,x1),(5,x5),(6,x6)]) H (kk (some [0,1,5,6]) kn [(0,(some [5]),k0)] R [4]) =
 purK (lenS x0) fun x9_1 =>
 purK (binA Try.prog H .lss 3 x6 x9_1) fun x10_1 =>
 condK x10_1
 (
 purK (ixS 8 x0 x6) fun x15_1 =>
 purK (addA 0 x15_1) fun x16_1 =>
 purK (addA 1 x16_1) fun x17_1 =>
 purK (ld1 ρ H x17_1) fun x18_1 =>
 purK (binA Try.prog H .eql 9 x18_1 x1) fun x20_1 =>
 condK x20_1
 (
 purK (binA Try.prog H .add 3 x5 (.int .i64 1)) fun x22_1 =>
 J (Code.at [1,1,0,1,0,0,1,1] c44) (sp 24 [(0,x0),(1,x1),(5,x22_1),(6,x6)]) H (kk (some [0,1,5,6]) kn [(0,(some [5]),k0)] R [4]))
 (
 J (Code.at [1,1,0,1,0,0,1,1] c44) (sp 24 [(0,x0),(1,x1),(5,x5),(6,x6)]) H (kk (some [0,1,5,6]) kn [(0,(some [5]),k0)] R [4])))
 (
 k0 (sp 24 [(5,x5)]) H) := by
 kernel_rfl
theorem N44_3b_eq (ρ call yc lim k x0 x1 x5 x6 H kn k0 R) :
 evL (cx ρ) call yc false 44 lim k (Code.at [1,1,0,1,0,0] c44) (sp 24 [(0,x0),(1,x1),(5,x5),(6,x6)]) H (kk (some [0,1,5,6]) kn [(0,(some [5]),k0)] R [4]) = N44_3b ρ call yc lim k x0 x1 x5 x6 H (fun x5 x6 H => kn (sp 24 [(0,x0),(1,x1),(5,x5),(6,x6)]) H) (fun x5 H => k0 (sp 24 [(5,x5)]) H) := by
 rw [evL_X,N44_3b_x]
 simp only [← evL_X,N44_3b,N44_4_eq]
noncomputable def N44_3 (ρ : RO) (call : CallF) (yc : YieldF) (lim k : Nat) (x0 x1 x5 x6 : AV) (H : Heap) (k0 : AV → Heap → Res) : Res :=
 loopL (fun (x : AV × AV) H kn => N44_3b ρ call yc lim k x0 x1 x.1 x.2 H (fun x5 x6 H => kn (x5,x6) H) k0) k (x5,x6) H
theorem N44_3_eq (ρ call yc lim k x0 x1 x5 x6 H kn k0 R) :
 evL (cx ρ) call yc false 44 lim k (Code.at [1,1,0,1,0] c44) (sp 24 [(0,x0),(1,x1),(5,x5),(6,x6)]) H (kk (some [5]) kn [(0,(some [5]),k0)] R [4]) = N44_3 ρ call yc lim k x0 x1 x5 x6 H (fun x5 H => k0 (sp 24 [(5,x5)]) H) := by
 have e : Code.at [1,1,0,1,0] c44 = .loop (Code.at [1,1,0,1,0,0] c44) := by kernel_rfl
 rw [e]
 unfold N44_3
 exact loop_node [0,1,5,6] (fun x : AV × AV => (sp 24 [(0,x0),(1,x1),(5,(x.1)),(6,(x.2))])) (fun (x : AV × AV) H kn => N44_3b ρ call yc lim k x0 x1 x.1 x.2 H (fun x5 x6 H => kn (x5,x6) H) (fun x5 H => k0 (sp 24 [(5,x5)]) H)) (by kernel_rfl) (fun x => by kernel_rfl) (fun x H kn => N44_3b_eq ρ call yc lim k x0 x1 (x.1) (x.2) H kn k0 R) (x5,x6) (sp 24 [(0,x0),(1,x1),(5,x5),(6,x6)]) H (by kernel_rfl)
noncomputable def N44_2 (ρ : RO) (call : CallF) (yc : YieldF) (lim k : Nat) (x0 x1 x5 x6 : AV) (H : Heap) (kn : AV → Heap → Res) : Res :=
 N44_3 ρ call yc lim k x0 x1 x5 x6 H kn
theorem N44_2_x (ρ call yc lim k J x0 x1 x5 x6 H kn R) :
 evX (cx ρ) call yc false 44 lim k J (Code.at [1,1,0,1] c44) (sp 24 [(0,x0),(1,x1),(5,x5),(6,x6)]) H (kk (some [5]) kn [] R [4]) =
 J (Code.at [1,1,0,1,0] c44) (sp 24 [(0,x0),(1,x1),(5,x5),(6,x6)]) H (kk (some [5]) kn [(0,(some [5]),kn)] R [4]) := by
 kernel_rfl
theorem N44_2_eq (ρ call yc lim k x0 x1 x5 x6 H kn R) :
 evL (cx ρ) call yc false 44 lim k (Code.at [1,1,0,1] c44) (sp 24 [(0,x0),(1,x1),(5,x5),(6,x6)]) H (kk (some [5]) kn [] R [4]) = N44_2 ρ call yc lim k x0 x1 x5 x6 H (fun x5 H => kn (sp 24 [(5,x5)]) H) := by
 rw [evL_X,N44_2_x]
 simp only [← evL_X,N44_2,N44_3_eq]
noncomputable def L44 (ρ : RO) (call : CallF) (yc : YieldF) (lim k : Nat) (x0 x1 : AV) (H : Heap) : Res :=
 N44_2 ρ call yc lim k x0 x1 (.int .i64 0) (.int .i64 0) H (fun x5 H =>
 N44_1 ρ call yc lim k x5 H retK)
theorem L44_x (ρ call yc lim k J x0 x1 H) :
 evX (cx ρ) call yc false 44 lim k J c44 ([x0,x1] ++ List.replicate 22 (.tup [])) H (kk none (fun s H => retK (gs [4] s) H) [] retK [4]) =
 J (Code.at [1,1,0,1] c44) (sp 24 [(0,x0),(1,x1),(5,(.int .i64 0)),(6,(.int .i64 0))]) H (kk (some [5]) (fun s H => J (Code.at [1,1,1] c44) s H (kk none (fun s H => retK (gs [4] s) H) [] retK [4])) [] retK [4]) := by
 kernel_rfl
theorem G44 (ρ call yc lim k x0 x1 H) :
 evL (cx ρ) call yc false 44 lim k c44 ([x0,x1] ++ List.replicate 22 (.tup [])) H (kk none (fun s H => retK (gs [4] s) H) [] retK [4]) = L44 ρ call yc lim k x0 x1 H := by
 rw [evL_X,L44_x]
 simp only [← evL_X,L44,N44_1_eq,N44_2_eq]
theorem E44 (ρ : RO) (k lim : Nat) (x0 x1 : AV) (H : Heap) : evCall (cx ρ) (k + 1) lim 44 [x0,x1] H = L44 ρ (evCall (cx ρ) k) (evCY (cx ρ) k).2 lim k x0 x1 H := by
 rw [evCall_body (cx ρ) k lim 44 _ H Try.f44 c44 [4] (by kernel_rfl) (by kernel_rfl) (by kernel_rfl) (by kernel_rfl) (by kernel_rfl)]
 exact G44 ρ (evCall (cx ρ) k) (evCY (cx ρ) k).2 lim k x0 x1 H
-- slices.Sort[[]string,string]
noncomputable def c45 : Code := Code.of Try.prog 45
noncomputable def L45 (ρ : RO) (call : CallF) (yc : YieldF) (lim k : Nat) (x0 : AV) (H : Heap) : Res :=
 purK (lenS x0) fun x4 =>
 purK (cvI .u64 x4) fun x8 =>
 resK (call lim 66 [x8] H) fun x9 H =>
 resK (call lim 65 [x0,(.int .i64 0),x4,x9] H) fun x10 H =>
 retK [] H
theorem G45 (ρ call yc lim k x0 H) :
 evL (cx ρ) call yc false 45 lim k c45 ([x0] ++ List.replicate 10 (.tup [])) H (kk none (fun s H => retK (gs [] s) H) [] retK []) = L45 ρ call yc lim k x0 H := by
 kernel_rfl
theorem E45 (ρ : RO) (k lim : Nat) (x0 : AV) (H : Heap) : evCall (cx ρ) (k + 1) lim 45 [x0] H = L45 ρ (evCall (cx ρ) k) (evCY (cx ρ) k).2 lim k x0 H := by
 rw [evCall_body (cx ρ) k lim 45 _ H Try.f45 c45 [] (by kernel_rfl) (by kernel_rfl) (by kernel_rfl) (by kernel_rfl) (by kernel_rfl)]
 exact G45 ρ (evCall (cx ρ) k) (evCY (cx ρ) k).2 lim k x0 H
-- slices.Compact[[]string,string]
noncomputable def c46 : Code := Code.of Try.prog 46
noncomputable def N46_1 (ρ : RO) (call : CallF) (yc : YieldF) (lim k : Nat) (x0 : AV) (H : Heap) (R : KR) : Res :=
 R [x0] H
theorem N46_1_eq (ρ call yc lim k x0 H R) :
 evL (cx ρ) call yc false 46 lim k (Code.at [1,1,1] c46) (sp 61 [(0,x0)]) H (kk none (fun s H => R (gs [2] s) H) [] R [2]) = N46_1 ρ call yc lim k x0 H R := by
 kernel_rfl
noncomputable def N46_4 (ρ : RO) (call : CallF) (yc : YieldF) (lim k : Nat) (x0 x3 : AV) (H : Heap) (kn : AV → Heap → Res) : Res :=
 purK (binA Try.prog H .add 3 x3 (.int .i64 1)) fun x15_1 =>
 kn x15_1 H
theorem N46_4_eq (ρ call yc lim k x0 x3 H kn k0 R) :
 evL (cx ρ) call yc false 46 lim k (Code.at [1,1,0,1,0,0,1,1] c46) (sp 61 [(0,x0),(3,x3)]) H (kk (some [0,3]) kn [(0,(some [0]),k0)] R [2]) = N46_4 ρ call yc lim k x0 x3 H (fun x3 H => kn (sp 61 [(0,x0),(3,x3)]) H) := by
 kernel_rfl
noncomputable def N46_5 (ρ : RO) (call : CallF) (yc : YieldF) (lim k : Nat) (x0 x3 : AV) (H : Heap) (R : KR) : Res :=
 purK (slS 1 x0 (some x3) none none) fun x56_1 =>
 effK H (builtinA (cx ρ) lim H .clear #[37] [x56_1]) fun _ H =>
 purK (slS 1 x0 none (some x3) none) fun x59_1 =>
 R [x59_1] H
theorem N46_5_eq (ρ call yc lim k x0 x3 H kn k1 k0 R) :
 evL (cx ρ) call yc false 46 lim k (Code.at [1,1,0,1,0,0,1,0,0,1,0,1,1] c46) (sp 61 [(0,x0),(3,x3)]) H (kk (some [0,3]) kn [(1,(some [0,3]),k1),(0,(some [0]),k0)] R [2]) = N46_5 ρ call yc lim k x0 x3 H R := by
 kernel_rfl
noncomputable def N46_8 (ρ : RO) (call : CallF) (yc : YieldF) (lim k : Nat) (x0 x3 x4 x5 : AV) (H : Heap) (kn : AV → AV → Heap → Res) : Res :=
 purK (binA Try.prog H .add 3 x5 (.int .i64 1)) fun x34_1 =>
 kn x3 x34_1 H
theorem N46_8_eq (ρ call yc lim k x0 x3 x4 x5 H kn k2 k1 k0 R) :
 evL (cx ρ) call yc false 46 lim k (Code.at [1,1,0,1,0,0,1,0,0,1,0,1,0,1,0,0,1,1] c46) (sp 61 [(0,x0),(3,x3),(4,x4),(5,x5)]) H (kk (some [0,3,4,5]) kn [(2,(some [0,3]),k2),(1,(some [0,3]),k1),(0,(some [0]),k0)] R [2]) = N46_8 ρ call yc lim k x0 x3 x4 x5 H (fun x3 x5 H => kn (sp 61 [(0,x0),(3,x3),(4,x4),(5,x5)]) H) := by
 kernel_rfl
noncomputable def N46_7b (ρ : RO) (call : CallF) (yc : YieldF) (lim k : Nat) (x0 x3 x4 x5 : AV) (H : Heap) (kn : AV → AV → Heap → Res) (k2 : AV → Heap → Res) : Res :=
 purK (lenS x4) fun x31_1 =>
 purK (binA Try.prog H .lss 3 x5 x31_1) fun x32_1 =>
 condK x32_1
 (
 purK (ixS 1 x4 x5) fun x37_1 =>
 purK (ld1 ρ H x37_1) fun x38_1 =>
 purK (binA Try.prog H .sub 3 x5 (.int .i64 1)) fun x41_1 =>
 purK (ixS 1 x4 x41_1) fun x42_1 =>
 purK (ld1 ρ H x42_1) fun x43_1 =>
 purK (binA Try.prog H .neq 9 x38_1 x43_1) fun x44_1 =>
 condK x44_1
 (
 purK (ixS 1 x4 x5) fun x49_1 =>
 purK (ld1 ρ H x49_1) fun x50_1 =>
 purK (ixS 1 x0 x3) fun x51_1 =>
 effK H (stA lim H 1 x51_1 x50_1) fun _ H =>
 purK (binA Try.prog H .add 3 x3 (.int .i64 1)) fun x53_1 =>
 N46_8 ρ call yc lim k x0 x53_1 x4 x5 H kn)
 (
 N46_8 ρ call yc lim k x0 x3 x4 x5 H kn))
 (
 k2 x3 H)
theorem N46_7b_x (ρ call yc lim k J x0 x3 x4 x5 H kn k2 k1 k0 R) :
 evX (cx ρ) call yc false 46 lim k J (Code.at [1,1,0,1,0,0,1,0,0,1,0,1,0,1,0,0] c46) (sp 61 [(0,x0),(3,x3),(4,x4),(5,x5)]) H (kk (some [0,3,4,5]) kn [(2,(some [0,3]),k2),(1,(some [0,3]),k1),(0,(some [0]),k0)] R [2]) =
 purK (lenS x4) fun x31_1 =>
 purK (binA Try.prog H .lss 3 x5 x31_1) fun x32_1 =>
 condK x32_1
 (
 purK (ixS 1 x4 x5) fun x37_1 =>
 purK (ld1 ρ H x37_1) fun x38_1 =>
 purK (binA Try.prog H .sub 3 x5 (.int .i64 1)) fun x41_1 =>
 purK (ixS 1 x4 x41_1) fun x42_1 =>
 purK (ld1 ρ H x42_1) fun x43_1 =>
 purK (binA Try.prog H .neq 9 x38_1 x43_1) fun x44_1 =>
 condK x44_1
 (
 purK (ixS 1 x4 x5) fun x49_1 =>
 purK (ld1 ρ H x49_1) fun x50_1 =>
 purK (ixS 1 x0 x3) fun x51_1 =>
 effK H (stA lim H 1 x51_1 x50_1) fun _ H =>
 purK (binA Try.prog H .add 3 x3 (.int .i64 1)) fun x53_1 =>
 J (Code.at [1,1,0,1,0,0,1,0,0,1,0,1,0,1,0,0,1,1] c46) (sp 61 [(0,x0),(3,x53_1),(4,x4),(5,x5)]) H (kk (some [0,3,4,5]) kn [(2,(some [0,3]),k2),(1,(some [0,3]),k1),(0,(some [0]),k0)] R [2]))
 (
 J (Code.at [1,1,0,1,0,0,1,0,0,1,0,1,0,1,0,0,1,1] c46) (sp 61 [(0,x0),(3,x3),(4,x4),(5,x5)]) H (kk (some [0,3,4,5]) kn [(2,(some [0,3]),k2),(1,(some [0,3]),k1),(0,(some [0]),k0)] R [2])))
 (
 k2 (sp 61 [(0,x0),(3,x3)]) H) := by
 kernel_rfl
theorem N46_7b_eq (ρ call yc lim k x0 x3 x4 x5 H kn k2 k1 k0 R) :
 evL (cx ρ) call yc false 46 lim k (Code.at [1,1,0,1,0,0,1,0,0,1,0,1,0,1,0,0] c46) (sp 61 [(0,x0),(3,x3),(4,x4),(5,x5)]) H (kk (some [0,3,4,5]) kn [(2,(some [0,3]),k2),(1,(some [0,3]),k1),(0,(some [0]),k0)] R [2]) = N46_7b ρ call yc lim k x0 x3 x4 x5 H (fun x3 x5 H => kn (sp 61 [(0,x0),(3,x3),(4,x4),(5,x5)]) H) (fun x3 H => k2 (sp 61 [(0,x0),(3,x3)]) H) := by
 rw [evL_X,N46_7b_x]
 simp only [← evL_X,N46_7b,N46_8_eq]
noncomputable def N46_7 (ρ : RO) (call : CallF) (yc : YieldF) (lim k : Nat) (x0 x3 x4 x5 : AV) (H : Heap) (k2 : AV → Heap → Res) : Res :=
 loopL (fun (x : AV × AV) H kn => N46_7b ρ call yc lim k x0 x.1 x4 x.2 H (fun x3 x5 H => kn (x3,x5) H) k2) k (x3,x5) H
theorem N46_7_eq (ρ call yc lim k x0 x3 x4 x5 H kn k2 k1 k0 R) :
 evL (cx ρ) call yc false 46 lim k (Code.at [1,1,0,1,0,0,1,0,0,1,0,1,0,1,0] c46) (sp 61 [(0,x0),(3,x3),(4,x4),(5,x5)]) H (kk (some [0,3]) kn [(2,(some [0,3]),k2),(1,(some [0,3]),k1),(0,(some [0]),k0)] R [2]) = N46_7 ρ call yc lim k x0 x3 x4 x5 H (fun x3 H => k2 (sp 61 [(0,x0),(3,x3)]) H) := by
 have e : Code.at [1,1,0,1,0,0,1,0,0,1,0,1,0,1,0] c46 = .loop (Code.at [1,1,0,1,0,0,1,0,0,1,0,1,0,1,0,0] c46) := by kernel_rfl
 rw [e]
 unfold N46_7
 exact loop_node [0,3,4,5] (fun x : AV × AV => (sp 61 [(0,x0),(3,(x.1)),(4,x4),(5,(x.2))])) (fun (x : AV × AV) H kn => N46_7b ρ call yc lim k x0 x.1 x4 x.2 H (fun x3 x5 H => kn (x3,x5) H) (fun x3 H => k2 (sp 61 [(0,x0),(3,x3)]) H)) (by kernel_rfl) (fun x => by kernel_rfl) (fun x H kn => N46_7b_eq ρ call yc lim k x0 (x.1) x4 (x.2) H kn k2 k1 k0 R) (x3,x5) (sp 61 [(0,x0),(3,x3),(4,x4),(5,x5)]) H (by kernel_rfl)
noncomputable def N46_6 (ρ : RO) (call : CallF) (yc : YieldF) (lim k : Nat) (x0 x3 x4 x5 : AV) (H : Heap) (kn : AV → Heap → Res) : Res :=
 N46_7 ρ call yc lim k x0 x3 x4 x5 H kn
theorem N46_6_x (ρ call yc lim k J x0 x3 x4 x5 H kn k1 k0 R) :
 evX (cx ρ) call yc false 46 lim k J (Code.at [1,1,0,1,0,0,1,0,0,1,0,1,0,1] c46) (sp 61 [(0,x0),(3,x3),(4,x4),(5,x5)]) H (kk (some [0,3]) kn [(1,(some [0,3]),k1),(0,(some [0]),k0)] R [2]) =
 J (Code.at [1,1,0,1,0,0,1,0,0,1,0,1,0,1,0] c46) (sp 61 [(0,x0),(3,x3),(4,x4),(5,x5)]) H (kk (some [0,3]) kn [(2,(some [0,3]),kn),(1,(some [0,3]),k1),(0,(some [0]),k0)] R [2]) := by
 kernel_rfl
theorem N46_6_eq (ρ call yc lim k x0 x3 x4 x5 H kn k1 k0 R) :
 evL (cx ρ) call yc false 46 lim k (Code.at [1,1,0,1,0,0,1,0,0,1,0,1,0,1] c46) (sp 61 [(0,x0),(3,x3),(4,x4),(5,x5)]) H (kk (some [0,3]) kn [(1,(some [0,3]),k1),(0,(some [0]),k0)] R [2]) = N46_6 ρ call yc lim k x0 x3 x4 x5 H (fun x3 H => kn (sp 61 [(0,x0),(3,x3)]) H) := by
 rw [evL_X,N46_6_x]
 simp only [← evL_X,N46_6,N46_7_eq]
noncomputable def N46_3b (ρ : RO) (call : CallF) (yc : YieldF) (lim k : Nat) (x0 x3 : AV) (H : Heap) (kn : AV → Heap → Res) (k0 : AV → Heap → Res) (R : KR) : Res :=
 purK (lenS x0) fun x12_1 =>
 purK (binA Try.prog H .lss 3 x3 x12_1) fun x13_1 =>
 condK x13_1
 (
 purK (ixS 1 x0 x3) fun x18_1 =>
 purK (ld1 ρ H x18_1) fun x19_1 =>
 purK (binA Try.prog H .sub 3 x3 (.int .i64 1)) fun x22_1 =>
 purK (ixS 1 x0 x22_1) fun x23_1 =>
 purK (ld1 ρ H x23_1) fun x24_1 =>
 purK (binA Try.prog H .eql 9 x19_1 x24_1) fun x25_1 =>
 condK x25_1
 (
 purK (slS 1 x0 (some x3) none none) fun x28_1 =>
 N46_6 ρ call yc lim k x0 x3 x28_1 (.int .i64 1) H (fun x3_1 H =>
 N46_5 ρ call yc lim k x0 x3_1 H R))
 (
 N46_4 ρ call yc lim k x0 x3 H kn))
 (
 k0 x0 H)
theorem N46_3b_x (ρ call yc lim k J x0 x3 H kn k0 R) :
 evX (cx ρ) call yc false 46 lim k J (Code.at [1,1,0,1,0,0] c46) (sp 61 [(0,x0),(3,x3)]) H (kk (some [0,3]) kn [(0,(some [0]),k0)] R [2]) =
 purK (lenS x0) fun x12_1 =>
 purK (binA Try.prog H .lss 3 x3 x12_1) fun x13_1 =>
 condK x13_1
 (
 purK (ixS 1 x0 x3) fun x18_1 =>
 purK (ld1 ρ H x18_1) fun x19_1 =>
 purK (binA Try.prog H .sub 3 x3 (.int .i64 1)) fun x22_1 =>
 purK (ixS 1 x0 x22_1) fun x23_1 =>
 purK (ld1 ρ H x23_1) fun x24_1 =>
 purK (binA Try.prog H .eql 9 x19_1 x24_1) fun x25_1 =>
 condK x25_1
 (
 purK (slS 1 x0 (some x3) none none) fun x28_1 =>
 J (Code.at [1,1,0,1,0,0,1,0,0,1,0,1,0,1] c46) (sp 61 [(0,x0),(3,x3),(4,x28_1),(5,(.int .i64 1))]) H (kk (some [0,3]) (fun s H => J (Code.at [1,1,0,1,0,0,1,0,0,1,0,1,1] c46) s H (kk (some [0,3]) (fun s H => J (Code.at [1,1,0,1,0,0,1,1] c46) s H (kk (some [0,3]) kn [(0,(some [0]),k0)] R [2])) [(1,(some [0,3]),(fun s H => J (Code.at [1,1,0,1,0,0,1,1] c46) s H (kk (some [0,3]) kn [(0,(some [0]),k0)] R [2]))),(0,(some [0]),k0)] R [2])) [(1,(some [0,3]),(fun s H => J (Code.at [1,1,0,1,0,0,1,1] c46) s H (kk (some [0,3]) kn [(0,(some [0]),k0)] R [2]))),(0,(some [0]),k0)] R [2]))
 (
 J (Code.at [1,1,0,1,0,0,1,1] c46) (sp 61 [(0,x0),(3,x3)]) H (kk (some [0,3]) kn [(0,(some [0]),k0)] R [2])))
 (
 k0 (sp 61 [(0,x0)]) H) := by
 kernel_rfl
theorem N46_3b_eq (ρ call yc lim k x0 x3 H kn k0 R) :
 evL (cx ρ) call yc false 46 lim k (Code.at [1,1,0,1,0,0] c46) (sp 61 [(0,x0),(3,x3)]) H (kk (some [0,3]) kn [(0,(some [0]),k0)] R [2]) = N46_3b ρ call yc lim k x0 x3 H (fun x3 H => kn (sp 61 [(0,x0),(3,x3)]) H) (fun x0 H => k0 (sp 61 [(0,x0)]) H) R := by
 rw [evL_X,N46_3b_x]
 simp only [← evL_X,N46_3b,N46_4_eq,N46_5_eq,N46_6_eq]
noncomputable def N46_3 (ρ : RO) (call : CallF) (yc : YieldF) (lim k : Nat) (x0 x3 : AV) (H : Heap) (k0 : AV → Heap → Res) (R : KR) : Res :=
 loopL (fun (x : AV) H kn => N46_3b ρ call yc lim k x0 x H (fun x3 H => kn x3 H) k0 R) k x3 H
theorem N46_3_eq (ρ call yc lim k x0 x3 H kn k0 R) :
 evL (cx ρ) call yc false 46 lim k (Code.at [1,1,0,1,0] c46) (sp 61 [(0,x0),(3,x3)]) H (kk (some [0]) kn [(0,(some [0]),k0)] R [2]) = N46_3 ρ call yc lim k x0 x3 H (fun x0 H => k0 (sp 61 [(0,x0)]) H) R := by
 have e : Code.at [1,1,0,1,0] c46 = .loop (Code.at [1,1,0,1,0,0] c46) := by kernel_rfl
 rw [e]
 unfold N46_3
 exact loop_node [0,3] (fun x : AV => (sp 61 [(0,x0),(3,(x))])) (fun (x : AV) H kn => N46_3b ρ call yc lim k x0 x H (fun x3 H => kn x3 H) (fun x0 H => k0 (sp 61 [(0,x0)]) H) R) (by kernel_rfl) (fun x => by kernel_rfl) (fun x H kn => N46_3b_eq ρ call yc lim k x0 (x) H kn k0 R) x3 (sp 61 [(0,x0),(3,x3)]) H (by kernel_rfl)
noncomputable def N46_2 (ρ : RO) (call : CallF) (yc : YieldF) (lim k : Nat) (x0 x3 : AV) (H : Heap) (kn : AV → Heap → Res) (R : KR) : Res :=
 N46_3 ρ call yc lim k x0 x3 H kn R
theorem N46_2_x (ρ call yc lim k J x0 x3 H kn R) :
 evX (cx ρ) call yc false 46 lim k J (Code.at [1,1,0,1] c46) (sp 61 [(0,x0),(3,x3)]) H (kk (some [0]) kn [] R [2]) =
 J (Code.at [1,1,0,1,0] c46) (sp 61 [(0,x0),(3,x3)]) H (kk (some [0]) kn [(0,(some [0]),kn)] R [2]) := by
 kernel_rfl
theorem N46_2_eq (ρ call yc lim k x0 x3 H kn R) :
 evL (cx ρ) call yc false 46 lim k (Code.at [1,1,0,1] c46) (sp 61 [(0,x0),(3,x3)]) H (kk (some [0]) kn [] R [2]) = N46_2 ρ call yc lim k x0 x3 H (fun x0 H => kn (sp 61 [(0,x0)]) H) R := by
 rw [evL_X,N46_2_x]
 simp only [← evL_X,N46_2,N46_3_eq]
noncomputable def L46 (ρ : RO) (call : CallF) (yc : YieldF) (lim k : Nat) (x0 : AV) (H : Heap) : Res :=
 purK (lenS x0) fun x7 =>
 purK (binA Try.prog H .lss 3 x7 (.int .i64 2)) fun x8 =>
 condK x8
 (
 retK [x0] H)
 (
 N46_2 ρ call yc lim k x0 (.int .i64 1) H (fun x0_1 H =>
 N46_1 ρ call yc lim k x0_1 H retK) retK)
theorem L46_x (ρ call yc lim k J x0 H) :
 evX (cx ρ) call yc false 46 lim k J c46 ([x0] ++ List.replicate 60 (.tup [])) H (kk none (fun s H => retK (gs [2] s) H) [] retK [2]) =
 purK (lenS x0) fun x7 =>
 purK (binA Try.prog H .lss 3 x7 (.int .i64 2)) fun x8 =>
 condK x8
 (
 retK [x0] H)
 (
 J (Code.at [1,1,0,1] c46) (sp 61 [(0,x0),(3,(.int .i64 1))]) H (kk (some [0]) (fun s H => J (Code.at [1,1,1] c46) s H (kk none (fun s H => retK (gs [2] s) H) [] retK [2])) [] retK [2])) := by
 kernel_rfl
theorem G46 (ρ call yc lim k x0 H) :
 evL (cx ρ) call yc false 46 lim k c46 ([x0] ++ List.replicate 60 (.tup [])) H (kk none (fun s H => retK (gs [2] s) H) [] retK [2]) = L46 ρ call yc lim k x0 H := by
 rw [evL_X,L46_x]
 simp only [← evL_X,L46,N46_1_eq,N46_2_eq]
theorem E46 (ρ : RO) (k lim : Nat) (x0 : AV) (H : Heap) : evCall (cx ρ) (k + 1) lim 46 [x0] H = L46 ρ (evCall (cx ρ) k) (evCY (cx ρ) k).2 lim k x0 H := by
 rw [evCall_body (cx ρ) k lim 46 _ H Try.f46 c46 [2] (by kernel_rfl) (by kernel_rfl) (by kernel_rfl) (by kernel_rfl) (by kernel_rfl)]
 exact G46 ρ (evCall (cx ρ) k) (evCY (cx ρ) k).2 lim k x0 H
-- slices.ContainsFunc[[]haycroft/api.Event,haycroft/api.Event]
noncomputable def c47 : Code := Code.of Try.prog 47
noncomputable def L47 (ρ : RO) (call : CallF) (yc : YieldF) (lim k : Nat) (x0 x1 : AV) (H : Heap) : Res :=
 resK (call lim 67 [x0,x1] H) fun x7 H =>
 purK (binA Try.prog H .geq 3 x7 (.int .i64 0)) fun x8 =>
 retK [x8] H
theorem G47 (ρ call yc lim k x0 x1 H) :
 evL (cx ρ) call yc false 47 lim k c47 ([x0,x1] ++ List.replicate 7 (.tup [])) H (kk none (fun s H => retK (gs [4] s) H) [] retK [4]) = L47 ρ call yc lim k x0 x1 H := by
 kernel_rfl
theorem E47 (ρ : RO) (k lim : Nat) (x0 x1 : AV) (H : Heap) : evCall (cx ρ) (k + 1) lim 47 [x0,x1] H = L47 ρ (evCall (cx ρ) k) (evCY (cx ρ) k).2 lim k x0 x1 H := by
 rw [evCall_body (cx ρ) k lim 47 _ H Try.f47 c47 [4] (by kernel_rfl) (by kernel_rfl) (by kernel_rfl) (by kernel_rfl) (by kernel_rfl)]
 exact G47 ρ (evCall (cx ρ) k) (evCY (cx ρ) k).2 lim k x0 x1 H
-- haycroft/history.Right$1
noncomputable def c48 : Code := Code.of Try.prog 48
noncomputable def L48 (ρ : RO) (call : CallF) (yc : YieldF) (lim k : Nat) (x0 : AV) (H : Heap) : Res :=
 effK H (boxA H 55 x0) fun x1 H =>
 purK (addA 0 x1) fun x3 =>
 purK (addA 0 x3) fun x4 =>
 purK (ld1 ρ H x4) fun x5 =>
 purK (binA Try.prog H .lss 3 x5 (.int .i64 1)) fun x6 =>
 purK (gPur (wantV x6 false) (addA 0 x1)) fun x8 =>
 purK (gPur (wantV x6 false) (addA 0 x8)) fun x9 =>
 purK (gPur (wantV x6 false) (ld1 ρ H x9)) fun x10 =>
 purK (gPur (wantV x6 false) (binA Try.prog H .gtr 3 x10 (.int .i64 4))) fun x11 =>
 purK (pickA x6 (.bool true) x11) fun x12 =>
 purK (gPur (wantV x12 false) (addA 6 x1)) fun x14 =>
 purK (gPur (wantV x12 false) (ld1 ρ H x14)) fun x15 =>
 purK (gPur (wantV x12 false) (binA Try.prog H .lss 3 x15 (.int .i64 1))) fun x16 =>
 purK (pickA x12 (.bool true) x16) fun x17 =>
 purK (gPur (wantV x17 false) (addA 7 x1)) fun x19 =>
 purK (gPur (wantV x17 false) (ld1 ρ H x19)) fun x20 =>
 purK (gPur (wantV x17 false) (binA Try.prog H .neq 3 x20 (.int .i64 0))) fun x21 =>
 purK (gPur (wantV x17 false) (some x21)) fun x22 =>
 purK (gPur (wantV x22 true) (addA 7 x1)) fun x23 =>
 purK (gPur (wantV x22 true) (ld1 ρ H x23)) fun x24 =>
 purK (gPur (wantV x22 true) (addA 6 x1)) fun x25 =>
 purK (gPur (wantV x22 true) (ld1 ρ H x25)) fun x26 =>
 purK (gPur (wantV x22 true) (binA Try.prog H .leq 3 x24 x26)) fun x27 =>
 purK (gPur (wantV x17 false) (pickA x22 x27 (.bool false))) fun x28 =>
 purK (pickA x17 (.bool true) x28) fun x29 =>
 retK [x29] H
theorem G48 (ρ call yc lim k x0 H) :
 evL (cx ρ) call yc false 48 lim k c48 ([x0] ++ List.replicate 29 (.tup [])) H (kk none (fun s H => retK (gs [2] s) H) [] retK [2]) = L48 ρ call yc lim k x0 H := by
 kernel_rfl
theorem E48 (ρ : RO) (k lim : Nat) (x0 : AV) (H : Heap) : evCall (cx ρ) (k + 1) lim 48 [x0] H = L48 ρ (evCall (cx ρ) k) (evCY (cx ρ) k).2 lim k x0 H := by
 rw [evCall_body (cx ρ) k lim 48 _ H Try.f48 c48 [2] (by kernel_rfl) (by kernel_rfl) (by kernel_rfl) (by kernel_rfl) (by kernel_rfl)]
 exact G48 ρ (evCall (cx ρ) k) (evCY (cx ρ) k).2 lim k x0 H
end Go.Proofs.Ytkmohjddojpdjaa

-- part Ht4
/- Functions, lifted. Printed by a program of this repo. -/
set_option linter.unusedVariables false
set_option linter.unusedSimpArgs false
set_option maxRecDepth 100000
set_option maxHeartbeats 4000000
namespace Go.Proofs.Ytkmohjddojpdjaa
open Go.Ev Go.RowKit
-- haycroft/history.open
noncomputable def c49 : Code := Code.of Try.prog 49
noncomputable def N49_2 (ρ : RO) (call : CallF) (yc : YieldF) (lim k : Nat) (x6 : AV) (H : Heap) (R : KR) : Res :=
 R [x6,(.int .i64 0)] H
theorem N49_2_eq (ρ call yc lim k x6 H R) :
 evL (cx ρ) call yc false 49 lim k (Code.at [1,1,1,1,1,1] c49) (sp 131 [(6,x6)]) H (kk none (fun s H => R (gs [4,5] s) H) [] R [4,5]) = N49_2 ρ call yc lim k x6 H R := by
 kernel_rfl
noncomputable def N49_5 (ρ : RO) (call : CallF) (yc : YieldF) (lim k : Nat) (x6 x63 x64 x65 : AV) (H : Heap) (kn : AV → Heap → Res) : Res :=
 purK (binA Try.prog H .add 3 x65 (.int .i64 1)) fun x129_1 =>
 kn x129_1 H
theorem N49_5_eq (ρ call yc lim k x6 x63 x64 x65 H kn k2 R) :
 evL (cx ρ) call yc false 49 lim k (Code.at [1,1,1,1,1,0,1,0,0,1,1,1] c49) (sp 131 [(6,x6),(63,x63),(64,x64),(65,x65)]) H (kk (some [6,63,64,65]) kn [(2,(some [6]),k2)] R [4,5]) = N49_5 ρ call yc lim k x6 x63 x64 x65 H (fun x65 H => kn (sp 131 [(6,x6),(63,x63),(64,x64),(65,x65)]) H) := by
 kernel_rfl
noncomputable def N49_6 (ρ : RO) (call : CallF) (yc : YieldF) (lim k : Nat) (x6 x9 x10 x11 x63 x64 x65 : AV) (H : Heap) (kn : AV → Heap → Res) : Res :=
 purK (nilChkA x6) fun x103_1 =>
 purK (addA 2 x103_1) fun x104_1 =>
 purK (ld1 ρ H x104_1) fun x105_1 =>
 effK H (bldS H 101 1 [.int .u32 0] 1 [(0,1,x11)]) fun x107_1 H =>
 effK H (apA ρ lim H 101 1 4 x105_1 x107_1) fun x108_1 H =>
 purK (nilChkA x6) fun x109_1 =>
 purK (addA 2 x109_1) fun x110_1 =>
 effK H (stA lim H 1 x110_1 x108_1) fun _ H =>
 purK (addA 7 x10) fun x111_1 =>
 purK (ld1 ρ H x111_1) fun x112_1 =>
 purK (binA Try.prog H .gtr 3 x112_1 (.int .i64 0)) fun x113_1 =>
 purK (gPur (wantV x113_1 true) (addA 4 x10)) fun x115_1 =>
 purK (gPur (wantV x113_1 true) (addA 0 x115_1)) fun x116_1 =>
 purK (gPur (wantV x113_1 true) (ld1 ρ H x116_1)) fun x117_1 =>
 purK (gPur (wantV x113_1 true) (binA Try.prog H .neq 25 x117_1 (.int .i64 9))) fun x118_1 =>
 purK (pickA x113_1 x118_1 (.bool false)) fun x119_1 =>
 condK x119_1
 (
 purK (nilChkA x6) fun x121_1 =>
 purK (addA 3 x121_1) fun x122_1 =>
 purK (ld1 ρ H x122_1) fun x123_1 =>
 purK (binA Try.prog H .shl 101 (.int .u32 1) x9) fun x125_1 =>
 purK (binA Try.prog H .or 101 x123_1 x125_1) fun x126_1 =>
 purK (nilChkA x6) fun x127_1 =>
 purK (addA 3 x127_1) fun x128_1 =>
 effK H (stA lim H 1 x128_1 x126_1) fun _ H =>
 kn x65 H)
 (
 kn x65 H)
theorem N49_6_eq (ρ call yc lim k x6 x9 x10 x11 x63 x64 x65 H kn k3 k2 R) :
 evL (cx ρ) call yc false 49 lim k (Code.at [1,1,1,1,1,0,1,0,0,1,1,0,0,1,1,1] c49) (sp 131 [(6,x6),(9,x9),(10,x10),(11,x11),(63,x63),(64,x64),(65,x65)]) H (kk (some [6,63,64,65]) kn [(3,(some [6,63,64,65]),k3),(2,(some [6]),k2)] R [4,5]) = N49_6 ρ call yc lim k x6 x9 x10 x11 x63 x64 x65 H (fun x65 H => kn (sp 131 [(6,x6),(63,x63),(64,x64),(65,x65)]) H) := by
 kernel_rfl
noncomputable def N49_9 (ρ : RO) (call : CallF) (yc : YieldF) (lim k : Nat) (x6 x9 x10 x11 x63 x64 x65 x73 x74 x75 : AV) (H : Heap) (kn : AV → AV → Heap → Res) : Res :=
 purK (binA Try.prog H .add 3 x75 (.int .i64 1)) fun x100_1 =>
 kn x11 x100_1 H
theorem N49_9_eq (ρ call yc lim k x6 x9 x10 x11 x63 x64 x65 x73 x74 x75 H kn k4 k3 k2 R) :
 evL (cx ρ) call yc false 49 lim k (Code.at [1,1,1,1,1,0,1,0,0,1,1,0,0,1,1,0,1,0,0,1,1,1] c49) (sp 131 [(6,x6),(9,x9),(10,x10),(11,x11),(63,x63),(64,x64),(65,x65),(73,x73),(74,x74),(75,x75)]) H (kk (some [6,9,10,11,63,64,65,73,74,75]) kn [(4,(some [6,9,10,11,63,64,65]),k4),(3,(some [6,63,64,65]),k3),(2,(some [6]),k2)] R [4,5]) = N49_9 ρ call yc lim k x6 x9 x10 x11 x63 x64 x65 x73 x74 x75 H (fun x11 x75 H => kn (sp 131 [(6,x6),(9,x9),(10,x10),(11,x11),(63,x63),(64,x64),(65,x65),(73,x73),(74,x74),(75,x75)]) H) := by
 kernel_rfl
noncomputable def N49_8b (ρ : RO) (call : CallF) (yc : YieldF) (lim k : Nat) (x6 x9 x10 x11 x63 x64 x65 x73 x74 x75 : AV) (H : Heap) (kn : AV → AV → Heap → Res) (k4 : AV → AV → AV → AV → Heap → Res) : Res :=
 purK (binA Try.prog H .lss 3 x75 x74) fun x76_1 =>
 condK x76_1
 (
 purK (ixS 8 x73 x75) fun x78_1 =>
 purK (ldN ρ H 8 x78_1) fun x79_1 =>
 effK H (some (.ptr H.sz 0 0,.new (newCells 55 false [.int .i64 0,.str ByteArray.empty,.str ByteArray.empty,.int .u64 0,.int .i64 0,.str ByteArray.empty,.int .i64 0,.int .i64 0]))) fun x13_1 H =>
 effK H (stA lim H 8 x13_1 x79_1) fun _ H =>
 purK (addA 7 x13_1) fun x80_1 =>
 purK (ld1 ρ H x80_1) fun x81_1 =>
 purK (binA Try.prog H .gtr 3 x81_1 (.int .i64 0)) fun x82_1 =>
 purK (gPur (wantV x82_1 true) (addA 7 x13_1)) fun x84_1 =>
 purK (gPur (wantV x82_1 true) (ld1 ρ H x84_1)) fun x85_1 =>
 purK (gPur (wantV x82_1 true) (addA 6 x10)) fun x86_1 =>
 purK (gPur (wantV x82_1 true) (ld1 ρ H x86_1)) fun x87_1 =>
 purK (gPur (wantV x82_1 true) (binA Try.prog H .lss 3 x85_1 x87_1)) fun x88_1 =>
 purK (pickA x82_1 x88_1 (.bool false)) fun x89_1 =>
 purK (gPur (wantV x89_1 true) (addA 4 x13_1)) fun x91_1 =>
 purK (gPur (wantV x89_1 true) (addA 0 x91_1)) fun x92_1 =>
 purK (gPur (wantV x89_1 true) (ld1 ρ H x92_1)) fun x93_1 =>
 purK (gPur (wantV x89_1 true) (binA Try.prog H .neq 25 x93_1 (.int .i64 9))) fun x94_1 =>
 purK (pickA x89_1 x94_1 (.bool false)) fun x95_1 =>
 condK x95_1
 (
 purK (binA Try.prog H .shl 101 (.int .u32 1) x75) fun x98_1 =>
 purK (binA Try.prog H .or 101 x11 x98_1) fun x99_1 =>
 N49_9 ρ call yc lim k x6 x9 x10 x99_1 x63 x64 x65 x73 x74 x75 H kn)
 (
 N49_9 ρ call yc lim k x6 x9 x10 x11 x63 x64 x65 x73 x74 x75 H kn))
 (
 k4 x9 x10 x11 x65 H)
theorem N49_8b_x (ρ call yc lim k J x6 x9 x10 x11 x63 x64 x65 x73 x74 x75 H kn k4 k3 k2 R) :
 evX (cx ρ) call yc false 49 lim k J (Code.at [1,1,1,1,1,0,1,0,0,1,1,0,0,1,1,0,1,0,0] c49) (sp 131 [(6,x6),(9,x9),(10,x10),(11,x11),(63,x63),(64,x64),(65,x65),(73,x73),(74,x74),(75,x75)]) H (kk (some [6,9,10,11,63,64,65,73,74,75]) kn [(4,(some [6,9,10,11,63,64,65]),k4),(3,(some [6,63,64,65]),k3),(2,(some [6]),k2)] R [4,5]) =
 purK (binA Try.prog H .lss 3 x75 x74) fun x76_1 =>
 condK x76_1
 (
 purK (ixS 8 x73 x75) fun x78_1 =>
 purK (ldN ρ H 8 x78_1) fun x79_1 =>
 effK H (some (.ptr H.sz 0 0,.new (newCells 55 false [.int .i64 0,.str ByteArray.empty,.str ByteArray.empty,.int .u64 0,.int .i64 0,.str ByteArray.empty,.int .i64 0,.int .i64 0]))) fun x13_1 H =>
 effK H (stA lim H 8 x13_1 x79_1) fun _ H =>
 purK (addA 7 x13_1) fun x80_1 =>
 purK (ld1 ρ H x80_1) fun x81_1 =>
 purK (binA Try.prog H .gtr 3 x81_1 (.int .i64 0)) fun x82_1 =>
 purK (gPur (wantV x82_1 true) (addA 7 x13_1)) fun x84_1 =>
 purK (gPur (wantV x82_1 true) (ld1 ρ H x84_1)) fun x85_1 =>
 purK (gPur (wantV x82_1 true) (addA 6 x10)) fun x86_1 =>
 purK (gPur (wantV x82_1 true) (ld1 ρ H x86_1)) fun x87_1 =>
 purK (gPur (wantV x82_1 true) (binA Try.prog H .lss 3 x85_1 x87_1)) fun x88_1 =>
 purK (pickA x82_1 x88_1 (.bool false)) fun x89_1 =>
 purK (gPur (wantV x89_1 true) (addA 4 x13_1)) fun x91_1 =>
 purK (gPur (wantV x89_1 true) (addA 0 x91_1)) fun x92_1 =>
 purK (gPur (wantV x89_1 true) (ld1 ρ H x92_1)) fun x93_1 =>
 purK (gPur (wantV x89_1 true) (binA Try.prog H .neq 25 x93_1 (.int .i64 9))) fun x94_1 =>
 purK (pickA x89_1 x94_1 (.bool false)) fun x95_1 =>
 condK x95_1
 (
 purK (binA Try.prog H .shl 101 (.int .u32 1) x75) fun x98_1 =>
 purK (binA Try.prog H .or 101 x11 x98_1) fun x99_1 =>
 J (Code.at [1,1,1,1,1,0,1,0,0,1,1,0,0,1,1,0,1,0,0,1,1,1] c49) (sp 131 [(6,x6),(9,x9),(10,x10),(11,x99_1),(63,x63),(64,x64),(65,x65),(73,x73),(74,x74),(75,x75)]) H (kk (some [6,9,10,11,63,64,65,73,74,75]) kn [(4,(some [6,9,10,11,63,64,65]),k4),(3,(some [6,63,64,65]),k3),(2,(some [6]),k2)] R [4,5]))
 (
 J (Code.at [1,1,1,1,1,0,1,0,0,1,1,0,0,1,1,0,1,0,0,1,1,1] c49) (sp 131 [(6,x6),(9,x9),(10,x10),(11,x11),(63,x63),(64,x64),(65,x65),(73,x73),(74,x74),(75,x75)]) H (kk (some [6,9,10,11,63,64,65,73,74,75]) kn [(4,(some [6,9,10,11,63,64,65]),k4),(3,(some [6,63,64,65]),k3),(2,(some [6]),k2)] R [4,5])))
 (
 k4 (sp 131 [(6,x6),(9,x9),(10,x10),(11,x11),(63,x63),(64,x64),(65,x65)]) H) := by
 kernel_rfl
theorem N49_8b_eq (ρ call yc lim k x6 x9 x10 x11 x63 x64 x65 x73 x74 x75 H kn k4 k3 k2 R) :
 evL (cx ρ) call yc false 49 lim k (Code.at [1,1,1,1,1,0,1,0,0,1,1,0,0,1,1,0,1,0,0] c49) (sp 131 [(6,x6),(9,x9),(10,x10),(11,x11),(63,x63),(64,x64),(65,x65),(73,x73),(74,x74),(75,x75)]) H (kk (some [6,9,10,11,63,64,65,73,74,75]) kn [(4,(some [6,9,10,11,63,64,65]),k4),(3,(some [6,63,64,65]),k3),(2,(some [6]),k2)] R [4,5]) = N49_8b ρ call yc lim k x6 x9 x10 x11 x63 x64 x65 x73 x74 x75 H (fun x11 x75 H => kn (sp 131 [(6,x6),(9,x9),(10,x10),(11,x11),(63,x63),(64,x64),(65,x65),(73,x73),(74,x74),(75,x75)]) H) (fun x9 x10 x11 x65 H => k4 (sp 131 [(6,x6),(9,x9),(10,x10),(11,x11),(63,x63),(64,x64),(65,x65)]) H) := by
 rw [evL_X,N49_8b_x]
 simp only [← evL_X,N49_8b,N49_9_eq]
noncomputable def N49_8 (ρ : RO) (call : CallF) (yc : YieldF) (lim k : Nat) (x6 x9 x10 x11 x63 x64 x65 x73 x74 x75 : AV) (H : Heap) (k4 : AV → AV → AV → AV → Heap → Res) : Res :=
 loopL (fun (x : AV × AV) H kn => N49_8b ρ call yc lim k x6 x9 x10 x.1 x63 x64 x65 x73 x74 x.2 H (fun x11 x75 H => kn (x11,x75) H) k4) k (x11,x75) H
theorem N49_8_eq (ρ call yc lim k x6 x9 x10 x11 x63 x64 x65 x73 x74 x75 H kn k4 k3 k2 R) :
 evL (cx ρ) call yc false 49 lim k (Code.at [1,1,1,1,1,0,1,0,0,1,1,0,0,1,1,0,1,0] c49) (sp 131 [(6,x6),(9,x9),(10,x10),(11,x11),(63,x63),(64,x64),(65,x65),(73,x73),(74,x74),(75,x75)]) H (kk (some [6,9,10,11,63,64,65]) kn [(4,(some [6,9,10,11,63,64,65]),k4),(3,(some [6,63,64,65]),k3),(2,(some [6]),k2)] R [4,5]) = N49_8 ρ call yc lim k x6 x9 x10 x11 x63 x64 x65 x73 x74 x75 H (fun x9 x10 x11 x65 H => k4 (sp 131 [(6,x6),(9,x9),(10,x10),(11,x11),(63,x63),(64,x64),(65,x65)]) H) := by
 have e : Code.at [1,1,1,1,1,0,1,0,0,1,1,0,0,1,1,0,1,0] c49 = .loop (Code.at [1,1,1,1,1,0,1,0,0,1,1,0,0,1,1,0,1,0,0] c49) := by kernel_rfl
 rw [e]
 unfold N49_8
 exact loop_node [6,9,10,11,63,64,65,73,74,75] (fun x : AV × AV => (sp 131 [(6,x6),(9,x9),(10,x10),(11,(x.1)),(63,x63),(64,x64),(65,x65),(73,x73),(74,x74),(75,(x.2))])) (fun (x : AV × AV) H kn => N49_8b ρ call yc lim k x6 x9 x10 x.1 x63 x64 x65 x73 x74 x.2 H (fun x11 x75 H => kn (x11,x75) H) (fun x9 x10 x11 x65 H => k4 (sp 131 [(6,x6),(9,x9),(10,x10),(11,x11),(63,x63),(64,x64),(65,x65)]) H)) (by kernel_rfl) (fun x => by kernel_rfl) (fun x H kn => N49_8b_eq ρ call yc lim k x6 x9 x10 (x.1) x63 x64 x65 x73 x74 (x.2) H kn k4 k3 k2 R) (x11,x75) (sp 131 [(6,x6),(9,x9),(10,x10),(11,x11),(63,x63),(64,x64),(65,x65),(73,x73),(74,x74),(75,x75)]) H (by kernel_rfl)
noncomputable def N49_7 (ρ : RO) (call : CallF) (yc : YieldF) (lim k : Nat) (x6 x9 x10 x11 x63 x64 x65 x73 x74 x75 : AV) (H : Heap) (kn : AV → AV → AV → AV → Heap → Res) : Res :=
 N49_8 ρ call yc lim k x6 x9 x10 x11 x63 x64 x65 x73 x74 x75 H kn
theorem N49_7_x (ρ call yc lim k J x6 x9 x10 x11 x63 x64 x65 x73 x74 x75 H kn k3 k2 R) :
 evX (cx ρ) call yc false 49 lim k J (Code.at [1,1,1,1,1,0,1,0,0,1,1,0,0,1,1,0,1] c49) (sp 131 [(6,x6),(9,x9),(10,x10),(11,x11),(63,x63),(64,x64),(65,x65),(73,x73),(74,x74),(75,x75)]) H (kk (some [6,9,10,11,63,64,65]) kn [(3,(some [6,63,64,65]),k3),(2,(some [6]),k2)] R [4,5]) =
 J (Code.at [1,1,1,1,1,0,1,0,0,1,1,0,0,1,1,0,1,0] c49) (sp 131 [(6,x6),(9,x9),(10,x10),(11,x11),(63,x63),(64,x64),(65,x65),(73,x73),(74,x74),(75,x75)]) H (kk (some [6,9,10,11,63,64,65]) kn [(4,(some [6,9,10,11,63,64,65]),kn),(3,(some [6,63,64,65]),k3),(2,(some [6]),k2)] R [4,5]) := by
 kernel_rfl
theorem N49_7_eq (ρ call yc lim k x6 x9 x10 x11 x63 x64 x65 x73 x74 x75 H kn k3 k2 R) :
 evL (cx ρ) call yc false 49 lim k (Code.at [1,1,1,1,1,0,1,0,0,1,1,0,0,1,1,0,1] c49) (sp 131 [(6,x6),(9,x9),(10,x10),(11,x11),(63,x63),(64,x64),(65,x65),(73,x73),(74,x74),(75,x75)]) H (kk (some [6,9,10,11,63,64,65]) kn [(3,(some [6,63,64,65]),k3),(2,(some [6]),k2)] R [4,5]) = N49_7 ρ call yc lim k x6 x9 x10 x11 x63 x64 x65 x73 x74 x75 H (fun x9 x10 x11 x65 H => kn (sp 131 [(6,x6),(9,x9),(10,x10),(11,x11),(63,x63),(64,x64),(65,x65)]) H) := by
 rw [evL_X,N49_7_x]
 simp only [← evL_X,N49_7,N49_8_eq]
noncomputable def N49_4b (ρ : RO) (call : CallF) (yc : YieldF) (lim k : Nat) (x6 x63 x64 x65 : AV) (H : Heap) (kn : AV → Heap → Res) (k2 : AV → Heap → Res) : Res :=
 purK (binA Try.prog H .lss 3 x65 x64) fun x66_1 =>
 condK x66_1
 (
 purK (ixS 8 x63 x65) fun x68_1 =>
 purK (ldN ρ H 8 x68_1) fun x69_1 =>
 effK H (some (.ptr H.sz 0 0,.new (newCells 55 false [.int .i64 0,.str ByteArray.empty,.str ByteArray.empty,.int .u64 0,.int .i64 0,.str ByteArray.empty,.int .i64 0,.int .i64 0]))) fun x10_1 H =>
 effK H (stA lim H 8 x10_1 x69_1) fun _ H =>
 purK (nilChkA x6) fun x71_1 =>
 purK (addA 0 x71_1) fun x72_1 =>
 purK (ld1 ρ H x72_1) fun x73_1 =>
 purK (lenS x73_1) fun x74_1 =>
 N49_7 ρ call yc lim k x6 x65 x10_1 (.int .u32 0) x63 x64 x65 x73_1 x74_1 (.int .i64 0) H (fun x9_1 x10_2 x11_1 x65_1 H =>
 N49_6 ρ call yc lim k x6 x9_1 x10_2 x11_1 x63 x64 x65_1 H (fun x65_2 H =>
 N49_5 ρ call yc lim k x6 x63 x64 x65_2 H kn)))
 (
 k2 x6 H)
theorem N49_4b_x (ρ call yc lim k J x6 x63 x64 x65 H kn k2 R) :
 evX (cx ρ) call yc false 49 lim k J (Code.at [1,1,1,1,1,0,1,0,0] c49) (sp 131 [(6,x6),(63,x63),(64,x64),(65,x65)]) H (kk (some [6,63,64,65]) kn [(2,(some [6]),k2)] R [4,5]) =
 purK (binA Try.prog H .lss 3 x65 x64) fun x66_1 =>
 condK x66_1
 (
 purK (ixS 8 x63 x65) fun x68_1 =>
 purK (ldN ρ H 8 x68_1) fun x69_1 =>
 effK H (some (.ptr H.sz 0 0,.new (newCells 55 false [.int .i64 0,.str ByteArray.empty,.str ByteArray.empty,.int .u64 0,.int .i64 0,.str ByteArray.empty,.int .i64 0,.int .i64 0]))) fun x10_1 H =>
 effK H (stA lim H 8 x10_1 x69_1) fun _ H =>
 purK (nilChkA x6) fun x71_1 =>
 purK (addA 0 x71_1) fun x72_1 =>
 purK (ld1 ρ H x72_1) fun x73_1 =>
 purK (lenS x73_1) fun x74_1 =>
 J (Code.at [1,1,1,1,1,0,1,0,0,1,1,0,0,1,1,0,1] c49) (sp 131 [(6,x6),(9,x65),(10,x10_1),(11,(.int .u32 0)),(63,x63),(64,x64),(65,x65),(73,x73_1),(74,x74_1),(75,(.int .i64 0))]) H (kk (some [6,9,10,11,63,64,65]) (fun s H => J (Code.at [1,1,1,1,1,0,1,0,0,1,1,0,0,1,1,1] c49) s H (kk (some [6,63,64,65]) (fun s H => J (Code.at [1,1,1,1,1,0,1,0,0,1,1,1] c49) s H (kk (some [6,63,64,65]) kn [(2,(some [6]),k2)] R [4,5])) [(3,(some [6,63,64,65]),(fun s H => J (Code.at [1,1,1,1,1,0,1,0,0,1,1,1] c49) s H (kk (some [6,63,64,65]) kn [(2,(some [6]),k2)] R [4,5]))),(2,(some [6]),k2)] R [4,5])) [(3,(some [6,63,64,65]),(fun s H => J (Code.at [1,1,1,1,1,0,1,0,0,1,1,1] c49) s H (kk (some [6,63,64,65]) kn [(2,(some [6]),k2)] R [4,5]))),(2,(some [6]),k2)] R [4,5]))
 (
 k2 (sp 131 [(6,x6)]) H) := by
 kernel_rfl
theorem N49_4b_eq (ρ call yc lim k x6 x63 x64 x65 H kn k2 R) :
 evL (cx ρ) call yc false 49 lim k (Code.at [1,1,1,1,1,0,1,0,0] c49) (sp 131 [(6,x6),(63,x63),(64,x64),(65,x65)]) H (kk (some [6,63,64,65]) kn [(2,(some [6]),k2)] R [4,5]) = N49_4b ρ call yc lim k x6 x63 x64 x65 H (fun x65 H => kn (sp 131 [(6,x6),(63,x63),(64,x64),(65,x65)]) H) (fun x6 H => k2 (sp 131 [(6,x6)]) H) := by
 rw [evL_X,N49_4b_x]
 simp only [← evL_X,N49_4b,N49_5_eq,N49_6_eq,N49_7_eq]
noncomputable def N49_4 (ρ : RO) (call : CallF) (yc : YieldF) (lim k : Nat) (x6 x63 x64 x65 : AV) (H : Heap) (k2 : AV → Heap → Res) : Res :=
 loopL (fun (x : AV) H kn => N49_4b ρ call yc lim k x6 x63 x64 x H (fun x65 H => kn x65 H) k2) k x65 H
theorem N49_4_eq (ρ call yc lim k x6 x63 x64 x65 H kn k2 R) :
 evL (cx ρ) call yc false 49 lim k (Code.at [1,1,1,1,1,0,1,0] c49) (sp 131 [(6,x6),(63,x63),(64,x64),(65,x65)]) H (kk (some [6]) kn [(2,(some [6]),k2)] R [4,5]) = N49_4 ρ call yc lim k x6 x63 x64 x65 H (fun x6 H => k2 (sp 131 [(6,x6)]) H) := by
 have e : Code.at [1,1,1,1,1,0,1,0] c49 = .loop (Code.at [1,1,1,1,1,0,1,0,0] c49) := by kernel_rfl
 rw [e]
 unfold N49_4
 exact loop_node [6,63,64,65] (fun x : AV => (sp 131 [(6,x6),(63,x63),(64,x64),(65,(x))])) (fun (x : AV) H kn => N49_4b ρ call yc lim k x6 x63 x64 x H (fun x65 H => kn x65 H) (fun x6 H => k2 (sp 131 [(6,x6)]) H)) (by kernel_rfl) (fun x => by kernel_rfl) (fun x H kn => N49_4b_eq ρ call yc lim k x6 x63 x64 (x) H kn k2 R) x65 (sp 131 [(6,x6),(63,x63),(64,x64),(65,x65)]) H (by kernel_rfl)
noncomputable def N49_3 (ρ : RO) (call : CallF) (yc : YieldF) (lim k : Nat) (x6 x63 x64 x65 : AV) (H : Heap) (kn : AV → Heap → Res) : Res :=
 N49_4 ρ call yc lim k x6 x63 x64 x65 H kn
theorem N49_3_x (ρ call yc lim k J x6 x63 x64 x65 H kn R) :
 evX (cx ρ) call yc false 49 lim k J (Code.at [1,1,1,1,1,0,1] c49) (sp 131 [(6,x6),(63,x63),(64,x64),(65,x65)]) H (kk (some [6]) kn [] R [4,5]) =
 J (Code.at [1,1,1,1,1,0,1,0] c49) (sp 131 [(6,x6),(63,x63),(64,x64),(65,x65)]) H (kk (some [6]) kn [(2,(some [6]),kn)] R [4,5]) := by
 kernel_rfl
theorem N49_3_eq (ρ call yc lim k x6 x63 x64 x65 H kn R) :
 evL (cx ρ) call yc false 49 lim k (Code.at [1,1,1,1,1,0,1] c49) (sp 131 [(6,x6),(63,x63),(64,x64),(65,x65)]) H (kk (some [6]) kn [] R [4,5]) = N49_3 ρ call yc lim k x6 x63 x64 x65 H (fun x6 H => kn (sp 131 [(6,x6)]) H) := by
 rw [evL_X,N49_3_x]
 simp only [← evL_X,N49_3,N49_4_eq]
noncomputable def N49_1 (ρ : RO) (call : CallF) (yc : YieldF) (lim k : Nat) (x6 : AV) (H : Heap) (R : KR) : Res :=
 purK (nilChkA x6) fun x55_1 =>
 purK (addA 0 x55_1) fun x56_1 =>
 purK (ld1 ρ H x56_1) fun x57_1 =>
 purK (lenS x57_1) fun x58_1 =>
 purK (binA Try.prog H .gtr 3 x58_1 (.int .i64 16)) fun x59_1 =>
 condK x59_1
 (
 R [.nilp,(.int .i64 5)] H)
 (
 purK (nilChkA x6) fun x61_1 =>
 purK (addA 0 x61_1) fun x62_1 =>
 purK (ld1 ρ H x62_1) fun x63_1 =>
 purK (lenS x63_1) fun x64_1 =>
 N49_3 ρ call yc lim k x6 x63_1 x64_1 (.int .i64 0) H (fun x6_1 H =>
 N49_2 ρ call yc lim k x6_1 H R))
theorem N49_1_x (ρ call yc lim k J x6 H R) :
 evX (cx ρ) call yc false 49 lim k J (Code.at [1,1,1,1] c49) (sp 131 [(6,x6)]) H (kk none (fun s H => R (gs [4,5] s) H) [] R [4,5]) =
 purK (nilChkA x6) fun x55_1 =>
 purK (addA 0 x55_1) fun x56_1 =>
 purK (ld1 ρ H x56_1) fun x57_1 =>
 purK (lenS x57_1) fun x58_1 =>
 purK (binA Try.prog H .gtr 3 x58_1 (.int .i64 16)) fun x59_1 =>
 condK x59_1
 (
 R [.nilp,(.int .i64 5)] H)
 (
 purK (nilChkA x6) fun x61_1 =>
 purK (addA 0 x61_1) fun x62_1 =>
 purK (ld1 ρ H x62_1) fun x63_1 =>
 purK (lenS x63_1) fun x64_1 =>
 J (Code.at [1,1,1,1,1,0,1] c49) (sp 131 [(6,x6),(63,x63_1),(64,x64_1),(65,(.int .i64 0))]) H (kk (some [6]) (fun s H => J (Code.at [1,1,1,1,1,1] c49) s H (kk none (fun s H => R (gs [4,5] s) H) [] R [4,5])) [] R [4,5])) := by
 kernel_rfl
theorem N49_1_eq (ρ call yc lim k x6 H R) :
 evL (cx ρ) call yc false 49 lim k (Code.at [1,1,1,1] c49) (sp 131 [(6,x6)]) H (kk none (fun s H => R (gs [4,5] s) H) [] R [4,5]) = N49_1 ρ call yc lim k x6 H R := by
 rw [evL_X,N49_1_x]
 simp only [← evL_X,N49_1,N49_2_eq,N49_3_eq]
noncomputable def N49_12 (ρ : RO) (call : CallF) (yc : YieldF) (lim k : Nat) (x1 x6 x21 x22 x23 : AV) (H : Heap) (kn : AV → Heap → Res) : Res :=
 purK (binA Try.prog H .add 3 x23 (.int .i64 1)) fun x53_1 =>
 kn x53_1 H
theorem N49_12_eq (ρ call yc lim k x1 x6 x21 x22 x23 H kn k0 R) :
 evL (cx ρ) call yc false 49 lim k (Code.at [1,1,1,0,1,0,0,1,1,1] c49) (sp 131 [(1,x1),(6,x6),(21,x21),(22,x22),(23,x23)]) H (kk (some [1,6,21,22,23]) kn [(0,(some [6]),k0)] R [4,5]) = N49_12 ρ call yc lim k x1 x6 x21 x22 x23 H (fun x23 H => kn (sp 131 [(1,x1),(6,x6),(21,x21),(22,x22),(23,x23)]) H) := by
 kernel_rfl
noncomputable def N49_11b (ρ : RO) (call : CallF) (yc : YieldF) (lim k : Nat) (x1 x6 x21 x22 x23 : AV) (H : Heap) (kn : AV → Heap → Res) (k0 : AV → Heap → Res) : Res :=
 purK (binA Try.prog H .lss 3 x23 x22) fun x24_1 =>
 condK x24_1
 (
 purK (ixS 8 x21 x23) fun x26_1 =>
 purK (ldN ρ H 8 x26_1) fun x27_1 =>
 effK H (some (.ptr H.sz 0 0,.new (newCells 55 false [.int .i64 0,.str ByteArray.empty,.str ByteArray.empty,.int .u64 0,.int .i64 0,.str ByteArray.empty,.int .i64 0,.int .i64 0]))) fun x8_1 H =>
 effK H (stA lim H 8 x8_1 x27_1) fun _ H =>
 purK (addA 0 x8_1) fun x28_1 =>
 purK (addA 1 x28_1) fun x29_1 =>
 purK (ld1 ρ H x29_1) fun x30_1 =>
 purK (binA Try.prog H .eql 9 x30_1 x1) fun x32_1 =>
 condK x32_1
 (
 purK (nilChkA x6) fun x36_1 =>
 purK (addA 0 x36_1) fun x37_1 =>
 purK (ld1 ρ H x37_1) fun x38_1 =>
 purK (ldN ρ H 8 x8_1) fun x39_1 =>
 mkK H (bldS H 55 8 [.int .i64 0,.str ByteArray.empty,.str ByteArray.empty,.int .u64 0,.int .i64 0,.str ByteArray.empty,.int .i64 0,.int .i64 0] 1 [(0,8,x39_1)]) true fun x40_1 H => bif (agn (ldN ρ H 8 x8_1) x39_1 && (agn (ld1 ρ H x37_1) x38_1 && true)) then
 purK (nilChkA x6) fun x43_1 =>
 purK (addA 1 x43_1) fun x44_1 =>
 purK (ld1 ρ H x44_1) fun x45_1 =>
 mkK H (bldS H 3 1 [.int .i64 0] 1 [(0,1,x23)]) true fun x47_1 H => bif (agn (ld1 ρ H x44_1) x45_1 && (agn (ldN ρ H 8 x8_1) x39_1 && (agn (ld1 ρ H x37_1) x38_1 && true))) then
 effK H (apA ρ lim H 55 8 88 x38_1 x40_1) fun x41_1 H => bif (agn (ld1 ρ H x44_1) x45_1 && true) then
 effK H (apA ρ lim H 3 1 8 x45_1 x47_1) fun x48_1 H =>
 purK (nilChkA x6) fun x49_1 =>
 purK (addA 0 x49_1) fun x50_1 =>
 effK H (stA lim H 1 x50_1 x41_1) fun _ H =>
 purK (nilChkA x6) fun x51_1 =>
 purK (addA 1 x51_1) fun x52_1 =>
 effK H (stA lim H 1 x52_1 x48_1) fun _ H =>
 N49_12 ρ call yc lim k x1 x6 x21 x22 x23 H kn
 else .stop
 else .stop
 else .stop)
 (
 N49_12 ρ call yc lim k x1 x6 x21 x22 x23 H kn))
 (
 k0 x6 H)
theorem N49_11b_x (ρ call yc lim k J x1 x6 x21 x22 x23 H kn k0 R) :
 evX (cx ρ) call yc false 49 lim k J (Code.at [1,1,1,0,1,0,0] c49) (sp 131 [(1,x1),(6,x6),(21,x21),(22,x22),(23,x23)]) H (kk (some [1,6,21,22,23]) kn [(0,(some [6]),k0)] R [4,5]) =
 purK (binA Try.prog H .lss 3 x23 x22) fun x24_1 =>
 condK x24_1
 (
 purK (ixS 8 x21 x23) fun x26_1 =>
 purK (ldN ρ H 8 x26_1) fun x27_1 =>
 effK H (some (.ptr H.sz 0 0,.new (newCells 55 false [.int .i64 0,.str ByteArray.empty,.str ByteArray.empty,.int .u64 0,.int .i64 0,.str ByteArray.empty,.int .i64 0,.int .i64 0]))) fun x8_1 H =>
 effK H (stA lim H 8 x8_1 x27_1) fun _ H =>
 purK (addA 0 x8_1) fun x28_1 =>
 purK (addA 1 x28_1) fun x29_1 =>
 purK (ld1 ρ H x29_1) fun x30_1 =>
 purK (binA Try.prog H .eql 9 x30_1 x1) fun x32_1 =>
 condK x32_1
 (
 purK (nilChkA x6) fun x36_1 =>
 purK (addA 0 x36_1) fun x37_1 =>
 purK (ld1 ρ H x37_1) fun x38_1 =>
 purK (ldN ρ H 8 x8_1) fun x39_1 =>
 mkK H (bldS H 55 8 [.int .i64 0,.str ByteArray.empty,.str ByteArray.empty,.int .u64 0,.int .i64 0,.str ByteArray.empty,.int .i64 0,.int .i64 0] 1 [(0,8,x39_1)]) true fun x40_1 H => bif (agn (ldN ρ H 8 x8_1) x39_1 && (agn (ld1 ρ H x37_1) x38_1 && true)) then
 purK (nilChkA x6) fun x43_1 =>
 purK (addA 1 x43_1) fun x44_1 =>
 purK (ld1 ρ H x44_1) fun x45_1 =>
 mkK H (bldS H 3 1 [.int .i64 0] 1 [(0,1,x23)]) true fun x47_1 H => bif (agn (ld1 ρ H x44_1) x45_1 && (agn (ldN ρ H 8 x8_1) x39_1 && (agn (ld1 ρ H x37_1) x38_1 && true))) then
 effK H (apA ρ lim H 55 8 88 x38_1 x40_1) fun x41_1 H => bif (agn (ld1 ρ H x44_1) x45_1 && true) then
 effK H (apA ρ lim H 3 1 8 x45_1 x47_1) fun x48_1 H =>
 purK (nilChkA x6) fun x49_1 =>
 purK (addA 0 x49_1) fun x50_1 =>
 effK H (stA lim H 1 x50_1 x41_1) fun _ H =>
 purK (nilChkA x6) fun x51_1 =>
 purK (addA 1 x51_1) fun x52_1 =>
 effK H (stA lim H 1 x52_1 x48_1) fun _ H =>
 J (Code.at [1,1,1,0,1,0,0,1,1,1] c49) (sp 131 [(1,x1),(6,x6),(21,x21),(22,x22),(23,x23)]) H (kk (some [1,6,21,22,23]) kn [(0,(some [6]),k0)] R [4,5])
 else .stop
 else .stop
 else .stop)
 (
 J (Code.at [1,1,1,0,1,0,0,1,1,1] c49) (sp 131 [(1,x1),(6,x6),(21,x21),(22,x22),(23,x23)]) H (kk (some [1,6,21,22,23]) kn [(0,(some [6]),k0)] R [4,5])))
 (
 k0 (sp 131 [(6,x6)]) H) := by
 kernel_rfl
theorem N49_11b_eq (ρ call yc lim k x1 x6 x21 x22 x23 H kn k0 R) :
 evL (cx ρ) call yc false 49 lim k (Code.at [1,1,1,0,1,0,0] c49) (sp 131 [(1,x1),(6,x6),(21,x21),(22,x22),(23,x23)]) H (kk (some [1,6,21,22,23]) kn [(0,(some [6]),k0)] R [4,5]) = N49_11b ρ call yc lim k x1 x6 x21 x22 x23 H (fun x23 H => kn (sp 131 [(1,x1),(6,x6),(21,x21),(22,x22),(23,x23)]) H) (fun x6 H => k0 (sp 131 [(6,x6)]) H) := by
 rw [evL_X,N49_11b_x]
 simp only [← evL_X,N49_11b,N49_12_eq]
noncomputable def N49_11 (ρ : RO) (call : CallF) (yc : YieldF) (lim k : Nat) (x1 x6 x21 x22 x23 : AV) (H : Heap) (k0 : AV → Heap → Res) : Res :=
 loopL (fun (x : AV) H kn => N49_11b ρ call yc lim k x1 x6 x21 x22 x H (fun x23 H => kn x23 H) k0) k x23 H
theorem N49_11_eq (ρ call yc lim k x1 x6 x21 x22 x23 H kn k0 R) :
 evL (cx ρ) call yc false 49 lim k (Code.at [1,1,1,0,1,0] c49) (sp 131 [(1,x1),(6,x6),(21,x21),(22,x22),(23,x23)]) H (kk (some [6]) kn [(0,(some [6]),k0)] R [4,5]) = N49_11 ρ call yc lim k x1 x6 x21 x22 x23 H (fun x6 H => k0 (sp 131 [(6,x6)]) H) := by
 have e : Code.at [1,1,1,0,1,0] c49 = .loop (Code.at [1,1,1,0,1,0,0] c49) := by kernel_rfl
 rw [e]
 unfold N49_11
 exact loop_node [1,6,21,22,23] (fun x : AV => (sp 131 [(1,x1),(6,x6),(21,x21),(22,x22),(23,(x))])) (fun (x : AV) H kn => N49_11b ρ call yc lim k x1 x6 x21 x22 x H (fun x23 H => kn x23 H) (fun x6 H => k0 (sp 131 [(6,x6)]) H)) (by kernel_rfl) (fun x => by kernel_rfl) (fun x H kn => N49_11b_eq ρ call yc lim k x1 x6 x21 x22 (x) H kn k0 R) x23 (sp 131 [(1,x1),(6,x6),(21,x21),(22,x22),(23,x23)]) H (by kernel_rfl)
noncomputable def N49_10 (ρ : RO) (call : CallF) (yc : YieldF) (lim k : Nat) (x1 x6 x21 x22 x23 : AV) (H : Heap) (kn : AV → Heap → Res) : Res :=
 N49_11 ρ call yc lim k x1 x6 x21 x22 x23 H kn
theorem N49_10_x (ρ call yc lim k J x1 x6 x21 x22 x23 H kn R) :
 evX (cx ρ) call yc false 49 lim k J (Code.at [1,1,1,0,1] c49) (sp 131 [(1,x1),(6,x6),(21,x21),(22,x22),(23,x23)]) H (kk (some [6]) kn [] R [4,5]) =
 J (Code.at [1,1,1,0,1,0] c49) (sp 131 [(1,x1),(6,x6),(21,x21),(22,x22),(23,x23)]) H (kk (some [6]) kn [(0,(some [6]),kn)] R [4,5]) := by
 kernel_rfl
theorem N49_10_eq (ρ call yc lim k x1 x6 x21 x22 x23 H kn R) :
 evL (cx ρ) call yc false 49 lim k (Code.at [1,1,1,0,1] c49) (sp 131 [(1,x1),(6,x6),(21,x21),(22,x22),(23,x23)]) H (kk (some [6]) kn [] R [4,5]) = N49_10 ρ call yc lim k x1 x6 x21 x22 x23 H (fun x6 H => kn (sp 131 [(6,x6)]) H) := by
 rw [evL_X,N49_10_x]
 simp only [← evL_X,N49_10,N49_11_eq]
noncomputable def L49 (ρ : RO) (call : CallF) (yc : YieldF) (lim k : Nat) (x0 x1 : AV) (H : Heap) : Res :=
 resK (call lim 24 [x0] H) fun x15 H =>
 purK (unA .not x15) fun x16 =>
 condK x16
 (
 retK [.nilp,(.int .i64 1)] H)
 (
 effK H (some (makeMapA H)) fun x17 H =>
 effK H (some (makeMapA H)) fun x18 H =>
 purK (bldA [.nils,.nils,.nils,.int .u32 0,.nilm,.nilm] [(4,1,x17),(5,1,x18)]) fun x19 =>
 effK H (boxA H 127 x19) fun x20 H =>
 purK (lenS x0) fun x22 =>
 N49_10 ρ call yc lim k x1 x20 x0 x22 (.int .i64 0) H (fun x6 H =>
 N49_1 ρ call yc lim k x6 H retK))
theorem L49_x (ρ call yc lim k J x0 x1 H) :
 evX (cx ρ) call yc false 49 lim k J c49 ([x0,x1] ++ List.replicate 129 (.tup [])) H (kk none (fun s H => retK (gs [4,5] s) H) [] retK [4,5]) =
 resK (call lim 24 [x0] H) fun x15 H =>
 purK (unA .not x15) fun x16 =>
 condK x16
 (
 retK [.nilp,(.int .i64 1)] H)
 (
 effK H (some (makeMapA H)) fun x17 H =>
 effK H (some (makeMapA H)) fun x18 H =>
 purK (bldA [.nils,.nils,.nils,.int .u32 0,.nilm,.nilm] [(4,1,x17),(5,1,x18)]) fun x19 =>
 effK H (boxA H 127 x19) fun x20 H =>
 purK (lenS x0) fun x22 =>
 J (Code.at [1,1,1,0,1] c49) (sp 131 [(1,x1),(6,x20),(21,x0),(22,x22),(23,(.int .i64 0))]) H (kk (some [6]) (fun s H => J (Code.at [1,1,1,1] c49) s H (kk none (fun s H => retK (gs [4,5] s) H) [] retK [4,5])) [] retK [4,5])) := by
 kernel_rfl
theorem G49 (ρ call yc lim k x0 x1 H) :
 evL (cx ρ) call yc false 49 lim k c49 ([x0,x1] ++ List.replicate 129 (.tup [])) H (kk none (fun s H => retK (gs [4,5] s) H) [] retK [4,5]) = L49 ρ call yc lim k x0 x1 H := by
 rw [evL_X,L49_x]
 simp only [← evL_X,L49,N49_10_eq,N49_1_eq]
theorem E49 (ρ : RO) (k lim : Nat) (x0 x1 : AV) (H : Heap) : evCall (cx ρ) (k + 1) lim 49 [x0,x1] H = L49 ρ (evCall (cx ρ) k) (evCY (cx ρ) k).2 lim k x0 x1 H := by
 rw [evCall_body (cx ρ) k lim 49 _ H Try.f49 c49 [4,5] (by kernel_rfl) (by kernel_rfl) (by kernel_rfl) (by kernel_rfl) (by kernel_rfl)]
 exact G49 ρ (evCall (cx ρ) k) (evCY (cx ρ) k).2 lim k x0 x1 H
-- (*haycroft/history.search).whole
noncomputable def c50 : Code := Code.of Try.prog 50
noncomputable def L50 (ρ : RO) (call : CallF) (yc : YieldF) (lim k : Nat) (x0 : AV) (H : Heap) : Res :=
 effK H (boxA H 94 x0) fun x1 H =>
 purK (ld1 ρ H x1) fun x3 =>
 resK (call lim 69 [x3] H) fun x4 H =>
 resK (call lim 68 [x4,(.fn (.func 70) [] [x1])] H) fun x6 H =>
 retK [x6] H
theorem G50 (ρ call yc lim k x0 H) :
 evL (cx ρ) call yc false 50 lim k c50 ([x0] ++ List.replicate 6 (.tup [])) H (kk none (fun s H => retK (gs [2] s) H) [] retK [2]) = L50 ρ call yc lim k x0 H := by
 kernel_rfl
theorem E50 (ρ : RO) (k lim : Nat) (x0 : AV) (H : Heap) : evCall (cx ρ) (k + 1) lim 50 [x0] H = L50 ρ (evCall (cx ρ) k) (evCY (cx ρ) k).2 lim k x0 H := by
 rw [evCall_body (cx ρ) k lim 50 _ H Try.f50 c50 [2] (by kernel_rfl) (by kernel_rfl) (by kernel_rfl) (by kernel_rfl) (by kernel_rfl)]
 exact G50 ρ (evCall (cx ρ) k) (evCY (cx ρ) k).2 lim k x0 H
-- (*haycroft/history.search).way
noncomputable def c51 : Code := Code.of Try.prog 51
noncomputable def N51_2 (ρ : RO) (call : CallF) (yc : YieldF) (lim k : Nat) (x5 : AV) (H : Heap) (R : KR) : Res :=
 resK (call lim 71 [x5] H) fun x31_1 H =>
 R [x5] H
theorem N51_2_eq (ρ call yc lim k x5 H R) :
 evL (cx ρ) call yc false 51 lim k (Code.at [1,1,1] c51) (sp 33 [(5,x5)]) H (kk none (fun s H => R (gs [4] s) H) [] R [4]) = N51_2 ρ call yc lim k x5 H R := by
 kernel_rfl
noncomputable def N51_3b (ρ : RO) (call : CallF) (yc : YieldF) (lim k : Nat) (x0 x3 x5 : AV) (H : Heap) (kn : AV → Heap → Res) (k0 : AV → Heap → Res) : Res :=
 purK (ldN ρ H 3 x3) fun x6_1 =>
 purK (bldA [.int .u32 0,.str ByteArray.empty,.bool false] []) fun x7_1 =>
 purK (binA Try.prog H .neq 105 x6_1 x7_1) fun x8_1 =>
 condK x8_1
 (
 purK (nilChkA x0) fun x11_1 =>
 purK (addA 1 x11_1) fun x12_1 =>
 purK (ld1 ρ H x12_1) fun x13_1 =>
 purK (nilChkA x0) fun x15_1 =>
 purK (addA 5 x15_1) fun x16_1 =>
 purK (ld1 ρ H x16_1) fun x17_1 =>
 purK (ldN ρ H 3 x3) fun x18_1 =>
 purK (lookupA (cx ρ) H 124 x17_1 x18_1 false) fun x19_1 =>
 purK (ixS 1 x13_1 x19_1) fun x20_1 =>
 purK (ld1 ρ H x20_1) fun x21_1 =>
 mkK H (bldS H 3 1 [.int .i64 0] 1 [(0,1,x21_1)]) true fun x22_1 H => bif (agn (ld1 ρ H x20_1) x21_1 && (agn (lookupA (cx ρ) H 124 x17_1 x18_1 false) x19_1 && (agn (ldN ρ H 3 x3) x18_1 && (agn (ld1 ρ H x16_1) x17_1 && (agn (ld1 ρ H x12_1) x13_1 && true))))) then
 effK H (apA ρ lim H 3 1 8 x5 x22_1) fun x23_1 H =>
 purK (nilChkA x0) fun x25_1 =>
 purK (addA 4 x25_1) fun x26_1 =>
 purK (ld1 ρ H x26_1) fun x27_1 =>
 purK (ldN ρ H 3 x3) fun x28_1 =>
 purK (lookupA (cx ρ) H 123 x27_1 x28_1 false) fun x29_1 =>
 effK H (stA lim H 3 x3 x29_1) fun _ H =>
 kn x23_1 H
 else .stop)
 (
 k0 x5 H)
theorem N51_3b_eq (ρ call yc lim k x0 x3 x5 H kn k0 R) :
 evL (cx ρ) call yc false 51 lim k (Code.at [1,1,0,0,0] c51) (sp 33 [(0,x0),(3,x3),(5,x5)]) H (kk (some [0,3,5]) kn [(0,(some [5]),k0)] R [4]) = N51_3b ρ call yc lim k x0 x3 x5 H (fun x5 H => kn (sp 33 [(0,x0),(3,x3),(5,x5)]) H) (fun x5 H => k0 (sp 33 [(5,x5)]) H) := by
 kernel_rfl
noncomputable def N51_3 (ρ : RO) (call : CallF) (yc : YieldF) (lim k : Nat) (x0 x3 x5 : AV) (H : Heap) (k0 : AV → Heap → Res) : Res :=
 loopL (fun (x : AV) H kn => N51_3b ρ call yc lim k x0 x3 x H (fun x5 H => kn x5 H) k0) k x5 H
theorem N51_3_eq (ρ call yc lim k x0 x3 x5 H kn k0 R) :
 evL (cx ρ) call yc false 51 lim k (Code.at [1,1,0,0] c51) (sp 33 [(0,x0),(3,x3),(5,x5)]) H (kk (some [5]) kn [(0,(some [5]),k0)] R [4]) = N51_3 ρ call yc lim k x0 x3 x5 H (fun x5 H => k0 (sp 33 [(5,x5)]) H) := by
 have e : Code.at [1,1,0,0] c51 = .loop (Code.at [1,1,0,0,0] c51) := by kernel_rfl
 rw [e]
 unfold N51_3
 exact loop_node [0,3,5] (fun x : AV => (sp 33 [(0,x0),(3,x3),(5,(x))])) (fun (x : AV) H kn => N51_3b ρ call yc lim k x0 x3 x H (fun x5 H => kn x5 H) (fun x5 H => k0 (sp 33 [(5,x5)]) H)) (by kernel_rfl) (fun x => by kernel_rfl) (fun x H kn => N51_3b_eq ρ call yc lim k x0 x3 (x) H kn k0 R) x5 (sp 33 [(0,x0),(3,x3),(5,x5)]) H (by kernel_rfl)
noncomputable def N51_1 (ρ : RO) (call : CallF) (yc : YieldF) (lim k : Nat) (x0 x3 x5 : AV) (H : Heap) (R : KR) : Res :=
 N51_3 ρ call yc lim k x0 x3 x5 H (fun x5_1 H =>
 N51_2 ρ call yc lim k x5_1 H R)
theorem N51_1_x (ρ call yc lim k J x0 x3 x5 H R) :
 evX (cx ρ) call yc false 51 lim k J (Code.at [1,1] c51) (sp 33 [(0,x0),(3,x3),(5,x5)]) H (kk none (fun s H => R (gs [4] s) H) [] R [4]) =
 J (Code.at [1,1,0,0] c51) (sp 33 [(0,x0),(3,x3),(5,x5)]) H (kk (some [5]) (fun s H => J (Code.at [1,1,1] c51) s H (kk none (fun s H => R (gs [4] s) H) [] R [4])) [(0,(some [5]),(fun s H => J (Code.at [1,1,1] c51) s H (kk none (fun s H => R (gs [4] s) H) [] R [4])))] R [4]) := by
 kernel_rfl
theorem N51_1_eq (ρ call yc lim k x0 x3 x5 H R) :
 evL (cx ρ) call yc false 51 lim k (Code.at [1,1] c51) (sp 33 [(0,x0),(3,x3),(5,x5)]) H (kk none (fun s H => R (gs [4] s) H) [] R [4]) = N51_1 ρ call yc lim k x0 x3 x5 H R := by
 rw [evL_X,N51_1_x]
 simp only [← evL_X,N51_1,N51_2_eq,N51_3_eq]
noncomputable def L51 (ρ : RO) (call : CallF) (yc : YieldF) (lim k : Nat) (x0 x1 : AV) (H : Heap) : Res :=
 effK H (boxA H 105 x1) fun x3 H =>
 N51_1 ρ call yc lim k x0 x3 .nils H retK
theorem L51_x (ρ call yc lim k J x0 x1 H) :
 evX (cx ρ) call yc false 51 lim k J c51 ([x0,x1] ++ List.replicate 31 (.tup [])) H (kk none (fun s H => retK (gs [4] s) H) [] retK [4]) =
 effK H (boxA H 105 x1) fun x3 H =>
 J (Code.at [1,1] c51) (sp 33 [(0,x0),(3,x3),(5,.nils)]) H (kk none (fun s H => retK (gs [4] s) H) [] retK [4]) := by
 kernel_rfl
theorem G51 (ρ call yc lim k x0 x1 H) :
 evL (cx ρ) call yc false 51 lim k c51 ([x0,x1] ++ List.replicate 31 (.tup [])) H (kk none (fun s H => retK (gs [4] s) H) [] retK [4]) = L51 ρ call yc lim k x0 x1 H := by
 rw [evL_X,L51_x]
 simp only [← evL_X,L51,N51_1_eq]
theorem E51 (ρ : RO) (k lim : Nat) (x0 x1 : AV) (H : Heap) : evCall (cx ρ) (k + 1) lim 51 [x0,x1] H = L51 ρ (evCall (cx ρ) k) (evCY (cx ρ) k).2 lim k x0 x1 H := by
 rw [evCall_body (cx ρ) k lim 51 _ H Try.f51 c51 [4] (by kernel_rfl) (by kernel_rfl) (by kernel_rfl) (by kernel_rfl) (by kernel_rfl)]
 exact G51 ρ (evCall (cx ρ) k) (evCY (cx ρ) k).2 lim k x0 x1 H
-- haycroft/record.Adds
noncomputable def c52 : Code := Code.of Try.prog 52
noncomputable def L52 (ρ : RO) (call : CallF) (yc : YieldF) (lim k : Nat) (x0 x1 : AV) (H : Heap) : Res :=
 resK (call lim 73 [x0] H) fun x6 H =>
 purK (binA Try.prog H .add 49 x6 x1) fun x8 =>
 resK (call lim 72 [x8] H) fun x9 H =>
 retK [x9] H
theorem G52 (ρ call yc lim k x0 x1 H) :
 evL (cx ρ) call yc false 52 lim k c52 ([x0,x1] ++ List.replicate 8 (.tup [])) H (kk none (fun s H => retK (gs [4] s) H) [] retK [4]) = L52 ρ call yc lim k x0 x1 H := by
 kernel_rfl
theorem E52 (ρ : RO) (k lim : Nat) (x0 x1 : AV) (H : Heap) : evCall (cx ρ) (k + 1) lim 52 [x0,x1] H = L52 ρ (evCall (cx ρ) k) (evCY (cx ρ) k).2 lim k x0 x1 H := by
 rw [evCall_body (cx ρ) k lim 52 _ H Try.f52 c52 [4] (by kernel_rfl) (by kernel_rfl) (by kernel_rfl) (by kernel_rfl) (by kernel_rfl)]
 exact G52 ρ (evCall (cx ρ) k) (evCY (cx ρ) k).2 lim k x0 x1 H
-- haycroft/haycroftref09.Number
noncomputable def c53 : Code := Code.of Try.prog 53
noncomputable def N53_1 (ρ : RO) (call : CallF) (yc : YieldF) (lim k : Nat) (x3 : AV) (H : Heap) (R : KR) : Res :=
 R [x3] H
theorem N53_1_eq (ρ call yc lim k x3 H R) :
 evL (cx ρ) call yc false 53 lim k (Code.at [1,1,1,1] c53) (sp 20 [(3,x3)]) H (kk none (fun s H => R (gs [2] s) H) [] R [2]) = N53_1 ρ call yc lim k x3 H R := by
 kernel_rfl
noncomputable def N53_3b (ρ : RO) (call : CallF) (yc : YieldF) (lim k : Nat) (x0 x3 x4 : AV) (H : Heap) (kn : AV → AV → Heap → Res) (k0 : AV → Heap → Res) : Res :=
 purK (binA Try.prog H .geq 3 x4 (.int .i64 0)) fun x9_1 =>
 condK x9_1
 (
 purK (binA Try.prog H .mul 49 x3 (.int .u64 256)) fun x13_1 =>
 purK (ixT x0 x4) fun x16_1 =>
 purK (cvI .u64 x16_1) fun x17_1 =>
 purK (binA Try.prog H .add 49 x13_1 x17_1) fun x18_1 =>
 purK (binA Try.prog H .sub 3 x4 (.int .i64 1)) fun x11_1 =>
 kn x18_1 x11_1 H)
 (
 k0 x3 H)
theorem N53_3b_eq (ρ call yc lim k x0 x3 x4 H kn k0 R) :
 evL (cx ρ) call yc false 53 lim k (Code.at [1,1,1,0,1,0,0] c53) (sp 20 [(0,x0),(3,x3),(4,x4)]) H (kk (some [0,3,4]) kn [(0,(some [3]),k0)] R [2]) = N53_3b ρ call yc lim k x0 x3 x4 H (fun x3 x4 H => kn (sp 20 [(0,x0),(3,x3),(4,x4)]) H) (fun x3 H => k0 (sp 20 [(3,x3)]) H) := by
 kernel_rfl
noncomputable def N53_3 (ρ : RO) (call : CallF) (yc : YieldF) (lim k : Nat) (x0 x3 x4 : AV) (H : Heap) (k0 : AV → Heap → Res) : Res :=
 loopL (fun (x : AV × AV) H kn => N53_3b ρ call yc lim k x0 x.1 x.2 H (fun x3 x4 H => kn (x3,x4) H) k0) k (x3,x4) H
theorem N53_3_eq (ρ call yc lim k x0 x3 x4 H kn k0 R) :
 evL (cx ρ) call yc false 53 lim k (Code.at [1,1,1,0,1,0] c53) (sp 20 [(0,x0),(3,x3),(4,x4)]) H (kk (some [3]) kn [(0,(some [3]),k0)] R [2]) = N53_3 ρ call yc lim k x0 x3 x4 H (fun x3 H => k0 (sp 20 [(3,x3)]) H) := by
 have e : Code.at [1,1,1,0,1,0] c53 = .loop (Code.at [1,1,1,0,1,0,0] c53) := by kernel_rfl
 rw [e]
 unfold N53_3
 exact loop_node [0,3,4] (fun x : AV × AV => (sp 20 [(0,x0),(3,(x.1)),(4,(x.2))])) (fun (x : AV × AV) H kn => N53_3b ρ call yc lim k x0 x.1 x.2 H (fun x3 x4 H => kn (x3,x4) H) (fun x3 H => k0 (sp 20 [(3,x3)]) H)) (by kernel_rfl) (fun x => by kernel_rfl) (fun x H kn => N53_3b_eq ρ call yc lim k x0 (x.1) (x.2) H kn k0 R) (x3,x4) (sp 20 [(0,x0),(3,x3),(4,x4)]) H (by kernel_rfl)
noncomputable def N53_2 (ρ : RO) (call : CallF) (yc : YieldF) (lim k : Nat) (x0 x3 x4 : AV) (H : Heap) (kn : AV → Heap → Res) : Res :=
 N53_3 ρ call yc lim k x0 x3 x4 H kn
theorem N53_2_x (ρ call yc lim k J x0 x3 x4 H kn R) :
 evX (cx ρ) call yc false 53 lim k J (Code.at [1,1,1,0,1] c53) (sp 20 [(0,x0),(3,x3),(4,x4)]) H (kk (some [3]) kn [] R [2]) =
 J (Code.at [1,1,1,0,1,0] c53) (sp 20 [(0,x0),(3,x3),(4,x4)]) H (kk (some [3]) kn [(0,(some [3]),kn)] R [2]) := by
 kernel_rfl
theorem N53_2_eq (ρ call yc lim k x0 x3 x4 H kn R) :
 evL (cx ρ) call yc false 53 lim k (Code.at [1,1,1,0,1] c53) (sp 20 [(0,x0),(3,x3),(4,x4)]) H (kk (some [3]) kn [] R [2]) = N53_2 ρ call yc lim k x0 x3 x4 H (fun x3 H => kn (sp 20 [(3,x3)]) H) := by
 rw [evL_X,N53_2_x]
 simp only [← evL_X,N53_2,N53_3_eq]
noncomputable def L53 (ρ : RO) (call : CallF) (yc : YieldF) (lim k : Nat) (x0 : AV) (H : Heap) : Res :=
 purK (lenT x0) fun x6 =>
 purK (binA Try.prog H .neq 3 x6 (.int .i64 8)) fun x7 =>
 condK x7
 (
 retK [(.int .u64 0)] H)
 (
 N53_2 ρ call yc lim k x0 (.int .u64 0) (.int .i64 7) H (fun x3 H =>
 N53_1 ρ call yc lim k x3 H retK))
theorem L53_x (ρ call yc lim k J x0 H) :
 evX (cx ρ) call yc false 53 lim k J c53 ([x0] ++ List.replicate 19 (.tup [])) H (kk none (fun s H => retK (gs [2] s) H) [] retK [2]) =
 purK (lenT x0) fun x6 =>
 purK (binA Try.prog H .neq 3 x6 (.int .i64 8)) fun x7 =>
 condK x7
 (
 retK [(.int .u64 0)] H)
 (
 J (Code.at [1,1,1,0,1] c53) (sp 20 [(0,x0),(3,(.int .u64 0)),(4,(.int .i64 7))]) H (kk (some [3]) (fun s H => J (Code.at [1,1,1,1] c53) s H (kk none (fun s H => retK (gs [2] s) H) [] retK [2])) [] retK [2])) := by
 kernel_rfl
theorem G53 (ρ call yc lim k x0 H) :
 evL (cx ρ) call yc false 53 lim k c53 ([x0] ++ List.replicate 19 (.tup [])) H (kk none (fun s H => retK (gs [2] s) H) [] retK [2]) = L53 ρ call yc lim k x0 H := by
 rw [evL_X,L53_x]
 simp only [← evL_X,L53,N53_1_eq,N53_2_eq]
theorem E53 (ρ : RO) (k lim : Nat) (x0 : AV) (H : Heap) : evCall (cx ρ) (k + 1) lim 53 [x0] H = L53 ρ (evCall (cx ρ) k) (evCY (cx ρ) k).2 lim k x0 H := by
 rw [evCall_body (cx ρ) k lim 53 _ H Try.f53 c53 [2] (by kernel_rfl) (by kernel_rfl) (by kernel_rfl) (by kernel_rfl) (by kernel_rfl)]
 exact G53 ρ (evCall (cx ρ) k) (evCY (cx ρ) k).2 lim k x0 H
-- haycroft/haycroftref09.Value
noncomputable def c54 : Code := Code.of Try.prog 54
noncomputable def N54_1 (ρ : RO) (call : CallF) (yc : YieldF) (lim k : Nat) (x3 : AV) (H : Heap) (R : KR) : Res :=
 purK (b2s ρ H x3) fun x19_1 =>
 R [x19_1] H
theorem N54_1_eq (ρ call yc lim k x3 H R) :
 evL (cx ρ) call yc false 54 lim k (Code.at [1,1,1] c54) (sp 20 [(3,x3)]) H (kk none (fun s H => R (gs [2] s) H) [] R [2]) = N54_1 ρ call yc lim k x3 H R := by
 kernel_rfl
noncomputable def N54_3b (ρ : RO) (call : CallF) (yc : YieldF) (lim k : Nat) (x0 x3 x4 : AV) (H : Heap) (kn : AV → AV → AV → Heap → Res) (k0 : AV → Heap → Res) : Res :=
 purK (binA Try.prog H .lss 3 x4 (.int .i64 8)) fun x7_1 =>
 condK x7_1
 (
 purK (binA Try.prog H .rem 49 x0 (.int .u64 256)) fun x12_1 =>
 purK (cvI .u8 x12_1) fun x13_1 =>
 effK H (bldS H 5 1 [.int .u8 0] 1 [(0,1,x13_1)]) fun x14_1 H =>
 effK H (apA ρ lim H 5 1 1 x3 x14_1) fun x15_1 H =>
 purK (binA Try.prog H .quo 49 x0 (.int .u64 256)) fun x17_1 =>
 purK (binA Try.prog H .add 3 x4 (.int .i64 1)) fun x9_1 =>
 kn x17_1 x15_1 x9_1 H)
 (
 k0 x3 H)
theorem N54_3b_eq (ρ call yc lim k x0 x3 x4 H kn k0 R) :
 evL (cx ρ) call yc false 54 lim k (Code.at [1,1,0,1,0,0] c54) (sp 20 [(0,x0),(3,x3),(4,x4)]) H (kk (some [0,3,4]) kn [(0,(some [3]),k0)] R [2]) = N54_3b ρ call yc lim k x0 x3 x4 H (fun x0 x3 x4 H => kn (sp 20 [(0,x0),(3,x3),(4,x4)]) H) (fun x3 H => k0 (sp 20 [(3,x3)]) H) := by
 kernel_rfl
noncomputable def N54_3 (ρ : RO) (call : CallF) (yc : YieldF) (lim k : Nat) (x0 x3 x4 : AV) (H : Heap) (k0 : AV → Heap → Res) : Res :=
 loopL (fun (x : AV × AV × AV) H kn => N54_3b ρ call yc lim k x.1 x.2.1 x.2.2 H (fun x0 x3 x4 H => kn (x0,x3,x4) H) k0) k (x0,x3,x4) H
theorem N54_3_eq (ρ call yc lim k x0 x3 x4 H kn k0 R) :
 evL (cx ρ) call yc false 54 lim k (Code.at [1,1,0,1,0] c54) (sp 20 [(0,x0),(3,x3),(4,x4)]) H (kk (some [3]) kn [(0,(some [3]),k0)] R [2]) = N54_3 ρ call yc lim k x0 x3 x4 H (fun x3 H => k0 (sp 20 [(3,x3)]) H) := by
 have e : Code.at [1,1,0,1,0] c54 = .loop (Code.at [1,1,0,1,0,0] c54) := by kernel_rfl
 rw [e]
 unfold N54_3
 exact loop_node [0,3,4] (fun x : AV × AV × AV => (sp 20 [(0,(x.1)),(3,(x.2.1)),(4,(x.2.2))])) (fun (x : AV × AV × AV) H kn => N54_3b ρ call yc lim k x.1 x.2.1 x.2.2 H (fun x0 x3 x4 H => kn (x0,x3,x4) H) (fun x3 H => k0 (sp 20 [(3,x3)]) H)) (by kernel_rfl) (fun x => by kernel_rfl) (fun x H kn => N54_3b_eq ρ call yc lim k (x.1) (x.2.1) (x.2.2) H kn k0 R) (x0,x3,x4) (sp 20 [(0,x0),(3,x3),(4,x4)]) H (by kernel_rfl)
noncomputable def N54_2 (ρ : RO) (call : CallF) (yc : YieldF) (lim k : Nat) (x0 x3 x4 : AV) (H : Heap) (kn : AV → Heap → Res) : Res :=
 N54_3 ρ call yc lim k x0 x3 x4 H kn
theorem N54_2_x (ρ call yc lim k J x0 x3 x4 H kn R) :
 evX (cx ρ) call yc false 54 lim k J (Code.at [1,1,0,1] c54) (sp 20 [(0,x0),(3,x3),(4,x4)]) H (kk (some [3]) kn [] R [2]) =
 J (Code.at [1,1,0,1,0] c54) (sp 20 [(0,x0),(3,x3),(4,x4)]) H (kk (some [3]) kn [(0,(some [3]),kn)] R [2]) := by
 kernel_rfl
theorem N54_2_eq (ρ call yc lim k x0 x3 x4 H kn R) :
 evL (cx ρ) call yc false 54 lim k (Code.at [1,1,0,1] c54) (sp 20 [(0,x0),(3,x3),(4,x4)]) H (kk (some [3]) kn [] R [2]) = N54_2 ρ call yc lim k x0 x3 x4 H (fun x3 H => kn (sp 20 [(3,x3)]) H) := by
 rw [evL_X,N54_2_x]
 simp only [← evL_X,N54_2,N54_3_eq]
noncomputable def L54 (ρ : RO) (call : CallF) (yc : YieldF) (lim k : Nat) (x0 : AV) (H : Heap) : Res :=
 effK H (bldS H 5 1 [.int .u8 0] 0 []) fun x5 H =>
 N54_2 ρ call yc lim k x0 x5 (.int .i64 0) H (fun x3 H =>
 N54_1 ρ call yc lim k x3 H retK)
theorem L54_x (ρ call yc lim k J x0 H) :
 evX (cx ρ) call yc false 54 lim k J c54 ([x0] ++ List.replicate 19 (.tup [])) H (kk none (fun s H => retK (gs [2] s) H) [] retK [2]) =
 effK H (bldS H 5 1 [.int .u8 0] 0 []) fun x5 H =>
 J (Code.at [1,1,0,1] c54) (sp 20 [(0,x0),(3,x5),(4,(.int .i64 0))]) H (kk (some [3]) (fun s H => J (Code.at [1,1,1] c54) s H (kk none (fun s H => retK (gs [2] s) H) [] retK [2])) [] retK [2]) := by
 kernel_rfl
theorem G54 (ρ call yc lim k x0 H) :
 evL (cx ρ) call yc false 54 lim k c54 ([x0] ++ List.replicate 19 (.tup [])) H (kk none (fun s H => retK (gs [2] s) H) [] retK [2]) = L54 ρ call yc lim k x0 H := by
 rw [evL_X,L54_x]
 simp only [← evL_X,L54,N54_1_eq,N54_2_eq]
theorem E54 (ρ : RO) (k lim : Nat) (x0 : AV) (H : Heap) : evCall (cx ρ) (k + 1) lim 54 [x0] H = L54 ρ (evCall (cx ρ) k) (evCY (cx ρ) k).2 lim k x0 H := by
 rw [evCall_body (cx ρ) k lim 54 _ H Try.f54 c54 [2] (by kernel_rfl) (by kernel_rfl) (by kernel_rfl) (by kernel_rfl) (by kernel_rfl)]
 exact G54 ρ (evCall (cx ρ) k) (evCY (cx ρ) k).2 lim k x0 H
-- slices.Sorted[string]
noncomputable def c55 : Code := Code.of Try.prog 55
noncomputable def L55 (ρ : RO) (call : CallF) (yc : YieldF) (lim k : Nat) (x0 : AV) (H : Heap) : Res :=
 resK (call lim 74 [x0] H) fun x5 H =>
 resK (call lim 45 [x5] H) fun x7 H =>
 retK [x5] H
theorem G55 (ρ call yc lim k x0 H) :
 evL (cx ρ) call yc false 55 lim k c55 ([x0] ++ List.replicate 8 (.tup [])) H (kk none (fun s H => retK (gs [2] s) H) [] retK [2]) = L55 ρ call yc lim k x0 H := by
 kernel_rfl
theorem E55 (ρ : RO) (k lim : Nat) (x0 : AV) (H : Heap) : evCall (cx ρ) (k + 1) lim 55 [x0] H = L55 ρ (evCall (cx ρ) k) (evCY (cx ρ) k).2 lim k x0 H := by
 rw [evCall_body (cx ρ) k lim 55 _ H Try.f55 c55 [2] (by kernel_rfl) (by kernel_rfl) (by kernel_rfl) (by kernel_rfl) (by kernel_rfl)]
 exact G55 ρ (evCall (cx ρ) k) (evCY (cx ρ) k).2 lim k x0 H
end Go.Proofs.Ytkmohjddojpdjaa

-- part Ht5
/- Functions, lifted. Printed by a program of this repo. -/
set_option linter.unusedVariables false
set_option linter.unusedSimpArgs false
set_option maxRecDepth 100000
set_option maxHeartbeats 4000000
namespace Go.Proofs.Ytkmohjddojpdjaa
open Go.Ev Go.RowKit
-- maps.Keys[map[string]bool,string,bool]
noncomputable def c56 : Code := Code.of Try.prog 56
noncomputable def L56 (ρ : RO) (call : CallF) (yc : YieldF) (lim k : Nat) (x0 : AV) (H : Heap) : Res :=
 effK H (boxA H 108 x0) fun x1 H =>
 retK [(.fn (.func 75) [] [x1])] H
theorem G56 (ρ call yc lim k x0 H) :
 evL (cx ρ) call yc false 56 lim k c56 ([x0] ++ List.replicate 3 (.tup [])) H (kk none (fun s H => retK (gs [2] s) H) [] retK [2]) = L56 ρ call yc lim k x0 H := by
 kernel_rfl
theorem E56 (ρ : RO) (k lim : Nat) (x0 : AV) (H : Heap) : evCall (cx ρ) (k + 1) lim 56 [x0] H = L56 ρ (evCall (cx ρ) k) (evCY (cx ρ) k).2 lim k x0 H := by
 rw [evCall_body (cx ρ) k lim 56 _ H Try.f56 c56 [2] (by kernel_rfl) (by kernel_rfl) (by kernel_rfl) (by kernel_rfl) (by kernel_rfl)]
 exact G56 ρ (evCall (cx ρ) k) (evCY (cx ρ) k).2 lim k x0 H
-- slices.pdqsortOrdered[string]
noncomputable def c65 : Code := Code.of Try.prog 65
noncomputable def N65_8 (ρ : RO) (call : CallF) (yc : YieldF) (lim k : Nat) (x0 x2 x3 x8 x9 x14 : AV) (H : Heap) (kn : AV → AV → AV → AV → AV → Heap → Res) : Res :=
 purK (binA Try.prog H .add 3 x14 (.int .i64 1)) fun x123_1 =>
 kn x123_1 x2 x3 x8 x9 H
theorem N65_8_eq (ρ call yc lim k x0 x2 x3 x8 x9 x14 H kn k1 R) :
 evL (cx ρ) call yc false 65 lim k (Code.at [1,1,0,0,0,1,1,1,1,1,1,1,1,1,1,1,1,1,0,1,1] c65) (sp 134 [(0,x0),(2,x2),(3,x3),(8,x8),(9,x9),(14,x14)]) H (kk (some [0,1,2,3,8,9]) kn [(1,(some [0,1,2,3,8,9]),k1),(0,none,(fun s H => R (gs [] s) H))] R []) = N65_8 ρ call yc lim k x0 x2 x3 x8 x9 x14 H (fun x1 x2 x3 x8 x9 H => kn (sp 134 [(0,x0),(1,x1),(2,x2),(3,x3),(8,x8),(9,x9)]) H) := by
 kernel_rfl
noncomputable def N65_9 (ρ : RO) (call : CallF) (yc : YieldF) (lim k : Nat) (x0 x1 x3 x8 x9 x14 : AV) (H : Heap) (kn : AV → AV → AV → AV → AV → Heap → Res) : Res :=
 kn x1 x14 x3 x8 x9 H
theorem N65_9_eq (ρ call yc lim k x0 x1 x3 x8 x9 x14 H kn k1 R) :
 evL (cx ρ) call yc false 65 lim k (Code.at [1,1,0,0,0,1,1,1,1,1,1,1,1,1,1,1,1,1,1,1,1] c65) (sp 134 [(0,x0),(1,x1),(3,x3),(8,x8),(9,x9),(14,x14)]) H (kk (some [0,1,2,3,8,9]) kn [(1,(some [0,1,2,3,8,9]),k1),(0,none,(fun s H => R (gs [] s) H))] R []) = N65_9 ρ call yc lim k x0 x1 x3 x8 x9 x14 H (fun x1 x2 x3 x8 x9 H => kn (sp 134 [(0,x0),(1,x1),(2,x2),(3,x3),(8,x8),(9,x9)]) H) := by
 kernel_rfl
noncomputable def N65_7 (ρ : RO) (call : CallF) (yc : YieldF) (lim k : Nat) (x0 x1 x2 x3 x10 x14 x15 : AV) (H : Heap) (kn : AV → AV → AV → AV → AV → Heap → Res) : Res :=
 purK (binA Try.prog H .sub 3 x14 x1) fun x105_1 =>
 purK (binA Try.prog H .sub 3 x2 x14) fun x108_1 =>
 purK (binA Try.prog H .quo 3 x10 (.int .i64 8)) fun x110_1 =>
 purK (binA Try.prog H .lss 3 x105_1 x108_1) fun x113_1 =>
 condK x113_1
 (
 purK (binA Try.prog H .geq 3 x105_1 x110_1) fun x116_1 =>
 resK (call lim 65 [x0,x1,x14,x3] H) fun x121_1 H =>
 N65_8 ρ call yc lim k x0 x2 x3 x116_1 x15 x14 H kn)
 (
 purK (binA Try.prog H .geq 3 x108_1 x110_1) fun x126_1 =>
 purK (binA Try.prog H .add 3 x14 (.int .i64 1)) fun x129_1 =>
 resK (call lim 65 [x0,x129_1,x2,x3] H) fun x132_1 H =>
 N65_9 ρ call yc lim k x0 x1 x3 x126_1 x15 x14 H kn)
theorem N65_7_x (ρ call yc lim k J x0 x1 x2 x3 x10 x14 x15 H kn k1 R) :
 evX (cx ρ) call yc false 65 lim k J (Code.at [1,1,0,0,0,1,1,1,1,1,1,1,1,1] c65) (sp 134 [(0,x0),(1,x1),(2,x2),(3,x3),(10,x10),(14,x14),(15,x15)]) H (kk (some [0,1,2,3,8,9]) kn [(1,(some [0,1,2,3,8,9]),k1),(0,none,(fun s H => R (gs [] s) H))] R []) =
 purK (binA Try.prog H .sub 3 x14 x1) fun x105_1 =>
 purK (binA Try.prog H .sub 3 x2 x14) fun x108_1 =>
 purK (binA Try.prog H .quo 3 x10 (.int .i64 8)) fun x110_1 =>
 purK (binA Try.prog H .lss 3 x105_1 x108_1) fun x113_1 =>
 condK x113_1
 (
 purK (binA Try.prog H .geq 3 x105_1 x110_1) fun x116_1 =>
 resK (call lim 65 [x0,x1,x14,x3] H) fun x121_1 H =>
 J (Code.at [1,1,0,0,0,1,1,1,1,1,1,1,1,1,1,1,1,1,0,1,1] c65) (sp 134 [(0,x0),(2,x2),(3,x3),(8,x116_1),(9,x15),(14,x14)]) H (kk (some [0,1,2,3,8,9]) kn [(1,(some [0,1,2,3,8,9]),k1),(0,none,(fun s H => R (gs [] s) H))] R []))
 (
 purK (binA Try.prog H .geq 3 x108_1 x110_1) fun x126_1 =>
 purK (binA Try.prog H .add 3 x14 (.int .i64 1)) fun x129_1 =>
 resK (call lim 65 [x0,x129_1,x2,x3] H) fun x132_1 H =>
 J (Code.at [1,1,0,0,0,1,1,1,1,1,1,1,1,1,1,1,1,1,1,1,1] c65) (sp 134 [(0,x0),(1,x1),(3,x3),(8,x126_1),(9,x15),(14,x14)]) H (kk (some [0,1,2,3,8,9]) kn [(1,(some [0,1,2,3,8,9]),k1),(0,none,(fun s H => R (gs [] s) H))] R [])) := by
 kernel_rfl
theorem N65_7_eq (ρ call yc lim k x0 x1 x2 x3 x10 x14 x15 H kn k1 R) :
 evL (cx ρ) call yc false 65 lim k (Code.at [1,1,0,0,0,1,1,1,1,1,1,1,1,1] c65) (sp 134 [(0,x0),(1,x1),(2,x2),(3,x3),(10,x10),(14,x14),(15,x15)]) H (kk (some [0,1,2,3,8,9]) kn [(1,(some [0,1,2,3,8,9]),k1),(0,none,(fun s H => R (gs [] s) H))] R []) = N65_7 ρ call yc lim k x0 x1 x2 x3 x10 x14 x15 H (fun x1 x2 x3 x8 x9 H => kn (sp 134 [(0,x0),(1,x1),(2,x2),(3,x3),(8,x8),(9,x9)]) H) := by
 rw [evL_X,N65_7_x]
 simp only [← evL_X,N65_7,N65_8_eq,N65_9_eq]
noncomputable def N65_6 (ρ : RO) (call : CallF) (yc : YieldF) (lim k : Nat) (x0 x1 x2 x3 x10 x11 : AV) (H : Heap) (kn : AV → AV → AV → AV → AV → Heap → Res) : Res :=
 resK (call lim 91 [x0,x1,x2,x11] H) fun x99_1 H =>
 purK (extA 0 x99_1) fun x100_1 =>
 purK (extA 1 x99_1) fun x101_1 =>
 N65_7 ρ call yc lim k x0 x1 x2 x3 x10 x100_1 x101_1 H kn
theorem N65_6_x (ρ call yc lim k J x0 x1 x2 x3 x10 x11 H kn k1 R) :
 evX (cx ρ) call yc false 65 lim k J (Code.at [1,1,0,0,0,1,1,1,1,1,1,1,1] c65) (sp 134 [(0,x0),(1,x1),(2,x2),(3,x3),(10,x10),(11,x11)]) H (kk (some [0,1,2,3,8,9]) kn [(1,(some [0,1,2,3,8,9]),k1),(0,none,(fun s H => R (gs [] s) H))] R []) =
 resK (call lim 91 [x0,x1,x2,x11] H) fun x99_1 H =>
 purK (extA 0 x99_1) fun x100_1 =>
 purK (extA 1 x99_1) fun x101_1 =>
 J (Code.at [1,1,0,0,0,1,1,1,1,1,1,1,1,1] c65) (sp 134 [(0,x0),(1,x1),(2,x2),(3,x3),(10,x10),(14,x100_1),(15,x101_1)]) H (kk (some [0,1,2,3,8,9]) kn [(1,(some [0,1,2,3,8,9]),k1),(0,none,(fun s H => R (gs [] s) H))] R []) := by
 kernel_rfl
theorem N65_6_eq (ρ call yc lim k x0 x1 x2 x3 x10 x11 H kn k1 R) :
 evL (cx ρ) call yc false 65 lim k (Code.at [1,1,0,0,0,1,1,1,1,1,1,1,1] c65) (sp 134 [(0,x0),(1,x1),(2,x2),(3,x3),(10,x10),(11,x11)]) H (kk (some [0,1,2,3,8,9]) kn [(1,(some [0,1,2,3,8,9]),k1),(0,none,(fun s H => R (gs [] s) H))] R []) = N65_6 ρ call yc lim k x0 x1 x2 x3 x10 x11 H (fun x1 x2 x3 x8 x9 H => kn (sp 134 [(0,x0),(1,x1),(2,x2),(3,x3),(8,x8),(9,x9)]) H) := by
 rw [evL_X,N65_6_x]
 simp only [← evL_X,N65_6,N65_7_eq]
noncomputable def N65_10 (ρ : RO) (call : CallF) (yc : YieldF) (lim k : Nat) (x0 x2 x3 x8 x9 x13 : AV) (H : Heap) (k1 : AV → AV → AV → AV → AV → Heap → Res) : Res :=
 k1 x13 x2 x3 x8 x9 H
theorem N65_10_eq (ρ call yc lim k x0 x2 x3 x8 x9 x13 H kn k1 R) :
 evL (cx ρ) call yc false 65 lim k (Code.at [1,1,0,0,0,1,1,1,1,1,1,1,0,1,0,1] c65) (sp 134 [(0,x0),(2,x2),(3,x3),(8,x8),(9,x9),(13,x13)]) H (kk (some [0,1,2,3,10,11]) kn [(1,(some [0,1,2,3,8,9]),k1),(0,none,(fun s H => R (gs [] s) H))] R []) = N65_10 ρ call yc lim k x0 x2 x3 x8 x9 x13 H (fun x1 x2 x3 x8 x9 H => k1 (sp 134 [(0,x0),(1,x1),(2,x2),(3,x3),(8,x8),(9,x9)]) H) := by
 kernel_rfl
noncomputable def N65_5 (ρ : RO) (call : CallF) (yc : YieldF) (lim k : Nat) (x0 x1 x2 x3 x8 x9 x10 x11 : AV) (H : Heap) (kn : AV → AV → AV → AV → AV → Heap → Res) (k1 : AV → AV → AV → AV → AV → Heap → Res) : Res :=
 purK (binA Try.prog H .gtr 3 x1 (.int .i64 0)) fun x74_1 =>
 boolK (wantV x74_1 true) fun b1 => purK (bif b1 then some x0 else some (.tup [])) fun x76_1 =>
 boolK (wantV x74_1 true) fun b2 => purK (bif b2 then some x1 else some (.tup [])) fun x77_1 =>
 boolK (wantV x74_1 true) fun b3 => purK (bif b3 then binA Try.prog H .sub 3 x77_1 (.int .i64 1) else some (.tup [])) fun x78_1 =>
 boolK (wantV x74_1 true) fun b4 => purK (bif b4 then ixS 1 x76_1 x78_1 else some (.tup [])) fun x79_1 =>
 boolK (wantV x74_1 true) fun b5 => purK (bif b5 then ld1 ρ H x79_1 else some (.tup [])) fun x80_1 =>
 boolK (wantV x74_1 true) fun b6 => purK (bif b6 then some x0 else some (.tup [])) fun x81_1 =>
 boolK (wantV x74_1 true) fun b7 => purK (bif b7 then some x11 else some (.tup [])) fun x82_1 =>
 boolK (wantV x74_1 true) fun b8 => purK (bif b8 then ixS 1 x81_1 x82_1 else some (.tup [])) fun x83_1 =>
 boolK (wantV x74_1 true) fun b9 => purK (bif b9 then ld1 ρ H x83_1 else some (.tup [])) fun x84_1 =>
 boolK (wantV x74_1 true) fun b10 => resK (gRes (some b10) H (call lim 89 [x80_1,x84_1] H)) fun x85_1 H => bif !b10 || ((!b9 || true) && ((!b5 || true) && ((!b3 || true) && true))) then
 purK (gPur (wantV x74_1 true) (unA .not x85_1)) fun x86_1 =>
 purK (pickA x74_1 x86_1 (.bool false)) fun x87_1 =>
 condK x87_1
 (
 resK (call lim 90 [x0,x1,x2,x11] H) fun x92_1 H =>
 N65_10 ρ call yc lim k x0 x2 x3 x8 x9 x92_1 H k1)
 (
 N65_6 ρ call yc lim k x0 x1 x2 x3 x10 x11 H kn)
 else .stop
theorem N65_5_x (ρ call yc lim k J x0 x1 x2 x3 x8 x9 x10 x11 H kn k1 R) :
 evX (cx ρ) call yc false 65 lim k J (Code.at [1,1,0,0,0,1,1,1,1,1,1,1] c65) (sp 134 [(0,x0),(1,x1),(2,x2),(3,x3),(8,x8),(9,x9),(10,x10),(11,x11)]) H (kk (some [0,1,2,3,8,9]) kn [(1,(some [0,1,2,3,8,9]),k1),(0,none,(fun s H => R (gs [] s) H))] R []) =
 purK (binA Try.prog H .gtr 3 x1 (.int .i64 0)) fun x74_1 =>
 boolK (wantV x74_1 true) fun b1 => purK (bif b1 then some x0 else some (.tup [])) fun x76_1 =>
 boolK (wantV x74_1 true) fun b2 => purK (bif b2 then some x1 else some (.tup [])) fun x77_1 =>
 boolK (wantV x74_1 true) fun b3 => purK (bif b3 then binA Try.prog H .sub 3 x77_1 (.int .i64 1) else some (.tup [])) fun x78_1 =>
 boolK (wantV x74_1 true) fun b4 => purK (bif b4 then ixS 1 x76_1 x78_1 else some (.tup [])) fun x79_1 =>
 boolK (wantV x74_1 true) fun b5 => purK (bif b5 then ld1 ρ H x79_1 else some (.tup [])) fun x80_1 =>
 boolK (wantV x74_1 true) fun b6 => purK (bif b6 then some x0 else some (.tup [])) fun x81_1 =>
 boolK (wantV x74_1 true) fun b7 => purK (bif b7 then some x11 else some (.tup [])) fun x82_1 =>
 boolK (wantV x74_1 true) fun b8 => purK (bif b8 then ixS 1 x81_1 x82_1 else some (.tup [])) fun x83_1 =>
 boolK (wantV x74_1 true) fun b9 => purK (bif b9 then ld1 ρ H x83_1 else some (.tup [])) fun x84_1 =>
 boolK (wantV x74_1 true) fun b10 => resK (gRes (some b10) H (call lim 89 [x80_1,x84_1] H)) fun x85_1 H => bif !b10 || ((!b9 || true) && ((!b5 || true) && ((!b3 || true) && true))) then
 purK (gPur (wantV x74_1 true) (unA .not x85_1)) fun x86_1 =>
 purK (pickA x74_1 x86_1 (.bool false)) fun x87_1 =>
 condK x87_1
 (
 resK (call lim 90 [x0,x1,x2,x11] H) fun x92_1 H =>
 J (Code.at [1,1,0,0,0,1,1,1,1,1,1,1,0,1,0,1] c65) (sp 134 [(0,x0),(2,x2),(3,x3),(8,x8),(9,x9),(13,x92_1)]) H (kk (some [0,1,2,3,10,11]) (fun s H => J (Code.at [1,1,0,0,0,1,1,1,1,1,1,1,1] c65) s H (kk (some [0,1,2,3,8,9]) kn [(1,(some [0,1,2,3,8,9]),k1),(0,none,(fun s H => R (gs [] s) H))] R [])) [(1,(some [0,1,2,3,8,9]),k1),(0,none,(fun s H => R (gs [] s) H))] R []))
 (
 J (Code.at [1,1,0,0,0,1,1,1,1,1,1,1,1] c65) (sp 134 [(0,x0),(1,x1),(2,x2),(3,x3),(10,x10),(11,x11)]) H (kk (some [0,1,2,3,8,9]) kn [(1,(some [0,1,2,3,8,9]),k1),(0,none,(fun s H => R (gs [] s) H))] R []))
 else .stop := by
 kernel_rfl
theorem N65_5_eq (ρ call yc lim k x0 x1 x2 x3 x8 x9 x10 x11 H kn k1 R) :
 evL (cx ρ) call yc false 65 lim k (Code.at [1,1,0,0,0,1,1,1,1,1,1,1] c65) (sp 134 [(0,x0),(1,x1),(2,x2),(3,x3),(8,x8),(9,x9),(10,x10),(11,x11)]) H (kk (some [0,1,2,3,8,9]) kn [(1,(some [0,1,2,3,8,9]),k1),(0,none,(fun s H => R (gs [] s) H))] R []) = N65_5 ρ call yc lim k x0 x1 x2 x3 x8 x9 x10 x11 H (fun x1 x2 x3 x8 x9 H => kn (sp 134 [(0,x0),(1,x1),(2,x2),(3,x3),(8,x8),(9,x9)]) H) (fun x1 x2 x3 x8 x9 H => k1 (sp 134 [(0,x0),(1,x1),(2,x2),(3,x3),(8,x8),(9,x9)]) H) := by
 rw [evL_X,N65_5_x]
 simp only [← evL_X,N65_5,N65_10_eq,N65_6_eq]
noncomputable def N65_11 (ρ : RO) (call : CallF) (yc : YieldF) (lim k : Nat) (x0 x1 x2 x3 x8 x9 x10 x11 x68 : AV) (H : Heap) (kn : AV → AV → AV → AV → AV → AV → AV → Heap → Res) (R : KR) : Res :=
 condK x68
 (
 resK (call lim 88 [x0,x1,x2] H) fun x72_1 H =>
 condK x72_1
 (
 R [] H)
 (
 kn x1 x2 x3 x8 x9 x10 x11 H))
 (
 kn x1 x2 x3 x8 x9 x10 x11 H)
theorem N65_11_eq (ρ call yc lim k x0 x1 x2 x3 x8 x9 x10 x11 x68 H kn k1 R) :
 evL (cx ρ) call yc false 65 lim k (Code.at [1,1,0,0,0,1,1,1,1,1,1,0,1] c65) (sp 134 [(0,x0),(1,x1),(2,x2),(3,x3),(8,x8),(9,x9),(10,x10),(11,x11),(68,x68)]) H (kk (some [0,1,2,3,8,9,10,11]) kn [(1,(some [0,1,2,3,8,9]),k1),(0,none,(fun s H => R (gs [] s) H))] R []) = N65_11 ρ call yc lim k x0 x1 x2 x3 x8 x9 x10 x11 x68 H (fun x1 x2 x3 x8 x9 x10 x11 H => kn (sp 134 [(0,x0),(1,x1),(2,x2),(3,x3),(8,x8),(9,x9),(10,x10),(11,x11)]) H) R := by
 kernel_rfl
noncomputable def N65_4 (ρ : RO) (call : CallF) (yc : YieldF) (lim k : Nat) (x0 x1 x2 x3 x8 x9 x10 x11 x12 : AV) (H : Heap) (kn : AV → AV → AV → AV → AV → Heap → Res) (k1 : AV → AV → AV → AV → AV → Heap → Res) (R : KR) : Res :=
 purK (gPur (wantV x8 true) (some x9)) fun x63_1 =>
 purK (pickA x8 x63_1 (.bool false)) fun x64_1 =>
 purK (gPur (wantV x64_1 true) (some x12)) fun x66_1 =>
 purK (gPur (wantV x64_1 true) (binA Try.prog H .eql 141 x66_1 (.int .i64 1))) fun x67_1 =>
 purK (pickA x64_1 x67_1 (.bool false)) fun x68_1 =>
 N65_11 ρ call yc lim k x0 x1 x2 x3 x8 x9 x10 x11 x68_1 H (fun x1_1 x2_1 x3_1 x8_1 x9_1 x10_1 x11_1 H =>
 N65_5 ρ call yc lim k x0 x1_1 x2_1 x3_1 x8_1 x9_1 x10_1 x11_1 H kn k1) R
theorem N65_4_x (ρ call yc lim k J x0 x1 x2 x3 x8 x9 x10 x11 x12 H kn k1 R) :
 evX (cx ρ) call yc false 65 lim k J (Code.at [1,1,0,0,0,1,1,1,1,1,1] c65) (sp 134 [(0,x0),(1,x1),(2,x2),(3,x3),(8,x8),(9,x9),(10,x10),(11,x11),(12,x12)]) H (kk (some [0,1,2,3,8,9]) kn [(1,(some [0,1,2,3,8,9]),k1),(0,none,(fun s H => R (gs [] s) H))] R []) =
 purK (gPur (wantV x8 true) (some x9)) fun x63_1 =>
 purK (pickA x8 x63_1 (.bool false)) fun x64_1 =>
 purK (gPur (wantV x64_1 true) (some x12)) fun x66_1 =>
 purK (gPur (wantV x64_1 true) (binA Try.prog H .eql 141 x66_1 (.int .i64 1))) fun x67_1 =>
 purK (pickA x64_1 x67_1 (.bool false)) fun x68_1 =>
 J (Code.at [1,1,0,0,0,1,1,1,1,1,1,0,1] c65) (sp 134 [(0,x0),(1,x1),(2,x2),(3,x3),(8,x8),(9,x9),(10,x10),(11,x11),(68,x68_1)]) H (kk (some [0,1,2,3,8,9,10,11]) (fun s H => J (Code.at [1,1,0,0,0,1,1,1,1,1,1,1] c65) s H (kk (some [0,1,2,3,8,9]) kn [(1,(some [0,1,2,3,8,9]),k1),(0,none,(fun s H => R (gs [] s) H))] R [])) [(1,(some [0,1,2,3,8,9]),k1),(0,none,(fun s H => R (gs [] s) H))] R []) := by
 kernel_rfl
theorem N65_4_eq (ρ call yc lim k x0 x1 x2 x3 x8 x9 x10 x11 x12 H kn k1 R) :
 evL (cx ρ) call yc false 65 lim k (Code.at [1,1,0,0,0,1,1,1,1,1,1] c65) (sp 134 [(0,x0),(1,x1),(2,x2),(3,x3),(8,x8),(9,x9),(10,x10),(11,x11),(12,x12)]) H (kk (some [0,1,2,3,8,9]) kn [(1,(some [0,1,2,3,8,9]),k1),(0,none,(fun s H => R (gs [] s) H))] R []) = N65_4 ρ call yc lim k x0 x1 x2 x3 x8 x9 x10 x11 x12 H (fun x1 x2 x3 x8 x9 H => kn (sp 134 [(0,x0),(1,x1),(2,x2),(3,x3),(8,x8),(9,x9)]) H) (fun x1 x2 x3 x8 x9 H => k1 (sp 134 [(0,x0),(1,x1),(2,x2),(3,x3),(8,x8),(9,x9)]) H) R := by
 rw [evL_X,N65_4_x]
 simp only [← evL_X,N65_4,N65_11_eq,N65_5_eq]
noncomputable def N65_3 (ρ : RO) (call : CallF) (yc : YieldF) (lim k : Nat) (x0 x1 x2 x3 x8 x9 x10 : AV) (H : Heap) (kn : AV → AV → AV → AV → AV → Heap → Res) (k1 : AV → AV → AV → AV → AV → Heap → Res) (R : KR) : Res :=
 resK (call lim 86 [x0,x1,x2] H) fun x46_1 H =>
 purK (extA 0 x46_1) fun x47_1 =>
 purK (extA 1 x46_1) fun x48_1 =>
 purK (binA Try.prog H .eql 141 x48_1 (.int .i64 2)) fun x50_1 =>
 condK x50_1
 (
 resK (call lim 87 [x0,x1,x2] H) fun x54_1 H =>
 purK (binA Try.prog H .sub 3 x2 (.int .i64 1)) fun x56_1 =>
 purK (binA Try.prog H .sub 3 x47_1 x1) fun x59_1 =>
 purK (binA Try.prog H .sub 3 x56_1 x59_1) fun x60_1 =>
 N65_4 ρ call yc lim k x0 x1 x2 x3 x8 x9 x10 x60_1 (.int .i64 1) H kn k1 R)
 (
 N65_4 ρ call yc lim k x0 x1 x2 x3 x8 x9 x10 x47_1 x48_1 H kn k1 R)
theorem N65_3_x (ρ call yc lim k J x0 x1 x2 x3 x8 x9 x10 H kn k1 R) :
 evX (cx ρ) call yc false 65 lim k J (Code.at [1,1,0,0,0,1,1,1,1] c65) (sp 134 [(0,x0),(1,x1),(2,x2),(3,x3),(8,x8),(9,x9),(10,x10)]) H (kk (some [0,1,2,3,8,9]) kn [(1,(some [0,1,2,3,8,9]),k1),(0,none,(fun s H => R (gs [] s) H))] R []) =
 resK (call lim 86 [x0,x1,x2] H) fun x46_1 H =>
 purK (extA 0 x46_1) fun x47_1 =>
 purK (extA 1 x46_1) fun x48_1 =>
 purK (binA Try.prog H .eql 141 x48_1 (.int .i64 2)) fun x50_1 =>
 condK x50_1
 (
 resK (call lim 87 [x0,x1,x2] H) fun x54_1 H =>
 purK (binA Try.prog H .sub 3 x2 (.int .i64 1)) fun x56_1 =>
 purK (binA Try.prog H .sub 3 x47_1 x1) fun x59_1 =>
 purK (binA Try.prog H .sub 3 x56_1 x59_1) fun x60_1 =>
 J (Code.at [1,1,0,0,0,1,1,1,1,1,1] c65) (sp 134 [(0,x0),(1,x1),(2,x2),(3,x3),(8,x8),(9,x9),(10,x10),(11,x60_1),(12,(.int .i64 1))]) H (kk (some [0,1,2,3,8,9]) kn [(1,(some [0,1,2,3,8,9]),k1),(0,none,(fun s H => R (gs [] s) H))] R []))
 (
 J (Code.at [1,1,0,0,0,1,1,1,1,1,1] c65) (sp 134 [(0,x0),(1,x1),(2,x2),(3,x3),(8,x8),(9,x9),(10,x10),(11,x47_1),(12,x48_1)]) H (kk (some [0,1,2,3,8,9]) kn [(1,(some [0,1,2,3,8,9]),k1),(0,none,(fun s H => R (gs [] s) H))] R [])) := by
 kernel_rfl
theorem N65_3_eq (ρ call yc lim k x0 x1 x2 x3 x8 x9 x10 H kn k1 R) :
 evL (cx ρ) call yc false 65 lim k (Code.at [1,1,0,0,0,1,1,1,1] c65) (sp 134 [(0,x0),(1,x1),(2,x2),(3,x3),(8,x8),(9,x9),(10,x10)]) H (kk (some [0,1,2,3,8,9]) kn [(1,(some [0,1,2,3,8,9]),k1),(0,none,(fun s H => R (gs [] s) H))] R []) = N65_3 ρ call yc lim k x0 x1 x2 x3 x8 x9 x10 H (fun x1 x2 x3 x8 x9 H => kn (sp 134 [(0,x0),(1,x1),(2,x2),(3,x3),(8,x8),(9,x9)]) H) (fun x1 x2 x3 x8 x9 H => k1 (sp 134 [(0,x0),(1,x1),(2,x2),(3,x3),(8,x8),(9,x9)]) H) R := by
 rw [evL_X,N65_3_x]
 simp only [← evL_X,N65_3,N65_4_eq]
noncomputable def N65_2b (ρ : RO) (call : CallF) (yc : YieldF) (lim k : Nat) (x0 x1 x2 x3 x8 x9 : AV) (H : Heap) (kn : AV → AV → AV → AV → AV → Heap → Res) (R : KR) : Res :=
 purK (binA Try.prog H .sub 3 x2 x1) fun x21_1 =>
 purK (binA Try.prog H .leq 3 x21_1 (.int .i64 12)) fun x23_1 =>
 condK x23_1
 (
 resK (call lim 83 [x0,x1,x2] H) fun x27_1 H =>
 R [] H)
 (
 purK (binA Try.prog H .eql 3 x3 (.int .i64 0)) fun x29_1 =>
 condK x29_1
 (
 resK (call lim 84 [x0,x1,x2] H) fun x33_1 H =>
 R [] H)
 (
 purK (unA .not x8) fun x35_1 =>
 condK x35_1
 (
 resK (call lim 85 [x0,x1,x2] H) fun x39_1 H =>
 purK (binA Try.prog H .sub 3 x3 (.int .i64 1)) fun x41_1 =>
 N65_3 ρ call yc lim k x0 x1 x2 x41_1 x8 x9 x21_1 H kn kn R)
 (
 N65_3 ρ call yc lim k x0 x1 x2 x3 x8 x9 x21_1 H kn kn R)))
theorem N65_2b_x (ρ call yc lim k J x0 x1 x2 x3 x8 x9 H kn R) :
 evX (cx ρ) call yc false 65 lim k J (Code.at [1,1,0,0] c65) (sp 134 [(0,x0),(1,x1),(2,x2),(3,x3),(8,x8),(9,x9)]) H (kk (some [0,1,2,3,8,9]) kn [(0,none,(fun s H => R (gs [] s) H))] R []) =
 purK (binA Try.prog H .sub 3 x2 x1) fun x21_1 =>
 purK (binA Try.prog H .leq 3 x21_1 (.int .i64 12)) fun x23_1 =>
 condK x23_1
 (
 resK (call lim 83 [x0,x1,x2] H) fun x27_1 H =>
 R [] H)
 (
 purK (binA Try.prog H .eql 3 x3 (.int .i64 0)) fun x29_1 =>
 condK x29_1
 (
 resK (call lim 84 [x0,x1,x2] H) fun x33_1 H =>
 R [] H)
 (
 purK (unA .not x8) fun x35_1 =>
 condK x35_1
 (
 resK (call lim 85 [x0,x1,x2] H) fun x39_1 H =>
 purK (binA Try.prog H .sub 3 x3 (.int .i64 1)) fun x41_1 =>
 J (Code.at [1,1,0,0,0,1,1,1,1] c65) (sp 134 [(0,x0),(1,x1),(2,x2),(3,x41_1),(8,x8),(9,x9),(10,x21_1)]) H (kk (some [0,1,2,3,8,9]) kn [(1,(some [0,1,2,3,8,9]),kn),(0,none,(fun s H => R (gs [] s) H))] R []))
 (
 J (Code.at [1,1,0,0,0,1,1,1,1] c65) (sp 134 [(0,x0),(1,x1),(2,x2),(3,x3),(8,x8),(9,x9),(10,x21_1)]) H (kk (some [0,1,2,3,8,9]) kn [(1,(some [0,1,2,3,8,9]),kn),(0,none,(fun s H => R (gs [] s) H))] R [])))) := by
 kernel_rfl
theorem N65_2b_eq (ρ call yc lim k x0 x1 x2 x3 x8 x9 H kn R) :
 evL (cx ρ) call yc false 65 lim k (Code.at [1,1,0,0] c65) (sp 134 [(0,x0),(1,x1),(2,x2),(3,x3),(8,x8),(9,x9)]) H (kk (some [0,1,2,3,8,9]) kn [(0,none,(fun s H => R (gs [] s) H))] R []) = N65_2b ρ call yc lim k x0 x1 x2 x3 x8 x9 H (fun x1 x2 x3 x8 x9 H => kn (sp 134 [(0,x0),(1,x1),(2,x2),(3,x3),(8,x8),(9,x9)]) H) R := by
 rw [evL_X,N65_2b_x]
 simp only [← evL_X,N65_2b,N65_3_eq]
noncomputable def N65_2 (ρ : RO) (call : CallF) (yc : YieldF) (lim k : Nat) (x0 x1 x2 x3 x8 x9 : AV) (H : Heap) (R : KR) : Res :=
 loopL (fun (x : AV × AV × AV × AV × AV) H kn => N65_2b ρ call yc lim k x0 x.1 x.2.1 x.2.2.1 x.2.2.2.1 x.2.2.2.2 H (fun x1 x2 x3 x8 x9 H => kn (x1,x2,x3,x8,x9) H) R) k (x1,x2,x3,x8,x9) H
theorem N65_2_eq (ρ call yc lim k x0 x1 x2 x3 x8 x9 H R) :
 evL (cx ρ) call yc false 65 lim k (Code.at [1,1,0] c65) (sp 134 [(0,x0),(1,x1),(2,x2),(3,x3),(8,x8),(9,x9)]) H (kk none (fun s H => R (gs [] s) H) [(0,none,(fun s H => R (gs [] s) H))] R []) = N65_2 ρ call yc lim k x0 x1 x2 x3 x8 x9 H R := by
 have e : Code.at [1,1,0] c65 = .loop (Code.at [1,1,0,0] c65) := by kernel_rfl
 rw [e]
 unfold N65_2
 exact loop_node [0,1,2,3,8,9] (fun x : AV × AV × AV × AV × AV => (sp 134 [(0,x0),(1,(x.1)),(2,(x.2.1)),(3,(x.2.2.1)),(8,(x.2.2.2.1)),(9,(x.2.2.2.2))])) (fun (x : AV × AV × AV × AV × AV) H kn => N65_2b ρ call yc lim k x0 x.1 x.2.1 x.2.2.1 x.2.2.2.1 x.2.2.2.2 H (fun x1 x2 x3 x8 x9 H => kn (x1,x2,x3,x8,x9) H) R) (by kernel_rfl) (fun x => by kernel_rfl) (fun x H kn => N65_2b_eq ρ call yc lim k x0 (x.1) (x.2.1) (x.2.2.1) (x.2.2.2.1) (x.2.2.2.2) H kn R) (x1,x2,x3,x8,x9) (sp 134 [(0,x0),(1,x1),(2,x2),(3,x3),(8,x8),(9,x9)]) H (by kernel_rfl)
noncomputable def N65_1 (ρ : RO) (call : CallF) (yc : YieldF) (lim k : Nat) (x0 x1 x2 x3 x8 x9 : AV) (H : Heap) (R : KR) : Res :=
 N65_2 ρ call yc lim k x0 x1 x2 x3 x8 x9 H R
theorem N65_1_x (ρ call yc lim k J x0 x1 x2 x3 x8 x9 H R) :
 evX (cx ρ) call yc false 65 lim k J (Code.at [1,1] c65) (sp 134 [(0,x0),(1,x1),(2,x2),(3,x3),(8,x8),(9,x9)]) H (kk none (fun s H => R (gs [] s) H) [] R []) =
 J (Code.at [1,1,0] c65) (sp 134 [(0,x0),(1,x1),(2,x2),(3,x3),(8,x8),(9,x9)]) H (kk none (fun s H => R (gs [] s) H) [(0,none,(fun s H => R (gs [] s) H))] R []) := by
 kernel_rfl
theorem N65_1_eq (ρ call yc lim k x0 x1 x2 x3 x8 x9 H R) :
 evL (cx ρ) call yc false 65 lim k (Code.at [1,1] c65) (sp 134 [(0,x0),(1,x1),(2,x2),(3,x3),(8,x8),(9,x9)]) H (kk none (fun s H => R (gs [] s) H) [] R []) = N65_1 ρ call yc lim k x0 x1 x2 x3 x8 x9 H R := by
 rw [evL_X,N65_1_x]
 simp only [← evL_X,N65_1,N65_2_eq]
noncomputable def L65 (ρ : RO) (call : CallF) (yc : YieldF) (lim k : Nat) (x0 x1 x2 x3 : AV) (H : Heap) : Res :=
 N65_1 ρ call yc lim k x0 x1 x2 x3 (.bool true) (.bool true) H retK
theorem L65_x (ρ call yc lim k J x0 x1 x2 x3 H) :
 evX (cx ρ) call yc false 65 lim k J c65 ([x0,x1,x2,x3] ++ List.replicate 130 (.tup [])) H (kk none (fun s H => retK (gs [] s) H) [] retK []) =
 J (Code.at [1,1] c65) (sp 134 [(0,x0),(1,x1),(2,x2),(3,x3),(8,(.bool true)),(9,(.bool true))]) H (kk none (fun s H => retK (gs [] s) H) [] retK []) := by
 kernel_rfl
theorem G65 (ρ call yc lim k x0 x1 x2 x3 H) :
 evL (cx ρ) call yc false 65 lim k c65 ([x0,x1,x2,x3] ++ List.replicate 130 (.tup [])) H (kk none (fun s H => retK (gs [] s) H) [] retK []) = L65 ρ call yc lim k x0 x1 x2 x3 H := by
 rw [evL_X,L65_x]
 simp only [← evL_X,L65,N65_1_eq]
theorem E65 (ρ : RO) (k lim : Nat) (x0 x1 x2 x3 : AV) (H : Heap) : evCall (cx ρ) (k + 1) lim 65 [x0,x1,x2,x3] H = L65 ρ (evCall (cx ρ) k) (evCY (cx ρ) k).2 lim k x0 x1 x2 x3 H := by
 rw [evCall_body (cx ρ) k lim 65 _ H Try.f65 c65 [] (by kernel_rfl) (by kernel_rfl) (by kernel_rfl) (by kernel_rfl) (by kernel_rfl)]
 exact G65 ρ (evCall (cx ρ) k) (evCY (cx ρ) k).2 lim k x0 x1 x2 x3 H
-- math/bits.Len
noncomputable def c66 : Code := Code.of Try.prog 66
noncomputable def L66 (ρ : RO) (call : CallF) (yc : YieldF) (lim k : Nat) (x0 : AV) (H : Heap) : Res :=
 condK (.bool false)
 (
 purK (cvI .u32 x0) fun x4 =>
 resK (call lim 92 [x4] H) fun x5 H =>
 retK [x5] H)
 (
 resK (call lim 93 [x0] H) fun x7 H =>
 retK [x7] H)
theorem G66 (ρ call yc lim k x0 H) :
 evL (cx ρ) call yc false 66 lim k c66 ([x0] ++ List.replicate 7 (.tup [])) H (kk none (fun s H => retK (gs [2] s) H) [] retK [2]) = L66 ρ call yc lim k x0 H := by
 kernel_rfl
theorem E66 (ρ : RO) (k lim : Nat) (x0 : AV) (H : Heap) : evCall (cx ρ) (k + 1) lim 66 [x0] H = L66 ρ (evCall (cx ρ) k) (evCY (cx ρ) k).2 lim k x0 H := by
 rw [evCall_body (cx ρ) k lim 66 _ H Try.f66 c66 [2] (by kernel_rfl) (by kernel_rfl) (by kernel_rfl) (by kernel_rfl) (by kernel_rfl)]
 exact G66 ρ (evCall (cx ρ) k) (evCY (cx ρ) k).2 lim k x0 H
-- slices.IndexFunc[[]haycroft/api.Event,haycroft/api.Event]
noncomputable def c67 : Code := Code.of Try.prog 67
noncomputable def N67_1 (ρ : RO) (call : CallF) (yc : YieldF) (lim k : Nat) (H : Heap) (R : KR) : Res :=
 R [(.int .i64 (-1))] H
theorem N67_1_eq (ρ call yc lim k H R) :
 evL (cx ρ) call yc false 67 lim k (Code.at [1,1] c67) (sp 19 []) H (kk none (fun s H => R (gs [4] s) H) [] R [4]) = N67_1 ρ call yc lim k H R := by
 kernel_rfl
noncomputable def N67_3b (ρ : RO) (call : CallF) (yc : YieldF) (lim k : Nat) (x0 x1 x7 x8 : AV) (H : Heap) (kn : AV → Heap → Res) (k0 : Heap → Res) (R : KR) : Res :=
 purK (binA Try.prog H .lss 3 x8 x7) fun x9_1 =>
 condK x9_1
 (
 purK (ixS 8 x0 x8) fun x14_1 =>
 purK (ldN ρ H 8 x14_1) fun x15_1 =>
 valK call yc lim x1 [x15_1] H fun x16_1 H =>
 condK x16_1
 (
 R [x8] H)
 (
 purK (binA Try.prog H .add 3 x8 (.int .i64 1)) fun x18_1 =>
 kn x18_1 H))
 (
 k0 H)
theorem N67_3b_eq (ρ call yc lim k x0 x1 x7 x8 H kn k0 R) :
 evL (cx ρ) call yc false 67 lim k (Code.at [1,0,1,0,0] c67) (sp 19 [(0,x0),(1,x1),(7,x7),(8,x8)]) H (kk (some [0,1,7,8]) kn [(0,(some []),k0)] R [4]) = N67_3b ρ call yc lim k x0 x1 x7 x8 H (fun x8 H => kn (sp 19 [(0,x0),(1,x1),(7,x7),(8,x8)]) H) (fun H => k0 (sp 19 []) H) R := by
 kernel_rfl
noncomputable def N67_3 (ρ : RO) (call : CallF) (yc : YieldF) (lim k : Nat) (x0 x1 x7 x8 : AV) (H : Heap) (k0 : Heap → Res) (R : KR) : Res :=
 loopL (fun (x : AV) H kn => N67_3b ρ call yc lim k x0 x1 x7 x H (fun x8 H => kn x8 H) k0 R) k x8 H
theorem N67_3_eq (ρ call yc lim k x0 x1 x7 x8 H kn k0 R) :
 evL (cx ρ) call yc false 67 lim k (Code.at [1,0,1,0] c67) (sp 19 [(0,x0),(1,x1),(7,x7),(8,x8)]) H (kk (some []) kn [(0,(some []),k0)] R [4]) = N67_3 ρ call yc lim k x0 x1 x7 x8 H (fun H => k0 (sp 19 []) H) R := by
 have e : Code.at [1,0,1,0] c67 = .loop (Code.at [1,0,1,0,0] c67) := by kernel_rfl
 rw [e]
 unfold N67_3
 exact loop_node [0,1,7,8] (fun x : AV => (sp 19 [(0,x0),(1,x1),(7,x7),(8,(x))])) (fun (x : AV) H kn => N67_3b ρ call yc lim k x0 x1 x7 x H (fun x8 H => kn x8 H) (fun H => k0 (sp 19 []) H) R) (by kernel_rfl) (fun x => by kernel_rfl) (fun x H kn => N67_3b_eq ρ call yc lim k x0 x1 x7 (x) H kn k0 R) x8 (sp 19 [(0,x0),(1,x1),(7,x7),(8,x8)]) H (by kernel_rfl)
noncomputable def N67_2 (ρ : RO) (call : CallF) (yc : YieldF) (lim k : Nat) (x0 x1 x7 x8 : AV) (H : Heap) (kn : Heap → Res) (R : KR) : Res :=
 N67_3 ρ call yc lim k x0 x1 x7 x8 H kn R
theorem N67_2_x (ρ call yc lim k J x0 x1 x7 x8 H kn R) :
 evX (cx ρ) call yc false 67 lim k J (Code.at [1,0,1] c67) (sp 19 [(0,x0),(1,x1),(7,x7),(8,x8)]) H (kk (some []) kn [] R [4]) =
 J (Code.at [1,0,1,0] c67) (sp 19 [(0,x0),(1,x1),(7,x7),(8,x8)]) H (kk (some []) kn [(0,(some []),kn)] R [4]) := by
 kernel_rfl
theorem N67_2_eq (ρ call yc lim k x0 x1 x7 x8 H kn R) :
 evL (cx ρ) call yc false 67 lim k (Code.at [1,0,1] c67) (sp 19 [(0,x0),(1,x1),(7,x7),(8,x8)]) H (kk (some []) kn [] R [4]) = N67_2 ρ call yc lim k x0 x1 x7 x8 H (fun H => kn (sp 19 []) H) R := by
 rw [evL_X,N67_2_x]
 simp only [← evL_X,N67_2,N67_3_eq]
noncomputable def L67 (ρ : RO) (call : CallF) (yc : YieldF) (lim k : Nat) (x0 x1 : AV) (H : Heap) : Res :=
 purK (lenS x0) fun x7 =>
 N67_2 ρ call yc lim k x0 x1 x7 (.int .i64 0) H (fun H =>
 N67_1 ρ call yc lim k H retK) retK
theorem L67_x (ρ call yc lim k J x0 x1 H) :
 evX (cx ρ) call yc false 67 lim k J c67 ([x0,x1] ++ List.replicate 17 (.tup [])) H (kk none (fun s H => retK (gs [4] s) H) [] retK [4]) =
 purK (lenS x0) fun x7 =>
 J (Code.at [1,0,1] c67) (sp 19 [(0,x0),(1,x1),(7,x7),(8,(.int .i64 0))]) H (kk (some []) (fun s H => J (Code.at [1,1] c67) s H (kk none (fun s H => retK (gs [4] s) H) [] retK [4])) [] retK [4]) := by
 kernel_rfl
theorem G67 (ρ call yc lim k x0 x1 H) :
 evL (cx ρ) call yc false 67 lim k c67 ([x0,x1] ++ List.replicate 17 (.tup [])) H (kk none (fun s H => retK (gs [4] s) H) [] retK [4]) = L67 ρ call yc lim k x0 x1 H := by
 rw [evL_X,L67_x]
 simp only [← evL_X,L67,N67_1_eq,N67_2_eq]
theorem E67 (ρ : RO) (k lim : Nat) (x0 x1 : AV) (H : Heap) : evCall (cx ρ) (k + 1) lim 67 [x0,x1] H = L67 ρ (evCall (cx ρ) k) (evCY (cx ρ) k).2 lim k x0 x1 H := by
 rw [evCall_body (cx ρ) k lim 67 _ H Try.f67 c67 [4] (by kernel_rfl) (by kernel_rfl) (by kernel_rfl) (by kernel_rfl) (by kernel_rfl)]
 exact G67 ρ (evCall (cx ρ) k) (evCY (cx ρ) k).2 lim k x0 x1 H
-- slices.DeleteFunc[[]haycroft/history.node,haycroft/history.node]
noncomputable def c68 : Code := Code.of Try.prog 68
noncomputable def N68_1 (ρ : RO) (call : CallF) (yc : YieldF) (lim k : Nat) (x0 x5 : AV) (H : Heap) (R : KR) : Res :=
 purK (slS 3 x0 (some x5) none none) fun x38_1 =>
 effK H (builtinA (cx ρ) lim H .clear #[97] [x38_1]) fun _ H =>
 purK (slS 3 x0 none (some x5) none) fun x41_1 =>
 R [x41_1] H
theorem N68_1_eq (ρ call yc lim k x0 x5 H R) :
 evL (cx ρ) call yc false 68 lim k (Code.at [1,1,1,1] c68) (sp 42 [(0,x0),(5,x5)]) H (kk none (fun s H => R (gs [4] s) H) [] R [4]) = N68_1 ρ call yc lim k x0 x5 H R := by
 kernel_rfl
noncomputable def N68_4 (ρ : RO) (call : CallF) (yc : YieldF) (lim k : Nat) (x0 x1 x5 x6 : AV) (H : Heap) (kn : AV → AV → Heap → Res) : Res :=
 purK (binA Try.prog H .add 3 x6 (.int .i64 1)) fun x21_1 =>
 kn x5 x21_1 H
theorem N68_4_eq (ρ call yc lim k x0 x1 x5 x6 H kn k0 R) :
 evL (cx ρ) call yc false 68 lim k (Code.at [1,1,1,0,1,0,0,1,1] c68) (sp 42 [(0,x0),(1,x1),(5,x5),(6,x6)]) H (kk (some [0,1,5,6]) kn [(0,(some [0,5]),k0)] R [4]) = N68_4 ρ call yc lim k x0 x1 x5 x6 H (fun x5 x6 H => kn (sp 42 [(0,x0),(1,x1),(5,x5),(6,x6)]) H) := by
 kernel_rfl
noncomputable def N68_3b (ρ : RO) (call : CallF) (yc : YieldF) (lim k : Nat) (x0 x1 x5 x6 : AV) (H : Heap) (kn : AV → AV → Heap → Res) (k0 : AV → AV → Heap → Res) : Res :=
 purK (lenS x0) fun x18_1 =>
 purK (binA Try.prog H .lss 3 x6 x18_1) fun x19_1 =>
 condK x19_1
 (
 purK (ixS 3 x0 x6) fun x24_1 =>
 purK (ldN ρ H 3 x24_1) fun x25_1 =>
 effK H (some (.ptr H.sz 0 0,.new (newCells 105 false [.int .u32 0,.str ByteArray.empty,.bool false]))) fun x7_1 H =>
 effK H (stA lim H 3 x7_1 x25_1) fun _ H =>
 purK (ldN ρ H 3 x7_1) fun x27_1 =>
 valK call yc lim x1 [x27_1] H fun x28_1 H =>
 purK (unA .not x28_1) fun x29_1 =>
 condK x29_1
 (
 purK (ldN ρ H 3 x7_1) fun x32_1 =>
 purK (ixS 3 x0 x5) fun x33_1 =>
 effK H (stA lim H 3 x33_1 x32_1) fun _ H =>
 purK (binA Try.prog H .add 3 x5 (.int .i64 1)) fun x35_1 =>
 N68_4 ρ call yc lim k x0 x1 x35_1 x6 H kn)
 (
 N68_4 ρ call yc lim k x0 x1 x5 x6 H kn))
 (
 k0 x0 x5 H)
theorem N68_3b_x (ρ call yc lim k J x0 x1 x5 x6 H kn k0 R) :
 evX (cx ρ) call yc false 68 lim k J (Code.at [1,1,1,0,1,0,0] c68) (sp 42 [(0,x0),(1,x1),(5,x5),(6,x6)]) H (kk (some [0,1,5,6]) kn [(0,(some [0,5]),k0)] R [4]) =
 purK (lenS x0) fun x18_1 =>
 purK (binA Try.prog H .lss 3 x6 x18_1) fun x19_1 =>
 condK x19_1
 (
 purK (ixS 3 x0 x6) fun x24_1 =>
 purK (ldN ρ H 3 x24_1) fun x25_1 =>
 effK H (some (.ptr H.sz 0 0,.new (newCells 105 false [.int .u32 0,.str ByteArray.empty,.bool false]))) fun x7_1 H =>
 effK H (stA lim H 3 x7_1 x25_1) fun _ H =>
 purK (ldN ρ H 3 x7_1) fun x27_1 =>
 valK call yc lim x1 [x27_1] H fun x28_1 H =>
 purK (unA .not x28_1) fun x29_1 =>
 condK x29_1
 (
 purK (ldN ρ H 3 x7_1) fun x32_1 =>
 purK (ixS 3 x0 x5) fun x33_1 =>
 effK H (stA lim H 3 x33_1 x32_1) fun _ H =>
 purK (binA Try.prog H .add 3 x5 (.int .i64 1)) fun x35_1 =>
 J (Code.at [1,1,1,0,1,0,0,1,1] c68) (sp 42 [(0,x0),(1,x1),(5,x35_1),(6,x6)]) H (kk (some [0,1,5,6]) kn [(0,(some [0,5]),k0)] R [4]))
 (
 J (Code.at [1,1,1,0,1,0,0,1,1] c68) (sp 42 [(0,x0),(1,x1),(5,x5),(6,x6)]) H (kk (some [0,1,5,6]) kn [(0,(some [0,5]),k0)] R [4])))
 (
 k0 (sp 42 [(0,x0),(5,x5)]) H) := by
 kernel_rfl
theorem N68_3b_eq (ρ call yc lim k x0 x1 x5 x6 H kn k0 R) :
 evL (cx ρ) call yc false 68 lim k (Code.at [1,1,1,0,1,0,0] c68) (sp 42 [(0,x0),(1,x1),(5,x5),(6,x6)]) H (kk (some [0,1,5,6]) kn [(0,(some [0,5]),k0)] R [4]) = N68_3b ρ call yc lim k x0 x1 x5 x6 H (fun x5 x6 H => kn (sp 42 [(0,x0),(1,x1),(5,x5),(6,x6)]) H) (fun x0 x5 H => k0 (sp 42 [(0,x0),(5,x5)]) H) := by
 rw [evL_X,N68_3b_x]
 simp only [← evL_X,N68_3b,N68_4_eq]
noncomputable def N68_3 (ρ : RO) (call : CallF) (yc : YieldF) (lim k : Nat) (x0 x1 x5 x6 : AV) (H : Heap) (k0 : AV → AV → Heap → Res) : Res :=
 loopL (fun (x : AV × AV) H kn => N68_3b ρ call yc lim k x0 x1 x.1 x.2 H (fun x5 x6 H => kn (x5,x6) H) k0) k (x5,x6) H
theorem N68_3_eq (ρ call yc lim k x0 x1 x5 x6 H kn k0 R) :
 evL (cx ρ) call yc false 68 lim k (Code.at [1,1,1,0,1,0] c68) (sp 42 [(0,x0),(1,x1),(5,x5),(6,x6)]) H (kk (some [0,5]) kn [(0,(some [0,5]),k0)] R [4]) = N68_3 ρ call yc lim k x0 x1 x5 x6 H (fun x0 x5 H => k0 (sp 42 [(0,x0),(5,x5)]) H) := by
 have e : Code.at [1,1,1,0,1,0] c68 = .loop (Code.at [1,1,1,0,1,0,0] c68) := by kernel_rfl
 rw [e]
 unfold N68_3
 exact loop_node [0,1,5,6] (fun x : AV × AV => (sp 42 [(0,x0),(1,x1),(5,(x.1)),(6,(x.2))])) (fun (x : AV × AV) H kn => N68_3b ρ call yc lim k x0 x1 x.1 x.2 H (fun x5 x6 H => kn (x5,x6) H) (fun x0 x5 H => k0 (sp 42 [(0,x0),(5,x5)]) H)) (by kernel_rfl) (fun x => by kernel_rfl) (fun x H kn => N68_3b_eq ρ call yc lim k x0 x1 (x.1) (x.2) H kn k0 R) (x5,x6) (sp 42 [(0,x0),(1,x1),(5,x5),(6,x6)]) H (by kernel_rfl)
noncomputable def N68_2 (ρ : RO) (call : CallF) (yc : YieldF) (lim k : Nat) (x0 x1 x5 x6 : AV) (H : Heap) (kn : AV → AV → Heap → Res) : Res :=
 N68_3 ρ call yc lim k x0 x1 x5 x6 H kn
theorem N68_2_x (ρ call yc lim k J x0 x1 x5 x6 H kn R) :
 evX (cx ρ) call yc false 68 lim k J (Code.at [1,1,1,0,1] c68) (sp 42 [(0,x0),(1,x1),(5,x5),(6,x6)]) H (kk (some [0,5]) kn [] R [4]) =
 J (Code.at [1,1,1,0,1,0] c68) (sp 42 [(0,x0),(1,x1),(5,x5),(6,x6)]) H (kk (some [0,5]) kn [(0,(some [0,5]),kn)] R [4]) := by
 kernel_rfl
theorem N68_2_eq (ρ call yc lim k x0 x1 x5 x6 H kn R) :
 evL (cx ρ) call yc false 68 lim k (Code.at [1,1,1,0,1] c68) (sp 42 [(0,x0),(1,x1),(5,x5),(6,x6)]) H (kk (some [0,5]) kn [] R [4]) = N68_2 ρ call yc lim k x0 x1 x5 x6 H (fun x0 x5 H => kn (sp 42 [(0,x0),(5,x5)]) H) := by
 rw [evL_X,N68_2_x]
 simp only [← evL_X,N68_2,N68_3_eq]
noncomputable def L68 (ρ : RO) (call : CallF) (yc : YieldF) (lim k : Nat) (x0 x1 : AV) (H : Heap) : Res :=
 resK (call lim 94 [x0,x1] H) fun x10 H =>
 purK (binA Try.prog H .eql 3 x10 (.int .i64 (-1))) fun x12 =>
 condK x12
 (
 retK [x0] H)
 (
 purK (binA Try.prog H .add 3 x10 (.int .i64 1)) fun x15 =>
 N68_2 ρ call yc lim k x0 x1 x10 x15 H (fun x0_1 x5 H =>
 N68_1 ρ call yc lim k x0_1 x5 H retK))
theorem L68_x (ρ call yc lim k J x0 x1 H) :
 evX (cx ρ) call yc false 68 lim k J c68 ([x0,x1] ++ List.replicate 40 (.tup [])) H (kk none (fun s H => retK (gs [4] s) H) [] retK [4]) =
 resK (call lim 94 [x0,x1] H) fun x10 H =>
 purK (binA Try.prog H .eql 3 x10 (.int .i64 (-1))) fun x12 =>
 condK x12
 (
 retK [x0] H)
 (
 purK (binA Try.prog H .add 3 x10 (.int .i64 1)) fun x15 =>
 J (Code.at [1,1,1,0,1] c68) (sp 42 [(0,x0),(1,x1),(5,x10),(6,x15)]) H (kk (some [0,5]) (fun s H => J (Code.at [1,1,1,1] c68) s H (kk none (fun s H => retK (gs [4] s) H) [] retK [4])) [] retK [4])) := by
 kernel_rfl
theorem G68 (ρ call yc lim k x0 x1 H) :
 evL (cx ρ) call yc false 68 lim k c68 ([x0,x1] ++ List.replicate 40 (.tup [])) H (kk none (fun s H => retK (gs [4] s) H) [] retK [4]) = L68 ρ call yc lim k x0 x1 H := by
 rw [evL_X,L68_x]
 simp only [← evL_X,L68,N68_1_eq,N68_2_eq]
theorem E68 (ρ : RO) (k lim : Nat) (x0 x1 : AV) (H : Heap) : evCall (cx ρ) (k + 1) lim 68 [x0,x1] H = L68 ρ (evCall (cx ρ) k) (evCY (cx ρ) k).2 lim k x0 x1 H := by
 rw [evCall_body (cx ρ) k lim 68 _ H Try.f68 c68 [4] (by kernel_rfl) (by kernel_rfl) (by kernel_rfl) (by kernel_rfl) (by kernel_rfl)]
 exact G68 ρ (evCall (cx ρ) k) (evCY (cx ρ) k).2 lim k x0 x1 H
end Go.Proofs.Ytkmohjddojpdjaa
