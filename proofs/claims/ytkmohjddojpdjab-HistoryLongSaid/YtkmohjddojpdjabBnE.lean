/- Part 5: Hl7 Hl8 Hl9 Hl. -/
import Derived.Test.YtkmohjddojpdjabBnD
-- part Hl7
/- Functions, lifted. Printed by a program of this repo. -/
set_option linter.unusedVariables false
set_option linter.unusedSimpArgs false
set_option maxRecDepth 100000
set_option maxHeartbeats 4000000
namespace Go.Proofs.Ytkmohjddojpdjab
open Go.Ev Go.RowKit
-- slices.partitionEqualOrdered[string]
noncomputable def c39 : Code := Code.of Try.prog 39
noncomputable def N39_2 (ρ : RO) (call : CallF) (yc : YieldF) (lim k : Nat) (x9 : AV) (H : Heap) (R : KR) : Res :=
 R [x9] H
theorem N39_2_eq (ρ call yc lim k x9 H R) :
 evL (cx ρ) call yc false 39 lim k (Code.at [1,1,1,1] c39) (sp 84 [(9,x9)]) H (kk none (fun s H => R (gs [8] s) H) [] R [8]) = N39_2 ρ call yc lim k x9 H R := by
 kernel_rfl
noncomputable def N39_5 (ρ : RO) (call : CallF) (yc : YieldF) (lim k : Nat) (x0 x1 x9 x10 : AV) (H : Heap) (kn : AV → AV → Heap → Res) (k0 : AV → Heap → Res) : Res :=
 purK (binA Try.prog H .gtr 3 x9 x10) fun x64_1 =>
 condK x64_1
 (
 k0 x9 H)
 (
 purK (ixS 1 x0 x10) fun x71_1 =>
 purK (ld1 ρ H x71_1) fun x72_1 =>
 purK (ixS 1 x0 x9) fun x75_1 =>
 purK (ld1 ρ H x75_1) fun x76_1 =>
 purK (ixS 1 x0 x9) fun x77_1 =>
 effK H (stA lim H 1 x77_1 x72_1) fun _ H =>
 purK (ixS 1 x0 x10) fun x78_1 =>
 effK H (stA lim H 1 x78_1 x76_1) fun _ H =>
 purK (binA Try.prog H .add 3 x9 (.int .i64 1)) fun x80_1 =>
 purK (binA Try.prog H .sub 3 x10 (.int .i64 1)) fun x82_1 =>
 kn x80_1 x82_1 H)
theorem N39_5_eq (ρ call yc lim k x0 x1 x9 x10 H kn k1 k0 R) :
 evL (cx ρ) call yc false 39 lim k (Code.at [1,1,1,0,0,0,0,1,1] c39) (sp 84 [(0,x0),(1,x1),(9,x9),(10,x10)]) H (kk (some [0,1,9,10]) kn [(1,(some [0,1,9,10]),k1),(0,(some [9]),k0)] R [8]) = N39_5 ρ call yc lim k x0 x1 x9 x10 H (fun x9 x10 H => kn (sp 84 [(0,x0),(1,x1),(9,x9),(10,x10)]) H) (fun x9 H => k0 (sp 84 [(9,x9)]) H) := by
 kernel_rfl
noncomputable def N39_6b (ρ : RO) (call : CallF) (yc : YieldF) (lim k : Nat) (x0 x1 x9 x10 : AV) (H : Heap) (kn : AV → Heap → Res) (k4 : AV → AV → Heap → Res) : Res :=
 purK (binA Try.prog H .leq 3 x9 x10) fun x48_1 =>
 boolK (wantV x48_1 true) fun b1 => purK (bif b1 then some x0 else some (.tup [])) fun x50_1 =>
 boolK (wantV x48_1 true) fun b2 => purK (bif b2 then some x1 else some (.tup [])) fun x51_1 =>
 boolK (wantV x48_1 true) fun b3 => purK (bif b3 then ixS 1 x50_1 x51_1 else some (.tup [])) fun x52_1 =>
 boolK (wantV x48_1 true) fun b4 => purK (bif b4 then ld1 ρ H x52_1 else some (.tup [])) fun x53_1 =>
 boolK (wantV x48_1 true) fun b5 => purK (bif b5 then some x0 else some (.tup [])) fun x54_1 =>
 boolK (wantV x48_1 true) fun b6 => purK (bif b6 then some x10 else some (.tup [])) fun x55_1 =>
 boolK (wantV x48_1 true) fun b7 => purK (bif b7 then ixS 1 x54_1 x55_1 else some (.tup [])) fun x56_1 =>
 boolK (wantV x48_1 true) fun b8 => purK (bif b8 then ld1 ρ H x56_1 else some (.tup [])) fun x57_1 =>
 boolK (wantV x48_1 true) fun b9 => resK (gRes (some b9) H (call lim 38 [x53_1,x57_1] H)) fun x58_1 H => bif !b9 || ((!b8 || true) && ((!b4 || true) && true)) then
 purK (pickA x48_1 x58_1 (.bool false)) fun x59_1 =>
 condK x59_1
 (
 purK (binA Try.prog H .sub 3 x10 (.int .i64 1)) fun x61_1 =>
 kn x61_1 H)
 (
 k4 x9 x10 H)
 else .stop
theorem N39_6b_eq (ρ call yc lim k x0 x1 x9 x10 H kn k4 k1 k0 R) :
 evL (cx ρ) call yc false 39 lim k (Code.at [1,1,1,0,0,0,0,1,0,0,0] c39) (sp 84 [(0,x0),(1,x1),(9,x9),(10,x10)]) H (kk (some [0,1,9,10]) kn [(4,(some [0,1,9,10]),k4),(1,(some [0,1,9,10]),k1),(0,(some [9]),k0)] R [8]) = N39_6b ρ call yc lim k x0 x1 x9 x10 H (fun x10 H => kn (sp 84 [(0,x0),(1,x1),(9,x9),(10,x10)]) H) (fun x9 x10 H => k4 (sp 84 [(0,x0),(1,x1),(9,x9),(10,x10)]) H) := by
 kernel_rfl
noncomputable def N39_6 (ρ : RO) (call : CallF) (yc : YieldF) (lim k : Nat) (x0 x1 x9 x10 : AV) (H : Heap) (k4 : AV → AV → Heap → Res) : Res :=
 loopL (fun (x : AV) H kn => N39_6b ρ call yc lim k x0 x1 x9 x H (fun x10 H => kn x10 H) k4) k x10 H
theorem N39_6_eq (ρ call yc lim k x0 x1 x9 x10 H kn k4 k1 k0 R) :
 evL (cx ρ) call yc false 39 lim k (Code.at [1,1,1,0,0,0,0,1,0,0] c39) (sp 84 [(0,x0),(1,x1),(9,x9),(10,x10)]) H (kk (some [0,1,9,10]) kn [(4,(some [0,1,9,10]),k4),(1,(some [0,1,9,10]),k1),(0,(some [9]),k0)] R [8]) = N39_6 ρ call yc lim k x0 x1 x9 x10 H (fun x9 x10 H => k4 (sp 84 [(0,x0),(1,x1),(9,x9),(10,x10)]) H) := by
 have e : Code.at [1,1,1,0,0,0,0,1,0,0] c39 = .loop (Code.at [1,1,1,0,0,0,0,1,0,0,0] c39) := by kernel_rfl
 rw [e]
 unfold N39_6
 exact loop_node [0,1,9,10] (fun x : AV => (sp 84 [(0,x0),(1,x1),(9,x9),(10,(x))])) (fun (x : AV) H kn => N39_6b ρ call yc lim k x0 x1 x9 x H (fun x10 H => kn x10 H) (fun x9 x10 H => k4 (sp 84 [(0,x0),(1,x1),(9,x9),(10,x10)]) H)) (by kernel_rfl) (fun x => by kernel_rfl) (fun x H kn => N39_6b_eq ρ call yc lim k x0 x1 x9 (x) H kn k4 k1 k0 R) x10 (sp 84 [(0,x0),(1,x1),(9,x9),(10,x10)]) H (by kernel_rfl)
noncomputable def N39_4 (ρ : RO) (call : CallF) (yc : YieldF) (lim k : Nat) (x0 x1 x9 x10 : AV) (H : Heap) (kn : AV → AV → Heap → Res) (k0 : AV → Heap → Res) : Res :=
 N39_6 ρ call yc lim k x0 x1 x9 x10 H (fun x9_1 x10_1 H =>
 N39_5 ρ call yc lim k x0 x1 x9_1 x10_1 H kn k0)
theorem N39_4_x (ρ call yc lim k J x0 x1 x9 x10 H kn k1 k0 R) :
 evX (cx ρ) call yc false 39 lim k J (Code.at [1,1,1,0,0,0,0,1] c39) (sp 84 [(0,x0),(1,x1),(9,x9),(10,x10)]) H (kk (some [0,1,9,10]) kn [(1,(some [0,1,9,10]),k1),(0,(some [9]),k0)] R [8]) =
 J (Code.at [1,1,1,0,0,0,0,1,0,0] c39) (sp 84 [(0,x0),(1,x1),(9,x9),(10,x10)]) H (kk (some [0,1,9,10]) (fun s H => J (Code.at [1,1,1,0,0,0,0,1,1] c39) s H (kk (some [0,1,9,10]) kn [(1,(some [0,1,9,10]),k1),(0,(some [9]),k0)] R [8])) [(4,(some [0,1,9,10]),(fun s H => J (Code.at [1,1,1,0,0,0,0,1,1] c39) s H (kk (some [0,1,9,10]) kn [(1,(some [0,1,9,10]),k1),(0,(some [9]),k0)] R [8]))),(1,(some [0,1,9,10]),k1),(0,(some [9]),k0)] R [8]) := by
 kernel_rfl
theorem N39_4_eq (ρ call yc lim k x0 x1 x9 x10 H kn k1 k0 R) :
 evL (cx ρ) call yc false 39 lim k (Code.at [1,1,1,0,0,0,0,1] c39) (sp 84 [(0,x0),(1,x1),(9,x9),(10,x10)]) H (kk (some [0,1,9,10]) kn [(1,(some [0,1,9,10]),k1),(0,(some [9]),k0)] R [8]) = N39_4 ρ call yc lim k x0 x1 x9 x10 H (fun x9 x10 H => kn (sp 84 [(0,x0),(1,x1),(9,x9),(10,x10)]) H) (fun x9 H => k0 (sp 84 [(9,x9)]) H) := by
 rw [evL_X,N39_4_x]
 simp only [← evL_X,N39_4,N39_5_eq,N39_6_eq]
noncomputable def N39_7b (ρ : RO) (call : CallF) (yc : YieldF) (lim k : Nat) (x0 x1 x9 x10 : AV) (H : Heap) (kn : AV → Heap → Res) (k2 : AV → AV → Heap → Res) : Res :=
 purK (binA Try.prog H .leq 3 x9 x10) fun x31_1 =>
 boolK (wantV x31_1 true) fun b1 => purK (bif b1 then some x0 else some (.tup [])) fun x33_1 =>
 boolK (wantV x31_1 true) fun b2 => purK (bif b2 then some x1 else some (.tup [])) fun x34_1 =>
 boolK (wantV x31_1 true) fun b3 => purK (bif b3 then ixS 1 x33_1 x34_1 else some (.tup [])) fun x35_1 =>
 boolK (wantV x31_1 true) fun b4 => purK (bif b4 then ld1 ρ H x35_1 else some (.tup [])) fun x36_1 =>
 boolK (wantV x31_1 true) fun b5 => purK (bif b5 then some x0 else some (.tup [])) fun x37_1 =>
 boolK (wantV x31_1 true) fun b6 => purK (bif b6 then some x9 else some (.tup [])) fun x38_1 =>
 boolK (wantV x31_1 true) fun b7 => purK (bif b7 then ixS 1 x37_1 x38_1 else some (.tup [])) fun x39_1 =>
 boolK (wantV x31_1 true) fun b8 => purK (bif b8 then ld1 ρ H x39_1 else some (.tup [])) fun x40_1 =>
 boolK (wantV x31_1 true) fun b9 => resK (gRes (some b9) H (call lim 38 [x36_1,x40_1] H)) fun x41_1 H => bif !b9 || ((!b8 || true) && ((!b4 || true) && true)) then
 purK (gPur (wantV x31_1 true) (unA .not x41_1)) fun x42_1 =>
 purK (pickA x31_1 x42_1 (.bool false)) fun x43_1 =>
 condK x43_1
 (
 purK (binA Try.prog H .add 3 x9 (.int .i64 1)) fun x45_1 =>
 kn x45_1 H)
 (
 k2 x9 x10 H)
 else .stop
theorem N39_7b_eq (ρ call yc lim k x0 x1 x9 x10 H kn k2 k1 k0 R) :
 evL (cx ρ) call yc false 39 lim k (Code.at [1,1,1,0,0,0,0,0,0,0] c39) (sp 84 [(0,x0),(1,x1),(9,x9),(10,x10)]) H (kk (some [0,1,9,10]) kn [(2,(some [0,1,9,10]),k2),(1,(some [0,1,9,10]),k1),(0,(some [9]),k0)] R [8]) = N39_7b ρ call yc lim k x0 x1 x9 x10 H (fun x9 H => kn (sp 84 [(0,x0),(1,x1),(9,x9),(10,x10)]) H) (fun x9 x10 H => k2 (sp 84 [(0,x0),(1,x1),(9,x9),(10,x10)]) H) := by
 kernel_rfl
noncomputable def N39_7 (ρ : RO) (call : CallF) (yc : YieldF) (lim k : Nat) (x0 x1 x9 x10 : AV) (H : Heap) (k2 : AV → AV → Heap → Res) : Res :=
 loopL (fun (x : AV) H kn => N39_7b ρ call yc lim k x0 x1 x x10 H (fun x9 H => kn x9 H) k2) k x9 H
theorem N39_7_eq (ρ call yc lim k x0 x1 x9 x10 H kn k2 k1 k0 R) :
 evL (cx ρ) call yc false 39 lim k (Code.at [1,1,1,0,0,0,0,0,0] c39) (sp 84 [(0,x0),(1,x1),(9,x9),(10,x10)]) H (kk (some [0,1,9,10]) kn [(2,(some [0,1,9,10]),k2),(1,(some [0,1,9,10]),k1),(0,(some [9]),k0)] R [8]) = N39_7 ρ call yc lim k x0 x1 x9 x10 H (fun x9 x10 H => k2 (sp 84 [(0,x0),(1,x1),(9,x9),(10,x10)]) H) := by
 have e : Code.at [1,1,1,0,0,0,0,0,0] c39 = .loop (Code.at [1,1,1,0,0,0,0,0,0,0] c39) := by kernel_rfl
 rw [e]
 unfold N39_7
 exact loop_node [0,1,9,10] (fun x : AV => (sp 84 [(0,x0),(1,x1),(9,(x)),(10,x10)])) (fun (x : AV) H kn => N39_7b ρ call yc lim k x0 x1 x x10 H (fun x9 H => kn x9 H) (fun x9 x10 H => k2 (sp 84 [(0,x0),(1,x1),(9,x9),(10,x10)]) H)) (by kernel_rfl) (fun x => by kernel_rfl) (fun x H kn => N39_7b_eq ρ call yc lim k x0 x1 (x) x10 H kn k2 k1 k0 R) x9 (sp 84 [(0,x0),(1,x1),(9,x9),(10,x10)]) H (by kernel_rfl)
noncomputable def N39_3b (ρ : RO) (call : CallF) (yc : YieldF) (lim k : Nat) (x0 x1 x9 x10 : AV) (H : Heap) (kn : AV → AV → Heap → Res) (k0 : AV → Heap → Res) : Res :=
 N39_7 ρ call yc lim k x0 x1 x9 x10 H (fun x9_1 x10_1 H =>
 N39_4 ρ call yc lim k x0 x1 x9_1 x10_1 H kn k0)
theorem N39_3b_x (ρ call yc lim k J x0 x1 x9 x10 H kn k0 R) :
 evX (cx ρ) call yc false 39 lim k J (Code.at [1,1,1,0,0,0] c39) (sp 84 [(0,x0),(1,x1),(9,x9),(10,x10)]) H (kk (some [0,1,9,10]) kn [(0,(some [9]),k0)] R [8]) =
 J (Code.at [1,1,1,0,0,0,0,0,0] c39) (sp 84 [(0,x0),(1,x1),(9,x9),(10,x10)]) H (kk (some [0,1,9,10]) (fun s H => J (Code.at [1,1,1,0,0,0,0,1] c39) s H (kk (some [0,1,9,10]) kn [(1,(some [0,1,9,10]),kn),(0,(some [9]),k0)] R [8])) [(2,(some [0,1,9,10]),(fun s H => J (Code.at [1,1,1,0,0,0,0,1] c39) s H (kk (some [0,1,9,10]) kn [(1,(some [0,1,9,10]),kn),(0,(some [9]),k0)] R [8]))),(1,(some [0,1,9,10]),kn),(0,(some [9]),k0)] R [8]) := by
 kernel_rfl
theorem N39_3b_eq (ρ call yc lim k x0 x1 x9 x10 H kn k0 R) :
 evL (cx ρ) call yc false 39 lim k (Code.at [1,1,1,0,0,0] c39) (sp 84 [(0,x0),(1,x1),(9,x9),(10,x10)]) H (kk (some [0,1,9,10]) kn [(0,(some [9]),k0)] R [8]) = N39_3b ρ call yc lim k x0 x1 x9 x10 H (fun x9 x10 H => kn (sp 84 [(0,x0),(1,x1),(9,x9),(10,x10)]) H) (fun x9 H => k0 (sp 84 [(9,x9)]) H) := by
 rw [evL_X,N39_3b_x]
 simp only [← evL_X,N39_3b,N39_4_eq,N39_7_eq]
noncomputable def N39_3 (ρ : RO) (call : CallF) (yc : YieldF) (lim k : Nat) (x0 x1 x9 x10 : AV) (H : Heap) (k0 : AV → Heap → Res) : Res :=
 loopL (fun (x : AV × AV) H kn => N39_3b ρ call yc lim k x0 x1 x.1 x.2 H (fun x9 x10 H => kn (x9,x10) H) k0) k (x9,x10) H
theorem N39_3_eq (ρ call yc lim k x0 x1 x9 x10 H kn k0 R) :
 evL (cx ρ) call yc false 39 lim k (Code.at [1,1,1,0,0] c39) (sp 84 [(0,x0),(1,x1),(9,x9),(10,x10)]) H (kk (some [9]) kn [(0,(some [9]),k0)] R [8]) = N39_3 ρ call yc lim k x0 x1 x9 x10 H (fun x9 H => k0 (sp 84 [(9,x9)]) H) := by
 have e : Code.at [1,1,1,0,0] c39 = .loop (Code.at [1,1,1,0,0,0] c39) := by kernel_rfl
 rw [e]
 unfold N39_3
 exact loop_node [0,1,9,10] (fun x : AV × AV => (sp 84 [(0,x0),(1,x1),(9,(x.1)),(10,(x.2))])) (fun (x : AV × AV) H kn => N39_3b ρ call yc lim k x0 x1 x.1 x.2 H (fun x9 x10 H => kn (x9,x10) H) (fun x9 H => k0 (sp 84 [(9,x9)]) H)) (by kernel_rfl) (fun x => by kernel_rfl) (fun x H kn => N39_3b_eq ρ call yc lim k x0 x1 (x.1) (x.2) H kn k0 R) (x9,x10) (sp 84 [(0,x0),(1,x1),(9,x9),(10,x10)]) H (by kernel_rfl)
noncomputable def N39_1 (ρ : RO) (call : CallF) (yc : YieldF) (lim k : Nat) (x0 x1 x9 x10 : AV) (H : Heap) (R : KR) : Res :=
 N39_3 ρ call yc lim k x0 x1 x9 x10 H (fun x9_1 H =>
 N39_2 ρ call yc lim k x9_1 H R)
theorem N39_1_x (ρ call yc lim k J x0 x1 x9 x10 H R) :
 evX (cx ρ) call yc false 39 lim k J (Code.at [1,1,1] c39) (sp 84 [(0,x0),(1,x1),(9,x9),(10,x10)]) H (kk none (fun s H => R (gs [8] s) H) [] R [8]) =
 J (Code.at [1,1,1,0,0] c39) (sp 84 [(0,x0),(1,x1),(9,x9),(10,x10)]) H (kk (some [9]) (fun s H => J (Code.at [1,1,1,1] c39) s H (kk none (fun s H => R (gs [8] s) H) [] R [8])) [(0,(some [9]),(fun s H => J (Code.at [1,1,1,1] c39) s H (kk none (fun s H => R (gs [8] s) H) [] R [8])))] R [8]) := by
 kernel_rfl
theorem N39_1_eq (ρ call yc lim k x0 x1 x9 x10 H R) :
 evL (cx ρ) call yc false 39 lim k (Code.at [1,1,1] c39) (sp 84 [(0,x0),(1,x1),(9,x9),(10,x10)]) H (kk none (fun s H => R (gs [8] s) H) [] R [8]) = N39_1 ρ call yc lim k x0 x1 x9 x10 H R := by
 rw [evL_X,N39_1_x]
 simp only [← evL_X,N39_1,N39_2_eq,N39_3_eq]
noncomputable def L39 (ρ : RO) (call : CallF) (yc : YieldF) (lim k : Nat) (x0 x1 x2 x3 : AV) (H : Heap) : Res :=
 purK (ixS 1 x0 x3) fun x17 =>
 purK (ld1 ρ H x17) fun x18 =>
 purK (ixS 1 x0 x1) fun x21 =>
 purK (ld1 ρ H x21) fun x22 =>
 purK (ixS 1 x0 x1) fun x23 =>
 effK H (stA lim H 1 x23 x18) fun _ H =>
 purK (ixS 1 x0 x3) fun x24 =>
 effK H (stA lim H 1 x24 x22) fun _ H =>
 purK (binA Try.prog H .add 3 x1 (.int .i64 1)) fun x26 =>
 purK (binA Try.prog H .sub 3 x2 (.int .i64 1)) fun x28 =>
 N39_1 ρ call yc lim k x0 x1 x26 x28 H retK
theorem L39_x (ρ call yc lim k J x0 x1 x2 x3 H) :
 evX (cx ρ) call yc false 39 lim k J c39 ([x0,x1,x2,x3] ++ List.replicate 80 (.tup [])) H (kk none (fun s H => retK (gs [8] s) H) [] retK [8]) =
 purK (ixS 1 x0 x3) fun x17 =>
 purK (ld1 ρ H x17) fun x18 =>
 purK (ixS 1 x0 x1) fun x21 =>
 purK (ld1 ρ H x21) fun x22 =>
 purK (ixS 1 x0 x1) fun x23 =>
 effK H (stA lim H 1 x23 x18) fun _ H =>
 purK (ixS 1 x0 x3) fun x24 =>
 effK H (stA lim H 1 x24 x22) fun _ H =>
 purK (binA Try.prog H .add 3 x1 (.int .i64 1)) fun x26 =>
 purK (binA Try.prog H .sub 3 x2 (.int .i64 1)) fun x28 =>
 J (Code.at [1,1,1] c39) (sp 84 [(0,x0),(1,x1),(9,x26),(10,x28)]) H (kk none (fun s H => retK (gs [8] s) H) [] retK [8]) := by
 kernel_rfl
theorem G39 (ρ call yc lim k x0 x1 x2 x3 H) :
 evL (cx ρ) call yc false 39 lim k c39 ([x0,x1,x2,x3] ++ List.replicate 80 (.tup [])) H (kk none (fun s H => retK (gs [8] s) H) [] retK [8]) = L39 ρ call yc lim k x0 x1 x2 x3 H := by
 rw [evL_X,L39_x]
 simp only [← evL_X,L39,N39_1_eq]
theorem E39 (ρ : RO) (k lim : Nat) (x0 x1 x2 x3 : AV) (H : Heap) : evCall (cx ρ) (k + 1) lim 39 [x0,x1,x2,x3] H = L39 ρ (evCall (cx ρ) k) (evCY (cx ρ) k).2 lim k x0 x1 x2 x3 H := by
 rw [evCall_body (cx ρ) k lim 39 _ H Try.f39 c39 [8] (by kernel_rfl) (by kernel_rfl) (by kernel_rfl) (by kernel_rfl) (by kernel_rfl)]
 exact G39 ρ (evCall (cx ρ) k) (evCY (cx ρ) k).2 lim k x0 x1 x2 x3 H
-- slices.partitionOrdered[string]
noncomputable def c40 : Code := Code.of Try.prog 40
noncomputable def N40_6 (ρ : RO) (call : CallF) (yc : YieldF) (lim k : Nat) (x0 x1 x11 : AV) (H : Heap) (R : KR) : Res :=
 purK (ixS 1 x0 x1) fun x159_1 =>
 purK (ld1 ρ H x159_1) fun x160_1 =>
 purK (ixS 1 x0 x11) fun x163_1 =>
 purK (ld1 ρ H x163_1) fun x164_1 =>
 purK (ixS 1 x0 x11) fun x165_1 =>
 effK H (stA lim H 1 x165_1 x160_1) fun _ H =>
 purK (ixS 1 x0 x1) fun x166_1 =>
 effK H (stA lim H 1 x166_1 x164_1) fun _ H =>
 R [x11,(.bool false)] H
theorem N40_6_eq (ρ call yc lim k x0 x1 x11 H R) :
 evL (cx ρ) call yc false 40 lim k (Code.at [1,1,1,1,1,1,1,1,1,1] c40) (sp 168 [(0,x0),(1,x1),(11,x11)]) H (kk none (fun s H => R (gs [8,9] s) H) [] R [8,9]) = N40_6 ρ call yc lim k x0 x1 x11 H R := by
 kernel_rfl
noncomputable def N40_9 (ρ : RO) (call : CallF) (yc : YieldF) (lim k : Nat) (x0 x1 x10 x11 : AV) (H : Heap) (kn : AV → AV → Heap → Res) (k4 : AV → AV → AV → Heap → Res) : Res :=
 purK (binA Try.prog H .gtr 3 x10 x11) fun x134_1 =>
 condK x134_1
 (
 k4 x0 x1 x11 H)
 (
 purK (ixS 1 x0 x11) fun x141_1 =>
 purK (ld1 ρ H x141_1) fun x142_1 =>
 purK (ixS 1 x0 x10) fun x145_1 =>
 purK (ld1 ρ H x145_1) fun x146_1 =>
 purK (ixS 1 x0 x10) fun x147_1 =>
 effK H (stA lim H 1 x147_1 x142_1) fun _ H =>
 purK (ixS 1 x0 x11) fun x148_1 =>
 effK H (stA lim H 1 x148_1 x146_1) fun _ H =>
 purK (binA Try.prog H .add 3 x10 (.int .i64 1)) fun x150_1 =>
 purK (binA Try.prog H .sub 3 x11 (.int .i64 1)) fun x152_1 =>
 kn x150_1 x152_1 H)
theorem N40_9_eq (ρ call yc lim k x0 x1 x10 x11 H kn k5 k4 R) :
 evL (cx ρ) call yc false 40 lim k (Code.at [1,1,1,1,1,1,1,1,1,0,0,0,0,1,1] c40) (sp 168 [(0,x0),(1,x1),(10,x10),(11,x11)]) H (kk (some [0,1,10,11]) kn [(5,(some [0,1,10,11]),k5),(4,(some [0,1,11]),k4)] R [8,9]) = N40_9 ρ call yc lim k x0 x1 x10 x11 H (fun x10 x11 H => kn (sp 168 [(0,x0),(1,x1),(10,x10),(11,x11)]) H) (fun x0 x1 x11 H => k4 (sp 168 [(0,x0),(1,x1),(11,x11)]) H) := by
 kernel_rfl
noncomputable def N40_10b (ρ : RO) (call : CallF) (yc : YieldF) (lim k : Nat) (x0 x1 x10 x11 : AV) (H : Heap) (kn : AV → Heap → Res) (k8 : AV → AV → Heap → Res) : Res :=
 purK (binA Try.prog H .leq 3 x10 x11) fun x117_1 =>
 boolK (wantV x117_1 true) fun b1 => purK (bif b1 then some x0 else some (.tup [])) fun x119_1 =>
 boolK (wantV x117_1 true) fun b2 => purK (bif b2 then some x11 else some (.tup [])) fun x120_1 =>
 boolK (wantV x117_1 true) fun b3 => purK (bif b3 then ixS 1 x119_1 x120_1 else some (.tup [])) fun x121_1 =>
 boolK (wantV x117_1 true) fun b4 => purK (bif b4 then ld1 ρ H x121_1 else some (.tup [])) fun x122_1 =>
 boolK (wantV x117_1 true) fun b5 => purK (bif b5 then some x0 else some (.tup [])) fun x123_1 =>
 boolK (wantV x117_1 true) fun b6 => purK (bif b6 then some x1 else some (.tup [])) fun x124_1 =>
 boolK (wantV x117_1 true) fun b7 => purK (bif b7 then ixS 1 x123_1 x124_1 else some (.tup [])) fun x125_1 =>
 boolK (wantV x117_1 true) fun b8 => purK (bif b8 then ld1 ρ H x125_1 else some (.tup [])) fun x126_1 =>
 boolK (wantV x117_1 true) fun b9 => resK (gRes (some b9) H (call lim 38 [x122_1,x126_1] H)) fun x127_1 H => bif !b9 || ((!b8 || true) && ((!b4 || true) && true)) then
 purK (gPur (wantV x117_1 true) (unA .not x127_1)) fun x128_1 =>
 purK (pickA x117_1 x128_1 (.bool false)) fun x129_1 =>
 condK x129_1
 (
 purK (binA Try.prog H .sub 3 x11 (.int .i64 1)) fun x131_1 =>
 kn x131_1 H)
 (
 k8 x10 x11 H)
 else .stop
theorem N40_10b_eq (ρ call yc lim k x0 x1 x10 x11 H kn k8 k5 k4 R) :
 evL (cx ρ) call yc false 40 lim k (Code.at [1,1,1,1,1,1,1,1,1,0,0,0,0,1,0,0,0] c40) (sp 168 [(0,x0),(1,x1),(10,x10),(11,x11)]) H (kk (some [0,1,10,11]) kn [(8,(some [0,1,10,11]),k8),(5,(some [0,1,10,11]),k5),(4,(some [0,1,11]),k4)] R [8,9]) = N40_10b ρ call yc lim k x0 x1 x10 x11 H (fun x11 H => kn (sp 168 [(0,x0),(1,x1),(10,x10),(11,x11)]) H) (fun x10 x11 H => k8 (sp 168 [(0,x0),(1,x1),(10,x10),(11,x11)]) H) := by
 kernel_rfl
noncomputable def N40_10 (ρ : RO) (call : CallF) (yc : YieldF) (lim k : Nat) (x0 x1 x10 x11 : AV) (H : Heap) (k8 : AV → AV → Heap → Res) : Res :=
 loopL (fun (x : AV) H kn => N40_10b ρ call yc lim k x0 x1 x10 x H (fun x11 H => kn x11 H) k8) k x11 H
theorem N40_10_eq (ρ call yc lim k x0 x1 x10 x11 H kn k8 k5 k4 R) :
 evL (cx ρ) call yc false 40 lim k (Code.at [1,1,1,1,1,1,1,1,1,0,0,0,0,1,0,0] c40) (sp 168 [(0,x0),(1,x1),(10,x10),(11,x11)]) H (kk (some [0,1,10,11]) kn [(8,(some [0,1,10,11]),k8),(5,(some [0,1,10,11]),k5),(4,(some [0,1,11]),k4)] R [8,9]) = N40_10 ρ call yc lim k x0 x1 x10 x11 H (fun x10 x11 H => k8 (sp 168 [(0,x0),(1,x1),(10,x10),(11,x11)]) H) := by
 have e : Code.at [1,1,1,1,1,1,1,1,1,0,0,0,0,1,0,0] c40 = .loop (Code.at [1,1,1,1,1,1,1,1,1,0,0,0,0,1,0,0,0] c40) := by kernel_rfl
 rw [e]
 unfold N40_10
 exact loop_node [0,1,10,11] (fun x : AV => (sp 168 [(0,x0),(1,x1),(10,x10),(11,(x))])) (fun (x : AV) H kn => N40_10b ρ call yc lim k x0 x1 x10 x H (fun x11 H => kn x11 H) (fun x10 x11 H => k8 (sp 168 [(0,x0),(1,x1),(10,x10),(11,x11)]) H)) (by kernel_rfl) (fun x => by kernel_rfl) (fun x H kn => N40_10b_eq ρ call yc lim k x0 x1 x10 (x) H kn k8 k5 k4 R) x11 (sp 168 [(0,x0),(1,x1),(10,x10),(11,x11)]) H (by kernel_rfl)
noncomputable def N40_8 (ρ : RO) (call : CallF) (yc : YieldF) (lim k : Nat) (x0 x1 x10 x11 : AV) (H : Heap) (kn : AV → AV → Heap → Res) (k4 : AV → AV → AV → Heap → Res) : Res :=
 N40_10 ρ call yc lim k x0 x1 x10 x11 H (fun x10_1 x11_1 H =>
 N40_9 ρ call yc lim k x0 x1 x10_1 x11_1 H kn k4)
theorem N40_8_x (ρ call yc lim k J x0 x1 x10 x11 H kn k5 k4 R) :
 evX (cx ρ) call yc false 40 lim k J (Code.at [1,1,1,1,1,1,1,1,1,0,0,0,0,1] c40) (sp 168 [(0,x0),(1,x1),(10,x10),(11,x11)]) H (kk (some [0,1,10,11]) kn [(5,(some [0,1,10,11]),k5),(4,(some [0,1,11]),k4)] R [8,9]) =
 J (Code.at [1,1,1,1,1,1,1,1,1,0,0,0,0,1,0,0] c40) (sp 168 [(0,x0),(1,x1),(10,x10),(11,x11)]) H (kk (some [0,1,10,11]) (fun s H => J (Code.at [1,1,1,1,1,1,1,1,1,0,0,0,0,1,1] c40) s H (kk (some [0,1,10,11]) kn [(5,(some [0,1,10,11]),k5),(4,(some [0,1,11]),k4)] R [8,9])) [(8,(some [0,1,10,11]),(fun s H => J (Code.at [1,1,1,1,1,1,1,1,1,0,0,0,0,1,1] c40) s H (kk (some [0,1,10,11]) kn [(5,(some [0,1,10,11]),k5),(4,(some [0,1,11]),k4)] R [8,9]))),(5,(some [0,1,10,11]),k5),(4,(some [0,1,11]),k4)] R [8,9]) := by
 kernel_rfl
theorem N40_8_eq (ρ call yc lim k x0 x1 x10 x11 H kn k5 k4 R) :
 evL (cx ρ) call yc false 40 lim k (Code.at [1,1,1,1,1,1,1,1,1,0,0,0,0,1] c40) (sp 168 [(0,x0),(1,x1),(10,x10),(11,x11)]) H (kk (some [0,1,10,11]) kn [(5,(some [0,1,10,11]),k5),(4,(some [0,1,11]),k4)] R [8,9]) = N40_8 ρ call yc lim k x0 x1 x10 x11 H (fun x10 x11 H => kn (sp 168 [(0,x0),(1,x1),(10,x10),(11,x11)]) H) (fun x0 x1 x11 H => k4 (sp 168 [(0,x0),(1,x1),(11,x11)]) H) := by
 rw [evL_X,N40_8_x]
 simp only [← evL_X,N40_8,N40_10_eq,N40_9_eq]
noncomputable def N40_11b (ρ : RO) (call : CallF) (yc : YieldF) (lim k : Nat) (x0 x1 x10 x11 : AV) (H : Heap) (kn : AV → Heap → Res) (k6 : AV → AV → Heap → Res) : Res :=
 purK (binA Try.prog H .leq 3 x10 x11) fun x101_1 =>
 boolK (wantV x101_1 true) fun b1 => purK (bif b1 then some x0 else some (.tup [])) fun x103_1 =>
 boolK (wantV x101_1 true) fun b2 => purK (bif b2 then some x10 else some (.tup [])) fun x104_1 =>
 boolK (wantV x101_1 true) fun b3 => purK (bif b3 then ixS 1 x103_1 x104_1 else some (.tup [])) fun x105_1 =>
 boolK (wantV x101_1 true) fun b4 => purK (bif b4 then ld1 ρ H x105_1 else some (.tup [])) fun x106_1 =>
 boolK (wantV x101_1 true) fun b5 => purK (bif b5 then some x0 else some (.tup [])) fun x107_1 =>
 boolK (wantV x101_1 true) fun b6 => purK (bif b6 then some x1 else some (.tup [])) fun x108_1 =>
 boolK (wantV x101_1 true) fun b7 => purK (bif b7 then ixS 1 x107_1 x108_1 else some (.tup [])) fun x109_1 =>
 boolK (wantV x101_1 true) fun b8 => purK (bif b8 then ld1 ρ H x109_1 else some (.tup [])) fun x110_1 =>
 boolK (wantV x101_1 true) fun b9 => resK (gRes (some b9) H (call lim 38 [x106_1,x110_1] H)) fun x111_1 H => bif !b9 || ((!b8 || true) && ((!b4 || true) && true)) then
 purK (pickA x101_1 x111_1 (.bool false)) fun x112_1 =>
 condK x112_1
 (
 purK (binA Try.prog H .add 3 x10 (.int .i64 1)) fun x114_1 =>
 kn x114_1 H)
 (
 k6 x10 x11 H)
 else .stop
theorem N40_11b_eq (ρ call yc lim k x0 x1 x10 x11 H kn k6 k5 k4 R) :
 evL (cx ρ) call yc false 40 lim k (Code.at [1,1,1,1,1,1,1,1,1,0,0,0,0,0,0,0] c40) (sp 168 [(0,x0),(1,x1),(10,x10),(11,x11)]) H (kk (some [0,1,10,11]) kn [(6,(some [0,1,10,11]),k6),(5,(some [0,1,10,11]),k5),(4,(some [0,1,11]),k4)] R [8,9]) = N40_11b ρ call yc lim k x0 x1 x10 x11 H (fun x10 H => kn (sp 168 [(0,x0),(1,x1),(10,x10),(11,x11)]) H) (fun x10 x11 H => k6 (sp 168 [(0,x0),(1,x1),(10,x10),(11,x11)]) H) := by
 kernel_rfl
noncomputable def N40_11 (ρ : RO) (call : CallF) (yc : YieldF) (lim k : Nat) (x0 x1 x10 x11 : AV) (H : Heap) (k6 : AV → AV → Heap → Res) : Res :=
 loopL (fun (x : AV) H kn => N40_11b ρ call yc lim k x0 x1 x x11 H (fun x10 H => kn x10 H) k6) k x10 H
theorem N40_11_eq (ρ call yc lim k x0 x1 x10 x11 H kn k6 k5 k4 R) :
 evL (cx ρ) call yc false 40 lim k (Code.at [1,1,1,1,1,1,1,1,1,0,0,0,0,0,0] c40) (sp 168 [(0,x0),(1,x1),(10,x10),(11,x11)]) H (kk (some [0,1,10,11]) kn [(6,(some [0,1,10,11]),k6),(5,(some [0,1,10,11]),k5),(4,(some [0,1,11]),k4)] R [8,9]) = N40_11 ρ call yc lim k x0 x1 x10 x11 H (fun x10 x11 H => k6 (sp 168 [(0,x0),(1,x1),(10,x10),(11,x11)]) H) := by
 have e : Code.at [1,1,1,1,1,1,1,1,1,0,0,0,0,0,0] c40 = .loop (Code.at [1,1,1,1,1,1,1,1,1,0,0,0,0,0,0,0] c40) := by kernel_rfl
 rw [e]
 unfold N40_11
 exact loop_node [0,1,10,11] (fun x : AV => (sp 168 [(0,x0),(1,x1),(10,(x)),(11,x11)])) (fun (x : AV) H kn => N40_11b ρ call yc lim k x0 x1 x x11 H (fun x10 H => kn x10 H) (fun x10 x11 H => k6 (sp 168 [(0,x0),(1,x1),(10,x10),(11,x11)]) H)) (by kernel_rfl) (fun x => by kernel_rfl) (fun x H kn => N40_11b_eq ρ call yc lim k x0 x1 (x) x11 H kn k6 k5 k4 R) x10 (sp 168 [(0,x0),(1,x1),(10,x10),(11,x11)]) H (by kernel_rfl)
noncomputable def N40_7b (ρ : RO) (call : CallF) (yc : YieldF) (lim k : Nat) (x0 x1 x10 x11 : AV) (H : Heap) (kn : AV → AV → Heap → Res) (k4 : AV → AV → AV → Heap → Res) : Res :=
 N40_11 ρ call yc lim k x0 x1 x10 x11 H (fun x10_1 x11_1 H =>
 N40_8 ρ call yc lim k x0 x1 x10_1 x11_1 H kn k4)
theorem N40_7b_x (ρ call yc lim k J x0 x1 x10 x11 H kn k4 R) :
 evX (cx ρ) call yc false 40 lim k J (Code.at [1,1,1,1,1,1,1,1,1,0,0,0] c40) (sp 168 [(0,x0),(1,x1),(10,x10),(11,x11)]) H (kk (some [0,1,10,11]) kn [(4,(some [0,1,11]),k4)] R [8,9]) =
 J (Code.at [1,1,1,1,1,1,1,1,1,0,0,0,0,0,0] c40) (sp 168 [(0,x0),(1,x1),(10,x10),(11,x11)]) H (kk (some [0,1,10,11]) (fun s H => J (Code.at [1,1,1,1,1,1,1,1,1,0,0,0,0,1] c40) s H (kk (some [0,1,10,11]) kn [(5,(some [0,1,10,11]),kn),(4,(some [0,1,11]),k4)] R [8,9])) [(6,(some [0,1,10,11]),(fun s H => J (Code.at [1,1,1,1,1,1,1,1,1,0,0,0,0,1] c40) s H (kk (some [0,1,10,11]) kn [(5,(some [0,1,10,11]),kn),(4,(some [0,1,11]),k4)] R [8,9]))),(5,(some [0,1,10,11]),kn),(4,(some [0,1,11]),k4)] R [8,9]) := by
 kernel_rfl
theorem N40_7b_eq (ρ call yc lim k x0 x1 x10 x11 H kn k4 R) :
 evL (cx ρ) call yc false 40 lim k (Code.at [1,1,1,1,1,1,1,1,1,0,0,0] c40) (sp 168 [(0,x0),(1,x1),(10,x10),(11,x11)]) H (kk (some [0,1,10,11]) kn [(4,(some [0,1,11]),k4)] R [8,9]) = N40_7b ρ call yc lim k x0 x1 x10 x11 H (fun x10 x11 H => kn (sp 168 [(0,x0),(1,x1),(10,x10),(11,x11)]) H) (fun x0 x1 x11 H => k4 (sp 168 [(0,x0),(1,x1),(11,x11)]) H) := by
 rw [evL_X,N40_7b_x]
 simp only [← evL_X,N40_7b,N40_11_eq,N40_8_eq]
noncomputable def N40_7 (ρ : RO) (call : CallF) (yc : YieldF) (lim k : Nat) (x0 x1 x10 x11 : AV) (H : Heap) (k4 : AV → AV → AV → Heap → Res) : Res :=
 loopL (fun (x : AV × AV) H kn => N40_7b ρ call yc lim k x0 x1 x.1 x.2 H (fun x10 x11 H => kn (x10,x11) H) k4) k (x10,x11) H
theorem N40_7_eq (ρ call yc lim k x0 x1 x10 x11 H kn k4 R) :
 evL (cx ρ) call yc false 40 lim k (Code.at [1,1,1,1,1,1,1,1,1,0,0] c40) (sp 168 [(0,x0),(1,x1),(10,x10),(11,x11)]) H (kk (some [0,1,11]) kn [(4,(some [0,1,11]),k4)] R [8,9]) = N40_7 ρ call yc lim k x0 x1 x10 x11 H (fun x0 x1 x11 H => k4 (sp 168 [(0,x0),(1,x1),(11,x11)]) H) := by
 have e : Code.at [1,1,1,1,1,1,1,1,1,0,0] c40 = .loop (Code.at [1,1,1,1,1,1,1,1,1,0,0,0] c40) := by kernel_rfl
 rw [e]
 unfold N40_7
 exact loop_node [0,1,10,11] (fun x : AV × AV => (sp 168 [(0,x0),(1,x1),(10,(x.1)),(11,(x.2))])) (fun (x : AV × AV) H kn => N40_7b ρ call yc lim k x0 x1 x.1 x.2 H (fun x10 x11 H => kn (x10,x11) H) (fun x0 x1 x11 H => k4 (sp 168 [(0,x0),(1,x1),(11,x11)]) H)) (by kernel_rfl) (fun x => by kernel_rfl) (fun x H kn => N40_7b_eq ρ call yc lim k x0 x1 (x.1) (x.2) H kn k4 R) (x10,x11) (sp 168 [(0,x0),(1,x1),(10,x10),(11,x11)]) H (by kernel_rfl)
noncomputable def N40_5 (ρ : RO) (call : CallF) (yc : YieldF) (lim k : Nat) (x0 x1 x10 x11 : AV) (H : Heap) (R : KR) : Res :=
 N40_7 ρ call yc lim k x0 x1 x10 x11 H (fun x0_1 x1_1 x11_1 H =>
 N40_6 ρ call yc lim k x0_1 x1_1 x11_1 H R)
theorem N40_5_x (ρ call yc lim k J x0 x1 x10 x11 H R) :
 evX (cx ρ) call yc false 40 lim k J (Code.at [1,1,1,1,1,1,1,1,1] c40) (sp 168 [(0,x0),(1,x1),(10,x10),(11,x11)]) H (kk none (fun s H => R (gs [8,9] s) H) [] R [8,9]) =
 J (Code.at [1,1,1,1,1,1,1,1,1,0,0] c40) (sp 168 [(0,x0),(1,x1),(10,x10),(11,x11)]) H (kk (some [0,1,11]) (fun s H => J (Code.at [1,1,1,1,1,1,1,1,1,1] c40) s H (kk none (fun s H => R (gs [8,9] s) H) [] R [8,9])) [(4,(some [0,1,11]),(fun s H => J (Code.at [1,1,1,1,1,1,1,1,1,1] c40) s H (kk none (fun s H => R (gs [8,9] s) H) [] R [8,9])))] R [8,9]) := by
 kernel_rfl
theorem N40_5_eq (ρ call yc lim k x0 x1 x10 x11 H R) :
 evL (cx ρ) call yc false 40 lim k (Code.at [1,1,1,1,1,1,1,1,1] c40) (sp 168 [(0,x0),(1,x1),(10,x10),(11,x11)]) H (kk none (fun s H => R (gs [8,9] s) H) [] R [8,9]) = N40_5 ρ call yc lim k x0 x1 x10 x11 H R := by
 rw [evL_X,N40_5_x]
 simp only [← evL_X,N40_5,N40_6_eq,N40_7_eq]
noncomputable def N40_4 (ρ : RO) (call : CallF) (yc : YieldF) (lim k : Nat) (x0 x1 x10 x11 : AV) (H : Heap) (R : KR) : Res :=
 purK (binA Try.prog H .add 3 x10 (.int .i64 1)) fun x96_1 =>
 purK (binA Try.prog H .sub 3 x11 (.int .i64 1)) fun x98_1 =>
 N40_5 ρ call yc lim k x0 x1 x96_1 x98_1 H R
theorem N40_4_x (ρ call yc lim k J x0 x1 x10 x11 H R) :
 evX (cx ρ) call yc false 40 lim k J (Code.at [1,1,1,1,1,1,1] c40) (sp 168 [(0,x0),(1,x1),(10,x10),(11,x11)]) H (kk none (fun s H => R (gs [8,9] s) H) [] R [8,9]) =
 purK (binA Try.prog H .add 3 x10 (.int .i64 1)) fun x96_1 =>
 purK (binA Try.prog H .sub 3 x11 (.int .i64 1)) fun x98_1 =>
 J (Code.at [1,1,1,1,1,1,1,1,1] c40) (sp 168 [(0,x0),(1,x1),(10,x96_1),(11,x98_1)]) H (kk none (fun s H => R (gs [8,9] s) H) [] R [8,9]) := by
 kernel_rfl
theorem N40_4_eq (ρ call yc lim k x0 x1 x10 x11 H R) :
 evL (cx ρ) call yc false 40 lim k (Code.at [1,1,1,1,1,1,1] c40) (sp 168 [(0,x0),(1,x1),(10,x10),(11,x11)]) H (kk none (fun s H => R (gs [8,9] s) H) [] R [8,9]) = N40_4 ρ call yc lim k x0 x1 x10 x11 H R := by
 rw [evL_X,N40_4_x]
 simp only [← evL_X,N40_4,N40_5_eq]
noncomputable def N40_3 (ρ : RO) (call : CallF) (yc : YieldF) (lim k : Nat) (x0 x1 x10 x11 : AV) (H : Heap) (R : KR) : Res :=
 purK (binA Try.prog H .gtr 3 x10 x11) fun x65_1 =>
 condK x65_1
 (
 purK (ixS 1 x0 x1) fun x72_1 =>
 purK (ld1 ρ H x72_1) fun x73_1 =>
 purK (ixS 1 x0 x11) fun x76_1 =>
 purK (ld1 ρ H x76_1) fun x77_1 =>
 purK (ixS 1 x0 x11) fun x78_1 =>
 effK H (stA lim H 1 x78_1 x73_1) fun _ H =>
 purK (ixS 1 x0 x1) fun x79_1 =>
 effK H (stA lim H 1 x79_1 x77_1) fun _ H =>
 R [x11,(.bool true)] H)
 (
 purK (ixS 1 x0 x11) fun x87_1 =>
 purK (ld1 ρ H x87_1) fun x88_1 =>
 purK (ixS 1 x0 x10) fun x91_1 =>
 purK (ld1 ρ H x91_1) fun x92_1 =>
 purK (ixS 1 x0 x10) fun x93_1 =>
 effK H (stA lim H 1 x93_1 x88_1) fun _ H =>
 purK (ixS 1 x0 x11) fun x94_1 =>
 effK H (stA lim H 1 x94_1 x92_1) fun _ H =>
 N40_4 ρ call yc lim k x0 x1 x10 x11 H R)
theorem N40_3_x (ρ call yc lim k J x0 x1 x10 x11 H R) :
 evX (cx ρ) call yc false 40 lim k J (Code.at [1,1,1,1,1] c40) (sp 168 [(0,x0),(1,x1),(10,x10),(11,x11)]) H (kk none (fun s H => R (gs [8,9] s) H) [] R [8,9]) =
 purK (binA Try.prog H .gtr 3 x10 x11) fun x65_1 =>
 condK x65_1
 (
 purK (ixS 1 x0 x1) fun x72_1 =>
 purK (ld1 ρ H x72_1) fun x73_1 =>
 purK (ixS 1 x0 x11) fun x76_1 =>
 purK (ld1 ρ H x76_1) fun x77_1 =>
 purK (ixS 1 x0 x11) fun x78_1 =>
 effK H (stA lim H 1 x78_1 x73_1) fun _ H =>
 purK (ixS 1 x0 x1) fun x79_1 =>
 effK H (stA lim H 1 x79_1 x77_1) fun _ H =>
 R [x11,(.bool true)] H)
 (
 purK (ixS 1 x0 x11) fun x87_1 =>
 purK (ld1 ρ H x87_1) fun x88_1 =>
 purK (ixS 1 x0 x10) fun x91_1 =>
 purK (ld1 ρ H x91_1) fun x92_1 =>
 purK (ixS 1 x0 x10) fun x93_1 =>
 effK H (stA lim H 1 x93_1 x88_1) fun _ H =>
 purK (ixS 1 x0 x11) fun x94_1 =>
 effK H (stA lim H 1 x94_1 x92_1) fun _ H =>
 J (Code.at [1,1,1,1,1,1,1] c40) (sp 168 [(0,x0),(1,x1),(10,x10),(11,x11)]) H (kk none (fun s H => R (gs [8,9] s) H) [] R [8,9])) := by
 kernel_rfl
theorem N40_3_eq (ρ call yc lim k x0 x1 x10 x11 H R) :
 evL (cx ρ) call yc false 40 lim k (Code.at [1,1,1,1,1] c40) (sp 168 [(0,x0),(1,x1),(10,x10),(11,x11)]) H (kk none (fun s H => R (gs [8,9] s) H) [] R [8,9]) = N40_3 ρ call yc lim k x0 x1 x10 x11 H R := by
 rw [evL_X,N40_3_x]
 simp only [← evL_X,N40_3,N40_4_eq]
noncomputable def N40_12b (ρ : RO) (call : CallF) (yc : YieldF) (lim k : Nat) (x0 x1 x10 x11 : AV) (H : Heap) (kn : AV → Heap → Res) (k2 : AV → AV → AV → AV → Heap → Res) : Res :=
 purK (binA Try.prog H .leq 3 x10 x11) fun x48_1 =>
 boolK (wantV x48_1 true) fun b1 => purK (bif b1 then some x0 else some (.tup [])) fun x50_1 =>
 boolK (wantV x48_1 true) fun b2 => purK (bif b2 then some x11 else some (.tup [])) fun x51_1 =>
 boolK (wantV x48_1 true) fun b3 => purK (bif b3 then ixS 1 x50_1 x51_1 else some (.tup [])) fun x52_1 =>
 boolK (wantV x48_1 true) fun b4 => purK (bif b4 then ld1 ρ H x52_1 else some (.tup [])) fun x53_1 =>
 boolK (wantV x48_1 true) fun b5 => purK (bif b5 then some x0 else some (.tup [])) fun x54_1 =>
 boolK (wantV x48_1 true) fun b6 => purK (bif b6 then some x1 else some (.tup [])) fun x55_1 =>
 boolK (wantV x48_1 true) fun b7 => purK (bif b7 then ixS 1 x54_1 x55_1 else some (.tup [])) fun x56_1 =>
 boolK (wantV x48_1 true) fun b8 => purK (bif b8 then ld1 ρ H x56_1 else some (.tup [])) fun x57_1 =>
 boolK (wantV x48_1 true) fun b9 => resK (gRes (some b9) H (call lim 38 [x53_1,x57_1] H)) fun x58_1 H => bif !b9 || ((!b8 || true) && ((!b4 || true) && true)) then
 purK (gPur (wantV x48_1 true) (unA .not x58_1)) fun x59_1 =>
 purK (pickA x48_1 x59_1 (.bool false)) fun x60_1 =>
 condK x60_1
 (
 purK (binA Try.prog H .sub 3 x11 (.int .i64 1)) fun x62_1 =>
 kn x62_1 H)
 (
 k2 x0 x1 x10 x11 H)
 else .stop
theorem N40_12b_eq (ρ call yc lim k x0 x1 x10 x11 H kn k2 R) :
 evL (cx ρ) call yc false 40 lim k (Code.at [1,1,1,1,0,0,0] c40) (sp 168 [(0,x0),(1,x1),(10,x10),(11,x11)]) H (kk (some [0,1,10,11]) kn [(2,(some [0,1,10,11]),k2)] R [8,9]) = N40_12b ρ call yc lim k x0 x1 x10 x11 H (fun x11 H => kn (sp 168 [(0,x0),(1,x1),(10,x10),(11,x11)]) H) (fun x0 x1 x10 x11 H => k2 (sp 168 [(0,x0),(1,x1),(10,x10),(11,x11)]) H) := by
 kernel_rfl
noncomputable def N40_12 (ρ : RO) (call : CallF) (yc : YieldF) (lim k : Nat) (x0 x1 x10 x11 : AV) (H : Heap) (k2 : AV → AV → AV → AV → Heap → Res) : Res :=
 loopL (fun (x : AV) H kn => N40_12b ρ call yc lim k x0 x1 x10 x H (fun x11 H => kn x11 H) k2) k x11 H
theorem N40_12_eq (ρ call yc lim k x0 x1 x10 x11 H kn k2 R) :
 evL (cx ρ) call yc false 40 lim k (Code.at [1,1,1,1,0,0] c40) (sp 168 [(0,x0),(1,x1),(10,x10),(11,x11)]) H (kk (some [0,1,10,11]) kn [(2,(some [0,1,10,11]),k2)] R [8,9]) = N40_12 ρ call yc lim k x0 x1 x10 x11 H (fun x0 x1 x10 x11 H => k2 (sp 168 [(0,x0),(1,x1),(10,x10),(11,x11)]) H) := by
 have e : Code.at [1,1,1,1,0,0] c40 = .loop (Code.at [1,1,1,1,0,0,0] c40) := by kernel_rfl
 rw [e]
 unfold N40_12
 exact loop_node [0,1,10,11] (fun x : AV => (sp 168 [(0,x0),(1,x1),(10,x10),(11,(x))])) (fun (x : AV) H kn => N40_12b ρ call yc lim k x0 x1 x10 x H (fun x11 H => kn x11 H) (fun x0 x1 x10 x11 H => k2 (sp 168 [(0,x0),(1,x1),(10,x10),(11,x11)]) H)) (by kernel_rfl) (fun x => by kernel_rfl) (fun x H kn => N40_12b_eq ρ call yc lim k x0 x1 x10 (x) H kn k2 R) x11 (sp 168 [(0,x0),(1,x1),(10,x10),(11,x11)]) H (by kernel_rfl)
noncomputable def N40_2 (ρ : RO) (call : CallF) (yc : YieldF) (lim k : Nat) (x0 x1 x10 x11 : AV) (H : Heap) (R : KR) : Res :=
 N40_12 ρ call yc lim k x0 x1 x10 x11 H (fun x0_1 x1_1 x10_1 x11_1 H =>
 N40_3 ρ call yc lim k x0_1 x1_1 x10_1 x11_1 H R)
theorem N40_2_x (ρ call yc lim k J x0 x1 x10 x11 H R) :
 evX (cx ρ) call yc false 40 lim k J (Code.at [1,1,1,1] c40) (sp 168 [(0,x0),(1,x1),(10,x10),(11,x11)]) H (kk none (fun s H => R (gs [8,9] s) H) [] R [8,9]) =
 J (Code.at [1,1,1,1,0,0] c40) (sp 168 [(0,x0),(1,x1),(10,x10),(11,x11)]) H (kk (some [0,1,10,11]) (fun s H => J (Code.at [1,1,1,1,1] c40) s H (kk none (fun s H => R (gs [8,9] s) H) [] R [8,9])) [(2,(some [0,1,10,11]),(fun s H => J (Code.at [1,1,1,1,1] c40) s H (kk none (fun s H => R (gs [8,9] s) H) [] R [8,9])))] R [8,9]) := by
 kernel_rfl
theorem N40_2_eq (ρ call yc lim k x0 x1 x10 x11 H R) :
 evL (cx ρ) call yc false 40 lim k (Code.at [1,1,1,1] c40) (sp 168 [(0,x0),(1,x1),(10,x10),(11,x11)]) H (kk none (fun s H => R (gs [8,9] s) H) [] R [8,9]) = N40_2 ρ call yc lim k x0 x1 x10 x11 H R := by
 rw [evL_X,N40_2_x]
 simp only [← evL_X,N40_2,N40_12_eq,N40_3_eq]
noncomputable def N40_13b (ρ : RO) (call : CallF) (yc : YieldF) (lim k : Nat) (x0 x1 x10 x11 : AV) (H : Heap) (kn : AV → Heap → Res) (k0 : AV → AV → AV → AV → Heap → Res) : Res :=
 purK (binA Try.prog H .leq 3 x10 x11) fun x32_1 =>
 boolK (wantV x32_1 true) fun b1 => purK (bif b1 then some x0 else some (.tup [])) fun x34_1 =>
 boolK (wantV x32_1 true) fun b2 => purK (bif b2 then some x10 else some (.tup [])) fun x35_1 =>
 boolK (wantV x32_1 true) fun b3 => purK (bif b3 then ixS 1 x34_1 x35_1 else some (.tup [])) fun x36_1 =>
 boolK (wantV x32_1 true) fun b4 => purK (bif b4 then ld1 ρ H x36_1 else some (.tup [])) fun x37_1 =>
 boolK (wantV x32_1 true) fun b5 => purK (bif b5 then some x0 else some (.tup [])) fun x38_1 =>
 boolK (wantV x32_1 true) fun b6 => purK (bif b6 then some x1 else some (.tup [])) fun x39_1 =>
 boolK (wantV x32_1 true) fun b7 => purK (bif b7 then ixS 1 x38_1 x39_1 else some (.tup [])) fun x40_1 =>
 boolK (wantV x32_1 true) fun b8 => purK (bif b8 then ld1 ρ H x40_1 else some (.tup [])) fun x41_1 =>
 boolK (wantV x32_1 true) fun b9 => resK (gRes (some b9) H (call lim 38 [x37_1,x41_1] H)) fun x42_1 H => bif !b9 || ((!b8 || true) && ((!b4 || true) && true)) then
 purK (pickA x32_1 x42_1 (.bool false)) fun x43_1 =>
 condK x43_1
 (
 purK (binA Try.prog H .add 3 x10 (.int .i64 1)) fun x45_1 =>
 kn x45_1 H)
 (
 k0 x0 x1 x10 x11 H)
 else .stop
theorem N40_13b_eq (ρ call yc lim k x0 x1 x10 x11 H kn k0 R) :
 evL (cx ρ) call yc false 40 lim k (Code.at [1,1,1,0,0,0] c40) (sp 168 [(0,x0),(1,x1),(10,x10),(11,x11)]) H (kk (some [0,1,10,11]) kn [(0,(some [0,1,10,11]),k0)] R [8,9]) = N40_13b ρ call yc lim k x0 x1 x10 x11 H (fun x10 H => kn (sp 168 [(0,x0),(1,x1),(10,x10),(11,x11)]) H) (fun x0 x1 x10 x11 H => k0 (sp 168 [(0,x0),(1,x1),(10,x10),(11,x11)]) H) := by
 kernel_rfl
noncomputable def N40_13 (ρ : RO) (call : CallF) (yc : YieldF) (lim k : Nat) (x0 x1 x10 x11 : AV) (H : Heap) (k0 : AV → AV → AV → AV → Heap → Res) : Res :=
 loopL (fun (x : AV) H kn => N40_13b ρ call yc lim k x0 x1 x x11 H (fun x10 H => kn x10 H) k0) k x10 H
theorem N40_13_eq (ρ call yc lim k x0 x1 x10 x11 H kn k0 R) :
 evL (cx ρ) call yc false 40 lim k (Code.at [1,1,1,0,0] c40) (sp 168 [(0,x0),(1,x1),(10,x10),(11,x11)]) H (kk (some [0,1,10,11]) kn [(0,(some [0,1,10,11]),k0)] R [8,9]) = N40_13 ρ call yc lim k x0 x1 x10 x11 H (fun x0 x1 x10 x11 H => k0 (sp 168 [(0,x0),(1,x1),(10,x10),(11,x11)]) H) := by
 have e : Code.at [1,1,1,0,0] c40 = .loop (Code.at [1,1,1,0,0,0] c40) := by kernel_rfl
 rw [e]
 unfold N40_13
 exact loop_node [0,1,10,11] (fun x : AV => (sp 168 [(0,x0),(1,x1),(10,(x)),(11,x11)])) (fun (x : AV) H kn => N40_13b ρ call yc lim k x0 x1 x x11 H (fun x10 H => kn x10 H) (fun x0 x1 x10 x11 H => k0 (sp 168 [(0,x0),(1,x1),(10,x10),(11,x11)]) H)) (by kernel_rfl) (fun x => by kernel_rfl) (fun x H kn => N40_13b_eq ρ call yc lim k x0 x1 (x) x11 H kn k0 R) x10 (sp 168 [(0,x0),(1,x1),(10,x10),(11,x11)]) H (by kernel_rfl)
noncomputable def N40_1 (ρ : RO) (call : CallF) (yc : YieldF) (lim k : Nat) (x0 x1 x10 x11 : AV) (H : Heap) (R : KR) : Res :=
 N40_13 ρ call yc lim k x0 x1 x10 x11 H (fun x0_1 x1_1 x10_1 x11_1 H =>
 N40_2 ρ call yc lim k x0_1 x1_1 x10_1 x11_1 H R)
theorem N40_1_x (ρ call yc lim k J x0 x1 x10 x11 H R) :
 evX (cx ρ) call yc false 40 lim k J (Code.at [1,1,1] c40) (sp 168 [(0,x0),(1,x1),(10,x10),(11,x11)]) H (kk none (fun s H => R (gs [8,9] s) H) [] R [8,9]) =
 J (Code.at [1,1,1,0,0] c40) (sp 168 [(0,x0),(1,x1),(10,x10),(11,x11)]) H (kk (some [0,1,10,11]) (fun s H => J (Code.at [1,1,1,1] c40) s H (kk none (fun s H => R (gs [8,9] s) H) [] R [8,9])) [(0,(some [0,1,10,11]),(fun s H => J (Code.at [1,1,1,1] c40) s H (kk none (fun s H => R (gs [8,9] s) H) [] R [8,9])))] R [8,9]) := by
 kernel_rfl
theorem N40_1_eq (ρ call yc lim k x0 x1 x10 x11 H R) :
 evL (cx ρ) call yc false 40 lim k (Code.at [1,1,1] c40) (sp 168 [(0,x0),(1,x1),(10,x10),(11,x11)]) H (kk none (fun s H => R (gs [8,9] s) H) [] R [8,9]) = N40_1 ρ call yc lim k x0 x1 x10 x11 H R := by
 rw [evL_X,N40_1_x]
 simp only [← evL_X,N40_1,N40_13_eq,N40_2_eq]
noncomputable def L40 (ρ : RO) (call : CallF) (yc : YieldF) (lim k : Nat) (x0 x1 x2 x3 : AV) (H : Heap) : Res :=
 purK (ixS 1 x0 x3) fun x18 =>
 purK (ld1 ρ H x18) fun x19 =>
 purK (ixS 1 x0 x1) fun x22 =>
 purK (ld1 ρ H x22) fun x23 =>
 purK (ixS 1 x0 x1) fun x24 =>
 effK H (stA lim H 1 x24 x19) fun _ H =>
 purK (ixS 1 x0 x3) fun x25 =>
 effK H (stA lim H 1 x25 x23) fun _ H =>
 purK (binA Try.prog H .add 3 x1 (.int .i64 1)) fun x27 =>
 purK (binA Try.prog H .sub 3 x2 (.int .i64 1)) fun x29 =>
 N40_1 ρ call yc lim k x0 x1 x27 x29 H retK
theorem L40_x (ρ call yc lim k J x0 x1 x2 x3 H) :
 evX (cx ρ) call yc false 40 lim k J c40 ([x0,x1,x2,x3] ++ List.replicate 164 (.tup [])) H (kk none (fun s H => retK (gs [8,9] s) H) [] retK [8,9]) =
 purK (ixS 1 x0 x3) fun x18 =>
 purK (ld1 ρ H x18) fun x19 =>
 purK (ixS 1 x0 x1) fun x22 =>
 purK (ld1 ρ H x22) fun x23 =>
 purK (ixS 1 x0 x1) fun x24 =>
 effK H (stA lim H 1 x24 x19) fun _ H =>
 purK (ixS 1 x0 x3) fun x25 =>
 effK H (stA lim H 1 x25 x23) fun _ H =>
 purK (binA Try.prog H .add 3 x1 (.int .i64 1)) fun x27 =>
 purK (binA Try.prog H .sub 3 x2 (.int .i64 1)) fun x29 =>
 J (Code.at [1,1,1] c40) (sp 168 [(0,x0),(1,x1),(10,x27),(11,x29)]) H (kk none (fun s H => retK (gs [8,9] s) H) [] retK [8,9]) := by
 kernel_rfl
theorem G40 (ρ call yc lim k x0 x1 x2 x3 H) :
 evL (cx ρ) call yc false 40 lim k c40 ([x0,x1,x2,x3] ++ List.replicate 164 (.tup [])) H (kk none (fun s H => retK (gs [8,9] s) H) [] retK [8,9]) = L40 ρ call yc lim k x0 x1 x2 x3 H := by
 rw [evL_X,L40_x]
 simp only [← evL_X,L40,N40_1_eq]
theorem E40 (ρ : RO) (k lim : Nat) (x0 x1 x2 x3 : AV) (H : Heap) : evCall (cx ρ) (k + 1) lim 40 [x0,x1,x2,x3] H = L40 ρ (evCall (cx ρ) k) (evCY (cx ρ) k).2 lim k x0 x1 x2 x3 H := by
 rw [evCall_body (cx ρ) k lim 40 _ H Try.f40 c40 [8,9] (by kernel_rfl) (by kernel_rfl) (by kernel_rfl) (by kernel_rfl) (by kernel_rfl)]
 exact G40 ρ (evCall (cx ρ) k) (evCY (cx ρ) k).2 lim k x0 x1 x2 x3 H
end Go.Proofs.Ytkmohjddojpdjab

-- part Hl8
/- Functions, lifted. Printed by a program of this repo. -/
set_option linter.unusedVariables false
set_option linter.unusedSimpArgs false
set_option maxRecDepth 100000
set_option maxHeartbeats 4000000
namespace Go.Proofs.Ytkmohjddojpdjab
open Go.Ev Go.RowKit
-- math/bits.Len32
noncomputable def c41 : Code := Code.of Try.prog 41
noncomputable def N41_2 (ρ : RO) (call : CallF) (yc : YieldF) (lim k : Nat) (x0 x2 : AV) (H : Heap) (R : KR) : Res :=
 purK (cvI .u8 x0) fun x15_1 =>
 purK (ixT (.str (ByteArray.mk #[0,1,2,2,3,3,3,3,4,4,4,4,4,4,4,4,5,5,5,5,5,5,5,5,5,5,5,5,5,5,5,5,6,6,6,6,6,6,6,6,6,6,6,6,6,6,6,6,6,6,6,6,6,6,6,6,6,6,6,6,6,6,6,6,7,7,7,7,7,7,7,7,7,7,7,7,7,7,7,7,7,7,7,7,7,7,7,7,7,7,7,7,7,7,7,7,7,7,7,7,7,7,7,7,7,7,7,7,7,7,7,7,7,7,7,7,7,7,7,7,7,7,7,7,7,7,7,7,8,8,8,8,8,8,8,8,8,8,8,8,8,8,8,8,8,8,8,8,8,8,8,8,8,8,8,8,8,8,8,8,8,8,8,8,8,8,8,8,8,8,8,8,8,8,8,8,8,8,8,8,8,8,8,8,8,8,8,8,8,8,8,8,8,8,8,8,8,8,8,8,8,8,8,8,8,8,8,8,8,8,8,8,8,8,8,8,8,8,8,8,8,8,8,8,8,8,8,8,8,8,8,8,8,8,8,8,8,8,8,8,8,8,8,8,8,8,8,8,8,8,8,8,8,8,8,8])) x15_1) fun x16_1 =>
 purK (cvI .i64 x16_1) fun x17_1 =>
 purK (binA Try.prog H .add 3 x2 x17_1) fun x18_1 =>
 R [x18_1] H
theorem N41_2_eq (ρ call yc lim k x0 x2 H R) :
 evL (cx ρ) call yc false 41 lim k (Code.at [1,1,1] c41) (sp 19 [(0,x0),(2,x2)]) H (kk none (fun s H => R (gs [2] s) H) [] R [2]) = N41_2 ρ call yc lim k x0 x2 H R := by
 kernel_rfl
noncomputable def N41_1 (ρ : RO) (call : CallF) (yc : YieldF) (lim k : Nat) (x0 x2 : AV) (H : Heap) (R : KR) : Res :=
 purK (binA Try.prog H .geq 47 x0 (.int .u32 256)) fun x8_1 =>
 condK x8_1
 (
 purK (binA Try.prog H .shr 47 x0 (.int .u64 8)) fun x10_1 =>
 purK (binA Try.prog H .add 3 x2 (.int .i64 8)) fun x12_1 =>
 N41_2 ρ call yc lim k x10_1 x12_1 H R)
 (
 N41_2 ρ call yc lim k x0 x2 H R)
theorem N41_1_x (ρ call yc lim k J x0 x2 H R) :
 evX (cx ρ) call yc false 41 lim k J (Code.at [1,1] c41) (sp 19 [(0,x0),(2,x2)]) H (kk none (fun s H => R (gs [2] s) H) [] R [2]) =
 purK (binA Try.prog H .geq 47 x0 (.int .u32 256)) fun x8_1 =>
 condK x8_1
 (
 purK (binA Try.prog H .shr 47 x0 (.int .u64 8)) fun x10_1 =>
 purK (binA Try.prog H .add 3 x2 (.int .i64 8)) fun x12_1 =>
 J (Code.at [1,1,1] c41) (sp 19 [(0,x10_1),(2,x12_1)]) H (kk none (fun s H => R (gs [2] s) H) [] R [2]))
 (
 J (Code.at [1,1,1] c41) (sp 19 [(0,x0),(2,x2)]) H (kk none (fun s H => R (gs [2] s) H) [] R [2])) := by
 kernel_rfl
theorem N41_1_eq (ρ call yc lim k x0 x2 H R) :
 evL (cx ρ) call yc false 41 lim k (Code.at [1,1] c41) (sp 19 [(0,x0),(2,x2)]) H (kk none (fun s H => R (gs [2] s) H) [] R [2]) = N41_1 ρ call yc lim k x0 x2 H R := by
 rw [evL_X,N41_1_x]
 simp only [← evL_X,N41_1,N41_2_eq]
noncomputable def L41 (ρ : RO) (call : CallF) (yc : YieldF) (lim k : Nat) (x0 : AV) (H : Heap) : Res :=
 purK (binA Try.prog H .geq 47 x0 (.int .u32 65536)) fun x4 =>
 condK x4
 (
 purK (binA Try.prog H .shr 47 x0 (.int .u64 16)) fun x6 =>
 N41_1 ρ call yc lim k x6 (.int .i64 16) H retK)
 (
 N41_1 ρ call yc lim k x0 (.int .i64 0) H retK)
theorem L41_x (ρ call yc lim k J x0 H) :
 evX (cx ρ) call yc false 41 lim k J c41 ([x0] ++ List.replicate 18 (.tup [])) H (kk none (fun s H => retK (gs [2] s) H) [] retK [2]) =
 purK (binA Try.prog H .geq 47 x0 (.int .u32 65536)) fun x4 =>
 condK x4
 (
 purK (binA Try.prog H .shr 47 x0 (.int .u64 16)) fun x6 =>
 J (Code.at [1,1] c41) (sp 19 [(0,x6),(2,(.int .i64 16))]) H (kk none (fun s H => retK (gs [2] s) H) [] retK [2]))
 (
 J (Code.at [1,1] c41) (sp 19 [(0,x0),(2,(.int .i64 0))]) H (kk none (fun s H => retK (gs [2] s) H) [] retK [2])) := by
 kernel_rfl
theorem G41 (ρ call yc lim k x0 H) :
 evL (cx ρ) call yc false 41 lim k c41 ([x0] ++ List.replicate 18 (.tup [])) H (kk none (fun s H => retK (gs [2] s) H) [] retK [2]) = L41 ρ call yc lim k x0 H := by
 rw [evL_X,L41_x]
 simp only [← evL_X,L41,N41_1_eq]
theorem E41 (ρ : RO) (k lim : Nat) (x0 : AV) (H : Heap) : evCall (cx ρ) (k + 1) lim 41 [x0] H = L41 ρ (evCall (cx ρ) k) (evCY (cx ρ) k).2 lim k x0 H := by
 rw [evCall_body (cx ρ) k lim 41 _ H Try.f41 c41 [2] (by kernel_rfl) (by kernel_rfl) (by kernel_rfl) (by kernel_rfl) (by kernel_rfl)]
 exact G41 ρ (evCall (cx ρ) k) (evCY (cx ρ) k).2 lim k x0 H
-- math/bits.Len64
noncomputable def c42 : Code := Code.of Try.prog 42
noncomputable def N42_3 (ρ : RO) (call : CallF) (yc : YieldF) (lim k : Nat) (x0 x2 : AV) (H : Heap) (R : KR) : Res :=
 purK (cvI .u8 x0) fun x21_1 =>
 purK (ixT (.str (ByteArray.mk #[0,1,2,2,3,3,3,3,4,4,4,4,4,4,4,4,5,5,5,5,5,5,5,5,5,5,5,5,5,5,5,5,6,6,6,6,6,6,6,6,6,6,6,6,6,6,6,6,6,6,6,6,6,6,6,6,6,6,6,6,6,6,6,6,7,7,7,7,7,7,7,7,7,7,7,7,7,7,7,7,7,7,7,7,7,7,7,7,7,7,7,7,7,7,7,7,7,7,7,7,7,7,7,7,7,7,7,7,7,7,7,7,7,7,7,7,7,7,7,7,7,7,7,7,7,7,7,7,8,8,8,8,8,8,8,8,8,8,8,8,8,8,8,8,8,8,8,8,8,8,8,8,8,8,8,8,8,8,8,8,8,8,8,8,8,8,8,8,8,8,8,8,8,8,8,8,8,8,8,8,8,8,8,8,8,8,8,8,8,8,8,8,8,8,8,8,8,8,8,8,8,8,8,8,8,8,8,8,8,8,8,8,8,8,8,8,8,8,8,8,8,8,8,8,8,8,8,8,8,8,8,8,8,8,8,8,8,8,8,8,8,8,8,8,8,8,8,8,8,8,8,8,8,8,8,8])) x21_1) fun x22_1 =>
 purK (cvI .i64 x22_1) fun x23_1 =>
 purK (binA Try.prog H .add 3 x2 x23_1) fun x24_1 =>
 R [x24_1] H
theorem N42_3_eq (ρ call yc lim k x0 x2 H R) :
 evL (cx ρ) call yc false 42 lim k (Code.at [1,1,1,1] c42) (sp 25 [(0,x0),(2,x2)]) H (kk none (fun s H => R (gs [2] s) H) [] R [2]) = N42_3 ρ call yc lim k x0 x2 H R := by
 kernel_rfl
noncomputable def N42_2 (ρ : RO) (call : CallF) (yc : YieldF) (lim k : Nat) (x0 x2 : AV) (H : Heap) (R : KR) : Res :=
 purK (binA Try.prog H .geq 22 x0 (.int .u64 256)) fun x14_1 =>
 condK x14_1
 (
 purK (binA Try.prog H .shr 22 x0 (.int .u64 8)) fun x16_1 =>
 purK (binA Try.prog H .add 3 x2 (.int .i64 8)) fun x18_1 =>
 N42_3 ρ call yc lim k x16_1 x18_1 H R)
 (
 N42_3 ρ call yc lim k x0 x2 H R)
theorem N42_2_x (ρ call yc lim k J x0 x2 H R) :
 evX (cx ρ) call yc false 42 lim k J (Code.at [1,1,1] c42) (sp 25 [(0,x0),(2,x2)]) H (kk none (fun s H => R (gs [2] s) H) [] R [2]) =
 purK (binA Try.prog H .geq 22 x0 (.int .u64 256)) fun x14_1 =>
 condK x14_1
 (
 purK (binA Try.prog H .shr 22 x0 (.int .u64 8)) fun x16_1 =>
 purK (binA Try.prog H .add 3 x2 (.int .i64 8)) fun x18_1 =>
 J (Code.at [1,1,1,1] c42) (sp 25 [(0,x16_1),(2,x18_1)]) H (kk none (fun s H => R (gs [2] s) H) [] R [2]))
 (
 J (Code.at [1,1,1,1] c42) (sp 25 [(0,x0),(2,x2)]) H (kk none (fun s H => R (gs [2] s) H) [] R [2])) := by
 kernel_rfl
theorem N42_2_eq (ρ call yc lim k x0 x2 H R) :
 evL (cx ρ) call yc false 42 lim k (Code.at [1,1,1] c42) (sp 25 [(0,x0),(2,x2)]) H (kk none (fun s H => R (gs [2] s) H) [] R [2]) = N42_2 ρ call yc lim k x0 x2 H R := by
 rw [evL_X,N42_2_x]
 simp only [← evL_X,N42_2,N42_3_eq]
noncomputable def N42_1 (ρ : RO) (call : CallF) (yc : YieldF) (lim k : Nat) (x0 x2 : AV) (H : Heap) (R : KR) : Res :=
 purK (binA Try.prog H .geq 22 x0 (.int .u64 65536)) fun x8_1 =>
 condK x8_1
 (
 purK (binA Try.prog H .shr 22 x0 (.int .u64 16)) fun x10_1 =>
 purK (binA Try.prog H .add 3 x2 (.int .i64 16)) fun x12_1 =>
 N42_2 ρ call yc lim k x10_1 x12_1 H R)
 (
 N42_2 ρ call yc lim k x0 x2 H R)
theorem N42_1_x (ρ call yc lim k J x0 x2 H R) :
 evX (cx ρ) call yc false 42 lim k J (Code.at [1,1] c42) (sp 25 [(0,x0),(2,x2)]) H (kk none (fun s H => R (gs [2] s) H) [] R [2]) =
 purK (binA Try.prog H .geq 22 x0 (.int .u64 65536)) fun x8_1 =>
 condK x8_1
 (
 purK (binA Try.prog H .shr 22 x0 (.int .u64 16)) fun x10_1 =>
 purK (binA Try.prog H .add 3 x2 (.int .i64 16)) fun x12_1 =>
 J (Code.at [1,1,1] c42) (sp 25 [(0,x10_1),(2,x12_1)]) H (kk none (fun s H => R (gs [2] s) H) [] R [2]))
 (
 J (Code.at [1,1,1] c42) (sp 25 [(0,x0),(2,x2)]) H (kk none (fun s H => R (gs [2] s) H) [] R [2])) := by
 kernel_rfl
theorem N42_1_eq (ρ call yc lim k x0 x2 H R) :
 evL (cx ρ) call yc false 42 lim k (Code.at [1,1] c42) (sp 25 [(0,x0),(2,x2)]) H (kk none (fun s H => R (gs [2] s) H) [] R [2]) = N42_1 ρ call yc lim k x0 x2 H R := by
 rw [evL_X,N42_1_x]
 simp only [← evL_X,N42_1,N42_2_eq]
noncomputable def L42 (ρ : RO) (call : CallF) (yc : YieldF) (lim k : Nat) (x0 : AV) (H : Heap) : Res :=
 purK (binA Try.prog H .geq 22 x0 (.int .u64 4294967296)) fun x4 =>
 condK x4
 (
 purK (binA Try.prog H .shr 22 x0 (.int .u64 32)) fun x6 =>
 N42_1 ρ call yc lim k x6 (.int .i64 32) H retK)
 (
 N42_1 ρ call yc lim k x0 (.int .i64 0) H retK)
theorem L42_x (ρ call yc lim k J x0 H) :
 evX (cx ρ) call yc false 42 lim k J c42 ([x0] ++ List.replicate 24 (.tup [])) H (kk none (fun s H => retK (gs [2] s) H) [] retK [2]) =
 purK (binA Try.prog H .geq 22 x0 (.int .u64 4294967296)) fun x4 =>
 condK x4
 (
 purK (binA Try.prog H .shr 22 x0 (.int .u64 32)) fun x6 =>
 J (Code.at [1,1] c42) (sp 25 [(0,x6),(2,(.int .i64 32))]) H (kk none (fun s H => retK (gs [2] s) H) [] retK [2]))
 (
 J (Code.at [1,1] c42) (sp 25 [(0,x0),(2,(.int .i64 0))]) H (kk none (fun s H => retK (gs [2] s) H) [] retK [2])) := by
 kernel_rfl
theorem G42 (ρ call yc lim k x0 H) :
 evL (cx ρ) call yc false 42 lim k c42 ([x0] ++ List.replicate 24 (.tup [])) H (kk none (fun s H => retK (gs [2] s) H) [] retK [2]) = L42 ρ call yc lim k x0 H := by
 rw [evL_X,L42_x]
 simp only [← evL_X,L42,N42_1_eq]
theorem E42 (ρ : RO) (k lim : Nat) (x0 : AV) (H : Heap) : evCall (cx ρ) (k + 1) lim 42 [x0] H = L42 ρ (evCall (cx ρ) k) (evCY (cx ρ) k).2 lim k x0 H := by
 rw [evCall_body (cx ρ) k lim 42 _ H Try.f42 c42 [2] (by kernel_rfl) (by kernel_rfl) (by kernel_rfl) (by kernel_rfl) (by kernel_rfl)]
 exact G42 ρ (evCall (cx ρ) k) (evCY (cx ρ) k).2 lim k x0 H
-- haycroft/record.Adds
noncomputable def c43 : Code := Code.of Try.prog 43
noncomputable def L43 (ρ : RO) (call : CallF) (yc : YieldF) (lim k : Nat) (x0 x1 : AV) (H : Heap) : Res :=
 resK (call lim 51 [x0] H) fun x6 H =>
 purK (binA Try.prog H .add 22 x6 x1) fun x8 =>
 resK (call lim 50 [x8] H) fun x9 H =>
 retK [x9] H
theorem G43 (ρ call yc lim k x0 x1 H) :
 evL (cx ρ) call yc false 43 lim k c43 ([x0,x1] ++ List.replicate 8 (.tup [])) H (kk none (fun s H => retK (gs [4] s) H) [] retK [4]) = L43 ρ call yc lim k x0 x1 H := by
 kernel_rfl
theorem E43 (ρ : RO) (k lim : Nat) (x0 x1 : AV) (H : Heap) : evCall (cx ρ) (k + 1) lim 43 [x0,x1] H = L43 ρ (evCall (cx ρ) k) (evCY (cx ρ) k).2 lim k x0 x1 H := by
 rw [evCall_body (cx ρ) k lim 43 _ H Try.f43 c43 [4] (by kernel_rfl) (by kernel_rfl) (by kernel_rfl) (by kernel_rfl) (by kernel_rfl)]
 exact G43 ρ (evCall (cx ρ) k) (evCY (cx ρ) k).2 lim k x0 x1 H
-- slices.siftDownOrdered[string]
noncomputable def c44 : Code := Code.of Try.prog 44
noncomputable def N44_4 (ρ : RO) (call : CallF) (yc : YieldF) (lim k : Nat) (x0 x2 x3 x9 : AV) (H : Heap) (kn : AV → Heap → Res) : Res :=
 kn x9 H
theorem N44_4_eq (ρ call yc lim k x0 x2 x3 x9 H kn k1 R) :
 evL (cx ρ) call yc false 44 lim k (Code.at [1,0,0,0,1,1,1,1,1] c44) (sp 76 [(0,x0),(2,x2),(3,x3),(9,x9)]) H (kk (some [0,2,3,8]) kn [(1,(some [0,2,3,8]),k1),(0,none,(fun s H => R (gs [] s) H))] R []) = N44_4 ρ call yc lim k x0 x2 x3 x9 H (fun x8 H => kn (sp 76 [(0,x0),(2,x2),(3,x3),(8,x8)]) H) := by
 kernel_rfl
noncomputable def N44_3 (ρ : RO) (call : CallF) (yc : YieldF) (lim k : Nat) (x0 x2 x3 x8 x9 : AV) (H : Heap) (kn : AV → Heap → Res) (R : KR) : Res :=
 purK (binA Try.prog H .add 3 x3 x8) fun x42_1 =>
 purK (ixS 1 x0 x42_1) fun x43_1 =>
 purK (ld1 ρ H x43_1) fun x44_1 =>
 purK (binA Try.prog H .add 3 x3 x9) fun x48_1 =>
 purK (ixS 1 x0 x48_1) fun x49_1 =>
 purK (ld1 ρ H x49_1) fun x50_1 =>
 resK (call lim 38 [x44_1,x50_1] H) fun x51_1 H =>
 purK (unA .not x51_1) fun x52_1 =>
 condK x52_1
 (
 R [] H)
 (
 purK (binA Try.prog H .add 3 x3 x8) fun x56_1 =>
 purK (binA Try.prog H .add 3 x3 x9) fun x60_1 =>
 purK (binA Try.prog H .add 3 x3 x9) fun x64_1 =>
 purK (ixS 1 x0 x64_1) fun x65_1 =>
 purK (ld1 ρ H x65_1) fun x66_1 =>
 purK (binA Try.prog H .add 3 x3 x8) fun x70_1 =>
 purK (ixS 1 x0 x70_1) fun x71_1 =>
 purK (ld1 ρ H x71_1) fun x72_1 =>
 purK (ixS 1 x0 x56_1) fun x73_1 =>
 effK H (stA lim H 1 x73_1 x66_1) fun _ H => bif (agn (binA Try.prog H .add 3 x3 x9) x60_1 && true) then
 purK (ixS 1 x0 x60_1) fun x74_1 =>
 effK H (stA lim H 1 x74_1 x72_1) fun _ H =>
 N44_4 ρ call yc lim k x0 x2 x3 x9 H kn
 else .stop)
theorem N44_3_x (ρ call yc lim k J x0 x2 x3 x8 x9 H kn k1 R) :
 evX (cx ρ) call yc false 44 lim k J (Code.at [1,0,0,0,1,1,1] c44) (sp 76 [(0,x0),(2,x2),(3,x3),(8,x8),(9,x9)]) H (kk (some [0,2,3,8]) kn [(1,(some [0,2,3,8]),k1),(0,none,(fun s H => R (gs [] s) H))] R []) =
 purK (binA Try.prog H .add 3 x3 x8) fun x42_1 =>
 purK (ixS 1 x0 x42_1) fun x43_1 =>
 purK (ld1 ρ H x43_1) fun x44_1 =>
 purK (binA Try.prog H .add 3 x3 x9) fun x48_1 =>
 purK (ixS 1 x0 x48_1) fun x49_1 =>
 purK (ld1 ρ H x49_1) fun x50_1 =>
 resK (call lim 38 [x44_1,x50_1] H) fun x51_1 H =>
 purK (unA .not x51_1) fun x52_1 =>
 condK x52_1
 (
 R [] H)
 (
 purK (binA Try.prog H .add 3 x3 x8) fun x56_1 =>
 purK (binA Try.prog H .add 3 x3 x9) fun x60_1 =>
 purK (binA Try.prog H .add 3 x3 x9) fun x64_1 =>
 purK (ixS 1 x0 x64_1) fun x65_1 =>
 purK (ld1 ρ H x65_1) fun x66_1 =>
 purK (binA Try.prog H .add 3 x3 x8) fun x70_1 =>
 purK (ixS 1 x0 x70_1) fun x71_1 =>
 purK (ld1 ρ H x71_1) fun x72_1 =>
 purK (ixS 1 x0 x56_1) fun x73_1 =>
 effK H (stA lim H 1 x73_1 x66_1) fun _ H => bif (agn (binA Try.prog H .add 3 x3 x9) x60_1 && true) then
 purK (ixS 1 x0 x60_1) fun x74_1 =>
 effK H (stA lim H 1 x74_1 x72_1) fun _ H =>
 J (Code.at [1,0,0,0,1,1,1,1,1] c44) (sp 76 [(0,x0),(2,x2),(3,x3),(9,x9)]) H (kk (some [0,2,3,8]) kn [(1,(some [0,2,3,8]),k1),(0,none,(fun s H => R (gs [] s) H))] R [])
 else .stop) := by
 kernel_rfl
theorem N44_3_eq (ρ call yc lim k x0 x2 x3 x8 x9 H kn k1 R) :
 evL (cx ρ) call yc false 44 lim k (Code.at [1,0,0,0,1,1,1] c44) (sp 76 [(0,x0),(2,x2),(3,x3),(8,x8),(9,x9)]) H (kk (some [0,2,3,8]) kn [(1,(some [0,2,3,8]),k1),(0,none,(fun s H => R (gs [] s) H))] R []) = N44_3 ρ call yc lim k x0 x2 x3 x8 x9 H (fun x8 H => kn (sp 76 [(0,x0),(2,x2),(3,x3),(8,x8)]) H) R := by
 rw [evL_X,N44_3_x]
 simp only [← evL_X,N44_3,N44_4_eq]
noncomputable def N44_5 (ρ : RO) (call : CallF) (yc : YieldF) (lim k : Nat) (x0 x2 x3 x8 x9 x36 : AV) (H : Heap) (kn : AV → AV → Heap → Res) : Res :=
 condK x36
 (
 purK (binA Try.prog H .add 3 x9 (.int .i64 1)) fun x38_1 =>
 kn x8 x38_1 H)
 (
 kn x8 x9 H)
theorem N44_5_eq (ρ call yc lim k x0 x2 x3 x8 x9 x36 H kn k1 R) :
 evL (cx ρ) call yc false 44 lim k (Code.at [1,0,0,0,1,1,0,1] c44) (sp 76 [(0,x0),(2,x2),(3,x3),(8,x8),(9,x9),(36,x36)]) H (kk (some [0,2,3,8,9]) kn [(1,(some [0,2,3,8]),k1),(0,none,(fun s H => R (gs [] s) H))] R []) = N44_5 ρ call yc lim k x0 x2 x3 x8 x9 x36 H (fun x8 x9 H => kn (sp 76 [(0,x0),(2,x2),(3,x3),(8,x8),(9,x9)]) H) := by
 kernel_rfl
noncomputable def N44_2b (ρ : RO) (call : CallF) (yc : YieldF) (lim k : Nat) (x0 x2 x3 x8 : AV) (H : Heap) (kn : AV → Heap → Res) (R : KR) : Res :=
 purK (binA Try.prog H .mul 3 (.int .i64 2) x8) fun x12_1 =>
 purK (binA Try.prog H .add 3 x12_1 (.int .i64 1)) fun x13_1 =>
 purK (binA Try.prog H .geq 3 x13_1 x2) fun x16_1 =>
 condK x16_1
 (
 R [] H)
 (
 purK (binA Try.prog H .add 3 x13_1 (.int .i64 1)) fun x18_1 =>
 purK (binA Try.prog H .lss 3 x18_1 x2) fun x20_1 =>
 boolK (wantV x20_1 true) fun b1 => purK (bif b1 then some x0 else some (.tup [])) fun x22_1 =>
 boolK (wantV x20_1 true) fun b2 => purK (bif b2 then some x3 else some (.tup [])) fun x23_1 =>
 boolK (wantV x20_1 true) fun b3 => purK (bif b3 then some x13_1 else some (.tup [])) fun x24_1 =>
 boolK (wantV x20_1 true) fun b4 => purK (bif b4 then binA Try.prog H .add 3 x23_1 x24_1 else some (.tup [])) fun x25_1 =>
 boolK (wantV x20_1 true) fun b5 => purK (bif b5 then ixS 1 x22_1 x25_1 else some (.tup [])) fun x26_1 =>
 boolK (wantV x20_1 true) fun b6 => purK (bif b6 then ld1 ρ H x26_1 else some (.tup [])) fun x27_1 =>
 boolK (wantV x20_1 true) fun b7 => purK (bif b7 then some x0 else some (.tup [])) fun x28_1 =>
 boolK (wantV x20_1 true) fun b8 => purK (bif b8 then some x3 else some (.tup [])) fun x29_1 =>
 boolK (wantV x20_1 true) fun b9 => purK (bif b9 then some x13_1 else some (.tup [])) fun x30_1 =>
 boolK (wantV x20_1 true) fun b10 => purK (bif b10 then binA Try.prog H .add 3 x29_1 x30_1 else some (.tup [])) fun x31_1 =>
 boolK (wantV x20_1 true) fun b11 => purK (bif b11 then binA Try.prog H .add 3 x31_1 (.int .i64 1) else some (.tup [])) fun x32_1 =>
 boolK (wantV x20_1 true) fun b12 => purK (bif b12 then ixS 1 x28_1 x32_1 else some (.tup [])) fun x33_1 =>
 boolK (wantV x20_1 true) fun b13 => purK (bif b13 then ld1 ρ H x33_1 else some (.tup [])) fun x34_1 =>
 boolK (wantV x20_1 true) fun b14 => resK (gRes (some b14) H (call lim 38 [x27_1,x34_1] H)) fun x35_1 H => bif !b14 || ((!b13 || true) && ((!b11 || true) && ((!b10 || true) && ((!b6 || true) && ((!b4 || true) && true))))) then
 purK (pickA x20_1 x35_1 (.bool false)) fun x36_1 =>
 N44_5 ρ call yc lim k x0 x2 x3 x8 x13_1 x36_1 H (fun x8_1 x9_1 H =>
 N44_3 ρ call yc lim k x0 x2 x3 x8_1 x9_1 H kn R)
 else .stop)
theorem N44_2b_x (ρ call yc lim k J x0 x2 x3 x8 H kn R) :
 evX (cx ρ) call yc false 44 lim k J (Code.at [1,0,0] c44) (sp 76 [(0,x0),(2,x2),(3,x3),(8,x8)]) H (kk (some [0,2,3,8]) kn [(0,none,(fun s H => R (gs [] s) H))] R []) =
 purK (binA Try.prog H .mul 3 (.int .i64 2) x8) fun x12_1 =>
 purK (binA Try.prog H .add 3 x12_1 (.int .i64 1)) fun x13_1 =>
 purK (binA Try.prog H .geq 3 x13_1 x2) fun x16_1 =>
 condK x16_1
 (
 R [] H)
 (
 purK (binA Try.prog H .add 3 x13_1 (.int .i64 1)) fun x18_1 =>
 purK (binA Try.prog H .lss 3 x18_1 x2) fun x20_1 =>
 boolK (wantV x20_1 true) fun b1 => purK (bif b1 then some x0 else some (.tup [])) fun x22_1 =>
 boolK (wantV x20_1 true) fun b2 => purK (bif b2 then some x3 else some (.tup [])) fun x23_1 =>
 boolK (wantV x20_1 true) fun b3 => purK (bif b3 then some x13_1 else some (.tup [])) fun x24_1 =>
 boolK (wantV x20_1 true) fun b4 => purK (bif b4 then binA Try.prog H .add 3 x23_1 x24_1 else some (.tup [])) fun x25_1 =>
 boolK (wantV x20_1 true) fun b5 => purK (bif b5 then ixS 1 x22_1 x25_1 else some (.tup [])) fun x26_1 =>
 boolK (wantV x20_1 true) fun b6 => purK (bif b6 then ld1 ρ H x26_1 else some (.tup [])) fun x27_1 =>
 boolK (wantV x20_1 true) fun b7 => purK (bif b7 then some x0 else some (.tup [])) fun x28_1 =>
 boolK (wantV x20_1 true) fun b8 => purK (bif b8 then some x3 else some (.tup [])) fun x29_1 =>
 boolK (wantV x20_1 true) fun b9 => purK (bif b9 then some x13_1 else some (.tup [])) fun x30_1 =>
 boolK (wantV x20_1 true) fun b10 => purK (bif b10 then binA Try.prog H .add 3 x29_1 x30_1 else some (.tup [])) fun x31_1 =>
 boolK (wantV x20_1 true) fun b11 => purK (bif b11 then binA Try.prog H .add 3 x31_1 (.int .i64 1) else some (.tup [])) fun x32_1 =>
 boolK (wantV x20_1 true) fun b12 => purK (bif b12 then ixS 1 x28_1 x32_1 else some (.tup [])) fun x33_1 =>
 boolK (wantV x20_1 true) fun b13 => purK (bif b13 then ld1 ρ H x33_1 else some (.tup [])) fun x34_1 =>
 boolK (wantV x20_1 true) fun b14 => resK (gRes (some b14) H (call lim 38 [x27_1,x34_1] H)) fun x35_1 H => bif !b14 || ((!b13 || true) && ((!b11 || true) && ((!b10 || true) && ((!b6 || true) && ((!b4 || true) && true))))) then
 purK (pickA x20_1 x35_1 (.bool false)) fun x36_1 =>
 J (Code.at [1,0,0,0,1,1,0,1] c44) (sp 76 [(0,x0),(2,x2),(3,x3),(8,x8),(9,x13_1),(36,x36_1)]) H (kk (some [0,2,3,8,9]) (fun s H => J (Code.at [1,0,0,0,1,1,1] c44) s H (kk (some [0,2,3,8]) kn [(1,(some [0,2,3,8]),kn),(0,none,(fun s H => R (gs [] s) H))] R [])) [(1,(some [0,2,3,8]),kn),(0,none,(fun s H => R (gs [] s) H))] R [])
 else .stop) := by
 kernel_rfl
theorem N44_2b_eq (ρ call yc lim k x0 x2 x3 x8 H kn R) :
 evL (cx ρ) call yc false 44 lim k (Code.at [1,0,0] c44) (sp 76 [(0,x0),(2,x2),(3,x3),(8,x8)]) H (kk (some [0,2,3,8]) kn [(0,none,(fun s H => R (gs [] s) H))] R []) = N44_2b ρ call yc lim k x0 x2 x3 x8 H (fun x8 H => kn (sp 76 [(0,x0),(2,x2),(3,x3),(8,x8)]) H) R := by
 rw [evL_X,N44_2b_x]
 simp only [← evL_X,N44_2b,N44_3_eq,N44_5_eq]
noncomputable def N44_2 (ρ : RO) (call : CallF) (yc : YieldF) (lim k : Nat) (x0 x2 x3 x8 : AV) (H : Heap) (R : KR) : Res :=
 loopL (fun (x : AV) H kn => N44_2b ρ call yc lim k x0 x2 x3 x H (fun x8 H => kn x8 H) R) k x8 H
theorem N44_2_eq (ρ call yc lim k x0 x2 x3 x8 H R) :
 evL (cx ρ) call yc false 44 lim k (Code.at [1,0] c44) (sp 76 [(0,x0),(2,x2),(3,x3),(8,x8)]) H (kk none (fun s H => R (gs [] s) H) [(0,none,(fun s H => R (gs [] s) H))] R []) = N44_2 ρ call yc lim k x0 x2 x3 x8 H R := by
 have e : Code.at [1,0] c44 = .loop (Code.at [1,0,0] c44) := by kernel_rfl
 rw [e]
 unfold N44_2
 exact loop_node [0,2,3,8] (fun x : AV => (sp 76 [(0,x0),(2,x2),(3,x3),(8,(x))])) (fun (x : AV) H kn => N44_2b ρ call yc lim k x0 x2 x3 x H (fun x8 H => kn x8 H) R) (by kernel_rfl) (fun x => by kernel_rfl) (fun x H kn => N44_2b_eq ρ call yc lim k x0 x2 x3 (x) H kn R) x8 (sp 76 [(0,x0),(2,x2),(3,x3),(8,x8)]) H (by kernel_rfl)
noncomputable def N44_1 (ρ : RO) (call : CallF) (yc : YieldF) (lim k : Nat) (x0 x2 x3 x8 : AV) (H : Heap) (R : KR) : Res :=
 N44_2 ρ call yc lim k x0 x2 x3 x8 H R
theorem N44_1_x (ρ call yc lim k J x0 x2 x3 x8 H R) :
 evX (cx ρ) call yc false 44 lim k J (Code.at [1] c44) (sp 76 [(0,x0),(2,x2),(3,x3),(8,x8)]) H (kk none (fun s H => R (gs [] s) H) [] R []) =
 J (Code.at [1,0] c44) (sp 76 [(0,x0),(2,x2),(3,x3),(8,x8)]) H (kk none (fun s H => R (gs [] s) H) [(0,none,(fun s H => R (gs [] s) H))] R []) := by
 kernel_rfl
theorem N44_1_eq (ρ call yc lim k x0 x2 x3 x8 H R) :
 evL (cx ρ) call yc false 44 lim k (Code.at [1] c44) (sp 76 [(0,x0),(2,x2),(3,x3),(8,x8)]) H (kk none (fun s H => R (gs [] s) H) [] R []) = N44_1 ρ call yc lim k x0 x2 x3 x8 H R := by
 rw [evL_X,N44_1_x]
 simp only [← evL_X,N44_1,N44_2_eq]
noncomputable def L44 (ρ : RO) (call : CallF) (yc : YieldF) (lim k : Nat) (x0 x1 x2 x3 : AV) (H : Heap) : Res :=
 N44_1 ρ call yc lim k x0 x2 x3 x1 H retK
theorem L44_x (ρ call yc lim k J x0 x1 x2 x3 H) :
 evX (cx ρ) call yc false 44 lim k J c44 ([x0,x1,x2,x3] ++ List.replicate 72 (.tup [])) H (kk none (fun s H => retK (gs [] s) H) [] retK []) =
 J (Code.at [1] c44) (sp 76 [(0,x0),(2,x2),(3,x3),(8,x1)]) H (kk none (fun s H => retK (gs [] s) H) [] retK []) := by
 kernel_rfl
theorem G44 (ρ call yc lim k x0 x1 x2 x3 H) :
 evL (cx ρ) call yc false 44 lim k c44 ([x0,x1,x2,x3] ++ List.replicate 72 (.tup [])) H (kk none (fun s H => retK (gs [] s) H) [] retK []) = L44 ρ call yc lim k x0 x1 x2 x3 H := by
 rw [evL_X,L44_x]
 simp only [← evL_X,L44,N44_1_eq]
theorem E44 (ρ : RO) (k lim : Nat) (x0 x1 x2 x3 : AV) (H : Heap) : evCall (cx ρ) (k + 1) lim 44 [x0,x1,x2,x3] H = L44 ρ (evCall (cx ρ) k) (evCY (cx ρ) k).2 lim k x0 x1 x2 x3 H := by
 rw [evCall_body (cx ρ) k lim 44 _ H Try.f44 c44 [] (by kernel_rfl) (by kernel_rfl) (by kernel_rfl) (by kernel_rfl) (by kernel_rfl)]
 exact G44 ρ (evCall (cx ρ) k) (evCY (cx ρ) k).2 lim k x0 x1 x2 x3 H
-- slices.nextPowerOfTwo
noncomputable def c45 : Code := Code.of Try.prog 45
noncomputable def L45 (ρ : RO) (call : CallF) (yc : YieldF) (lim k : Nat) (x0 : AV) (H : Heap) : Res :=
 purK (cvI .u64 x0) fun x4 =>
 resK (call lim 29 [x4] H) fun x5 H =>
 purK (binA Try.prog H .shl 80 (.int .u64 1) x5) fun x6 =>
 retK [x6] H
theorem G45 (ρ call yc lim k x0 H) :
 evL (cx ρ) call yc false 45 lim k c45 ([x0] ++ List.replicate 6 (.tup [])) H (kk none (fun s H => retK (gs [2] s) H) [] retK [2]) = L45 ρ call yc lim k x0 H := by
 kernel_rfl
theorem E45 (ρ : RO) (k lim : Nat) (x0 : AV) (H : Heap) : evCall (cx ρ) (k + 1) lim 45 [x0] H = L45 ρ (evCall (cx ρ) k) (evCY (cx ρ) k).2 lim k x0 H := by
 rw [evCall_body (cx ρ) k lim 45 _ H Try.f45 c45 [2] (by kernel_rfl) (by kernel_rfl) (by kernel_rfl) (by kernel_rfl) (by kernel_rfl)]
 exact G45 ρ (evCall (cx ρ) k) (evCY (cx ρ) k).2 lim k x0 H
-- (*slices.xorshift).Next
noncomputable def c46 : Code := Code.of Try.prog 46
noncomputable def N46_1 (ρ : RO) (call : CallF) (yc : YieldF) (lim k : Nat) (x0 : AV) (H : Heap) (R : KR) : Res :=
 purK (nilChkA x0) fun x31_1 =>
 purK (ld1 ρ H x31_1) fun x32_1 =>
 R [x32_1] H
theorem N46_1_eq (ρ call yc lim k x0 H R) :
 evL (cx ρ) call yc false 46 lim k (Code.at [1,1,1,1] c46) (sp 33 [(0,x0)]) H (kk none (fun s H => R (gs [2] s) H) [] R [2]) = N46_1 ρ call yc lim k x0 H R := by
 kernel_rfl
noncomputable def L46 (ρ : RO) (call : CallF) (yc : YieldF) (lim k : Nat) (x0 : AV) (H : Heap) : Res :=
 purK (nilChkA x0) fun x4 =>
 purK (ld1 ρ H x4) fun x5 =>
 purK (nilChkA x0) fun x7 =>
 purK (ld1 ρ H x7) fun x8 =>
 purK (binA Try.prog H .shl 96 x8 (.int .u64 13)) fun x9 =>
 purK (binA Try.prog H .xor 96 x5 x9) fun x10 =>
 purK (nilChkA x0) fun x11 =>
 effK H (stA lim H 1 x11 x10) fun _ H =>
 purK (nilChkA x0) fun x13 =>
 purK (ld1 ρ H x13) fun x14 =>
 purK (nilChkA x0) fun x16 =>
 purK (ld1 ρ H x16) fun x17 =>
 purK (binA Try.prog H .shr 96 x17 (.int .u64 7)) fun x18 =>
 purK (binA Try.prog H .xor 96 x14 x18) fun x19 =>
 purK (nilChkA x0) fun x20 =>
 effK H (stA lim H 1 x20 x19) fun _ H =>
 purK (nilChkA x0) fun x22 =>
 purK (ld1 ρ H x22) fun x23 =>
 purK (nilChkA x0) fun x25 =>
 purK (ld1 ρ H x25) fun x26 =>
 purK (binA Try.prog H .shl 96 x26 (.int .u64 17)) fun x27 =>
 purK (binA Try.prog H .xor 96 x23 x27) fun x28 =>
 purK (nilChkA x0) fun x29 =>
 effK H (stA lim H 1 x29 x28) fun _ H =>
 N46_1 ρ call yc lim k x0 H retK
theorem L46_x (ρ call yc lim k J x0 H) :
 evX (cx ρ) call yc false 46 lim k J c46 ([x0] ++ List.replicate 32 (.tup [])) H (kk none (fun s H => retK (gs [2] s) H) [] retK [2]) =
 purK (nilChkA x0) fun x4 =>
 purK (ld1 ρ H x4) fun x5 =>
 purK (nilChkA x0) fun x7 =>
 purK (ld1 ρ H x7) fun x8 =>
 purK (binA Try.prog H .shl 96 x8 (.int .u64 13)) fun x9 =>
 purK (binA Try.prog H .xor 96 x5 x9) fun x10 =>
 purK (nilChkA x0) fun x11 =>
 effK H (stA lim H 1 x11 x10) fun _ H =>
 purK (nilChkA x0) fun x13 =>
 purK (ld1 ρ H x13) fun x14 =>
 purK (nilChkA x0) fun x16 =>
 purK (ld1 ρ H x16) fun x17 =>
 purK (binA Try.prog H .shr 96 x17 (.int .u64 7)) fun x18 =>
 purK (binA Try.prog H .xor 96 x14 x18) fun x19 =>
 purK (nilChkA x0) fun x20 =>
 effK H (stA lim H 1 x20 x19) fun _ H =>
 purK (nilChkA x0) fun x22 =>
 purK (ld1 ρ H x22) fun x23 =>
 purK (nilChkA x0) fun x25 =>
 purK (ld1 ρ H x25) fun x26 =>
 purK (binA Try.prog H .shl 96 x26 (.int .u64 17)) fun x27 =>
 purK (binA Try.prog H .xor 96 x23 x27) fun x28 =>
 purK (nilChkA x0) fun x29 =>
 effK H (stA lim H 1 x29 x28) fun _ H =>
 J (Code.at [1,1,1,1] c46) (sp 33 [(0,x0)]) H (kk none (fun s H => retK (gs [2] s) H) [] retK [2]) := by
 kernel_rfl
theorem G46 (ρ call yc lim k x0 H) :
 evL (cx ρ) call yc false 46 lim k c46 ([x0] ++ List.replicate 32 (.tup [])) H (kk none (fun s H => retK (gs [2] s) H) [] retK [2]) = L46 ρ call yc lim k x0 H := by
 rw [evL_X,L46_x]
 simp only [← evL_X,L46,N46_1_eq]
theorem E46 (ρ : RO) (k lim : Nat) (x0 : AV) (H : Heap) : evCall (cx ρ) (k + 1) lim 46 [x0] H = L46 ρ (evCall (cx ρ) k) (evCY (cx ρ) k).2 lim k x0 H := by
 rw [evCall_body (cx ρ) k lim 46 _ H Try.f46 c46 [2] (by kernel_rfl) (by kernel_rfl) (by kernel_rfl) (by kernel_rfl) (by kernel_rfl)]
 exact G46 ρ (evCall (cx ρ) k) (evCY (cx ρ) k).2 lim k x0 H
-- slices.medianAdjacentOrdered[string]
noncomputable def c47 : Code := Code.of Try.prog 47
noncomputable def L47 (ρ : RO) (call : CallF) (yc : YieldF) (lim k : Nat) (x0 x1 x2 : AV) (H : Heap) : Res :=
 purK (binA Try.prog H .sub 3 x1 (.int .i64 1)) fun x9 =>
 purK (binA Try.prog H .add 3 x1 (.int .i64 1)) fun x12 =>
 resK (call lim 48 [x0,x9,x1,x12,x2] H) fun x14 H =>
 retK [x14] H
theorem G47 (ρ call yc lim k x0 x1 x2 H) :
 evL (cx ρ) call yc false 47 lim k c47 ([x0,x1,x2] ++ List.replicate 12 (.tup [])) H (kk none (fun s H => retK (gs [6] s) H) [] retK [6]) = L47 ρ call yc lim k x0 x1 x2 H := by
 kernel_rfl
theorem E47 (ρ : RO) (k lim : Nat) (x0 x1 x2 : AV) (H : Heap) : evCall (cx ρ) (k + 1) lim 47 [x0,x1,x2] H = L47 ρ (evCall (cx ρ) k) (evCY (cx ρ) k).2 lim k x0 x1 x2 H := by
 rw [evCall_body (cx ρ) k lim 47 _ H Try.f47 c47 [6] (by kernel_rfl) (by kernel_rfl) (by kernel_rfl) (by kernel_rfl) (by kernel_rfl)]
 exact G47 ρ (evCall (cx ρ) k) (evCY (cx ρ) k).2 lim k x0 x1 x2 H
-- slices.medianOrdered[string]
noncomputable def c48 : Code := Code.of Try.prog 48
noncomputable def N48_1 (ρ : RO) (call : CallF) (yc : YieldF) (lim k : Nat) (x2 : AV) (H : Heap) (R : KR) : Res :=
 R [x2] H
theorem N48_1_eq (ρ call yc lim k x2 H R) :
 evL (cx ρ) call yc false 48 lim k (Code.at [1,1,1,1] c48) (sp 36 [(2,x2)]) H (kk none (fun s H => R (gs [10] s) H) [] R [10]) = N48_1 ρ call yc lim k x2 H R := by
 kernel_rfl
noncomputable def L48 (ρ : RO) (call : CallF) (yc : YieldF) (lim k : Nat) (x0 x1 x2 x3 x4 : AV) (H : Heap) : Res :=
 resK (call lim 52 [x0,x1,x2,x4] H) fun x16 H =>
 purK (extA 0 x16) fun x17 =>
 purK (extA 1 x16) fun x18 =>
 resK (call lim 52 [x0,x18,x3,x4] H) fun x24 H =>
 purK (extA 0 x24) fun x25 =>
 purK (extA 1 x24) fun x26 =>
 resK (call lim 52 [x0,x17,x25,x4] H) fun x32 H =>
 purK (extA 0 x32) fun x33 =>
 purK (extA 1 x32) fun x34 =>
 N48_1 ρ call yc lim k x34 H retK
theorem L48_x (ρ call yc lim k J x0 x1 x2 x3 x4 H) :
 evX (cx ρ) call yc false 48 lim k J c48 ([x0,x1,x2,x3,x4] ++ List.replicate 31 (.tup [])) H (kk none (fun s H => retK (gs [10] s) H) [] retK [10]) =
 resK (call lim 52 [x0,x1,x2,x4] H) fun x16 H =>
 purK (extA 0 x16) fun x17 =>
 purK (extA 1 x16) fun x18 =>
 resK (call lim 52 [x0,x18,x3,x4] H) fun x24 H =>
 purK (extA 0 x24) fun x25 =>
 purK (extA 1 x24) fun x26 =>
 resK (call lim 52 [x0,x17,x25,x4] H) fun x32 H =>
 purK (extA 0 x32) fun x33 =>
 purK (extA 1 x32) fun x34 =>
 J (Code.at [1,1,1,1] c48) (sp 36 [(2,x34)]) H (kk none (fun s H => retK (gs [10] s) H) [] retK [10]) := by
 kernel_rfl
theorem G48 (ρ call yc lim k x0 x1 x2 x3 x4 H) :
 evL (cx ρ) call yc false 48 lim k c48 ([x0,x1,x2,x3,x4] ++ List.replicate 31 (.tup [])) H (kk none (fun s H => retK (gs [10] s) H) [] retK [10]) = L48 ρ call yc lim k x0 x1 x2 x3 x4 H := by
 rw [evL_X,L48_x]
 simp only [← evL_X,L48,N48_1_eq]
theorem E48 (ρ : RO) (k lim : Nat) (x0 x1 x2 x3 x4 : AV) (H : Heap) : evCall (cx ρ) (k + 1) lim 48 [x0,x1,x2,x3,x4] H = L48 ρ (evCall (cx ρ) k) (evCY (cx ρ) k).2 lim k x0 x1 x2 x3 x4 H := by
 rw [evCall_body (cx ρ) k lim 48 _ H Try.f48 c48 [10] (by kernel_rfl) (by kernel_rfl) (by kernel_rfl) (by kernel_rfl) (by kernel_rfl)]
 exact G48 ρ (evCall (cx ρ) k) (evCY (cx ρ) k).2 lim k x0 x1 x2 x3 x4 H
-- cmp.isNaN[string]
noncomputable def c49 : Code := Code.of Try.prog 49
noncomputable def L49 (ρ : RO) (call : CallF) (yc : YieldF) (lim k : Nat) (x0 : AV) (H : Heap) : Res :=
 purK (binA Try.prog H .neq 9 x0 x0) fun x5 =>
 retK [x5] H
theorem G49 (ρ call yc lim k x0 H) :
 evL (cx ρ) call yc false 49 lim k c49 ([x0] ++ List.replicate 5 (.tup [])) H (kk none (fun s H => retK (gs [2] s) H) [] retK [2]) = L49 ρ call yc lim k x0 H := by
 kernel_rfl
theorem E49 (ρ : RO) (k lim : Nat) (x0 : AV) (H : Heap) : evCall (cx ρ) (k + 1) lim 49 [x0] H = L49 ρ (evCall (cx ρ) k) (evCY (cx ρ) k).2 lim k x0 H := by
 rw [evCall_body (cx ρ) k lim 49 _ H Try.f49 c49 [2] (by kernel_rfl) (by kernel_rfl) (by kernel_rfl) (by kernel_rfl) (by kernel_rfl)]
 exact G49 ρ (evCall (cx ρ) k) (evCY (cx ρ) k).2 lim k x0 H
-- haycroft/record.Value
noncomputable def c50 : Code := Code.of Try.prog 50
noncomputable def L50 (ρ : RO) (call : CallF) (yc : YieldF) (lim k : Nat) (x0 : AV) (H : Heap) : Res :=
 effK H (bldS H 22 1 [.int .u64 0] 1 [(0,1,x0)]) fun x7 H =>
 resK (call lim 53 [x7,(.int .i64 8)] H) fun x8 H =>
 purK (extA 0 x8) fun x9 =>
 purK (extA 1 x8) fun x10 =>
 retK [x9] H
theorem G50 (ρ call yc lim k x0 H) :
 evL (cx ρ) call yc false 50 lim k c50 ([x0] ++ List.replicate 11 (.tup [])) H (kk none (fun s H => retK (gs [2] s) H) [] retK [2]) = L50 ρ call yc lim k x0 H := by
 kernel_rfl
theorem E50 (ρ : RO) (k lim : Nat) (x0 : AV) (H : Heap) : evCall (cx ρ) (k + 1) lim 50 [x0] H = L50 ρ (evCall (cx ρ) k) (evCY (cx ρ) k).2 lim k x0 H := by
 rw [evCall_body (cx ρ) k lim 50 _ H Try.f50 c50 [2] (by kernel_rfl) (by kernel_rfl) (by kernel_rfl) (by kernel_rfl) (by kernel_rfl)]
 exact G50 ρ (evCall (cx ρ) k) (evCY (cx ρ) k).2 lim k x0 H
-- haycroft/record.Number
noncomputable def c51 : Code := Code.of Try.prog 51
noncomputable def L51 (ρ : RO) (call : CallF) (yc : YieldF) (lim k : Nat) (x0 : AV) (H : Heap) : Res :=
 purK (lenT x0) fun x4 =>
 purK (binA Try.prog H .neq 3 x4 (.int .i64 8)) fun x5 =>
 condK x5
 (
 retK [(.int .u64 0)] H)
 (
 resK (call lim 54 [x0] H) fun x7 H =>
 purK (ixS 1 x7 (.int .i64 0)) fun x8 =>
 purK (ld1 ρ H x8) fun x9 =>
 retK [x9] H)
theorem G51 (ρ call yc lim k x0 H) :
 evL (cx ρ) call yc false 51 lim k c51 ([x0] ++ List.replicate 9 (.tup [])) H (kk none (fun s H => retK (gs [2] s) H) [] retK [2]) = L51 ρ call yc lim k x0 H := by
 kernel_rfl
theorem E51 (ρ : RO) (k lim : Nat) (x0 : AV) (H : Heap) : evCall (cx ρ) (k + 1) lim 51 [x0] H = L51 ρ (evCall (cx ρ) k) (evCY (cx ρ) k).2 lim k x0 H := by
 rw [evCall_body (cx ρ) k lim 51 _ H Try.f51 c51 [2] (by kernel_rfl) (by kernel_rfl) (by kernel_rfl) (by kernel_rfl) (by kernel_rfl)]
 exact G51 ρ (evCall (cx ρ) k) (evCY (cx ρ) k).2 lim k x0 H
-- slices.order2Ordered[string]
noncomputable def c52 : Code := Code.of Try.prog 52
noncomputable def L52 (ρ : RO) (call : CallF) (yc : YieldF) (lim k : Nat) (x0 x1 x2 x3 : AV) (H : Heap) : Res :=
 purK (ixS 1 x0 x2) fun x12 =>
 purK (ld1 ρ H x12) fun x13 =>
 purK (ixS 1 x0 x1) fun x16 =>
 purK (ld1 ρ H x16) fun x17 =>
 resK (call lim 38 [x13,x17] H) fun x18 H =>
 condK x18
 (
 purK (nilChkA x3) fun x20 =>
 purK (ld1 ρ H x20) fun x21 =>
 purK (binA Try.prog H .add 3 x21 (.int .i64 1)) fun x22 =>
 purK (nilChkA x3) fun x23 =>
 effK H (stA lim H 1 x23 x22) fun _ H =>
 retK [x2,x1] H)
 (
 retK [x1,x2] H)
theorem G52 (ρ call yc lim k x0 x1 x2 x3 H) :
 evL (cx ρ) call yc false 52 lim k c52 ([x0,x1,x2,x3] ++ List.replicate 24 (.tup [])) H (kk none (fun s H => retK (gs [8,9] s) H) [] retK [8,9]) = L52 ρ call yc lim k x0 x1 x2 x3 H := by
 kernel_rfl
theorem E52 (ρ : RO) (k lim : Nat) (x0 x1 x2 x3 : AV) (H : Heap) : evCall (cx ρ) (k + 1) lim 52 [x0,x1,x2,x3] H = L52 ρ (evCall (cx ρ) k) (evCY (cx ρ) k).2 lim k x0 x1 x2 x3 H := by
 rw [evCall_body (cx ρ) k lim 52 _ H Try.f52 c52 [8,9] (by kernel_rfl) (by kernel_rfl) (by kernel_rfl) (by kernel_rfl) (by kernel_rfl)]
 exact G52 ρ (evCall (cx ρ) k) (evCY (cx ρ) k).2 lim k x0 x1 x2 x3 H
end Go.Proofs.Ytkmohjddojpdjab

-- part Hl9
/- Functions, lifted. Printed by a program of this repo. -/
set_option linter.unusedVariables false
set_option linter.unusedSimpArgs false
set_option maxRecDepth 100000
set_option maxHeartbeats 4000000
namespace Go.Proofs.Ytkmohjddojpdjab
open Go.Ev Go.RowKit
-- haycroft/field.Bytes
noncomputable def c53 : Code := Code.of Try.prog 53
noncomputable def N53_2 (ρ : RO) (call : CallF) (yc : YieldF) (lim k : Nat) (x1 x6 : AV) (H : Heap) (R : KR) : Res :=
 purK (slS 1 x6 none (some x1) none) fun x62_1 =>
 purK (b2s ρ H x62_1) fun x63_1 =>
 R [x63_1,(.int .i64 0)] H
theorem N53_2_eq (ρ call yc lim k x1 x6 H R) :
 evL (cx ρ) call yc false 53 lim k (Code.at [1,1,1,1,1,1] c53) (sp 64 [(1,x1),(6,x6)]) H (kk none (fun s H => R (gs [4,5] s) H) [] R [4,5]) = N53_2 ρ call yc lim k x1 x6 H R := by
 kernel_rfl
noncomputable def N53_4b (ρ : RO) (call : CallF) (yc : YieldF) (lim k : Nat) (x1 x6 x51 x52 x53 : AV) (H : Heap) (kn : AV → Heap → Res) (k3 : AV → AV → Heap → Res) (R : KR) : Res :=
 purK (binA Try.prog H .lss 3 x53 x52) fun x54_1 =>
 condK x54_1
 (
 purK (ixS 1 x51 x53) fun x55_1 =>
 purK (ld1 ρ H x55_1) fun x56_1 =>
 purK (binA Try.prog H .neq 5 x56_1 (.int .u8 0)) fun x58_1 =>
 condK x58_1
 (
 R [(.str (ByteArray.mk #[])),(.int .i64 4)] H)
 (
 purK (binA Try.prog H .add 3 x53 (.int .i64 1)) fun x59_1 =>
 kn x59_1 H))
 (
 k3 x1 x6 H)
theorem N53_4b_eq (ρ call yc lim k x1 x6 x51 x52 x53 H kn k3 R) :
 evL (cx ρ) call yc false 53 lim k (Code.at [1,1,1,1,1,0,1,0,0] c53) (sp 64 [(1,x1),(6,x6),(51,x51),(52,x52),(53,x53)]) H (kk (some [1,6,51,52,53]) kn [(3,(some [1,6]),k3)] R [4,5]) = N53_4b ρ call yc lim k x1 x6 x51 x52 x53 H (fun x53 H => kn (sp 64 [(1,x1),(6,x6),(51,x51),(52,x52),(53,x53)]) H) (fun x1 x6 H => k3 (sp 64 [(1,x1),(6,x6)]) H) R := by
 kernel_rfl
noncomputable def N53_4 (ρ : RO) (call : CallF) (yc : YieldF) (lim k : Nat) (x1 x6 x51 x52 x53 : AV) (H : Heap) (k3 : AV → AV → Heap → Res) (R : KR) : Res :=
 loopL (fun (x : AV) H kn => N53_4b ρ call yc lim k x1 x6 x51 x52 x H (fun x53 H => kn x53 H) k3 R) k x53 H
theorem N53_4_eq (ρ call yc lim k x1 x6 x51 x52 x53 H kn k3 R) :
 evL (cx ρ) call yc false 53 lim k (Code.at [1,1,1,1,1,0,1,0] c53) (sp 64 [(1,x1),(6,x6),(51,x51),(52,x52),(53,x53)]) H (kk (some [1,6]) kn [(3,(some [1,6]),k3)] R [4,5]) = N53_4 ρ call yc lim k x1 x6 x51 x52 x53 H (fun x1 x6 H => k3 (sp 64 [(1,x1),(6,x6)]) H) R := by
 have e : Code.at [1,1,1,1,1,0,1,0] c53 = .loop (Code.at [1,1,1,1,1,0,1,0,0] c53) := by kernel_rfl
 rw [e]
 unfold N53_4
 exact loop_node [1,6,51,52,53] (fun x : AV => (sp 64 [(1,x1),(6,x6),(51,x51),(52,x52),(53,(x))])) (fun (x : AV) H kn => N53_4b ρ call yc lim k x1 x6 x51 x52 x H (fun x53 H => kn x53 H) (fun x1 x6 H => k3 (sp 64 [(1,x1),(6,x6)]) H) R) (by kernel_rfl) (fun x => by kernel_rfl) (fun x H kn => N53_4b_eq ρ call yc lim k x1 x6 x51 x52 (x) H kn k3 R) x53 (sp 64 [(1,x1),(6,x6),(51,x51),(52,x52),(53,x53)]) H (by kernel_rfl)
noncomputable def N53_3 (ρ : RO) (call : CallF) (yc : YieldF) (lim k : Nat) (x1 x6 x51 x52 x53 : AV) (H : Heap) (kn : AV → AV → Heap → Res) (R : KR) : Res :=
 N53_4 ρ call yc lim k x1 x6 x51 x52 x53 H kn R
theorem N53_3_x (ρ call yc lim k J x1 x6 x51 x52 x53 H kn R) :
 evX (cx ρ) call yc false 53 lim k J (Code.at [1,1,1,1,1,0,1] c53) (sp 64 [(1,x1),(6,x6),(51,x51),(52,x52),(53,x53)]) H (kk (some [1,6]) kn [] R [4,5]) =
 J (Code.at [1,1,1,1,1,0,1,0] c53) (sp 64 [(1,x1),(6,x6),(51,x51),(52,x52),(53,x53)]) H (kk (some [1,6]) kn [(3,(some [1,6]),kn)] R [4,5]) := by
 kernel_rfl
theorem N53_3_eq (ρ call yc lim k x1 x6 x51 x52 x53 H kn R) :
 evL (cx ρ) call yc false 53 lim k (Code.at [1,1,1,1,1,0,1] c53) (sp 64 [(1,x1),(6,x6),(51,x51),(52,x52),(53,x53)]) H (kk (some [1,6]) kn [] R [4,5]) = N53_3 ρ call yc lim k x1 x6 x51 x52 x53 H (fun x1 x6 H => kn (sp 64 [(1,x1),(6,x6)]) H) R := by
 rw [evL_X,N53_3_x]
 simp only [← evL_X,N53_3,N53_4_eq]
noncomputable def N53_1 (ρ : RO) (call : CallF) (yc : YieldF) (lim k : Nat) (x0 x1 x6 : AV) (H : Heap) (R : KR) : Res :=
 purK (lenS x0) fun x43_1 =>
 purK (binA Try.prog H .add 3 x1 (.int .i64 8)) fun x45_1 =>
 purK (binA Try.prog H .sub 3 x45_1 (.int .i64 1)) fun x46_1 =>
 purK (binA Try.prog H .quo 3 x46_1 (.int .i64 8)) fun x47_1 =>
 purK (binA Try.prog H .neq 3 x43_1 x47_1) fun x48_1 =>
 condK x48_1
 (
 R [(.str (ByteArray.mk #[])),(.int .i64 4)] H)
 (
 purK (slS 1 x6 (some x1) none none) fun x51_1 =>
 purK (lenS x51_1) fun x52_1 =>
 N53_3 ρ call yc lim k x1 x6 x51_1 x52_1 (.int .i64 0) H (fun x1_1 x6_1 H =>
 N53_2 ρ call yc lim k x1_1 x6_1 H R) R)
theorem N53_1_x (ρ call yc lim k J x0 x1 x6 H R) :
 evX (cx ρ) call yc false 53 lim k J (Code.at [1,1,1,1] c53) (sp 64 [(0,x0),(1,x1),(6,x6)]) H (kk none (fun s H => R (gs [4,5] s) H) [] R [4,5]) =
 purK (lenS x0) fun x43_1 =>
 purK (binA Try.prog H .add 3 x1 (.int .i64 8)) fun x45_1 =>
 purK (binA Try.prog H .sub 3 x45_1 (.int .i64 1)) fun x46_1 =>
 purK (binA Try.prog H .quo 3 x46_1 (.int .i64 8)) fun x47_1 =>
 purK (binA Try.prog H .neq 3 x43_1 x47_1) fun x48_1 =>
 condK x48_1
 (
 R [(.str (ByteArray.mk #[])),(.int .i64 4)] H)
 (
 purK (slS 1 x6 (some x1) none none) fun x51_1 =>
 purK (lenS x51_1) fun x52_1 =>
 J (Code.at [1,1,1,1,1,0,1] c53) (sp 64 [(1,x1),(6,x6),(51,x51_1),(52,x52_1),(53,(.int .i64 0))]) H (kk (some [1,6]) (fun s H => J (Code.at [1,1,1,1,1,1] c53) s H (kk none (fun s H => R (gs [4,5] s) H) [] R [4,5])) [] R [4,5])) := by
 kernel_rfl
theorem N53_1_eq (ρ call yc lim k x0 x1 x6 H R) :
 evL (cx ρ) call yc false 53 lim k (Code.at [1,1,1,1] c53) (sp 64 [(0,x0),(1,x1),(6,x6)]) H (kk none (fun s H => R (gs [4,5] s) H) [] R [4,5]) = N53_1 ρ call yc lim k x0 x1 x6 H R := by
 rw [evL_X,N53_1_x]
 simp only [← evL_X,N53_1,N53_2_eq,N53_3_eq]
noncomputable def N53_6b (ρ : RO) (call : CallF) (yc : YieldF) (lim k : Nat) (x0 x1 x6 x24 x25 : AV) (H : Heap) (kn : AV → Heap → Res) (k1 : AV → AV → AV → Heap → Res) : Res :=
 purK (binA Try.prog H .lss 3 x25 x24) fun x26_1 =>
 condK x26_1
 (
 purK (binA Try.prog H .quo 3 x25 (.int .i64 8)) fun x32_1 =>
 purK (ixS 1 x0 x32_1) fun x33_1 =>
 purK (ld1 ρ H x33_1) fun x34_1 =>
 purK (binA Try.prog H .rem 3 x25 (.int .i64 8)) fun x36_1 =>
 purK (binA Try.prog H .mul 3 x36_1 (.int .i64 8)) fun x37_1 =>
 purK (binA Try.prog H .shr 22 x34_1 x37_1) fun x38_1 =>
 purK (cvI .u8 x38_1) fun x39_1 =>
 purK (ixS 1 x6 x25) fun x40_1 =>
 effK H (stA lim H 1 x40_1 x39_1) fun _ H =>
 purK (binA Try.prog H .add 3 x25 (.int .i64 1)) fun x41_1 =>
 kn x41_1 H)
 (
 k1 x0 x1 x6 H)
theorem N53_6b_eq (ρ call yc lim k x0 x1 x6 x24 x25 H kn k1 R) :
 evL (cx ρ) call yc false 53 lim k (Code.at [1,1,1,0,1,0,0] c53) (sp 64 [(0,x0),(1,x1),(6,x6),(24,x24),(25,x25)]) H (kk (some [0,1,6,24,25]) kn [(1,(some [0,1,6]),k1)] R [4,5]) = N53_6b ρ call yc lim k x0 x1 x6 x24 x25 H (fun x25 H => kn (sp 64 [(0,x0),(1,x1),(6,x6),(24,x24),(25,x25)]) H) (fun x0 x1 x6 H => k1 (sp 64 [(0,x0),(1,x1),(6,x6)]) H) := by
 kernel_rfl
noncomputable def N53_6 (ρ : RO) (call : CallF) (yc : YieldF) (lim k : Nat) (x0 x1 x6 x24 x25 : AV) (H : Heap) (k1 : AV → AV → AV → Heap → Res) : Res :=
 loopL (fun (x : AV) H kn => N53_6b ρ call yc lim k x0 x1 x6 x24 x H (fun x25 H => kn x25 H) k1) k x25 H
theorem N53_6_eq (ρ call yc lim k x0 x1 x6 x24 x25 H kn k1 R) :
 evL (cx ρ) call yc false 53 lim k (Code.at [1,1,1,0,1,0] c53) (sp 64 [(0,x0),(1,x1),(6,x6),(24,x24),(25,x25)]) H (kk (some [0,1,6]) kn [(1,(some [0,1,6]),k1)] R [4,5]) = N53_6 ρ call yc lim k x0 x1 x6 x24 x25 H (fun x0 x1 x6 H => k1 (sp 64 [(0,x0),(1,x1),(6,x6)]) H) := by
 have e : Code.at [1,1,1,0,1,0] c53 = .loop (Code.at [1,1,1,0,1,0,0] c53) := by kernel_rfl
 rw [e]
 unfold N53_6
 exact loop_node [0,1,6,24,25] (fun x : AV => (sp 64 [(0,x0),(1,x1),(6,x6),(24,x24),(25,(x))])) (fun (x : AV) H kn => N53_6b ρ call yc lim k x0 x1 x6 x24 x H (fun x25 H => kn x25 H) (fun x0 x1 x6 H => k1 (sp 64 [(0,x0),(1,x1),(6,x6)]) H)) (by kernel_rfl) (fun x => by kernel_rfl) (fun x H kn => N53_6b_eq ρ call yc lim k x0 x1 x6 x24 (x) H kn k1 R) x25 (sp 64 [(0,x0),(1,x1),(6,x6),(24,x24),(25,x25)]) H (by kernel_rfl)
noncomputable def N53_5 (ρ : RO) (call : CallF) (yc : YieldF) (lim k : Nat) (x0 x1 x6 x24 x25 : AV) (H : Heap) (kn : AV → AV → AV → Heap → Res) : Res :=
 N53_6 ρ call yc lim k x0 x1 x6 x24 x25 H kn
theorem N53_5_x (ρ call yc lim k J x0 x1 x6 x24 x25 H kn R) :
 evX (cx ρ) call yc false 53 lim k J (Code.at [1,1,1,0,1] c53) (sp 64 [(0,x0),(1,x1),(6,x6),(24,x24),(25,x25)]) H (kk (some [0,1,6]) kn [] R [4,5]) =
 J (Code.at [1,1,1,0,1,0] c53) (sp 64 [(0,x0),(1,x1),(6,x6),(24,x24),(25,x25)]) H (kk (some [0,1,6]) kn [(1,(some [0,1,6]),kn)] R [4,5]) := by
 kernel_rfl
theorem N53_5_eq (ρ call yc lim k x0 x1 x6 x24 x25 H kn R) :
 evL (cx ρ) call yc false 53 lim k (Code.at [1,1,1,0,1] c53) (sp 64 [(0,x0),(1,x1),(6,x6),(24,x24),(25,x25)]) H (kk (some [0,1,6]) kn [] R [4,5]) = N53_5 ρ call yc lim k x0 x1 x6 x24 x25 H (fun x0 x1 x6 H => kn (sp 64 [(0,x0),(1,x1),(6,x6)]) H) := by
 rw [evL_X,N53_5_x]
 simp only [← evL_X,N53_5,N53_6_eq]
noncomputable def L53 (ρ : RO) (call : CallF) (yc : YieldF) (lim k : Nat) (x0 x1 : AV) (H : Heap) : Res :=
 purK (binA Try.prog H .lss 3 x1 (.int .i64 0)) fun x12 =>
 condK x12
 (
 retK [(.str (ByteArray.mk #[])),(.int .i64 1)] H)
 (
 purK (lenS x0) fun x16 =>
 purK (binA Try.prog H .mul 3 (.int .i64 8) x16) fun x17 =>
 purK (binA Try.prog H .gtr 3 x1 x17) fun x18 =>
 condK x18
 (
 retK [(.str (ByteArray.mk #[])),(.int .i64 3)] H)
 (
 purK (lenS x0) fun x20 =>
 purK (binA Try.prog H .mul 3 (.int .i64 8) x20) fun x21 =>
 effK H (mkS H 5 1 1 [.int .u8 0] x21 x21) fun x22 H =>
 purK (lenS x22) fun x24 =>
 N53_5 ρ call yc lim k x0 x1 x22 x24 (.int .i64 0) H (fun x0_1 x1_1 x6 H =>
 N53_1 ρ call yc lim k x0_1 x1_1 x6 H retK)))
theorem L53_x (ρ call yc lim k J x0 x1 H) :
 evX (cx ρ) call yc false 53 lim k J c53 ([x0,x1] ++ List.replicate 62 (.tup [])) H (kk none (fun s H => retK (gs [4,5] s) H) [] retK [4,5]) =
 purK (binA Try.prog H .lss 3 x1 (.int .i64 0)) fun x12 =>
 condK x12
 (
 retK [(.str (ByteArray.mk #[])),(.int .i64 1)] H)
 (
 purK (lenS x0) fun x16 =>
 purK (binA Try.prog H .mul 3 (.int .i64 8) x16) fun x17 =>
 purK (binA Try.prog H .gtr 3 x1 x17) fun x18 =>
 condK x18
 (
 retK [(.str (ByteArray.mk #[])),(.int .i64 3)] H)
 (
 purK (lenS x0) fun x20 =>
 purK (binA Try.prog H .mul 3 (.int .i64 8) x20) fun x21 =>
 effK H (mkS H 5 1 1 [.int .u8 0] x21 x21) fun x22 H =>
 purK (lenS x22) fun x24 =>
 J (Code.at [1,1,1,0,1] c53) (sp 64 [(0,x0),(1,x1),(6,x22),(24,x24),(25,(.int .i64 0))]) H (kk (some [0,1,6]) (fun s H => J (Code.at [1,1,1,1] c53) s H (kk none (fun s H => retK (gs [4,5] s) H) [] retK [4,5])) [] retK [4,5]))) := by
 kernel_rfl
theorem G53 (ρ call yc lim k x0 x1 H) :
 evL (cx ρ) call yc false 53 lim k c53 ([x0,x1] ++ List.replicate 62 (.tup [])) H (kk none (fun s H => retK (gs [4,5] s) H) [] retK [4,5]) = L53 ρ call yc lim k x0 x1 H := by
 rw [evL_X,L53_x]
 simp only [← evL_X,L53,N53_1_eq,N53_5_eq]
theorem E53 (ρ : RO) (k lim : Nat) (x0 x1 : AV) (H : Heap) : evCall (cx ρ) (k + 1) lim 53 [x0,x1] H = L53 ρ (evCall (cx ρ) k) (evCY (cx ρ) k).2 lim k x0 x1 H := by
 rw [evCall_body (cx ρ) k lim 53 _ H Try.f53 c53 [4,5] (by kernel_rfl) (by kernel_rfl) (by kernel_rfl) (by kernel_rfl) (by kernel_rfl)]
 exact G53 ρ (evCall (cx ρ) k) (evCY (cx ρ) k).2 lim k x0 x1 H
-- haycroft/field.Words
noncomputable def c54 : Code := Code.of Try.prog 54
noncomputable def N54_1 (ρ : RO) (call : CallF) (yc : YieldF) (lim k : Nat) (x3 : AV) (H : Heap) (R : KR) : Res :=
 R [x3] H
theorem N54_1_eq (ρ call yc lim k x3 H R) :
 evL (cx ρ) call yc false 54 lim k (Code.at [1,1,1] c54) (sp 33 [(3,x3)]) H (kk none (fun s H => R (gs [2] s) H) [] R [2]) = N54_1 ρ call yc lim k x3 H R := by
 kernel_rfl
noncomputable def N54_3b (ρ : RO) (call : CallF) (yc : YieldF) (lim k : Nat) (x0 x3 x12 x13 : AV) (H : Heap) (kn : AV → Heap → Res) (k0 : AV → Heap → Res) : Res :=
 purK (binA Try.prog H .lss 3 x13 x12) fun x14_1 =>
 condK x14_1
 (
 purK (binA Try.prog H .quo 3 x13 (.int .i64 8)) fun x18_1 =>
 purK (ixS 1 x3 x18_1) fun x19_1 =>
 purK (ld1 ρ H x19_1) fun x20_1 =>
 purK (ixT x0 x13) fun x23_1 =>
 purK (cvI .u64 x23_1) fun x24_1 =>
 purK (binA Try.prog H .rem 3 x13 (.int .i64 8)) fun x26_1 =>
 purK (binA Try.prog H .mul 3 x26_1 (.int .i64 8)) fun x27_1 =>
 purK (binA Try.prog H .shl 22 x24_1 x27_1) fun x28_1 =>
 purK (binA Try.prog H .or 22 x20_1 x28_1) fun x29_1 =>
 purK (ixS 1 x3 x18_1) fun x30_1 =>
 effK H (stA lim H 1 x30_1 x29_1) fun _ H =>
 purK (binA Try.prog H .add 3 x13 (.int .i64 1)) fun x31_1 =>
 kn x31_1 H)
 (
 k0 x3 H)
theorem N54_3b_eq (ρ call yc lim k x0 x3 x12 x13 H kn k0 R) :
 evL (cx ρ) call yc false 54 lim k (Code.at [1,1,0,1,0,0] c54) (sp 33 [(0,x0),(3,x3),(12,x12),(13,x13)]) H (kk (some [0,3,12,13]) kn [(0,(some [3]),k0)] R [2]) = N54_3b ρ call yc lim k x0 x3 x12 x13 H (fun x13 H => kn (sp 33 [(0,x0),(3,x3),(12,x12),(13,x13)]) H) (fun x3 H => k0 (sp 33 [(3,x3)]) H) := by
 kernel_rfl
noncomputable def N54_3 (ρ : RO) (call : CallF) (yc : YieldF) (lim k : Nat) (x0 x3 x12 x13 : AV) (H : Heap) (k0 : AV → Heap → Res) : Res :=
 loopL (fun (x : AV) H kn => N54_3b ρ call yc lim k x0 x3 x12 x H (fun x13 H => kn x13 H) k0) k x13 H
theorem N54_3_eq (ρ call yc lim k x0 x3 x12 x13 H kn k0 R) :
 evL (cx ρ) call yc false 54 lim k (Code.at [1,1,0,1,0] c54) (sp 33 [(0,x0),(3,x3),(12,x12),(13,x13)]) H (kk (some [3]) kn [(0,(some [3]),k0)] R [2]) = N54_3 ρ call yc lim k x0 x3 x12 x13 H (fun x3 H => k0 (sp 33 [(3,x3)]) H) := by
 have e : Code.at [1,1,0,1,0] c54 = .loop (Code.at [1,1,0,1,0,0] c54) := by kernel_rfl
 rw [e]
 unfold N54_3
 exact loop_node [0,3,12,13] (fun x : AV => (sp 33 [(0,x0),(3,x3),(12,x12),(13,(x))])) (fun (x : AV) H kn => N54_3b ρ call yc lim k x0 x3 x12 x H (fun x13 H => kn x13 H) (fun x3 H => k0 (sp 33 [(3,x3)]) H)) (by kernel_rfl) (fun x => by kernel_rfl) (fun x H kn => N54_3b_eq ρ call yc lim k x0 x3 x12 (x) H kn k0 R) x13 (sp 33 [(0,x0),(3,x3),(12,x12),(13,x13)]) H (by kernel_rfl)
noncomputable def N54_2 (ρ : RO) (call : CallF) (yc : YieldF) (lim k : Nat) (x0 x3 x12 x13 : AV) (H : Heap) (kn : AV → Heap → Res) : Res :=
 N54_3 ρ call yc lim k x0 x3 x12 x13 H kn
theorem N54_2_x (ρ call yc lim k J x0 x3 x12 x13 H kn R) :
 evX (cx ρ) call yc false 54 lim k J (Code.at [1,1,0,1] c54) (sp 33 [(0,x0),(3,x3),(12,x12),(13,x13)]) H (kk (some [3]) kn [] R [2]) =
 J (Code.at [1,1,0,1,0] c54) (sp 33 [(0,x0),(3,x3),(12,x12),(13,x13)]) H (kk (some [3]) kn [(0,(some [3]),kn)] R [2]) := by
 kernel_rfl
theorem N54_2_eq (ρ call yc lim k x0 x3 x12 x13 H kn R) :
 evL (cx ρ) call yc false 54 lim k (Code.at [1,1,0,1] c54) (sp 33 [(0,x0),(3,x3),(12,x12),(13,x13)]) H (kk (some [3]) kn [] R [2]) = N54_2 ρ call yc lim k x0 x3 x12 x13 H (fun x3 H => kn (sp 33 [(3,x3)]) H) := by
 rw [evL_X,N54_2_x]
 simp only [← evL_X,N54_2,N54_3_eq]
noncomputable def L54 (ρ : RO) (call : CallF) (yc : YieldF) (lim k : Nat) (x0 : AV) (H : Heap) : Res :=
 purK (lenT x0) fun x6 =>
 purK (binA Try.prog H .add 3 x6 (.int .i64 8)) fun x7 =>
 purK (binA Try.prog H .sub 3 x7 (.int .i64 1)) fun x8 =>
 purK (binA Try.prog H .quo 3 x8 (.int .i64 8)) fun x9 =>
 effK H (mkS H 22 1 8 [.int .u64 0] x9 x9) fun x10 H =>
 purK (lenT x0) fun x12 =>
 N54_2 ρ call yc lim k x0 x10 x12 (.int .i64 0) H (fun x3 H =>
 N54_1 ρ call yc lim k x3 H retK)
theorem L54_x (ρ call yc lim k J x0 H) :
 evX (cx ρ) call yc false 54 lim k J c54 ([x0] ++ List.replicate 32 (.tup [])) H (kk none (fun s H => retK (gs [2] s) H) [] retK [2]) =
 purK (lenT x0) fun x6 =>
 purK (binA Try.prog H .add 3 x6 (.int .i64 8)) fun x7 =>
 purK (binA Try.prog H .sub 3 x7 (.int .i64 1)) fun x8 =>
 purK (binA Try.prog H .quo 3 x8 (.int .i64 8)) fun x9 =>
 effK H (mkS H 22 1 8 [.int .u64 0] x9 x9) fun x10 H =>
 purK (lenT x0) fun x12 =>
 J (Code.at [1,1,0,1] c54) (sp 33 [(0,x0),(3,x10),(12,x12),(13,(.int .i64 0))]) H (kk (some [3]) (fun s H => J (Code.at [1,1,1] c54) s H (kk none (fun s H => retK (gs [2] s) H) [] retK [2])) [] retK [2]) := by
 kernel_rfl
theorem G54 (ρ call yc lim k x0 H) :
 evL (cx ρ) call yc false 54 lim k c54 ([x0] ++ List.replicate 32 (.tup [])) H (kk none (fun s H => retK (gs [2] s) H) [] retK [2]) = L54 ρ call yc lim k x0 H := by
 rw [evL_X,L54_x]
 simp only [← evL_X,L54,N54_1_eq,N54_2_eq]
theorem E54 (ρ : RO) (k lim : Nat) (x0 : AV) (H : Heap) : evCall (cx ρ) (k + 1) lim 54 [x0] H = L54 ρ (evCall (cx ρ) k) (evCY (cx ρ) k).2 lim k x0 H := by
 rw [evCall_body (cx ρ) k lim 54 _ H Try.f54 c54 [2] (by kernel_rfl) (by kernel_rfl) (by kernel_rfl) (by kernel_rfl) (by kernel_rfl)]
 exact G54 ρ (evCall (cx ρ) k) (evCY (cx ρ) k).2 lim k x0 H
end Go.Proofs.Ytkmohjddojpdjab

-- part Hl
/- All functions that are lifted. Printed by a program of this repo. -/
set_option linter.unusedVariables false
set_option linter.unusedSimpArgs false
set_option maxRecDepth 100000
set_option maxHeartbeats 4000000
namespace Go.Proofs.Ytkmohjddojpdjab
open Go.Ev Go.RowKit

theorem ldT29 (ρ : RO) (H : Heap) (x : AV) : loadA (cx ρ) H 29 x = ldN ρ H 2 x := by kernel_rfl
theorem ldT52 (ρ : RO) (H : Heap) (x : AV) : loadA (cx ρ) H 52 x = ldN ρ H 3 x := by kernel_rfl
end Go.Proofs.Ytkmohjddojpdjab
