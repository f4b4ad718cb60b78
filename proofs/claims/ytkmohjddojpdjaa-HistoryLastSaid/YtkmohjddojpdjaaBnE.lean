/- Part 5: Ht6 Ht7 Ht8 Ht9 Ht10 Ht11 Ht. -/
import Derived.Test.YtkmohjddojpdjaaBnD
-- part Ht6
/- Functions, lifted. Printed by a program of this repo. -/
set_option linter.unusedVariables false
set_option linter.unusedSimpArgs false
set_option maxRecDepth 100000
set_option maxHeartbeats 4000000
namespace Go.Proofs.Ytkmohjddojpdjaa
open Go.Ev Go.RowKit
-- (*haycroft/history.search).reach
noncomputable def c69 : Code := Code.of Try.prog 69
noncomputable def N69_1 (ρ : RO) (call : CallF) (yc : YieldF) (lim k : Nat) (x3 : AV) (H : Heap) (R : KR) : Res :=
 R [x3] H
theorem N69_1_eq (ρ call yc lim k x3 H R) :
 evL (cx ρ) call yc false 69 lim k (Code.at [1,1,1,1] c69) (sp 72 [(3,x3)]) H (kk none (fun s H => R (gs [2] s) H) [] R [2]) = N69_1 ρ call yc lim k x3 H R := by
 kernel_rfl
noncomputable def N69_4 (ρ : RO) (call : CallF) (yc : YieldF) (lim k : Nat) (x0 x3 x4 x5 : AV) (H : Heap) (kn : AV → AV → Heap → Res) : Res :=
 purK (binA Try.prog H .add 3 x5 (.int .i64 1)) fun x19_1 =>
 kn x3 x19_1 H
theorem N69_4_eq (ρ call yc lim k x0 x3 x4 x5 H kn k0 R) :
 evL (cx ρ) call yc false 69 lim k (Code.at [1,1,1,0,1,0,0,1,1] c69) (sp 72 [(0,x0),(3,x3),(4,x4),(5,x5)]) H (kk (some [0,3,4,5]) kn [(0,(some [3]),k0)] R [2]) = N69_4 ρ call yc lim k x0 x3 x4 x5 H (fun x3 x5 H => kn (sp 72 [(0,x0),(3,x3),(4,x4),(5,x5)]) H) := by
 kernel_rfl
noncomputable def N69_7 (ρ : RO) (call : CallF) (yc : YieldF) (lim k : Nat) (x0 x3 x4 x5 x24 x25 : AV) (H : Heap) (kn : AV → AV → Heap → Res) : Res :=
 purK (binA Try.prog H .add 3 x25 (.int .i64 1)) fun x70_1 =>
 kn x3 x70_1 H
theorem N69_7_eq (ρ call yc lim k x0 x3 x4 x5 x24 x25 H kn k2 k1 k0 R) :
 evL (cx ρ) call yc false 69 lim k (Code.at [1,1,1,0,1,0,0,1,0,0,1,0,0,1,1,1] c69) (sp 72 [(0,x0),(3,x3),(4,x4),(5,x5),(24,x24),(25,x25)]) H (kk (some [0,3,4,5,24,25]) kn [(2,(some [0,3,4,5]),k2),(1,(some [0,3,4,5]),k1),(0,(some [3]),k0)] R [2]) = N69_7 ρ call yc lim k x0 x3 x4 x5 x24 x25 H (fun x3 x25 H => kn (sp 72 [(0,x0),(3,x3),(4,x4),(5,x5),(24,x24),(25,x25)]) H) := by
 kernel_rfl
noncomputable def N69_8 (ρ : RO) (call : CallF) (yc : YieldF) (lim k : Nat) (x0 x3 x4 x5 x6 x7 x24 x25 : AV) (H : Heap) (kn : AV → AV → Heap → Res) : Res :=
 purK (nilChkA x0) fun x48_1 =>
 purK (addA 4 x48_1) fun x49_1 =>
 purK (ld1 ρ H x49_1) fun x50_1 =>
 purK (ldN ρ H 3 x7) fun x51_1 =>
 purK (nilChkA x0) fun x53_1 =>
 purK (addA 5 x53_1) fun x54_1 =>
 purK (ld1 ρ H x54_1) fun x55_1 =>
 purK (ldN ρ H 3 x7) fun x56_1 =>
 purK (ixS 3 x3 x5) fun x59_1 =>
 purK (ldN ρ H 3 x59_1) fun x60_1 =>
 effK H (mapEntryA (cx ρ) lim H 123 x50_1 x51_1) fun x62_1 H => bif (agn (ldN ρ H 3 x59_1) x60_1 && (agn (ldN ρ H 3 x7) x56_1 && true)) then
 purK (extA 1 x62_1) fun x63_1 =>
 effK H ((entryStoreA lim H x50_1 x63_1 x60_1).map skips) fun _ H => bif (agn (ldN ρ H 3 x7) x56_1 && true) then
 effK H (mapEntryA (cx ρ) lim H 124 x55_1 x56_1) fun x64_1 H =>
 purK (extA 1 x64_1) fun x65_1 =>
 effK H ((entryStoreA lim H x55_1 x65_1 x6).map skips) fun _ H =>
 purK (ldN ρ H 3 x7) fun x67_1 =>
 effK H (bldS H 105 3 [.int .u32 0,.str ByteArray.empty,.bool false] 1 [(0,3,x67_1)]) fun x68_1 H =>
 effK H (apA ρ lim H 105 3 32 x3 x68_1) fun x69_1 H =>
 kn x69_1 x25 H
 else .stop
 else .stop
theorem N69_8_eq (ρ call yc lim k x0 x3 x4 x5 x6 x7 x24 x25 H kn k3 k2 k1 k0 R) :
 evL (cx ρ) call yc false 69 lim k (Code.at [1,1,1,0,1,0,0,1,0,0,1,0,0,1,1,0,0,1,1,1,1] c69) (sp 72 [(0,x0),(3,x3),(4,x4),(5,x5),(6,x6),(7,x7),(24,x24),(25,x25)]) H (kk (some [0,3,4,5,24,25]) kn [(3,(some [0,3,4,5,24,25]),k3),(2,(some [0,3,4,5]),k2),(1,(some [0,3,4,5]),k1),(0,(some [3]),k0)] R [2]) = N69_8 ρ call yc lim k x0 x3 x4 x5 x6 x7 x24 x25 H (fun x3 x25 H => kn (sp 72 [(0,x0),(3,x3),(4,x4),(5,x5),(24,x24),(25,x25)]) H) := by
 kernel_rfl
noncomputable def N69_6b (ρ : RO) (call : CallF) (yc : YieldF) (lim k : Nat) (x0 x3 x4 x5 x24 x25 : AV) (H : Heap) (kn : AV → AV → Heap → Res) (k2 : AV → AV → Heap → Res) : Res :=
 purK (binA Try.prog H .lss 3 x25 x24) fun x26_1 =>
 condK x26_1
 (
 purK (ixS 3 x3 x5) fun x32_1 =>
 purK (ldN ρ H 3 x32_1) fun x33_1 =>
 resK (call lim 95 [x0,x33_1,x25] H) fun x35_1 H =>
 purK (extA 0 x35_1) fun x36_1 =>
 purK (extA 1 x35_1) fun x37_1 =>
 effK H (some (.ptr H.sz 0 0,.new (newCells 105 false [.int .u32 0,.str ByteArray.empty,.bool false]))) fun x7_1 H =>
 effK H (stA lim H 3 x7_1 x36_1) fun _ H =>
 purK (unA .not x37_1) fun x39_1 =>
 purK (gPur (wantV x39_1 false) (some x4)) fun x41_1 =>
 purK (gPur (wantV x39_1 false) (ldN ρ H 3 x7_1)) fun x42_1 =>
 purK (gPur (wantV x39_1 false) (lookupA (cx ρ) H 151 x41_1 x42_1 false)) fun x43_1 =>
 purK (pickA x39_1 (.bool true) x43_1) fun x44_1 =>
 condK x44_1
 (
 N69_7 ρ call yc lim k x0 x3 x4 x5 x24 x25 H kn)
 (
 purK (ldN ρ H 3 x7_1) fun x46_1 =>
 effK H ((mapPutA (cx ρ) lim H 151 x4 x46_1 (.bool true)).map skips) fun _ H =>
 N69_8 ρ call yc lim k x0 x3 x4 x5 x25 x7_1 x24 x25 H (fun x3_1 x25_1 H =>
 N69_7 ρ call yc lim k x0 x3_1 x4 x5 x24 x25_1 H kn)))
 (
 k2 x3 x5 H)
theorem N69_6b_x (ρ call yc lim k J x0 x3 x4 x5 x24 x25 H kn k2 k1 k0 R) :
 evX (cx ρ) call yc false 69 lim k J (Code.at [1,1,1,0,1,0,0,1,0,0,1,0,0] c69) (sp 72 [(0,x0),(3,x3),(4,x4),(5,x5),(24,x24),(25,x25)]) H (kk (some [0,3,4,5,24,25]) kn [(2,(some [0,3,4,5]),k2),(1,(some [0,3,4,5]),k1),(0,(some [3]),k0)] R [2]) =
 purK (binA Try.prog H .lss 3 x25 x24) fun x26_1 =>
 condK x26_1
 (
 purK (ixS 3 x3 x5) fun x32_1 =>
 purK (ldN ρ H 3 x32_1) fun x33_1 =>
 resK (call lim 95 [x0,x33_1,x25] H) fun x35_1 H =>
 purK (extA 0 x35_1) fun x36_1 =>
 purK (extA 1 x35_1) fun x37_1 =>
 effK H (some (.ptr H.sz 0 0,.new (newCells 105 false [.int .u32 0,.str ByteArray.empty,.bool false]))) fun x7_1 H =>
 effK H (stA lim H 3 x7_1 x36_1) fun _ H =>
 purK (unA .not x37_1) fun x39_1 =>
 purK (gPur (wantV x39_1 false) (some x4)) fun x41_1 =>
 purK (gPur (wantV x39_1 false) (ldN ρ H 3 x7_1)) fun x42_1 =>
 purK (gPur (wantV x39_1 false) (lookupA (cx ρ) H 151 x41_1 x42_1 false)) fun x43_1 =>
 purK (pickA x39_1 (.bool true) x43_1) fun x44_1 =>
 condK x44_1
 (
 J (Code.at [1,1,1,0,1,0,0,1,0,0,1,0,0,1,1,1] c69) (sp 72 [(0,x0),(3,x3),(4,x4),(5,x5),(24,x24),(25,x25)]) H (kk (some [0,3,4,5,24,25]) kn [(2,(some [0,3,4,5]),k2),(1,(some [0,3,4,5]),k1),(0,(some [3]),k0)] R [2]))
 (
 purK (ldN ρ H 3 x7_1) fun x46_1 =>
 effK H ((mapPutA (cx ρ) lim H 151 x4 x46_1 (.bool true)).map skips) fun _ H =>
 J (Code.at [1,1,1,0,1,0,0,1,0,0,1,0,0,1,1,0,0,1,1,1,1] c69) (sp 72 [(0,x0),(3,x3),(4,x4),(5,x5),(6,x25),(7,x7_1),(24,x24),(25,x25)]) H (kk (some [0,3,4,5,24,25]) (fun s H => J (Code.at [1,1,1,0,1,0,0,1,0,0,1,0,0,1,1,1] c69) s H (kk (some [0,3,4,5,24,25]) kn [(2,(some [0,3,4,5]),k2),(1,(some [0,3,4,5]),k1),(0,(some [3]),k0)] R [2])) [(3,(some [0,3,4,5,24,25]),(fun s H => J (Code.at [1,1,1,0,1,0,0,1,0,0,1,0,0,1,1,1] c69) s H (kk (some [0,3,4,5,24,25]) kn [(2,(some [0,3,4,5]),k2),(1,(some [0,3,4,5]),k1),(0,(some [3]),k0)] R [2]))),(2,(some [0,3,4,5]),k2),(1,(some [0,3,4,5]),k1),(0,(some [3]),k0)] R [2])))
 (
 k2 (sp 72 [(0,x0),(3,x3),(4,x4),(5,x5)]) H) := by
 kernel_rfl
theorem N69_6b_eq (ρ call yc lim k x0 x3 x4 x5 x24 x25 H kn k2 k1 k0 R) :
 evL (cx ρ) call yc false 69 lim k (Code.at [1,1,1,0,1,0,0,1,0,0,1,0,0] c69) (sp 72 [(0,x0),(3,x3),(4,x4),(5,x5),(24,x24),(25,x25)]) H (kk (some [0,3,4,5,24,25]) kn [(2,(some [0,3,4,5]),k2),(1,(some [0,3,4,5]),k1),(0,(some [3]),k0)] R [2]) = N69_6b ρ call yc lim k x0 x3 x4 x5 x24 x25 H (fun x3 x25 H => kn (sp 72 [(0,x0),(3,x3),(4,x4),(5,x5),(24,x24),(25,x25)]) H) (fun x3 x5 H => k2 (sp 72 [(0,x0),(3,x3),(4,x4),(5,x5)]) H) := by
 rw [evL_X,N69_6b_x]
 simp only [← evL_X,N69_6b,N69_7_eq,N69_8_eq]
noncomputable def N69_6 (ρ : RO) (call : CallF) (yc : YieldF) (lim k : Nat) (x0 x3 x4 x5 x24 x25 : AV) (H : Heap) (k2 : AV → AV → Heap → Res) : Res :=
 loopL (fun (x : AV × AV) H kn => N69_6b ρ call yc lim k x0 x.1 x4 x5 x24 x.2 H (fun x3 x25 H => kn (x3,x25) H) k2) k (x3,x25) H
theorem N69_6_eq (ρ call yc lim k x0 x3 x4 x5 x24 x25 H kn k2 k1 k0 R) :
 evL (cx ρ) call yc false 69 lim k (Code.at [1,1,1,0,1,0,0,1,0,0,1,0] c69) (sp 72 [(0,x0),(3,x3),(4,x4),(5,x5),(24,x24),(25,x25)]) H (kk (some [0,3,4,5]) kn [(2,(some [0,3,4,5]),k2),(1,(some [0,3,4,5]),k1),(0,(some [3]),k0)] R [2]) = N69_6 ρ call yc lim k x0 x3 x4 x5 x24 x25 H (fun x3 x5 H => k2 (sp 72 [(0,x0),(3,x3),(4,x4),(5,x5)]) H) := by
 have e : Code.at [1,1,1,0,1,0,0,1,0,0,1,0] c69 = .loop (Code.at [1,1,1,0,1,0,0,1,0,0,1,0,0] c69) := by kernel_rfl
 rw [e]
 unfold N69_6
 exact loop_node [0,3,4,5,24,25] (fun x : AV × AV => (sp 72 [(0,x0),(3,(x.1)),(4,x4),(5,x5),(24,x24),(25,(x.2))])) (fun (x : AV × AV) H kn => N69_6b ρ call yc lim k x0 x.1 x4 x5 x24 x.2 H (fun x3 x25 H => kn (x3,x25) H) (fun x3 x5 H => k2 (sp 72 [(0,x0),(3,x3),(4,x4),(5,x5)]) H)) (by kernel_rfl) (fun x => by kernel_rfl) (fun x H kn => N69_6b_eq ρ call yc lim k x0 (x.1) x4 x5 x24 (x.2) H kn k2 k1 k0 R) (x3,x25) (sp 72 [(0,x0),(3,x3),(4,x4),(5,x5),(24,x24),(25,x25)]) H (by kernel_rfl)
noncomputable def N69_5 (ρ : RO) (call : CallF) (yc : YieldF) (lim k : Nat) (x0 x3 x4 x5 x24 x25 : AV) (H : Heap) (kn : AV → AV → Heap → Res) : Res :=
 N69_6 ρ call yc lim k x0 x3 x4 x5 x24 x25 H kn
theorem N69_5_x (ρ call yc lim k J x0 x3 x4 x5 x24 x25 H kn k1 k0 R) :
 evX (cx ρ) call yc false 69 lim k J (Code.at [1,1,1,0,1,0,0,1,0,0,1] c69) (sp 72 [(0,x0),(3,x3),(4,x4),(5,x5),(24,x24),(25,x25)]) H (kk (some [0,3,4,5]) kn [(1,(some [0,3,4,5]),k1),(0,(some [3]),k0)] R [2]) =
 J (Code.at [1,1,1,0,1,0,0,1,0,0,1,0] c69) (sp 72 [(0,x0),(3,x3),(4,x4),(5,x5),(24,x24),(25,x25)]) H (kk (some [0,3,4,5]) kn [(2,(some [0,3,4,5]),kn),(1,(some [0,3,4,5]),k1),(0,(some [3]),k0)] R [2]) := by
 kernel_rfl
theorem N69_5_eq (ρ call yc lim k x0 x3 x4 x5 x24 x25 H kn k1 k0 R) :
 evL (cx ρ) call yc false 69 lim k (Code.at [1,1,1,0,1,0,0,1,0,0,1] c69) (sp 72 [(0,x0),(3,x3),(4,x4),(5,x5),(24,x24),(25,x25)]) H (kk (some [0,3,4,5]) kn [(1,(some [0,3,4,5]),k1),(0,(some [3]),k0)] R [2]) = N69_5 ρ call yc lim k x0 x3 x4 x5 x24 x25 H (fun x3 x5 H => kn (sp 72 [(0,x0),(3,x3),(4,x4),(5,x5)]) H) := by
 rw [evL_X,N69_5_x]
 simp only [← evL_X,N69_5,N69_6_eq]
noncomputable def N69_3b (ρ : RO) (call : CallF) (yc : YieldF) (lim k : Nat) (x0 x3 x4 x5 : AV) (H : Heap) (kn : AV → AV → Heap → Res) (k0 : AV → Heap → Res) : Res :=
 purK (lenS x3) fun x16_1 =>
 purK (binA Try.prog H .lss 3 x5 x16_1) fun x17_1 =>
 condK x17_1
 (
 purK (nilChkA x0) fun x21_1 =>
 purK (addA 0 x21_1) fun x22_1 =>
 purK (ld1 ρ H x22_1) fun x23_1 =>
 purK (lenS x23_1) fun x24_1 =>
 N69_5 ρ call yc lim k x0 x3 x4 x5 x24_1 (.int .i64 0) H (fun x3_1 x5_1 H =>
 N69_4 ρ call yc lim k x0 x3_1 x4 x5_1 H kn))
 (
 k0 x3 H)
theorem N69_3b_x (ρ call yc lim k J x0 x3 x4 x5 H kn k0 R) :
 evX (cx ρ) call yc false 69 lim k J (Code.at [1,1,1,0,1,0,0] c69) (sp 72 [(0,x0),(3,x3),(4,x4),(5,x5)]) H (kk (some [0,3,4,5]) kn [(0,(some [3]),k0)] R [2]) =
 purK (lenS x3) fun x16_1 =>
 purK (binA Try.prog H .lss 3 x5 x16_1) fun x17_1 =>
 condK x17_1
 (
 purK (nilChkA x0) fun x21_1 =>
 purK (addA 0 x21_1) fun x22_1 =>
 purK (ld1 ρ H x22_1) fun x23_1 =>
 purK (lenS x23_1) fun x24_1 =>
 J (Code.at [1,1,1,0,1,0,0,1,0,0,1] c69) (sp 72 [(0,x0),(3,x3),(4,x4),(5,x5),(24,x24_1),(25,(.int .i64 0))]) H (kk (some [0,3,4,5]) (fun s H => J (Code.at [1,1,1,0,1,0,0,1,1] c69) s H (kk (some [0,3,4,5]) kn [(0,(some [3]),k0)] R [2])) [(1,(some [0,3,4,5]),(fun s H => J (Code.at [1,1,1,0,1,0,0,1,1] c69) s H (kk (some [0,3,4,5]) kn [(0,(some [3]),k0)] R [2]))),(0,(some [3]),k0)] R [2]))
 (
 k0 (sp 72 [(3,x3)]) H) := by
 kernel_rfl
theorem N69_3b_eq (ρ call yc lim k x0 x3 x4 x5 H kn k0 R) :
 evL (cx ρ) call yc false 69 lim k (Code.at [1,1,1,0,1,0,0] c69) (sp 72 [(0,x0),(3,x3),(4,x4),(5,x5)]) H (kk (some [0,3,4,5]) kn [(0,(some [3]),k0)] R [2]) = N69_3b ρ call yc lim k x0 x3 x4 x5 H (fun x3 x5 H => kn (sp 72 [(0,x0),(3,x3),(4,x4),(5,x5)]) H) (fun x3 H => k0 (sp 72 [(3,x3)]) H) := by
 rw [evL_X,N69_3b_x]
 simp only [← evL_X,N69_3b,N69_4_eq,N69_5_eq]
noncomputable def N69_3 (ρ : RO) (call : CallF) (yc : YieldF) (lim k : Nat) (x0 x3 x4 x5 : AV) (H : Heap) (k0 : AV → Heap → Res) : Res :=
 loopL (fun (x : AV × AV) H kn => N69_3b ρ call yc lim k x0 x.1 x4 x.2 H (fun x3 x5 H => kn (x3,x5) H) k0) k (x3,x5) H
theorem N69_3_eq (ρ call yc lim k x0 x3 x4 x5 H kn k0 R) :
 evL (cx ρ) call yc false 69 lim k (Code.at [1,1,1,0,1,0] c69) (sp 72 [(0,x0),(3,x3),(4,x4),(5,x5)]) H (kk (some [3]) kn [(0,(some [3]),k0)] R [2]) = N69_3 ρ call yc lim k x0 x3 x4 x5 H (fun x3 H => k0 (sp 72 [(3,x3)]) H) := by
 have e : Code.at [1,1,1,0,1,0] c69 = .loop (Code.at [1,1,1,0,1,0,0] c69) := by kernel_rfl
 rw [e]
 unfold N69_3
 exact loop_node [0,3,4,5] (fun x : AV × AV => (sp 72 [(0,x0),(3,(x.1)),(4,x4),(5,(x.2))])) (fun (x : AV × AV) H kn => N69_3b ρ call yc lim k x0 x.1 x4 x.2 H (fun x3 x5 H => kn (x3,x5) H) (fun x3 H => k0 (sp 72 [(3,x3)]) H)) (by kernel_rfl) (fun x => by kernel_rfl) (fun x H kn => N69_3b_eq ρ call yc lim k x0 (x.1) x4 (x.2) H kn k0 R) (x3,x5) (sp 72 [(0,x0),(3,x3),(4,x4),(5,x5)]) H (by kernel_rfl)
noncomputable def N69_2 (ρ : RO) (call : CallF) (yc : YieldF) (lim k : Nat) (x0 x3 x4 x5 : AV) (H : Heap) (kn : AV → Heap → Res) : Res :=
 N69_3 ρ call yc lim k x0 x3 x4 x5 H kn
theorem N69_2_x (ρ call yc lim k J x0 x3 x4 x5 H kn R) :
 evX (cx ρ) call yc false 69 lim k J (Code.at [1,1,1,0,1] c69) (sp 72 [(0,x0),(3,x3),(4,x4),(5,x5)]) H (kk (some [3]) kn [] R [2]) =
 J (Code.at [1,1,1,0,1,0] c69) (sp 72 [(0,x0),(3,x3),(4,x4),(5,x5)]) H (kk (some [3]) kn [(0,(some [3]),kn)] R [2]) := by
 kernel_rfl
theorem N69_2_eq (ρ call yc lim k x0 x3 x4 x5 H kn R) :
 evL (cx ρ) call yc false 69 lim k (Code.at [1,1,1,0,1] c69) (sp 72 [(0,x0),(3,x3),(4,x4),(5,x5)]) H (kk (some [3]) kn [] R [2]) = N69_2 ρ call yc lim k x0 x3 x4 x5 H (fun x3 H => kn (sp 72 [(3,x3)]) H) := by
 rw [evL_X,N69_2_x]
 simp only [← evL_X,N69_2,N69_3_eq]
noncomputable def L69 (ρ : RO) (call : CallF) (yc : YieldF) (lim k : Nat) (x0 : AV) (H : Heap) : Res :=
 purK (bldA [.int .u32 0,.str ByteArray.empty,.bool false] []) fun x9 =>
 effK H (bldS H 105 3 [.int .u32 0,.str ByteArray.empty,.bool false] 1 [(0,3,x9)]) fun x10 H =>
 effK H (some (makeMapA H)) fun x11 H =>
 purK (bldA [.int .u32 0,.str ByteArray.empty,.bool false] []) fun x12 =>
 effK H ((mapPutA (cx ρ) lim H 151 x11 x12 (.bool true)).map skips) fun _ H =>
 N69_2 ρ call yc lim k x0 x10 x11 (.int .i64 0) H (fun x3 H =>
 N69_1 ρ call yc lim k x3 H retK)
theorem L69_x (ρ call yc lim k J x0 H) :
 evX (cx ρ) call yc false 69 lim k J c69 ([x0] ++ List.replicate 71 (.tup [])) H (kk none (fun s H => retK (gs [2] s) H) [] retK [2]) =
 purK (bldA [.int .u32 0,.str ByteArray.empty,.bool false] []) fun x9 =>
 effK H (bldS H 105 3 [.int .u32 0,.str ByteArray.empty,.bool false] 1 [(0,3,x9)]) fun x10 H =>
 effK H (some (makeMapA H)) fun x11 H =>
 purK (bldA [.int .u32 0,.str ByteArray.empty,.bool false] []) fun x12 =>
 effK H ((mapPutA (cx ρ) lim H 151 x11 x12 (.bool true)).map skips) fun _ H =>
 J (Code.at [1,1,1,0,1] c69) (sp 72 [(0,x0),(3,x10),(4,x11),(5,(.int .i64 0))]) H (kk (some [3]) (fun s H => J (Code.at [1,1,1,1] c69) s H (kk none (fun s H => retK (gs [2] s) H) [] retK [2])) [] retK [2]) := by
 kernel_rfl
theorem G69 (ρ call yc lim k x0 H) :
 evL (cx ρ) call yc false 69 lim k c69 ([x0] ++ List.replicate 71 (.tup [])) H (kk none (fun s H => retK (gs [2] s) H) [] retK [2]) = L69 ρ call yc lim k x0 H := by
 rw [evL_X,L69_x]
 simp only [← evL_X,L69,N69_1_eq,N69_2_eq]
theorem E69 (ρ : RO) (k lim : Nat) (x0 : AV) (H : Heap) : evCall (cx ρ) (k + 1) lim 69 [x0] H = L69 ρ (evCall (cx ρ) k) (evCY (cx ρ) k).2 lim k x0 H := by
 rw [evCall_body (cx ρ) k lim 69 _ H Try.f69 c69 [2] (by kernel_rfl) (by kernel_rfl) (by kernel_rfl) (by kernel_rfl) (by kernel_rfl)]
 exact G69 ρ (evCall (cx ρ) k) (evCY (cx ρ) k).2 lim k x0 H
-- (*haycroft/history.search).whole$1
noncomputable def c70 : Code := Code.of Try.prog 70
noncomputable def L70 (ρ : RO) (call : CallF) (yc : YieldF) (lim k : Nat) (x0 x1 : AV) (H : Heap) : Res :=
 effK H (boxA H 105 x0) fun x2 H =>
 purK (ld1 ρ H x1) fun x4 =>
 purK (nilChkA x4) fun x5 =>
 purK (addA 3 x5) fun x6 =>
 purK (ld1 ρ H x6) fun x7 =>
 purK (addA 0 x2) fun x8 =>
 purK (ld1 ρ H x8) fun x9 =>
 purK (binA Try.prog H .andNot 101 x7 x9) fun x10 =>
 purK (binA Try.prog H .neq 101 x10 (.int .u32 0)) fun x11 =>
 retK [x11] H
theorem G70 (ρ call yc lim k x0 x1 H) :
 evL (cx ρ) call yc false 70 lim k c70 ([x0,x1] ++ List.replicate 10 (.tup [])) H (kk none (fun s H => retK (gs [3] s) H) [] retK [3]) = L70 ρ call yc lim k x0 x1 H := by
 kernel_rfl
theorem E70 (ρ : RO) (k lim : Nat) (x0 x1 : AV) (H : Heap) : evCall (cx ρ) (k + 1) lim 70 [x0,x1] H = L70 ρ (evCall (cx ρ) k) (evCY (cx ρ) k).2 lim k x0 x1 H := by
 rw [evCall_body (cx ρ) k lim 70 _ H Try.f70 c70 [3] (by kernel_rfl) (by kernel_rfl) (by kernel_rfl) (by kernel_rfl) (by kernel_rfl)]
 exact G70 ρ (evCall (cx ρ) k) (evCY (cx ρ) k).2 lim k x0 x1 H
-- slices.Reverse[[]int,int]
noncomputable def c71 : Code := Code.of Try.prog 71
noncomputable def N71_2b (ρ : RO) (call : CallF) (yc : YieldF) (lim k : Nat) (x0 x2 x3 : AV) (H : Heap) (kn : AV → AV → Heap → Res) (R : KR) : Res :=
 purK (binA Try.prog H .lss 3 x2 x3) fun x9_1 =>
 condK x9_1
 (
 purK (ixS 1 x0 x3) fun x20_1 =>
 purK (ld1 ρ H x20_1) fun x21_1 =>
 purK (ixS 1 x0 x2) fun x24_1 =>
 purK (ld1 ρ H x24_1) fun x25_1 =>
 purK (ixS 1 x0 x2) fun x26_1 =>
 effK H (stA lim H 1 x26_1 x21_1) fun _ H =>
 purK (ixS 1 x0 x3) fun x27_1 =>
 effK H (stA lim H 1 x27_1 x25_1) fun _ H =>
 purK (binA Try.prog H .add 3 x2 (.int .i64 1)) fun x11_1 =>
 purK (binA Try.prog H .sub 3 x3 (.int .i64 1)) fun x13_1 =>
 kn x11_1 x13_1 H)
 (
 R [] H)
theorem N71_2b_eq (ρ call yc lim k x0 x2 x3 H kn R) :
 evL (cx ρ) call yc false 71 lim k (Code.at [1,0,0] c71) (sp 28 [(0,x0),(2,x2),(3,x3)]) H (kk (some [0,2,3]) kn [(0,none,(fun s H => R (gs [] s) H))] R []) = N71_2b ρ call yc lim k x0 x2 x3 H (fun x2 x3 H => kn (sp 28 [(0,x0),(2,x2),(3,x3)]) H) R := by
 kernel_rfl
noncomputable def N71_2 (ρ : RO) (call : CallF) (yc : YieldF) (lim k : Nat) (x0 x2 x3 : AV) (H : Heap) (R : KR) : Res :=
 loopL (fun (x : AV × AV) H kn => N71_2b ρ call yc lim k x0 x.1 x.2 H (fun x2 x3 H => kn (x2,x3) H) R) k (x2,x3) H
theorem N71_2_eq (ρ call yc lim k x0 x2 x3 H R) :
 evL (cx ρ) call yc false 71 lim k (Code.at [1,0] c71) (sp 28 [(0,x0),(2,x2),(3,x3)]) H (kk none (fun s H => R (gs [] s) H) [(0,none,(fun s H => R (gs [] s) H))] R []) = N71_2 ρ call yc lim k x0 x2 x3 H R := by
 have e : Code.at [1,0] c71 = .loop (Code.at [1,0,0] c71) := by kernel_rfl
 rw [e]
 unfold N71_2
 exact loop_node [0,2,3] (fun x : AV × AV => (sp 28 [(0,x0),(2,(x.1)),(3,(x.2))])) (fun (x : AV × AV) H kn => N71_2b ρ call yc lim k x0 x.1 x.2 H (fun x2 x3 H => kn (x2,x3) H) R) (by kernel_rfl) (fun x => by kernel_rfl) (fun x H kn => N71_2b_eq ρ call yc lim k x0 (x.1) (x.2) H kn R) (x2,x3) (sp 28 [(0,x0),(2,x2),(3,x3)]) H (by kernel_rfl)
noncomputable def N71_1 (ρ : RO) (call : CallF) (yc : YieldF) (lim k : Nat) (x0 x2 x3 : AV) (H : Heap) (R : KR) : Res :=
 N71_2 ρ call yc lim k x0 x2 x3 H R
theorem N71_1_x (ρ call yc lim k J x0 x2 x3 H R) :
 evX (cx ρ) call yc false 71 lim k J (Code.at [1] c71) (sp 28 [(0,x0),(2,x2),(3,x3)]) H (kk none (fun s H => R (gs [] s) H) [] R []) =
 J (Code.at [1,0] c71) (sp 28 [(0,x0),(2,x2),(3,x3)]) H (kk none (fun s H => R (gs [] s) H) [(0,none,(fun s H => R (gs [] s) H))] R []) := by
 kernel_rfl
theorem N71_1_eq (ρ call yc lim k x0 x2 x3 H R) :
 evL (cx ρ) call yc false 71 lim k (Code.at [1] c71) (sp 28 [(0,x0),(2,x2),(3,x3)]) H (kk none (fun s H => R (gs [] s) H) [] R []) = N71_1 ρ call yc lim k x0 x2 x3 H R := by
 rw [evL_X,N71_1_x]
 simp only [← evL_X,N71_1,N71_2_eq]
noncomputable def L71 (ρ : RO) (call : CallF) (yc : YieldF) (lim k : Nat) (x0 : AV) (H : Heap) : Res :=
 purK (lenS x0) fun x5 =>
 purK (binA Try.prog H .sub 3 x5 (.int .i64 1)) fun x6 =>
 N71_1 ρ call yc lim k x0 (.int .i64 0) x6 H retK
theorem L71_x (ρ call yc lim k J x0 H) :
 evX (cx ρ) call yc false 71 lim k J c71 ([x0] ++ List.replicate 27 (.tup [])) H (kk none (fun s H => retK (gs [] s) H) [] retK []) =
 purK (lenS x0) fun x5 =>
 purK (binA Try.prog H .sub 3 x5 (.int .i64 1)) fun x6 =>
 J (Code.at [1] c71) (sp 28 [(0,x0),(2,(.int .i64 0)),(3,x6)]) H (kk none (fun s H => retK (gs [] s) H) [] retK []) := by
 kernel_rfl
theorem G71 (ρ call yc lim k x0 H) :
 evL (cx ρ) call yc false 71 lim k c71 ([x0] ++ List.replicate 27 (.tup [])) H (kk none (fun s H => retK (gs [] s) H) [] retK []) = L71 ρ call yc lim k x0 H := by
 rw [evL_X,L71_x]
 simp only [← evL_X,L71,N71_1_eq]
theorem E71 (ρ : RO) (k lim : Nat) (x0 : AV) (H : Heap) : evCall (cx ρ) (k + 1) lim 71 [x0] H = L71 ρ (evCall (cx ρ) k) (evCY (cx ρ) k).2 lim k x0 H := by
 rw [evCall_body (cx ρ) k lim 71 _ H Try.f71 c71 [] (by kernel_rfl) (by kernel_rfl) (by kernel_rfl) (by kernel_rfl) (by kernel_rfl)]
 exact G71 ρ (evCall (cx ρ) k) (evCY (cx ρ) k).2 lim k x0 H
-- haycroft/record.Value
noncomputable def c72 : Code := Code.of Try.prog 72
noncomputable def L72 (ρ : RO) (call : CallF) (yc : YieldF) (lim k : Nat) (x0 : AV) (H : Heap) : Res :=
 effK H (bldS H 49 1 [.int .u64 0] 1 [(0,1,x0)]) fun x7 H =>
 resK (call lim 77 [x7,(.int .i64 8)] H) fun x8 H =>
 purK (extA 0 x8) fun x9 =>
 purK (extA 1 x8) fun x10 =>
 retK [x9] H
theorem G72 (ρ call yc lim k x0 H) :
 evL (cx ρ) call yc false 72 lim k c72 ([x0] ++ List.replicate 11 (.tup [])) H (kk none (fun s H => retK (gs [2] s) H) [] retK [2]) = L72 ρ call yc lim k x0 H := by
 kernel_rfl
theorem E72 (ρ : RO) (k lim : Nat) (x0 : AV) (H : Heap) : evCall (cx ρ) (k + 1) lim 72 [x0] H = L72 ρ (evCall (cx ρ) k) (evCY (cx ρ) k).2 lim k x0 H := by
 rw [evCall_body (cx ρ) k lim 72 _ H Try.f72 c72 [2] (by kernel_rfl) (by kernel_rfl) (by kernel_rfl) (by kernel_rfl) (by kernel_rfl)]
 exact G72 ρ (evCall (cx ρ) k) (evCY (cx ρ) k).2 lim k x0 H
-- haycroft/record.Number
noncomputable def c73 : Code := Code.of Try.prog 73
noncomputable def L73 (ρ : RO) (call : CallF) (yc : YieldF) (lim k : Nat) (x0 : AV) (H : Heap) : Res :=
 purK (lenT x0) fun x4 =>
 purK (binA Try.prog H .neq 3 x4 (.int .i64 8)) fun x5 =>
 condK x5
 (
 retK [(.int .u64 0)] H)
 (
 resK (call lim 96 [x0] H) fun x7 H =>
 purK (ixS 1 x7 (.int .i64 0)) fun x8 =>
 purK (ld1 ρ H x8) fun x9 =>
 retK [x9] H)
theorem G73 (ρ call yc lim k x0 H) :
 evL (cx ρ) call yc false 73 lim k c73 ([x0] ++ List.replicate 9 (.tup [])) H (kk none (fun s H => retK (gs [2] s) H) [] retK [2]) = L73 ρ call yc lim k x0 H := by
 kernel_rfl
theorem E73 (ρ : RO) (k lim : Nat) (x0 : AV) (H : Heap) : evCall (cx ρ) (k + 1) lim 73 [x0] H = L73 ρ (evCall (cx ρ) k) (evCY (cx ρ) k).2 lim k x0 H := by
 rw [evCall_body (cx ρ) k lim 73 _ H Try.f73 c73 [2] (by kernel_rfl) (by kernel_rfl) (by kernel_rfl) (by kernel_rfl) (by kernel_rfl)]
 exact G73 ρ (evCall (cx ρ) k) (evCY (cx ρ) k).2 lim k x0 H
-- slices.Collect[string]
noncomputable def c74 : Code := Code.of Try.prog 74
noncomputable def L74 (ρ : RO) (call : CallF) (yc : YieldF) (lim k : Nat) (x0 : AV) (H : Heap) : Res :=
 resK (call lim 97 [.nils,x0] H) fun x4 H =>
 retK [x4] H
theorem G74 (ρ call yc lim k x0 H) :
 evL (cx ρ) call yc false 74 lim k c74 ([x0] ++ List.replicate 4 (.tup [])) H (kk none (fun s H => retK (gs [2] s) H) [] retK [2]) = L74 ρ call yc lim k x0 H := by
 kernel_rfl
theorem E74 (ρ : RO) (k lim : Nat) (x0 : AV) (H : Heap) : evCall (cx ρ) (k + 1) lim 74 [x0] H = L74 ρ (evCall (cx ρ) k) (evCY (cx ρ) k).2 lim k x0 H := by
 rw [evCall_body (cx ρ) k lim 74 _ H Try.f74 c74 [2] (by kernel_rfl) (by kernel_rfl) (by kernel_rfl) (by kernel_rfl) (by kernel_rfl)]
 exact G74 ρ (evCall (cx ρ) k) (evCY (cx ρ) k).2 lim k x0 H
-- maps.Keys[map[string]bool,string,bool]$1
noncomputable def c75 : Code := Code.of Try.prog 75
noncomputable def N75_2b (ρ : RO) (call : CallF) (yc : YieldF) (lim k : Nat) (x0 x5 : AV) (H : Heap) (kn : Heap → Res) (R : KR) : Res :=
 nextK lim H x5 false fun x6_1 H =>
 purK (extA 0 x6_1) fun x7_1 =>
 condK x7_1
 (
 purK (entryA H x5) fun x8_1 =>
 purK (extA 0 x8_1) fun x9_1 =>
 valK call yc lim x0 [x9_1] H fun x12_1 H =>
 purK (unA .not x12_1) fun x13_1 =>
 condK x13_1
 (
 R [] H)
 (
 kn H))
 (
 R [] H)
theorem N75_2b_eq (ρ call yc lim k x0 x5 H kn R) :
 evL (cx ρ) call yc false 75 lim k (Code.at [1,0,0] c75) (sp 14 [(0,x0),(5,x5)]) H (kk (some [0,5]) kn [(0,none,(fun s H => R (gs [] s) H))] R []) = N75_2b ρ call yc lim k x0 x5 H (fun H => kn (sp 14 [(0,x0),(5,x5)]) H) R := by
 kernel_rfl
noncomputable def N75_2 (ρ : RO) (call : CallF) (yc : YieldF) (lim k : Nat) (x0 x5 : AV) (H : Heap) (R : KR) : Res :=
 loopL (fun (x : Unit) H kn => N75_2b ρ call yc lim k x0 x5 H (fun H => kn () H) R) k () H
theorem N75_2_eq (ρ call yc lim k x0 x5 H R) :
 evL (cx ρ) call yc false 75 lim k (Code.at [1,0] c75) (sp 14 [(0,x0),(5,x5)]) H (kk none (fun s H => R (gs [] s) H) [(0,none,(fun s H => R (gs [] s) H))] R []) = N75_2 ρ call yc lim k x0 x5 H R := by
 have e : Code.at [1,0] c75 = .loop (Code.at [1,0,0] c75) := by kernel_rfl
 rw [e]
 unfold N75_2
 exact loop_node [0,5] (fun x : Unit => (sp 14 [(0,x0),(5,x5)])) (fun (x : Unit) H kn => N75_2b ρ call yc lim k x0 x5 H (fun H => kn () H) R) (by kernel_rfl) (fun x => by kernel_rfl) (fun x H kn => N75_2b_eq ρ call yc lim k x0 x5 H kn R) () (sp 14 [(0,x0),(5,x5)]) H (by kernel_rfl)
noncomputable def N75_1 (ρ : RO) (call : CallF) (yc : YieldF) (lim k : Nat) (x0 x5 : AV) (H : Heap) (R : KR) : Res :=
 N75_2 ρ call yc lim k x0 x5 H R
theorem N75_1_x (ρ call yc lim k J x0 x5 H R) :
 evX (cx ρ) call yc false 75 lim k J (Code.at [1] c75) (sp 14 [(0,x0),(5,x5)]) H (kk none (fun s H => R (gs [] s) H) [] R []) =
 J (Code.at [1,0] c75) (sp 14 [(0,x0),(5,x5)]) H (kk none (fun s H => R (gs [] s) H) [(0,none,(fun s H => R (gs [] s) H))] R []) := by
 kernel_rfl
theorem N75_1_eq (ρ call yc lim k x0 x5 H R) :
 evL (cx ρ) call yc false 75 lim k (Code.at [1] c75) (sp 14 [(0,x0),(5,x5)]) H (kk none (fun s H => R (gs [] s) H) [] R []) = N75_1 ρ call yc lim k x0 x5 H R := by
 rw [evL_X,N75_1_x]
 simp only [← evL_X,N75_1,N75_2_eq]
noncomputable def L75 (ρ : RO) (call : CallF) (yc : YieldF) (lim k : Nat) (x0 x1 : AV) (H : Heap) : Res :=
 purK (ld1 ρ H x1) fun x4 =>
 effK H (rangeA H Try.prog 108 x4) fun x5 H =>
 N75_1 ρ call yc lim k x0 x5 H retK
theorem L75_x (ρ call yc lim k J x0 x1 H) :
 evX (cx ρ) call yc false 75 lim k J c75 ([x0,x1] ++ List.replicate 12 (.tup [])) H (kk none (fun s H => retK (gs [] s) H) [] retK []) =
 purK (ld1 ρ H x1) fun x4 =>
 effK H (rangeA H Try.prog 108 x4) fun x5 H =>
 J (Code.at [1] c75) (sp 14 [(0,x0),(5,x5)]) H (kk none (fun s H => retK (gs [] s) H) [] retK []) := by
 kernel_rfl
theorem G75 (ρ call yc lim k x0 x1 H) :
 evL (cx ρ) call yc false 75 lim k c75 ([x0,x1] ++ List.replicate 12 (.tup [])) H (kk none (fun s H => retK (gs [] s) H) [] retK []) = L75 ρ call yc lim k x0 x1 H := by
 rw [evL_X,L75_x]
 simp only [← evL_X,L75,N75_1_eq]
theorem E75 (ρ : RO) (k lim : Nat) (x0 x1 : AV) (H : Heap) : evCall (cx ρ) (k + 1) lim 75 [x0,x1] H = L75 ρ (evCall (cx ρ) k) (evCY (cx ρ) k).2 lim k x0 x1 H := by
 rw [evCall_body (cx ρ) k lim 75 _ H Try.f75 c75 [] (by kernel_rfl) (by kernel_rfl) (by kernel_rfl) (by kernel_rfl) (by kernel_rfl)]
 exact G75 ρ (evCall (cx ρ) k) (evCY (cx ρ) k).2 lim k x0 x1 H
-- haycroft/field.Bytes
noncomputable def c77 : Code := Code.of Try.prog 77
noncomputable def N77_2 (ρ : RO) (call : CallF) (yc : YieldF) (lim k : Nat) (x1 x6 : AV) (H : Heap) (R : KR) : Res :=
 purK (slS 1 x6 none (some x1) none) fun x62_1 =>
 purK (b2s ρ H x62_1) fun x63_1 =>
 R [x63_1,(.int .i64 0)] H
theorem N77_2_eq (ρ call yc lim k x1 x6 H R) :
 evL (cx ρ) call yc false 77 lim k (Code.at [1,1,1,1,1,1] c77) (sp 64 [(1,x1),(6,x6)]) H (kk none (fun s H => R (gs [4,5] s) H) [] R [4,5]) = N77_2 ρ call yc lim k x1 x6 H R := by
 kernel_rfl
noncomputable def N77_4b (ρ : RO) (call : CallF) (yc : YieldF) (lim k : Nat) (x1 x6 x51 x52 x53 : AV) (H : Heap) (kn : AV → Heap → Res) (k3 : AV → AV → Heap → Res) (R : KR) : Res :=
 purK (binA Try.prog H .lss 3 x53 x52) fun x54_1 =>
 condK x54_1
 (
 purK (ixS 1 x51 x53) fun x55_1 =>
 purK (ld1 ρ H x55_1) fun x56_1 =>
 purK (binA Try.prog H .neq 5 x56_1 (.int .u8 0)) fun x58_1 =>
 condK x58_1
 (
 R [(.str (ByteArray.mk #[])),(.int .i64 4)] H)
 (
 purK (binA Try.prog H .add 3 x53 (.int .i64 1)) fun x59_1 =>
 kn x59_1 H))
 (
 k3 x1 x6 H)
theorem N77_4b_eq (ρ call yc lim k x1 x6 x51 x52 x53 H kn k3 R) :
 evL (cx ρ) call yc false 77 lim k (Code.at [1,1,1,1,1,0,1,0,0] c77) (sp 64 [(1,x1),(6,x6),(51,x51),(52,x52),(53,x53)]) H (kk (some [1,6,51,52,53]) kn [(3,(some [1,6]),k3)] R [4,5]) = N77_4b ρ call yc lim k x1 x6 x51 x52 x53 H (fun x53 H => kn (sp 64 [(1,x1),(6,x6),(51,x51),(52,x52),(53,x53)]) H) (fun x1 x6 H => k3 (sp 64 [(1,x1),(6,x6)]) H) R := by
 kernel_rfl
noncomputable def N77_4 (ρ : RO) (call : CallF) (yc : YieldF) (lim k : Nat) (x1 x6 x51 x52 x53 : AV) (H : Heap) (k3 : AV → AV → Heap → Res) (R : KR) : Res :=
 loopL (fun (x : AV) H kn => N77_4b ρ call yc lim k x1 x6 x51 x52 x H (fun x53 H => kn x53 H) k3 R) k x53 H
theorem N77_4_eq (ρ call yc lim k x1 x6 x51 x52 x53 H kn k3 R) :
 evL (cx ρ) call yc false 77 lim k (Code.at [1,1,1,1,1,0,1,0] c77) (sp 64 [(1,x1),(6,x6),(51,x51),(52,x52),(53,x53)]) H (kk (some [1,6]) kn [(3,(some [1,6]),k3)] R [4,5]) = N77_4 ρ call yc lim k x1 x6 x51 x52 x53 H (fun x1 x6 H => k3 (sp 64 [(1,x1),(6,x6)]) H) R := by
 have e : Code.at [1,1,1,1,1,0,1,0] c77 = .loop (Code.at [1,1,1,1,1,0,1,0,0] c77) := by kernel_rfl
 rw [e]
 unfold N77_4
 exact loop_node [1,6,51,52,53] (fun x : AV => (sp 64 [(1,x1),(6,x6),(51,x51),(52,x52),(53,(x))])) (fun (x : AV) H kn => N77_4b ρ call yc lim k x1 x6 x51 x52 x H (fun x53 H => kn x53 H) (fun x1 x6 H => k3 (sp 64 [(1,x1),(6,x6)]) H) R) (by kernel_rfl) (fun x => by kernel_rfl) (fun x H kn => N77_4b_eq ρ call yc lim k x1 x6 x51 x52 (x) H kn k3 R) x53 (sp 64 [(1,x1),(6,x6),(51,x51),(52,x52),(53,x53)]) H (by kernel_rfl)
noncomputable def N77_3 (ρ : RO) (call : CallF) (yc : YieldF) (lim k : Nat) (x1 x6 x51 x52 x53 : AV) (H : Heap) (kn : AV → AV → Heap → Res) (R : KR) : Res :=
 N77_4 ρ call yc lim k x1 x6 x51 x52 x53 H kn R
theorem N77_3_x (ρ call yc lim k J x1 x6 x51 x52 x53 H kn R) :
 evX (cx ρ) call yc false 77 lim k J (Code.at [1,1,1,1,1,0,1] c77) (sp 64 [(1,x1),(6,x6),(51,x51),(52,x52),(53,x53)]) H (kk (some [1,6]) kn [] R [4,5]) =
 J (Code.at [1,1,1,1,1,0,1,0] c77) (sp 64 [(1,x1),(6,x6),(51,x51),(52,x52),(53,x53)]) H (kk (some [1,6]) kn [(3,(some [1,6]),kn)] R [4,5]) := by
 kernel_rfl
theorem N77_3_eq (ρ call yc lim k x1 x6 x51 x52 x53 H kn R) :
 evL (cx ρ) call yc false 77 lim k (Code.at [1,1,1,1,1,0,1] c77) (sp 64 [(1,x1),(6,x6),(51,x51),(52,x52),(53,x53)]) H (kk (some [1,6]) kn [] R [4,5]) = N77_3 ρ call yc lim k x1 x6 x51 x52 x53 H (fun x1 x6 H => kn (sp 64 [(1,x1),(6,x6)]) H) R := by
 rw [evL_X,N77_3_x]
 simp only [← evL_X,N77_3,N77_4_eq]
noncomputable def N77_1 (ρ : RO) (call : CallF) (yc : YieldF) (lim k : Nat) (x0 x1 x6 : AV) (H : Heap) (R : KR) : Res :=
 purK (lenS x0) fun x43_1 =>
 purK (binA Try.prog H .add 3 x1 (.int .i64 8)) fun x45_1 =>
 purK (binA Try.prog H .sub 3 x45_1 (.int .i64 1)) fun x46_1 =>
 purK (binA Try.prog H .quo 3 x46_1 (.int .i64 8)) fun x47_1 =>
 purK (binA Try.prog H .neq 3 x43_1 x47_1) fun x48_1 =>
 condK x48_1
 (
 R [(.str (ByteArray.mk #[])),(.int .i64 4)] H)
 (
 purK (slS 1 x6 (some x1) none none) fun x51_1 =>
 purK (lenS x51_1) fun x52_1 =>
 N77_3 ρ call yc lim k x1 x6 x51_1 x52_1 (.int .i64 0) H (fun x1_1 x6_1 H =>
 N77_2 ρ call yc lim k x1_1 x6_1 H R) R)
theorem N77_1_x (ρ call yc lim k J x0 x1 x6 H R) :
 evX (cx ρ) call yc false 77 lim k J (Code.at [1,1,1,1] c77) (sp 64 [(0,x0),(1,x1),(6,x6)]) H (kk none (fun s H => R (gs [4,5] s) H) [] R [4,5]) =
 purK (lenS x0) fun x43_1 =>
 purK (binA Try.prog H .add 3 x1 (.int .i64 8)) fun x45_1 =>
 purK (binA Try.prog H .sub 3 x45_1 (.int .i64 1)) fun x46_1 =>
 purK (binA Try.prog H .quo 3 x46_1 (.int .i64 8)) fun x47_1 =>
 purK (binA Try.prog H .neq 3 x43_1 x47_1) fun x48_1 =>
 condK x48_1
 (
 R [(.str (ByteArray.mk #[])),(.int .i64 4)] H)
 (
 purK (slS 1 x6 (some x1) none none) fun x51_1 =>
 purK (lenS x51_1) fun x52_1 =>
 J (Code.at [1,1,1,1,1,0,1] c77) (sp 64 [(1,x1),(6,x6),(51,x51_1),(52,x52_1),(53,(.int .i64 0))]) H (kk (some [1,6]) (fun s H => J (Code.at [1,1,1,1,1,1] c77) s H (kk none (fun s H => R (gs [4,5] s) H) [] R [4,5])) [] R [4,5])) := by
 kernel_rfl
theorem N77_1_eq (ρ call yc lim k x0 x1 x6 H R) :
 evL (cx ρ) call yc false 77 lim k (Code.at [1,1,1,1] c77) (sp 64 [(0,x0),(1,x1),(6,x6)]) H (kk none (fun s H => R (gs [4,5] s) H) [] R [4,5]) = N77_1 ρ call yc lim k x0 x1 x6 H R := by
 rw [evL_X,N77_1_x]
 simp only [← evL_X,N77_1,N77_2_eq,N77_3_eq]
noncomputable def N77_6b (ρ : RO) (call : CallF) (yc : YieldF) (lim k : Nat) (x0 x1 x6 x24 x25 : AV) (H : Heap) (kn : AV → Heap → Res) (k1 : AV → AV → AV → Heap → Res) : Res :=
 purK (binA Try.prog H .lss 3 x25 x24) fun x26_1 =>
 condK x26_1
 (
 purK (binA Try.prog H .quo 3 x25 (.int .i64 8)) fun x32_1 =>
 purK (ixS 1 x0 x32_1) fun x33_1 =>
 purK (ld1 ρ H x33_1) fun x34_1 =>
 purK (binA Try.prog H .rem 3 x25 (.int .i64 8)) fun x36_1 =>
 purK (binA Try.prog H .mul 3 x36_1 (.int .i64 8)) fun x37_1 =>
 purK (binA Try.prog H .shr 49 x34_1 x37_1) fun x38_1 =>
 purK (cvI .u8 x38_1) fun x39_1 =>
 purK (ixS 1 x6 x25) fun x40_1 =>
 effK H (stA lim H 1 x40_1 x39_1) fun _ H =>
 purK (binA Try.prog H .add 3 x25 (.int .i64 1)) fun x41_1 =>
 kn x41_1 H)
 (
 k1 x0 x1 x6 H)
theorem N77_6b_eq (ρ call yc lim k x0 x1 x6 x24 x25 H kn k1 R) :
 evL (cx ρ) call yc false 77 lim k (Code.at [1,1,1,0,1,0,0] c77) (sp 64 [(0,x0),(1,x1),(6,x6),(24,x24),(25,x25)]) H (kk (some [0,1,6,24,25]) kn [(1,(some [0,1,6]),k1)] R [4,5]) = N77_6b ρ call yc lim k x0 x1 x6 x24 x25 H (fun x25 H => kn (sp 64 [(0,x0),(1,x1),(6,x6),(24,x24),(25,x25)]) H) (fun x0 x1 x6 H => k1 (sp 64 [(0,x0),(1,x1),(6,x6)]) H) := by
 kernel_rfl
noncomputable def N77_6 (ρ : RO) (call : CallF) (yc : YieldF) (lim k : Nat) (x0 x1 x6 x24 x25 : AV) (H : Heap) (k1 : AV → AV → AV → Heap → Res) : Res :=
 loopL (fun (x : AV) H kn => N77_6b ρ call yc lim k x0 x1 x6 x24 x H (fun x25 H => kn x25 H) k1) k x25 H
theorem N77_6_eq (ρ call yc lim k x0 x1 x6 x24 x25 H kn k1 R) :
 evL (cx ρ) call yc false 77 lim k (Code.at [1,1,1,0,1,0] c77) (sp 64 [(0,x0),(1,x1),(6,x6),(24,x24),(25,x25)]) H (kk (some [0,1,6]) kn [(1,(some [0,1,6]),k1)] R [4,5]) = N77_6 ρ call yc lim k x0 x1 x6 x24 x25 H (fun x0 x1 x6 H => k1 (sp 64 [(0,x0),(1,x1),(6,x6)]) H) := by
 have e : Code.at [1,1,1,0,1,0] c77 = .loop (Code.at [1,1,1,0,1,0,0] c77) := by kernel_rfl
 rw [e]
 unfold N77_6
 exact loop_node [0,1,6,24,25] (fun x : AV => (sp 64 [(0,x0),(1,x1),(6,x6),(24,x24),(25,(x))])) (fun (x : AV) H kn => N77_6b ρ call yc lim k x0 x1 x6 x24 x H (fun x25 H => kn x25 H) (fun x0 x1 x6 H => k1 (sp 64 [(0,x0),(1,x1),(6,x6)]) H)) (by kernel_rfl) (fun x => by kernel_rfl) (fun x H kn => N77_6b_eq ρ call yc lim k x0 x1 x6 x24 (x) H kn k1 R) x25 (sp 64 [(0,x0),(1,x1),(6,x6),(24,x24),(25,x25)]) H (by kernel_rfl)
noncomputable def N77_5 (ρ : RO) (call : CallF) (yc : YieldF) (lim k : Nat) (x0 x1 x6 x24 x25 : AV) (H : Heap) (kn : AV → AV → AV → Heap → Res) : Res :=
 N77_6 ρ call yc lim k x0 x1 x6 x24 x25 H kn
theorem N77_5_x (ρ call yc lim k J x0 x1 x6 x24 x25 H kn R) :
 evX (cx ρ) call yc false 77 lim k J (Code.at [1,1,1,0,1] c77) (sp 64 [(0,x0),(1,x1),(6,x6),(24,x24),(25,x25)]) H (kk (some [0,1,6]) kn [] R [4,5]) =
 J (Code.at [1,1,1,0,1,0] c77) (sp 64 [(0,x0),(1,x1),(6,x6),(24,x24),(25,x25)]) H (kk (some [0,1,6]) kn [(1,(some [0,1,6]),kn)] R [4,5]) := by
 kernel_rfl
theorem N77_5_eq (ρ call yc lim k x0 x1 x6 x24 x25 H kn R) :
 evL (cx ρ) call yc false 77 lim k (Code.at [1,1,1,0,1] c77) (sp 64 [(0,x0),(1,x1),(6,x6),(24,x24),(25,x25)]) H (kk (some [0,1,6]) kn [] R [4,5]) = N77_5 ρ call yc lim k x0 x1 x6 x24 x25 H (fun x0 x1 x6 H => kn (sp 64 [(0,x0),(1,x1),(6,x6)]) H) := by
 rw [evL_X,N77_5_x]
 simp only [← evL_X,N77_5,N77_6_eq]
noncomputable def L77 (ρ : RO) (call : CallF) (yc : YieldF) (lim k : Nat) (x0 x1 : AV) (H : Heap) : Res :=
 purK (binA Try.prog H .lss 3 x1 (.int .i64 0)) fun x12 =>
 condK x12
 (
 retK [(.str (ByteArray.mk #[])),(.int .i64 1)] H)
 (
 purK (lenS x0) fun x16 =>
 purK (binA Try.prog H .mul 3 (.int .i64 8) x16) fun x17 =>
 purK (binA Try.prog H .gtr 3 x1 x17) fun x18 =>
 condK x18
 (
 retK [(.str (ByteArray.mk #[])),(.int .i64 3)] H)
 (
 purK (lenS x0) fun x20 =>
 purK (binA Try.prog H .mul 3 (.int .i64 8) x20) fun x21 =>
 effK H (mkS H 5 1 1 [.int .u8 0] x21 x21) fun x22 H =>
 purK (lenS x22) fun x24 =>
 N77_5 ρ call yc lim k x0 x1 x22 x24 (.int .i64 0) H (fun x0_1 x1_1 x6 H =>
 N77_1 ρ call yc lim k x0_1 x1_1 x6 H retK)))
theorem L77_x (ρ call yc lim k J x0 x1 H) :
 evX (cx ρ) call yc false 77 lim k J c77 ([x0,x1] ++ List.replicate 62 (.tup [])) H (kk none (fun s H => retK (gs [4,5] s) H) [] retK [4,5]) =
 purK (binA Try.prog H .lss 3 x1 (.int .i64 0)) fun x12 =>
 condK x12
 (
 retK [(.str (ByteArray.mk #[])),(.int .i64 1)] H)
 (
 purK (lenS x0) fun x16 =>
 purK (binA Try.prog H .mul 3 (.int .i64 8) x16) fun x17 =>
 purK (binA Try.prog H .gtr 3 x1 x17) fun x18 =>
 condK x18
 (
 retK [(.str (ByteArray.mk #[])),(.int .i64 3)] H)
 (
 purK (lenS x0) fun x20 =>
 purK (binA Try.prog H .mul 3 (.int .i64 8) x20) fun x21 =>
 effK H (mkS H 5 1 1 [.int .u8 0] x21 x21) fun x22 H =>
 purK (lenS x22) fun x24 =>
 J (Code.at [1,1,1,0,1] c77) (sp 64 [(0,x0),(1,x1),(6,x22),(24,x24),(25,(.int .i64 0))]) H (kk (some [0,1,6]) (fun s H => J (Code.at [1,1,1,1] c77) s H (kk none (fun s H => retK (gs [4,5] s) H) [] retK [4,5])) [] retK [4,5]))) := by
 kernel_rfl
theorem G77 (ρ call yc lim k x0 x1 H) :
 evL (cx ρ) call yc false 77 lim k c77 ([x0,x1] ++ List.replicate 62 (.tup [])) H (kk none (fun s H => retK (gs [4,5] s) H) [] retK [4,5]) = L77 ρ call yc lim k x0 x1 H := by
 rw [evL_X,L77_x]
 simp only [← evL_X,L77,N77_1_eq,N77_5_eq]
theorem E77 (ρ : RO) (k lim : Nat) (x0 x1 : AV) (H : Heap) : evCall (cx ρ) (k + 1) lim 77 [x0,x1] H = L77 ρ (evCall (cx ρ) k) (evCY (cx ρ) k).2 lim k x0 x1 H := by
 rw [evCall_body (cx ρ) k lim 77 _ H Try.f77 c77 [4,5] (by kernel_rfl) (by kernel_rfl) (by kernel_rfl) (by kernel_rfl) (by kernel_rfl)]
 exact G77 ρ (evCall (cx ρ) k) (evCY (cx ρ) k).2 lim k x0 x1 H
end Go.Proofs.Ytkmohjddojpdjaa

-- part Ht7
/- Functions, lifted. Printed by a program of this repo. -/
set_option linter.unusedVariables false
set_option linter.unusedSimpArgs false
set_option maxRecDepth 100000
set_option maxHeartbeats 4000000
namespace Go.Proofs.Ytkmohjddojpdjaa
open Go.Ev Go.RowKit
-- slices.insertionSortOrdered[string]
noncomputable def c83 : Code := Code.of Try.prog 83
noncomputable def N83_3 (ρ : RO) (call : CallF) (yc : YieldF) (lim k : Nat) (x0 x1 x2 x6 : AV) (H : Heap) (kn : AV → Heap → Res) : Res :=
 purK (binA Try.prog H .add 3 x6 (.int .i64 1)) fun x14_1 =>
 kn x14_1 H
theorem N83_3_eq (ρ call yc lim k x0 x1 x2 x6 H kn R) :
 evL (cx ρ) call yc false 83 lim k (Code.at [1,0,0,1,1] c83) (sp 49 [(0,x0),(1,x1),(2,x2),(6,x6)]) H (kk (some [0,1,2,6]) kn [(0,none,(fun s H => R (gs [] s) H))] R []) = N83_3 ρ call yc lim k x0 x1 x2 x6 H (fun x6 H => kn (sp 49 [(0,x0),(1,x1),(2,x2),(6,x6)]) H) := by
 kernel_rfl
noncomputable def N83_6 (ρ : RO) (call : CallF) (yc : YieldF) (lim k : Nat) (x0 x1 x2 x6 x7 : AV) (H : Heap) (kn : AV → Heap → Res) : Res :=
 purK (binA Try.prog H .sub 3 x7 (.int .i64 1)) fun x32_1 =>
 kn x32_1 H
theorem N83_6_eq (ρ call yc lim k x0 x1 x2 x6 x7 H kn k2 k1 R) :
 evL (cx ρ) call yc false 83 lim k (Code.at [1,0,0,1,0,0,1,0,0,1,1] c83) (sp 49 [(0,x0),(1,x1),(2,x2),(6,x6),(7,x7)]) H (kk (some [0,1,2,6,7]) kn [(2,(some [0,1,2,6]),k2),(1,(some [0,1,2,6]),k1),(0,none,(fun s H => R (gs [] s) H))] R []) = N83_6 ρ call yc lim k x0 x1 x2 x6 x7 H (fun x7 H => kn (sp 49 [(0,x0),(1,x1),(2,x2),(6,x6),(7,x7)]) H) := by
 kernel_rfl
noncomputable def N83_5b (ρ : RO) (call : CallF) (yc : YieldF) (lim k : Nat) (x0 x1 x2 x6 x7 : AV) (H : Heap) (kn : AV → Heap → Res) (k2 : AV → Heap → Res) : Res :=
 purK (binA Try.prog H .gtr 3 x7 x1) fun x18_1 =>
 boolK (wantV x18_1 true) fun b1 => purK (bif b1 then some x0 else some (.tup [])) fun x20_1 =>
 boolK (wantV x18_1 true) fun b2 => purK (bif b2 then some x7 else some (.tup [])) fun x21_1 =>
 boolK (wantV x18_1 true) fun b3 => purK (bif b3 then ixS 1 x20_1 x21_1 else some (.tup [])) fun x22_1 =>
 boolK (wantV x18_1 true) fun b4 => purK (bif b4 then ld1 ρ H x22_1 else some (.tup [])) fun x23_1 =>
 boolK (wantV x18_1 true) fun b5 => purK (bif b5 then some x0 else some (.tup [])) fun x24_1 =>
 boolK (wantV x18_1 true) fun b6 => purK (bif b6 then some x7 else some (.tup [])) fun x25_1 =>
 boolK (wantV x18_1 true) fun b7 => purK (bif b7 then binA Try.prog H .sub 3 x25_1 (.int .i64 1) else some (.tup [])) fun x26_1 =>
 boolK (wantV x18_1 true) fun b8 => purK (bif b8 then ixS 1 x24_1 x26_1 else some (.tup [])) fun x27_1 =>
 boolK (wantV x18_1 true) fun b9 => purK (bif b9 then ld1 ρ H x27_1 else some (.tup [])) fun x28_1 =>
 boolK (wantV x18_1 true) fun b10 => resK (gRes (some b10) H (call lim 89 [x23_1,x28_1] H)) fun x29_1 H => bif !b10 || ((!b9 || true) && ((!b7 || true) && ((!b4 || true) && true))) then
 purK (pickA x18_1 x29_1 (.bool false)) fun x30_1 =>
 condK x30_1
 (
 purK (binA Try.prog H .sub 3 x7 (.int .i64 1)) fun x37_1 =>
 purK (binA Try.prog H .sub 3 x7 (.int .i64 1)) fun x40_1 =>
 purK (ixS 1 x0 x40_1) fun x41_1 =>
 purK (ld1 ρ H x41_1) fun x42_1 =>
 purK (ixS 1 x0 x7) fun x45_1 =>
 purK (ld1 ρ H x45_1) fun x46_1 =>
 purK (ixS 1 x0 x7) fun x47_1 =>
 effK H (stA lim H 1 x47_1 x42_1) fun _ H => bif (agn (binA Try.prog H .sub 3 x7 (.int .i64 1)) x37_1 && true) then
 purK (ixS 1 x0 x37_1) fun x48_1 =>
 effK H (stA lim H 1 x48_1 x46_1) fun _ H =>
 N83_6 ρ call yc lim k x0 x1 x2 x6 x7 H kn
 else .stop)
 (
 k2 x6 H)
 else .stop
theorem N83_5b_x (ρ call yc lim k J x0 x1 x2 x6 x7 H kn k2 k1 R) :
 evX (cx ρ) call yc false 83 lim k J (Code.at [1,0,0,1,0,0,1,0,0] c83) (sp 49 [(0,x0),(1,x1),(2,x2),(6,x6),(7,x7)]) H (kk (some [0,1,2,6,7]) kn [(2,(some [0,1,2,6]),k2),(1,(some [0,1,2,6]),k1),(0,none,(fun s H => R (gs [] s) H))] R []) =
 purK (binA Try.prog H .gtr 3 x7 x1) fun x18_1 =>
 boolK (wantV x18_1 true) fun b1 => purK (bif b1 then some x0 else some (.tup [])) fun x20_1 =>
 boolK (wantV x18_1 true) fun b2 => purK (bif b2 then some x7 else some (.tup [])) fun x21_1 =>
 boolK (wantV x18_1 true) fun b3 => purK (bif b3 then ixS 1 x20_1 x21_1 else some (.tup [])) fun x22_1 =>
 boolK (wantV x18_1 true) fun b4 => purK (bif b4 then ld1 ρ H x22_1 else some (.tup [])) fun x23_1 =>
 boolK (wantV x18_1 true) fun b5 => purK (bif b5 then some x0 else some (.tup [])) fun x24_1 =>
 boolK (wantV x18_1 true) fun b6 => purK (bif b6 then some x7 else some (.tup [])) fun x25_1 =>
 boolK (wantV x18_1 true) fun b7 => purK (bif b7 then binA Try.prog H .sub 3 x25_1 (.int .i64 1) else some (.tup [])) fun x26_1 =>
 boolK (wantV x18_1 true) fun b8 => purK (bif b8 then ixS 1 x24_1 x26_1 else some (.tup [])) fun x27_1 =>
 boolK (wantV x18_1 true) fun b9 => purK (bif b9 then ld1 ρ H x27_1 else some (.tup [])) fun x28_1 =>
 boolK (wantV x18_1 true) fun b10 => resK (gRes (some b10) H (call lim 89 [x23_1,x28_1] H)) fun x29_1 H => bif !b10 || ((!b9 || true) && ((!b7 || true) && ((!b4 || true) && true))) then
 purK (pickA x18_1 x29_1 (.bool false)) fun x30_1 =>
 condK x30_1
 (
 purK (binA Try.prog H .sub 3 x7 (.int .i64 1)) fun x37_1 =>
 purK (binA Try.prog H .sub 3 x7 (.int .i64 1)) fun x40_1 =>
 purK (ixS 1 x0 x40_1) fun x41_1 =>
 purK (ld1 ρ H x41_1) fun x42_1 =>
 purK (ixS 1 x0 x7) fun x45_1 =>
 purK (ld1 ρ H x45_1) fun x46_1 =>
 purK (ixS 1 x0 x7) fun x47_1 =>
 effK H (stA lim H 1 x47_1 x42_1) fun _ H => bif (agn (binA Try.prog H .sub 3 x7 (.int .i64 1)) x37_1 && true) then
 purK (ixS 1 x0 x37_1) fun x48_1 =>
 effK H (stA lim H 1 x48_1 x46_1) fun _ H =>
 J (Code.at [1,0,0,1,0,0,1,0,0,1,1] c83) (sp 49 [(0,x0),(1,x1),(2,x2),(6,x6),(7,x7)]) H (kk (some [0,1,2,6,7]) kn [(2,(some [0,1,2,6]),k2),(1,(some [0,1,2,6]),k1),(0,none,(fun s H => R (gs [] s) H))] R [])
 else .stop)
 (
 k2 (sp 49 [(0,x0),(1,x1),(2,x2),(6,x6)]) H)
 else .stop := by
 kernel_rfl
theorem N83_5b_eq (ρ call yc lim k x0 x1 x2 x6 x7 H kn k2 k1 R) :
 evL (cx ρ) call yc false 83 lim k (Code.at [1,0,0,1,0,0,1,0,0] c83) (sp 49 [(0,x0),(1,x1),(2,x2),(6,x6),(7,x7)]) H (kk (some [0,1,2,6,7]) kn [(2,(some [0,1,2,6]),k2),(1,(some [0,1,2,6]),k1),(0,none,(fun s H => R (gs [] s) H))] R []) = N83_5b ρ call yc lim k x0 x1 x2 x6 x7 H (fun x7 H => kn (sp 49 [(0,x0),(1,x1),(2,x2),(6,x6),(7,x7)]) H) (fun x6 H => k2 (sp 49 [(0,x0),(1,x1),(2,x2),(6,x6)]) H) := by
 rw [evL_X,N83_5b_x]
 simp only [← evL_X,N83_5b,N83_6_eq]
noncomputable def N83_5 (ρ : RO) (call : CallF) (yc : YieldF) (lim k : Nat) (x0 x1 x2 x6 x7 : AV) (H : Heap) (k2 : AV → Heap → Res) : Res :=
 loopL (fun (x : AV) H kn => N83_5b ρ call yc lim k x0 x1 x2 x6 x H (fun x7 H => kn x7 H) k2) k x7 H
theorem N83_5_eq (ρ call yc lim k x0 x1 x2 x6 x7 H kn k2 k1 R) :
 evL (cx ρ) call yc false 83 lim k (Code.at [1,0,0,1,0,0,1,0] c83) (sp 49 [(0,x0),(1,x1),(2,x2),(6,x6),(7,x7)]) H (kk (some [0,1,2,6]) kn [(2,(some [0,1,2,6]),k2),(1,(some [0,1,2,6]),k1),(0,none,(fun s H => R (gs [] s) H))] R []) = N83_5 ρ call yc lim k x0 x1 x2 x6 x7 H (fun x6 H => k2 (sp 49 [(0,x0),(1,x1),(2,x2),(6,x6)]) H) := by
 have e : Code.at [1,0,0,1,0,0,1,0] c83 = .loop (Code.at [1,0,0,1,0,0,1,0,0] c83) := by kernel_rfl
 rw [e]
 unfold N83_5
 exact loop_node [0,1,2,6,7] (fun x : AV => (sp 49 [(0,x0),(1,x1),(2,x2),(6,x6),(7,(x))])) (fun (x : AV) H kn => N83_5b ρ call yc lim k x0 x1 x2 x6 x H (fun x7 H => kn x7 H) (fun x6 H => k2 (sp 49 [(0,x0),(1,x1),(2,x2),(6,x6)]) H)) (by kernel_rfl) (fun x => by kernel_rfl) (fun x H kn => N83_5b_eq ρ call yc lim k x0 x1 x2 x6 (x) H kn k2 k1 R) x7 (sp 49 [(0,x0),(1,x1),(2,x2),(6,x6),(7,x7)]) H (by kernel_rfl)
noncomputable def N83_4 (ρ : RO) (call : CallF) (yc : YieldF) (lim k : Nat) (x0 x1 x2 x6 x7 : AV) (H : Heap) (kn : AV → Heap → Res) : Res :=
 N83_5 ρ call yc lim k x0 x1 x2 x6 x7 H kn
theorem N83_4_x (ρ call yc lim k J x0 x1 x2 x6 x7 H kn k1 R) :
 evX (cx ρ) call yc false 83 lim k J (Code.at [1,0,0,1,0,0,1] c83) (sp 49 [(0,x0),(1,x1),(2,x2),(6,x6),(7,x7)]) H (kk (some [0,1,2,6]) kn [(1,(some [0,1,2,6]),k1),(0,none,(fun s H => R (gs [] s) H))] R []) =
 J (Code.at [1,0,0,1,0,0,1,0] c83) (sp 49 [(0,x0),(1,x1),(2,x2),(6,x6),(7,x7)]) H (kk (some [0,1,2,6]) kn [(2,(some [0,1,2,6]),kn),(1,(some [0,1,2,6]),k1),(0,none,(fun s H => R (gs [] s) H))] R []) := by
 kernel_rfl
theorem N83_4_eq (ρ call yc lim k x0 x1 x2 x6 x7 H kn k1 R) :
 evL (cx ρ) call yc false 83 lim k (Code.at [1,0,0,1,0,0,1] c83) (sp 49 [(0,x0),(1,x1),(2,x2),(6,x6),(7,x7)]) H (kk (some [0,1,2,6]) kn [(1,(some [0,1,2,6]),k1),(0,none,(fun s H => R (gs [] s) H))] R []) = N83_4 ρ call yc lim k x0 x1 x2 x6 x7 H (fun x6 H => kn (sp 49 [(0,x0),(1,x1),(2,x2),(6,x6)]) H) := by
 rw [evL_X,N83_4_x]
 simp only [← evL_X,N83_4,N83_5_eq]
noncomputable def N83_2b (ρ : RO) (call : CallF) (yc : YieldF) (lim k : Nat) (x0 x1 x2 x6 : AV) (H : Heap) (kn : AV → Heap → Res) (R : KR) : Res :=
 purK (binA Try.prog H .lss 3 x6 x2) fun x12_1 =>
 condK x12_1
 (
 N83_4 ρ call yc lim k x0 x1 x2 x6 x6 H (fun x6_1 H =>
 N83_3 ρ call yc lim k x0 x1 x2 x6_1 H kn))
 (
 R [] H)
theorem N83_2b_x (ρ call yc lim k J x0 x1 x2 x6 H kn R) :
 evX (cx ρ) call yc false 83 lim k J (Code.at [1,0,0] c83) (sp 49 [(0,x0),(1,x1),(2,x2),(6,x6)]) H (kk (some [0,1,2,6]) kn [(0,none,(fun s H => R (gs [] s) H))] R []) =
 purK (binA Try.prog H .lss 3 x6 x2) fun x12_1 =>
 condK x12_1
 (
 J (Code.at [1,0,0,1,0,0,1] c83) (sp 49 [(0,x0),(1,x1),(2,x2),(6,x6),(7,x6)]) H (kk (some [0,1,2,6]) (fun s H => J (Code.at [1,0,0,1,1] c83) s H (kk (some [0,1,2,6]) kn [(0,none,(fun s H => R (gs [] s) H))] R [])) [(1,(some [0,1,2,6]),(fun s H => J (Code.at [1,0,0,1,1] c83) s H (kk (some [0,1,2,6]) kn [(0,none,(fun s H => R (gs [] s) H))] R []))),(0,none,(fun s H => R (gs [] s) H))] R []))
 (
 R [] H) := by
 kernel_rfl
theorem N83_2b_eq (ρ call yc lim k x0 x1 x2 x6 H kn R) :
 evL (cx ρ) call yc false 83 lim k (Code.at [1,0,0] c83) (sp 49 [(0,x0),(1,x1),(2,x2),(6,x6)]) H (kk (some [0,1,2,6]) kn [(0,none,(fun s H => R (gs [] s) H))] R []) = N83_2b ρ call yc lim k x0 x1 x2 x6 H (fun x6 H => kn (sp 49 [(0,x0),(1,x1),(2,x2),(6,x6)]) H) R := by
 rw [evL_X,N83_2b_x]
 simp only [← evL_X,N83_2b,N83_3_eq,N83_4_eq]
noncomputable def N83_2 (ρ : RO) (call : CallF) (yc : YieldF) (lim k : Nat) (x0 x1 x2 x6 : AV) (H : Heap) (R : KR) : Res :=
 loopL (fun (x : AV) H kn => N83_2b ρ call yc lim k x0 x1 x2 x H (fun x6 H => kn x6 H) R) k x6 H
theorem N83_2_eq (ρ call yc lim k x0 x1 x2 x6 H R) :
 evL (cx ρ) call yc false 83 lim k (Code.at [1,0] c83) (sp 49 [(0,x0),(1,x1),(2,x2),(6,x6)]) H (kk none (fun s H => R (gs [] s) H) [(0,none,(fun s H => R (gs [] s) H))] R []) = N83_2 ρ call yc lim k x0 x1 x2 x6 H R := by
 have e : Code.at [1,0] c83 = .loop (Code.at [1,0,0] c83) := by kernel_rfl
 rw [e]
 unfold N83_2
 exact loop_node [0,1,2,6] (fun x : AV => (sp 49 [(0,x0),(1,x1),(2,x2),(6,(x))])) (fun (x : AV) H kn => N83_2b ρ call yc lim k x0 x1 x2 x H (fun x6 H => kn x6 H) R) (by kernel_rfl) (fun x => by kernel_rfl) (fun x H kn => N83_2b_eq ρ call yc lim k x0 x1 x2 (x) H kn R) x6 (sp 49 [(0,x0),(1,x1),(2,x2),(6,x6)]) H (by kernel_rfl)
noncomputable def N83_1 (ρ : RO) (call : CallF) (yc : YieldF) (lim k : Nat) (x0 x1 x2 x6 : AV) (H : Heap) (R : KR) : Res :=
 N83_2 ρ call yc lim k x0 x1 x2 x6 H R
theorem N83_1_x (ρ call yc lim k J x0 x1 x2 x6 H R) :
 evX (cx ρ) call yc false 83 lim k J (Code.at [1] c83) (sp 49 [(0,x0),(1,x1),(2,x2),(6,x6)]) H (kk none (fun s H => R (gs [] s) H) [] R []) =
 J (Code.at [1,0] c83) (sp 49 [(0,x0),(1,x1),(2,x2),(6,x6)]) H (kk none (fun s H => R (gs [] s) H) [(0,none,(fun s H => R (gs [] s) H))] R []) := by
 kernel_rfl
theorem N83_1_eq (ρ call yc lim k x0 x1 x2 x6 H R) :
 evL (cx ρ) call yc false 83 lim k (Code.at [1] c83) (sp 49 [(0,x0),(1,x1),(2,x2),(6,x6)]) H (kk none (fun s H => R (gs [] s) H) [] R []) = N83_1 ρ call yc lim k x0 x1 x2 x6 H R := by
 rw [evL_X,N83_1_x]
 simp only [← evL_X,N83_1,N83_2_eq]
noncomputable def L83 (ρ : RO) (call : CallF) (yc : YieldF) (lim k : Nat) (x0 x1 x2 : AV) (H : Heap) : Res :=
 purK (binA Try.prog H .add 3 x1 (.int .i64 1)) fun x9 =>
 N83_1 ρ call yc lim k x0 x1 x2 x9 H retK
theorem L83_x (ρ call yc lim k J x0 x1 x2 H) :
 evX (cx ρ) call yc false 83 lim k J c83 ([x0,x1,x2] ++ List.replicate 46 (.tup [])) H (kk none (fun s H => retK (gs [] s) H) [] retK []) =
 purK (binA Try.prog H .add 3 x1 (.int .i64 1)) fun x9 =>
 J (Code.at [1] c83) (sp 49 [(0,x0),(1,x1),(2,x2),(6,x9)]) H (kk none (fun s H => retK (gs [] s) H) [] retK []) := by
 kernel_rfl
theorem G83 (ρ call yc lim k x0 x1 x2 H) :
 evL (cx ρ) call yc false 83 lim k c83 ([x0,x1,x2] ++ List.replicate 46 (.tup [])) H (kk none (fun s H => retK (gs [] s) H) [] retK []) = L83 ρ call yc lim k x0 x1 x2 H := by
 rw [evL_X,L83_x]
 simp only [← evL_X,L83,N83_1_eq]
theorem E83 (ρ : RO) (k lim : Nat) (x0 x1 x2 : AV) (H : Heap) : evCall (cx ρ) (k + 1) lim 83 [x0,x1,x2] H = L83 ρ (evCall (cx ρ) k) (evCY (cx ρ) k).2 lim k x0 x1 x2 H := by
 rw [evCall_body (cx ρ) k lim 83 _ H Try.f83 c83 [] (by kernel_rfl) (by kernel_rfl) (by kernel_rfl) (by kernel_rfl) (by kernel_rfl)]
 exact G83 ρ (evCall (cx ρ) k) (evCY (cx ρ) k).2 lim k x0 x1 x2 H
-- slices.heapSortOrdered[string]
noncomputable def c84 : Code := Code.of Try.prog 84
noncomputable def N84_4 (ρ : RO) (call : CallF) (yc : YieldF) (lim k : Nat) (x0 x6 x7 x10 : AV) (H : Heap) (kn : AV → Heap → Res) : Res :=
 purK (binA Try.prog H .sub 3 x10 (.int .i64 1)) fun x32_1 =>
 kn x32_1 H
theorem N84_4_eq (ρ call yc lim k x0 x6 x7 x10 H kn R) :
 evL (cx ρ) call yc false 84 lim k (Code.at [1,1,1,1,1,0,0,1,1] c84) (sp 56 [(0,x0),(6,x6),(7,x7),(10,x10)]) H (kk (some [0,6,7,10]) kn [(2,none,(fun s H => R (gs [] s) H))] R []) = N84_4 ρ call yc lim k x0 x6 x7 x10 H (fun x10 H => kn (sp 56 [(0,x0),(6,x6),(7,x7),(10,x10)]) H) := by
 kernel_rfl
noncomputable def N84_3b (ρ : RO) (call : CallF) (yc : YieldF) (lim k : Nat) (x0 x6 x7 x10 : AV) (H : Heap) (kn : AV → Heap → Res) (R : KR) : Res :=
 purK (binA Try.prog H .geq 3 x10 (.int .i64 0)) fun x30_1 =>
 condK x30_1
 (
 purK (binA Try.prog H .add 3 x6 x10) fun x38_1 =>
 purK (binA Try.prog H .add 3 x6 x10) fun x42_1 =>
 purK (ixS 1 x0 x42_1) fun x43_1 =>
 purK (ld1 ρ H x43_1) fun x44_1 =>
 purK (ixS 1 x0 x6) fun x47_1 =>
 purK (ld1 ρ H x47_1) fun x48_1 =>
 purK (ixS 1 x0 x6) fun x49_1 =>
 effK H (stA lim H 1 x49_1 x44_1) fun _ H => bif (agn (binA Try.prog H .add 3 x6 x10) x38_1 && true) then
 purK (ixS 1 x0 x38_1) fun x50_1 =>
 effK H (stA lim H 1 x50_1 x48_1) fun _ H =>
 resK (call lim 102 [x0,x7,x10,x6] H) fun x55_1 H =>
 N84_4 ρ call yc lim k x0 x6 x7 x10 H kn
 else .stop)
 (
 R [] H)
theorem N84_3b_x (ρ call yc lim k J x0 x6 x7 x10 H kn R) :
 evX (cx ρ) call yc false 84 lim k J (Code.at [1,1,1,1,1,0,0] c84) (sp 56 [(0,x0),(6,x6),(7,x7),(10,x10)]) H (kk (some [0,6,7,10]) kn [(2,none,(fun s H => R (gs [] s) H))] R []) =
 purK (binA Try.prog H .geq 3 x10 (.int .i64 0)) fun x30_1 =>
 condK x30_1
 (
 purK (binA Try.prog H .add 3 x6 x10) fun x38_1 =>
 purK (binA Try.prog H .add 3 x6 x10) fun x42_1 =>
 purK (ixS 1 x0 x42_1) fun x43_1 =>
 purK (ld1 ρ H x43_1) fun x44_1 =>
 purK (ixS 1 x0 x6) fun x47_1 =>
 purK (ld1 ρ H x47_1) fun x48_1 =>
 purK (ixS 1 x0 x6) fun x49_1 =>
 effK H (stA lim H 1 x49_1 x44_1) fun _ H => bif (agn (binA Try.prog H .add 3 x6 x10) x38_1 && true) then
 purK (ixS 1 x0 x38_1) fun x50_1 =>
 effK H (stA lim H 1 x50_1 x48_1) fun _ H =>
 resK (call lim 102 [x0,x7,x10,x6] H) fun x55_1 H =>
 J (Code.at [1,1,1,1,1,0,0,1,1] c84) (sp 56 [(0,x0),(6,x6),(7,x7),(10,x10)]) H (kk (some [0,6,7,10]) kn [(2,none,(fun s H => R (gs [] s) H))] R [])
 else .stop)
 (
 R [] H) := by
 kernel_rfl
theorem N84_3b_eq (ρ call yc lim k x0 x6 x7 x10 H kn R) :
 evL (cx ρ) call yc false 84 lim k (Code.at [1,1,1,1,1,0,0] c84) (sp 56 [(0,x0),(6,x6),(7,x7),(10,x10)]) H (kk (some [0,6,7,10]) kn [(2,none,(fun s H => R (gs [] s) H))] R []) = N84_3b ρ call yc lim k x0 x6 x7 x10 H (fun x10 H => kn (sp 56 [(0,x0),(6,x6),(7,x7),(10,x10)]) H) R := by
 rw [evL_X,N84_3b_x]
 simp only [← evL_X,N84_3b,N84_4_eq]
noncomputable def N84_3 (ρ : RO) (call : CallF) (yc : YieldF) (lim k : Nat) (x0 x6 x7 x10 : AV) (H : Heap) (R : KR) : Res :=
 loopL (fun (x : AV) H kn => N84_3b ρ call yc lim k x0 x6 x7 x H (fun x10 H => kn x10 H) R) k x10 H
theorem N84_3_eq (ρ call yc lim k x0 x6 x7 x10 H R) :
 evL (cx ρ) call yc false 84 lim k (Code.at [1,1,1,1,1,0] c84) (sp 56 [(0,x0),(6,x6),(7,x7),(10,x10)]) H (kk none (fun s H => R (gs [] s) H) [(2,none,(fun s H => R (gs [] s) H))] R []) = N84_3 ρ call yc lim k x0 x6 x7 x10 H R := by
 have e : Code.at [1,1,1,1,1,0] c84 = .loop (Code.at [1,1,1,1,1,0,0] c84) := by kernel_rfl
 rw [e]
 unfold N84_3
 exact loop_node [0,6,7,10] (fun x : AV => (sp 56 [(0,x0),(6,x6),(7,x7),(10,(x))])) (fun (x : AV) H kn => N84_3b ρ call yc lim k x0 x6 x7 x H (fun x10 H => kn x10 H) R) (by kernel_rfl) (fun x => by kernel_rfl) (fun x H kn => N84_3b_eq ρ call yc lim k x0 x6 x7 (x) H kn R) x10 (sp 56 [(0,x0),(6,x6),(7,x7),(10,x10)]) H (by kernel_rfl)
noncomputable def N84_2 (ρ : RO) (call : CallF) (yc : YieldF) (lim k : Nat) (x0 x6 x7 x10 : AV) (H : Heap) (R : KR) : Res :=
 N84_3 ρ call yc lim k x0 x6 x7 x10 H R
theorem N84_2_x (ρ call yc lim k J x0 x6 x7 x10 H R) :
 evX (cx ρ) call yc false 84 lim k J (Code.at [1,1,1,1,1] c84) (sp 56 [(0,x0),(6,x6),(7,x7),(10,x10)]) H (kk none (fun s H => R (gs [] s) H) [] R []) =
 J (Code.at [1,1,1,1,1,0] c84) (sp 56 [(0,x0),(6,x6),(7,x7),(10,x10)]) H (kk none (fun s H => R (gs [] s) H) [(2,none,(fun s H => R (gs [] s) H))] R []) := by
 kernel_rfl
theorem N84_2_eq (ρ call yc lim k x0 x6 x7 x10 H R) :
 evL (cx ρ) call yc false 84 lim k (Code.at [1,1,1,1,1] c84) (sp 56 [(0,x0),(6,x6),(7,x7),(10,x10)]) H (kk none (fun s H => R (gs [] s) H) [] R []) = N84_2 ρ call yc lim k x0 x6 x7 x10 H R := by
 rw [evL_X,N84_2_x]
 simp only [← evL_X,N84_2,N84_3_eq]
noncomputable def N84_1 (ρ : RO) (call : CallF) (yc : YieldF) (lim k : Nat) (x0 x6 x7 x8 : AV) (H : Heap) (R : KR) : Res :=
 purK (binA Try.prog H .sub 3 x8 (.int .i64 1)) fun x28_1 =>
 N84_2 ρ call yc lim k x0 x6 x7 x28_1 H R
theorem N84_1_x (ρ call yc lim k J x0 x6 x7 x8 H R) :
 evX (cx ρ) call yc false 84 lim k J (Code.at [1,1,1,1] c84) (sp 56 [(0,x0),(6,x6),(7,x7),(8,x8)]) H (kk none (fun s H => R (gs [] s) H) [] R []) =
 purK (binA Try.prog H .sub 3 x8 (.int .i64 1)) fun x28_1 =>
 J (Code.at [1,1,1,1,1] c84) (sp 56 [(0,x0),(6,x6),(7,x7),(10,x28_1)]) H (kk none (fun s H => R (gs [] s) H) [] R []) := by
 kernel_rfl
theorem N84_1_eq (ρ call yc lim k x0 x6 x7 x8 H R) :
 evL (cx ρ) call yc false 84 lim k (Code.at [1,1,1,1] c84) (sp 56 [(0,x0),(6,x6),(7,x7),(8,x8)]) H (kk none (fun s H => R (gs [] s) H) [] R []) = N84_1 ρ call yc lim k x0 x6 x7 x8 H R := by
 rw [evL_X,N84_1_x]
 simp only [← evL_X,N84_1,N84_2_eq]
noncomputable def N84_6b (ρ : RO) (call : CallF) (yc : YieldF) (lim k : Nat) (x0 x6 x7 x8 x9 : AV) (H : Heap) (kn : AV → Heap → Res) (k0 : AV → AV → AV → AV → Heap → Res) : Res :=
 purK (binA Try.prog H .geq 3 x9 (.int .i64 0)) fun x19_1 =>
 condK x19_1
 (
 resK (call lim 102 [x0,x9,x8,x6] H) fun x26_1 H =>
 purK (binA Try.prog H .sub 3 x9 (.int .i64 1)) fun x21_1 =>
 kn x21_1 H)
 (
 k0 x0 x6 x7 x8 H)
theorem N84_6b_eq (ρ call yc lim k x0 x6 x7 x8 x9 H kn k0 R) :
 evL (cx ρ) call yc false 84 lim k (Code.at [1,1,1,0,1,0,0] c84) (sp 56 [(0,x0),(6,x6),(7,x7),(8,x8),(9,x9)]) H (kk (some [0,6,7,8,9]) kn [(0,(some [0,6,7,8]),k0)] R []) = N84_6b ρ call yc lim k x0 x6 x7 x8 x9 H (fun x9 H => kn (sp 56 [(0,x0),(6,x6),(7,x7),(8,x8),(9,x9)]) H) (fun x0 x6 x7 x8 H => k0 (sp 56 [(0,x0),(6,x6),(7,x7),(8,x8)]) H) := by
 kernel_rfl
noncomputable def N84_6 (ρ : RO) (call : CallF) (yc : YieldF) (lim k : Nat) (x0 x6 x7 x8 x9 : AV) (H : Heap) (k0 : AV → AV → AV → AV → Heap → Res) : Res :=
 loopL (fun (x : AV) H kn => N84_6b ρ call yc lim k x0 x6 x7 x8 x H (fun x9 H => kn x9 H) k0) k x9 H
theorem N84_6_eq (ρ call yc lim k x0 x6 x7 x8 x9 H kn k0 R) :
 evL (cx ρ) call yc false 84 lim k (Code.at [1,1,1,0,1,0] c84) (sp 56 [(0,x0),(6,x6),(7,x7),(8,x8),(9,x9)]) H (kk (some [0,6,7,8]) kn [(0,(some [0,6,7,8]),k0)] R []) = N84_6 ρ call yc lim k x0 x6 x7 x8 x9 H (fun x0 x6 x7 x8 H => k0 (sp 56 [(0,x0),(6,x6),(7,x7),(8,x8)]) H) := by
 have e : Code.at [1,1,1,0,1,0] c84 = .loop (Code.at [1,1,1,0,1,0,0] c84) := by kernel_rfl
 rw [e]
 unfold N84_6
 exact loop_node [0,6,7,8,9] (fun x : AV => (sp 56 [(0,x0),(6,x6),(7,x7),(8,x8),(9,(x))])) (fun (x : AV) H kn => N84_6b ρ call yc lim k x0 x6 x7 x8 x H (fun x9 H => kn x9 H) (fun x0 x6 x7 x8 H => k0 (sp 56 [(0,x0),(6,x6),(7,x7),(8,x8)]) H)) (by kernel_rfl) (fun x => by kernel_rfl) (fun x H kn => N84_6b_eq ρ call yc lim k x0 x6 x7 x8 (x) H kn k0 R) x9 (sp 56 [(0,x0),(6,x6),(7,x7),(8,x8),(9,x9)]) H (by kernel_rfl)
noncomputable def N84_5 (ρ : RO) (call : CallF) (yc : YieldF) (lim k : Nat) (x0 x6 x7 x8 x9 : AV) (H : Heap) (kn : AV → AV → AV → AV → Heap → Res) : Res :=
 N84_6 ρ call yc lim k x0 x6 x7 x8 x9 H kn
theorem N84_5_x (ρ call yc lim k J x0 x6 x7 x8 x9 H kn R) :
 evX (cx ρ) call yc false 84 lim k J (Code.at [1,1,1,0,1] c84) (sp 56 [(0,x0),(6,x6),(7,x7),(8,x8),(9,x9)]) H (kk (some [0,6,7,8]) kn [] R []) =
 J (Code.at [1,1,1,0,1,0] c84) (sp 56 [(0,x0),(6,x6),(7,x7),(8,x8),(9,x9)]) H (kk (some [0,6,7,8]) kn [(0,(some [0,6,7,8]),kn)] R []) := by
 kernel_rfl
theorem N84_5_eq (ρ call yc lim k x0 x6 x7 x8 x9 H kn R) :
 evL (cx ρ) call yc false 84 lim k (Code.at [1,1,1,0,1] c84) (sp 56 [(0,x0),(6,x6),(7,x7),(8,x8),(9,x9)]) H (kk (some [0,6,7,8]) kn [] R []) = N84_5 ρ call yc lim k x0 x6 x7 x8 x9 H (fun x0 x6 x7 x8 H => kn (sp 56 [(0,x0),(6,x6),(7,x7),(8,x8)]) H) := by
 rw [evL_X,N84_5_x]
 simp only [← evL_X,N84_5,N84_6_eq]
noncomputable def L84 (ρ : RO) (call : CallF) (yc : YieldF) (lim k : Nat) (x0 x1 x2 : AV) (H : Heap) : Res :=
 purK (binA Try.prog H .sub 3 x2 x1) fun x14 =>
 purK (binA Try.prog H .sub 3 x14 (.int .i64 1)) fun x16 =>
 purK (binA Try.prog H .quo 3 x16 (.int .i64 2)) fun x17 =>
 N84_5 ρ call yc lim k x0 x1 (.int .i64 0) x14 x17 H (fun x0_1 x6 x7 x8 H =>
 N84_1 ρ call yc lim k x0_1 x6 x7 x8 H retK)
theorem L84_x (ρ call yc lim k J x0 x1 x2 H) :
 evX (cx ρ) call yc false 84 lim k J c84 ([x0,x1,x2] ++ List.replicate 53 (.tup [])) H (kk none (fun s H => retK (gs [] s) H) [] retK []) =
 purK (binA Try.prog H .sub 3 x2 x1) fun x14 =>
 purK (binA Try.prog H .sub 3 x14 (.int .i64 1)) fun x16 =>
 purK (binA Try.prog H .quo 3 x16 (.int .i64 2)) fun x17 =>
 J (Code.at [1,1,1,0,1] c84) (sp 56 [(0,x0),(6,x1),(7,(.int .i64 0)),(8,x14),(9,x17)]) H (kk (some [0,6,7,8]) (fun s H => J (Code.at [1,1,1,1] c84) s H (kk none (fun s H => retK (gs [] s) H) [] retK [])) [] retK []) := by
 kernel_rfl
theorem G84 (ρ call yc lim k x0 x1 x2 H) :
 evL (cx ρ) call yc false 84 lim k c84 ([x0,x1,x2] ++ List.replicate 53 (.tup [])) H (kk none (fun s H => retK (gs [] s) H) [] retK []) = L84 ρ call yc lim k x0 x1 x2 H := by
 rw [evL_X,L84_x]
 simp only [← evL_X,L84,N84_1_eq,N84_5_eq]
theorem E84 (ρ : RO) (k lim : Nat) (x0 x1 x2 : AV) (H : Heap) : evCall (cx ρ) (k + 1) lim 84 [x0,x1,x2] H = L84 ρ (evCall (cx ρ) k) (evCY (cx ρ) k).2 lim k x0 x1 x2 H := by
 rw [evCall_body (cx ρ) k lim 84 _ H Try.f84 c84 [] (by kernel_rfl) (by kernel_rfl) (by kernel_rfl) (by kernel_rfl) (by kernel_rfl)]
 exact G84 ρ (evCall (cx ρ) k) (evCY (cx ρ) k).2 lim k x0 x1 x2 H
-- slices.breakPatternsOrdered[string]
noncomputable def c85 : Code := Code.of Try.prog 85
noncomputable def N85_3 (ρ : RO) (call : CallF) (yc : YieldF) (lim k : Nat) (x0 x1 x6 x7 x8 x9 : AV) (H : Heap) (kn : AV → Heap → Res) : Res :=
 purK (binA Try.prog H .add 3 x9 (.int .i64 1)) fun x35_1 =>
 kn x35_1 H
theorem N85_3_eq (ρ call yc lim k x0 x1 x6 x7 x8 x9 H kn R) :
 evL (cx ρ) call yc false 85 lim k (Code.at [1,1,0,1,1,1,0,0,1,1] c85) (sp 65 [(0,x0),(1,x1),(6,x6),(7,x7),(8,x8),(9,x9)]) H (kk (some [0,1,6,7,8,9]) kn [(0,none,(fun s H => R (gs [] s) H))] R []) = N85_3 ρ call yc lim k x0 x1 x6 x7 x8 x9 H (fun x9 H => kn (sp 65 [(0,x0),(1,x1),(6,x6),(7,x7),(8,x8),(9,x9)]) H) := by
 kernel_rfl
noncomputable def N85_4 (ρ : RO) (call : CallF) (yc : YieldF) (lim k : Nat) (x0 x1 x6 x7 x8 x9 x10 : AV) (H : Heap) (kn : AV → Heap → Res) : Res :=
 purK (binA Try.prog H .add 3 x1 x10) fun x52_1 =>
 purK (binA Try.prog H .add 3 x1 x10) fun x56_1 =>
 purK (ixS 1 x0 x56_1) fun x57_1 =>
 purK (ld1 ρ H x57_1) fun x58_1 =>
 purK (ixS 1 x0 x9) fun x61_1 =>
 purK (ld1 ρ H x61_1) fun x62_1 =>
 purK (ixS 1 x0 x9) fun x63_1 =>
 effK H (stA lim H 1 x63_1 x58_1) fun _ H => bif (agn (binA Try.prog H .add 3 x1 x10) x52_1 && true) then
 purK (ixS 1 x0 x52_1) fun x64_1 =>
 effK H (stA lim H 1 x64_1 x62_1) fun _ H =>
 kn x9 H
 else .stop
theorem N85_4_eq (ρ call yc lim k x0 x1 x6 x7 x8 x9 x10 H kn k1 R) :
 evL (cx ρ) call yc false 85 lim k (Code.at [1,1,0,1,1,1,0,0,1,0,0,1,1] c85) (sp 65 [(0,x0),(1,x1),(6,x6),(7,x7),(8,x8),(9,x9),(10,x10)]) H (kk (some [0,1,6,7,8,9]) kn [(1,(some [0,1,6,7,8,9]),k1),(0,none,(fun s H => R (gs [] s) H))] R []) = N85_4 ρ call yc lim k x0 x1 x6 x7 x8 x9 x10 H (fun x9 H => kn (sp 65 [(0,x0),(1,x1),(6,x6),(7,x7),(8,x8),(9,x9)]) H) := by
 kernel_rfl
noncomputable def N85_2b (ρ : RO) (call : CallF) (yc : YieldF) (lim k : Nat) (x0 x1 x6 x7 x8 x9 : AV) (H : Heap) (kn : AV → Heap → Res) (R : KR) : Res :=
 purK (binA Try.prog H .quo 3 x6 (.int .i64 4)) fun x29_1 =>
 purK (binA Try.prog H .mul 3 x29_1 (.int .i64 2)) fun x30_1 =>
 purK (binA Try.prog H .add 3 x1 x30_1) fun x31_1 =>
 purK (binA Try.prog H .add 3 x31_1 (.int .i64 1)) fun x32_1 =>
 purK (binA Try.prog H .leq 3 x9 x32_1) fun x33_1 =>
 condK x33_1
 (
 resK (call lim 104 [x7] H) fun x36_1 H =>
 purK (binA Try.prog H .sub 121 x8 (.int .u64 1)) fun x38_1 =>
 purK (binA Try.prog H .and 121 x36_1 x38_1) fun x39_1 =>
 purK (cvI .i64 x39_1) fun x40_1 =>
 purK (binA Try.prog H .geq 3 x40_1 x6) fun x43_1 =>
 condK x43_1
 (
 purK (binA Try.prog H .sub 3 x40_1 x6) fun x46_1 =>
 N85_4 ρ call yc lim k x0 x1 x6 x7 x8 x9 x46_1 H (fun x9_1 H =>
 N85_3 ρ call yc lim k x0 x1 x6 x7 x8 x9_1 H kn))
 (
 N85_4 ρ call yc lim k x0 x1 x6 x7 x8 x9 x40_1 H (fun x9_2 H =>
 N85_3 ρ call yc lim k x0 x1 x6 x7 x8 x9_2 H kn)))
 (
 R [] H)
theorem N85_2b_x (ρ call yc lim k J x0 x1 x6 x7 x8 x9 H kn R) :
 evX (cx ρ) call yc false 85 lim k J (Code.at [1,1,0,1,1,1,0,0] c85) (sp 65 [(0,x0),(1,x1),(6,x6),(7,x7),(8,x8),(9,x9)]) H (kk (some [0,1,6,7,8,9]) kn [(0,none,(fun s H => R (gs [] s) H))] R []) =
 purK (binA Try.prog H .quo 3 x6 (.int .i64 4)) fun x29_1 =>
 purK (binA Try.prog H .mul 3 x29_1 (.int .i64 2)) fun x30_1 =>
 purK (binA Try.prog H .add 3 x1 x30_1) fun x31_1 =>
 purK (binA Try.prog H .add 3 x31_1 (.int .i64 1)) fun x32_1 =>
 purK (binA Try.prog H .leq 3 x9 x32_1) fun x33_1 =>
 condK x33_1
 (
 resK (call lim 104 [x7] H) fun x36_1 H =>
 purK (binA Try.prog H .sub 121 x8 (.int .u64 1)) fun x38_1 =>
 purK (binA Try.prog H .and 121 x36_1 x38_1) fun x39_1 =>
 purK (cvI .i64 x39_1) fun x40_1 =>
 purK (binA Try.prog H .geq 3 x40_1 x6) fun x43_1 =>
 condK x43_1
 (
 purK (binA Try.prog H .sub 3 x40_1 x6) fun x46_1 =>
 J (Code.at [1,1,0,1,1,1,0,0,1,0,0,1,1] c85) (sp 65 [(0,x0),(1,x1),(6,x6),(7,x7),(8,x8),(9,x9),(10,x46_1)]) H (kk (some [0,1,6,7,8,9]) (fun s H => J (Code.at [1,1,0,1,1,1,0,0,1,1] c85) s H (kk (some [0,1,6,7,8,9]) kn [(0,none,(fun s H => R (gs [] s) H))] R [])) [(1,(some [0,1,6,7,8,9]),(fun s H => J (Code.at [1,1,0,1,1,1,0,0,1,1] c85) s H (kk (some [0,1,6,7,8,9]) kn [(0,none,(fun s H => R (gs [] s) H))] R []))),(0,none,(fun s H => R (gs [] s) H))] R []))
 (
 J (Code.at [1,1,0,1,1,1,0,0,1,0,0,1,1] c85) (sp 65 [(0,x0),(1,x1),(6,x6),(7,x7),(8,x8),(9,x9),(10,x40_1)]) H (kk (some [0,1,6,7,8,9]) (fun s H => J (Code.at [1,1,0,1,1,1,0,0,1,1] c85) s H (kk (some [0,1,6,7,8,9]) kn [(0,none,(fun s H => R (gs [] s) H))] R [])) [(1,(some [0,1,6,7,8,9]),(fun s H => J (Code.at [1,1,0,1,1,1,0,0,1,1] c85) s H (kk (some [0,1,6,7,8,9]) kn [(0,none,(fun s H => R (gs [] s) H))] R []))),(0,none,(fun s H => R (gs [] s) H))] R [])))
 (
 R [] H) := by
 kernel_rfl
theorem N85_2b_eq (ρ call yc lim k x0 x1 x6 x7 x8 x9 H kn R) :
 evL (cx ρ) call yc false 85 lim k (Code.at [1,1,0,1,1,1,0,0] c85) (sp 65 [(0,x0),(1,x1),(6,x6),(7,x7),(8,x8),(9,x9)]) H (kk (some [0,1,6,7,8,9]) kn [(0,none,(fun s H => R (gs [] s) H))] R []) = N85_2b ρ call yc lim k x0 x1 x6 x7 x8 x9 H (fun x9 H => kn (sp 65 [(0,x0),(1,x1),(6,x6),(7,x7),(8,x8),(9,x9)]) H) R := by
 rw [evL_X,N85_2b_x]
 simp only [← evL_X,N85_2b,N85_3_eq,N85_4_eq]
noncomputable def N85_2 (ρ : RO) (call : CallF) (yc : YieldF) (lim k : Nat) (x0 x1 x6 x7 x8 x9 : AV) (H : Heap) (R : KR) : Res :=
 loopL (fun (x : AV) H kn => N85_2b ρ call yc lim k x0 x1 x6 x7 x8 x H (fun x9 H => kn x9 H) R) k x9 H
theorem N85_2_eq (ρ call yc lim k x0 x1 x6 x7 x8 x9 H R) :
 evL (cx ρ) call yc false 85 lim k (Code.at [1,1,0,1,1,1,0] c85) (sp 65 [(0,x0),(1,x1),(6,x6),(7,x7),(8,x8),(9,x9)]) H (kk none (fun s H => R (gs [] s) H) [(0,none,(fun s H => R (gs [] s) H))] R []) = N85_2 ρ call yc lim k x0 x1 x6 x7 x8 x9 H R := by
 have e : Code.at [1,1,0,1,1,1,0] c85 = .loop (Code.at [1,1,0,1,1,1,0,0] c85) := by kernel_rfl
 rw [e]
 unfold N85_2
 exact loop_node [0,1,6,7,8,9] (fun x : AV => (sp 65 [(0,x0),(1,x1),(6,x6),(7,x7),(8,x8),(9,(x))])) (fun (x : AV) H kn => N85_2b ρ call yc lim k x0 x1 x6 x7 x8 x H (fun x9 H => kn x9 H) R) (by kernel_rfl) (fun x => by kernel_rfl) (fun x H kn => N85_2b_eq ρ call yc lim k x0 x1 x6 x7 x8 (x) H kn R) x9 (sp 65 [(0,x0),(1,x1),(6,x6),(7,x7),(8,x8),(9,x9)]) H (by kernel_rfl)
noncomputable def N85_1 (ρ : RO) (call : CallF) (yc : YieldF) (lim k : Nat) (x0 x1 x6 x7 x8 x9 : AV) (H : Heap) (R : KR) : Res :=
 N85_2 ρ call yc lim k x0 x1 x6 x7 x8 x9 H R
theorem N85_1_x (ρ call yc lim k J x0 x1 x6 x7 x8 x9 H R) :
 evX (cx ρ) call yc false 85 lim k J (Code.at [1,1,0,1,1,1] c85) (sp 65 [(0,x0),(1,x1),(6,x6),(7,x7),(8,x8),(9,x9)]) H (kk none (fun s H => R (gs [] s) H) [] R []) =
 J (Code.at [1,1,0,1,1,1,0] c85) (sp 65 [(0,x0),(1,x1),(6,x6),(7,x7),(8,x8),(9,x9)]) H (kk none (fun s H => R (gs [] s) H) [(0,none,(fun s H => R (gs [] s) H))] R []) := by
 kernel_rfl
theorem N85_1_eq (ρ call yc lim k x0 x1 x6 x7 x8 x9 H R) :
 evL (cx ρ) call yc false 85 lim k (Code.at [1,1,0,1,1,1] c85) (sp 65 [(0,x0),(1,x1),(6,x6),(7,x7),(8,x8),(9,x9)]) H (kk none (fun s H => R (gs [] s) H) [] R []) = N85_1 ρ call yc lim k x0 x1 x6 x7 x8 x9 H R := by
 rw [evL_X,N85_1_x]
 simp only [← evL_X,N85_1,N85_2_eq]
noncomputable def L85 (ρ : RO) (call : CallF) (yc : YieldF) (lim k : Nat) (x0 x1 x2 : AV) (H : Heap) : Res :=
 purK (binA Try.prog H .sub 3 x2 x1) fun x13 =>
 purK (binA Try.prog H .geq 3 x13 (.int .i64 8)) fun x15 =>
 condK x15
 (
 purK (cvI .u64 x13) fun x17 =>
 effK H (some (.ptr H.sz 0 0,.new (newCells 160 false [.int .u64 0]))) fun x7 H =>
 effK H (stA lim H 1 x7 x17) fun _ H =>
 resK (call lim 103 [x13] H) fun x19 H =>
 purK (binA Try.prog H .quo 3 x13 (.int .i64 4)) fun x22 =>
 purK (binA Try.prog H .mul 3 x22 (.int .i64 2)) fun x23 =>
 purK (binA Try.prog H .add 3 x1 x23) fun x24 =>
 purK (binA Try.prog H .sub 3 x24 (.int .i64 1)) fun x25 =>
 N85_1 ρ call yc lim k x0 x1 x13 x7 x19 x25 H retK)
 (
 retK [] H)
theorem L85_x (ρ call yc lim k J x0 x1 x2 H) :
 evX (cx ρ) call yc false 85 lim k J c85 ([x0,x1,x2] ++ List.replicate 62 (.tup [])) H (kk none (fun s H => retK (gs [] s) H) [] retK []) =
 purK (binA Try.prog H .sub 3 x2 x1) fun x13 =>
 purK (binA Try.prog H .geq 3 x13 (.int .i64 8)) fun x15 =>
 condK x15
 (
 purK (cvI .u64 x13) fun x17 =>
 effK H (some (.ptr H.sz 0 0,.new (newCells 160 false [.int .u64 0]))) fun x7 H =>
 effK H (stA lim H 1 x7 x17) fun _ H =>
 resK (call lim 103 [x13] H) fun x19 H =>
 purK (binA Try.prog H .quo 3 x13 (.int .i64 4)) fun x22 =>
 purK (binA Try.prog H .mul 3 x22 (.int .i64 2)) fun x23 =>
 purK (binA Try.prog H .add 3 x1 x23) fun x24 =>
 purK (binA Try.prog H .sub 3 x24 (.int .i64 1)) fun x25 =>
 J (Code.at [1,1,0,1,1,1] c85) (sp 65 [(0,x0),(1,x1),(6,x13),(7,x7),(8,x19),(9,x25)]) H (kk none (fun s H => retK (gs [] s) H) [] retK []))
 (
 retK [] H) := by
 kernel_rfl
theorem G85 (ρ call yc lim k x0 x1 x2 H) :
 evL (cx ρ) call yc false 85 lim k c85 ([x0,x1,x2] ++ List.replicate 62 (.tup [])) H (kk none (fun s H => retK (gs [] s) H) [] retK []) = L85 ρ call yc lim k x0 x1 x2 H := by
 rw [evL_X,L85_x]
 simp only [← evL_X,L85,N85_1_eq]
theorem E85 (ρ : RO) (k lim : Nat) (x0 x1 x2 : AV) (H : Heap) : evCall (cx ρ) (k + 1) lim 85 [x0,x1,x2] H = L85 ρ (evCall (cx ρ) k) (evCY (cx ρ) k).2 lim k x0 x1 x2 H := by
 rw [evCall_body (cx ρ) k lim 85 _ H Try.f85 c85 [] (by kernel_rfl) (by kernel_rfl) (by kernel_rfl) (by kernel_rfl) (by kernel_rfl)]
 exact G85 ρ (evCall (cx ρ) k) (evCY (cx ρ) k).2 lim k x0 x1 x2 H
-- slices.choosePivotOrdered[string]
noncomputable def c86 : Code := Code.of Try.prog 86
noncomputable def N86_3 (ρ : RO) (call : CallF) (yc : YieldF) (lim k : Nat) (x11 x49 x51 : AV) (H : Heap) (R : KR) : Res :=
 condK x51
 (
 R [x11,(.int .i64 1)] H)
 (
 purK (binA Try.prog H .eql 3 x49 (.int .i64 12)) fun x55_1 =>
 condK x55_1
 (
 R [x11,(.int .i64 2)] H)
 (
 R [x11,(.int .i64 0)] H))
theorem N86_3_eq (ρ call yc lim k x11 x49 x51 H R) :
 evL (cx ρ) call yc false 86 lim k (Code.at [1,1,1,1,1,1,1,1,0,1] c86) (sp 57 [(11,x11),(49,x49),(51,x51)]) H (kk none (fun s H => R (gs [6,7] s) H) [(0,none,(fun s H => R (gs [6,7] s) H))] R [6,7]) = N86_3 ρ call yc lim k x11 x49 x51 H R := by
 kernel_rfl
noncomputable def N86_2 (ρ : RO) (call : CallF) (yc : YieldF) (lim k : Nat) (x9 x11 : AV) (H : Heap) (R : KR) : Res :=
 purK (ld1 ρ H x9) fun x49_1 =>
 purK (binA Try.prog H .eql 3 x49_1 (.int .i64 0)) fun x52_1 =>
 N86_3 ρ call yc lim k x11 x49_1 x52_1 H R
theorem N86_2_x (ρ call yc lim k J x9 x11 H R) :
 evX (cx ρ) call yc false 86 lim k J (Code.at [1,1,1,1,1,1,1] c86) (sp 57 [(9,x9),(11,x11)]) H (kk none (fun s H => R (gs [6,7] s) H) [] R [6,7]) =
 purK (ld1 ρ H x9) fun x49_1 =>
 purK (binA Try.prog H .eql 3 x49_1 (.int .i64 0)) fun x52_1 =>
 J (Code.at [1,1,1,1,1,1,1,1,0,1] c86) (sp 57 [(11,x11),(49,x49_1),(51,x52_1)]) H (kk none (fun s H => R (gs [6,7] s) H) [(0,none,(fun s H => R (gs [6,7] s) H))] R [6,7]) := by
 kernel_rfl
theorem N86_2_eq (ρ call yc lim k x9 x11 H R) :
 evL (cx ρ) call yc false 86 lim k (Code.at [1,1,1,1,1,1,1] c86) (sp 57 [(9,x9),(11,x11)]) H (kk none (fun s H => R (gs [6,7] s) H) [] R [6,7]) = N86_2 ρ call yc lim k x9 x11 H R := by
 rw [evL_X,N86_2_x]
 simp only [← evL_X,N86_2,N86_3_eq]
noncomputable def N86_4 (ρ : RO) (call : CallF) (yc : YieldF) (lim k : Nat) (x0 x9 x10 x11 x12 : AV) (H : Heap) (kn : AV → AV → Heap → Res) : Res :=
 resK (call lim 106 [x0,x10,x11,x12,x9] H) fun x48_1 H =>
 kn x9 x48_1 H
theorem N86_4_eq (ρ call yc lim k x0 x9 x10 x11 x12 H kn R) :
 evL (cx ρ) call yc false 86 lim k (Code.at [1,1,1,1,1,1,0,1,0,1] c86) (sp 57 [(0,x0),(9,x9),(10,x10),(11,x11),(12,x12)]) H (kk (some [9,11]) kn [] R [6,7]) = N86_4 ρ call yc lim k x0 x9 x10 x11 x12 H (fun x9 x11 H => kn (sp 57 [(9,x9),(11,x11)]) H) := by
 kernel_rfl
noncomputable def N86_1 (ρ : RO) (call : CallF) (yc : YieldF) (lim k : Nat) (x0 x8 x9 x10 x11 x12 : AV) (H : Heap) (R : KR) : Res :=
 purK (binA Try.prog H .geq 3 x8 (.int .i64 8)) fun x32_1 =>
 condK x32_1
 (
 purK (binA Try.prog H .geq 3 x8 (.int .i64 50)) fun x34_1 =>
 condK x34_1
 (
 resK (call lim 105 [x0,x10,x9] H) fun x37_1 H =>
 resK (call lim 105 [x0,x11,x9] H) fun x40_1 H =>
 resK (call lim 105 [x0,x12,x9] H) fun x43_1 H =>
 N86_4 ρ call yc lim k x0 x9 x37_1 x40_1 x43_1 H (fun x9_1 x11_1 H =>
 N86_2 ρ call yc lim k x9_1 x11_1 H R))
 (
 N86_4 ρ call yc lim k x0 x9 x10 x11 x12 H (fun x9_2 x11_2 H =>
 N86_2 ρ call yc lim k x9_2 x11_2 H R)))
 (
 N86_2 ρ call yc lim k x9 x11 H R)
theorem N86_1_x (ρ call yc lim k J x0 x8 x9 x10 x11 x12 H R) :
 evX (cx ρ) call yc false 86 lim k J (Code.at [1,1,1,1,1,1] c86) (sp 57 [(0,x0),(8,x8),(9,x9),(10,x10),(11,x11),(12,x12)]) H (kk none (fun s H => R (gs [6,7] s) H) [] R [6,7]) =
 purK (binA Try.prog H .geq 3 x8 (.int .i64 8)) fun x32_1 =>
 condK x32_1
 (
 purK (binA Try.prog H .geq 3 x8 (.int .i64 50)) fun x34_1 =>
 condK x34_1
 (
 resK (call lim 105 [x0,x10,x9] H) fun x37_1 H =>
 resK (call lim 105 [x0,x11,x9] H) fun x40_1 H =>
 resK (call lim 105 [x0,x12,x9] H) fun x43_1 H =>
 J (Code.at [1,1,1,1,1,1,0,1,0,1] c86) (sp 57 [(0,x0),(9,x9),(10,x37_1),(11,x40_1),(12,x43_1)]) H (kk (some [9,11]) (fun s H => J (Code.at [1,1,1,1,1,1,1] c86) s H (kk none (fun s H => R (gs [6,7] s) H) [] R [6,7])) [] R [6,7]))
 (
 J (Code.at [1,1,1,1,1,1,0,1,0,1] c86) (sp 57 [(0,x0),(9,x9),(10,x10),(11,x11),(12,x12)]) H (kk (some [9,11]) (fun s H => J (Code.at [1,1,1,1,1,1,1] c86) s H (kk none (fun s H => R (gs [6,7] s) H) [] R [6,7])) [] R [6,7])))
 (
 J (Code.at [1,1,1,1,1,1,1] c86) (sp 57 [(9,x9),(11,x11)]) H (kk none (fun s H => R (gs [6,7] s) H) [] R [6,7])) := by
 kernel_rfl
theorem N86_1_eq (ρ call yc lim k x0 x8 x9 x10 x11 x12 H R) :
 evL (cx ρ) call yc false 86 lim k (Code.at [1,1,1,1,1,1] c86) (sp 57 [(0,x0),(8,x8),(9,x9),(10,x10),(11,x11),(12,x12)]) H (kk none (fun s H => R (gs [6,7] s) H) [] R [6,7]) = N86_1 ρ call yc lim k x0 x8 x9 x10 x11 x12 H R := by
 rw [evL_X,N86_1_x]
 simp only [← evL_X,N86_1,N86_2_eq,N86_4_eq]
noncomputable def L86 (ρ : RO) (call : CallF) (yc : YieldF) (lim k : Nat) (x0 x1 x2 : AV) (H : Heap) : Res :=
 purK (binA Try.prog H .sub 3 x2 x1) fun x15 =>
 effK H (some (.ptr H.sz 0 0,.new (newCells 3 false [.int .i64 0]))) fun x9 H =>
 purK (binA Try.prog H .quo 3 x15 (.int .i64 4)) fun x18 =>
 purK (binA Try.prog H .mul 3 x18 (.int .i64 1)) fun x19 =>
 purK (binA Try.prog H .add 3 x1 x19) fun x20 =>
 purK (binA Try.prog H .quo 3 x15 (.int .i64 4)) fun x23 =>
 purK (binA Try.prog H .mul 3 x23 (.int .i64 2)) fun x24 =>
 purK (binA Try.prog H .add 3 x1 x24) fun x25 =>
 purK (binA Try.prog H .quo 3 x15 (.int .i64 4)) fun x28 =>
 purK (binA Try.prog H .mul 3 x28 (.int .i64 3)) fun x29 =>
 purK (binA Try.prog H .add 3 x1 x29) fun x30 =>
 N86_1 ρ call yc lim k x0 x15 x9 x20 x25 x30 H retK
theorem L86_x (ρ call yc lim k J x0 x1 x2 H) :
 evX (cx ρ) call yc false 86 lim k J c86 ([x0,x1,x2] ++ List.replicate 54 (.tup [])) H (kk none (fun s H => retK (gs [6,7] s) H) [] retK [6,7]) =
 purK (binA Try.prog H .sub 3 x2 x1) fun x15 =>
 effK H (some (.ptr H.sz 0 0,.new (newCells 3 false [.int .i64 0]))) fun x9 H =>
 purK (binA Try.prog H .quo 3 x15 (.int .i64 4)) fun x18 =>
 purK (binA Try.prog H .mul 3 x18 (.int .i64 1)) fun x19 =>
 purK (binA Try.prog H .add 3 x1 x19) fun x20 =>
 purK (binA Try.prog H .quo 3 x15 (.int .i64 4)) fun x23 =>
 purK (binA Try.prog H .mul 3 x23 (.int .i64 2)) fun x24 =>
 purK (binA Try.prog H .add 3 x1 x24) fun x25 =>
 purK (binA Try.prog H .quo 3 x15 (.int .i64 4)) fun x28 =>
 purK (binA Try.prog H .mul 3 x28 (.int .i64 3)) fun x29 =>
 purK (binA Try.prog H .add 3 x1 x29) fun x30 =>
 J (Code.at [1,1,1,1,1,1] c86) (sp 57 [(0,x0),(8,x15),(9,x9),(10,x20),(11,x25),(12,x30)]) H (kk none (fun s H => retK (gs [6,7] s) H) [] retK [6,7]) := by
 kernel_rfl
theorem G86 (ρ call yc lim k x0 x1 x2 H) :
 evL (cx ρ) call yc false 86 lim k c86 ([x0,x1,x2] ++ List.replicate 54 (.tup [])) H (kk none (fun s H => retK (gs [6,7] s) H) [] retK [6,7]) = L86 ρ call yc lim k x0 x1 x2 H := by
 rw [evL_X,L86_x]
 simp only [← evL_X,L86,N86_1_eq]
theorem E86 (ρ : RO) (k lim : Nat) (x0 x1 x2 : AV) (H : Heap) : evCall (cx ρ) (k + 1) lim 86 [x0,x1,x2] H = L86 ρ (evCall (cx ρ) k) (evCY (cx ρ) k).2 lim k x0 x1 x2 H := by
 rw [evCall_body (cx ρ) k lim 86 _ H Try.f86 c86 [6,7] (by kernel_rfl) (by kernel_rfl) (by kernel_rfl) (by kernel_rfl) (by kernel_rfl)]
 exact G86 ρ (evCall (cx ρ) k) (evCY (cx ρ) k).2 lim k x0 x1 x2 H
end Go.Proofs.Ytkmohjddojpdjaa

-- part Ht8
/- Functions, lifted. Printed by a program of this repo. -/
set_option linter.unusedVariables false
set_option linter.unusedSimpArgs false
set_option maxRecDepth 100000
set_option maxHeartbeats 4000000
namespace Go.Proofs.Ytkmohjddojpdjaa
open Go.Ev Go.RowKit
-- slices.reverseRangeOrdered[string]
noncomputable def c87 : Code := Code.of Try.prog 87
noncomputable def N87_2b (ρ : RO) (call : CallF) (yc : YieldF) (lim k : Nat) (x0 x6 x7 : AV) (H : Heap) (kn : AV → AV → Heap → Res) (R : KR) : Res :=
 purK (binA Try.prog H .lss 3 x6 x7) fun x13_1 =>
 condK x13_1
 (
 purK (ixS 1 x0 x7) fun x20_1 =>
 purK (ld1 ρ H x20_1) fun x21_1 =>
 purK (ixS 1 x0 x6) fun x24_1 =>
 purK (ld1 ρ H x24_1) fun x25_1 =>
 purK (ixS 1 x0 x6) fun x26_1 =>
 effK H (stA lim H 1 x26_1 x21_1) fun _ H =>
 purK (ixS 1 x0 x7) fun x27_1 =>
 effK H (stA lim H 1 x27_1 x25_1) fun _ H =>
 purK (binA Try.prog H .add 3 x6 (.int .i64 1)) fun x29_1 =>
 purK (binA Try.prog H .sub 3 x7 (.int .i64 1)) fun x31_1 =>
 kn x29_1 x31_1 H)
 (
 R [] H)
theorem N87_2b_eq (ρ call yc lim k x0 x6 x7 H kn R) :
 evL (cx ρ) call yc false 87 lim k (Code.at [1,1,0,0] c87) (sp 32 [(0,x0),(6,x6),(7,x7)]) H (kk (some [0,6,7]) kn [(0,none,(fun s H => R (gs [] s) H))] R []) = N87_2b ρ call yc lim k x0 x6 x7 H (fun x6 x7 H => kn (sp 32 [(0,x0),(6,x6),(7,x7)]) H) R := by
 kernel_rfl
noncomputable def N87_2 (ρ : RO) (call : CallF) (yc : YieldF) (lim k : Nat) (x0 x6 x7 : AV) (H : Heap) (R : KR) : Res :=
 loopL (fun (x : AV × AV) H kn => N87_2b ρ call yc lim k x0 x.1 x.2 H (fun x6 x7 H => kn (x6,x7) H) R) k (x6,x7) H
theorem N87_2_eq (ρ call yc lim k x0 x6 x7 H R) :
 evL (cx ρ) call yc false 87 lim k (Code.at [1,1,0] c87) (sp 32 [(0,x0),(6,x6),(7,x7)]) H (kk none (fun s H => R (gs [] s) H) [(0,none,(fun s H => R (gs [] s) H))] R []) = N87_2 ρ call yc lim k x0 x6 x7 H R := by
 have e : Code.at [1,1,0] c87 = .loop (Code.at [1,1,0,0] c87) := by kernel_rfl
 rw [e]
 unfold N87_2
 exact loop_node [0,6,7] (fun x : AV × AV => (sp 32 [(0,x0),(6,(x.1)),(7,(x.2))])) (fun (x : AV × AV) H kn => N87_2b ρ call yc lim k x0 x.1 x.2 H (fun x6 x7 H => kn (x6,x7) H) R) (by kernel_rfl) (fun x => by kernel_rfl) (fun x H kn => N87_2b_eq ρ call yc lim k x0 (x.1) (x.2) H kn R) (x6,x7) (sp 32 [(0,x0),(6,x6),(7,x7)]) H (by kernel_rfl)
noncomputable def N87_1 (ρ : RO) (call : CallF) (yc : YieldF) (lim k : Nat) (x0 x6 x7 : AV) (H : Heap) (R : KR) : Res :=
 N87_2 ρ call yc lim k x0 x6 x7 H R
theorem N87_1_x (ρ call yc lim k J x0 x6 x7 H R) :
 evX (cx ρ) call yc false 87 lim k J (Code.at [1,1] c87) (sp 32 [(0,x0),(6,x6),(7,x7)]) H (kk none (fun s H => R (gs [] s) H) [] R []) =
 J (Code.at [1,1,0] c87) (sp 32 [(0,x0),(6,x6),(7,x7)]) H (kk none (fun s H => R (gs [] s) H) [(0,none,(fun s H => R (gs [] s) H))] R []) := by
 kernel_rfl
theorem N87_1_eq (ρ call yc lim k x0 x6 x7 H R) :
 evL (cx ρ) call yc false 87 lim k (Code.at [1,1] c87) (sp 32 [(0,x0),(6,x6),(7,x7)]) H (kk none (fun s H => R (gs [] s) H) [] R []) = N87_1 ρ call yc lim k x0 x6 x7 H R := by
 rw [evL_X,N87_1_x]
 simp only [← evL_X,N87_1,N87_2_eq]
noncomputable def L87 (ρ : RO) (call : CallF) (yc : YieldF) (lim k : Nat) (x0 x1 x2 : AV) (H : Heap) : Res :=
 purK (binA Try.prog H .sub 3 x2 (.int .i64 1)) fun x10 =>
 N87_1 ρ call yc lim k x0 x1 x10 H retK
theorem L87_x (ρ call yc lim k J x0 x1 x2 H) :
 evX (cx ρ) call yc false 87 lim k J c87 ([x0,x1,x2] ++ List.replicate 29 (.tup [])) H (kk none (fun s H => retK (gs [] s) H) [] retK []) =
 purK (binA Try.prog H .sub 3 x2 (.int .i64 1)) fun x10 =>
 J (Code.at [1,1] c87) (sp 32 [(0,x0),(6,x1),(7,x10)]) H (kk none (fun s H => retK (gs [] s) H) [] retK []) := by
 kernel_rfl
theorem G87 (ρ call yc lim k x0 x1 x2 H) :
 evL (cx ρ) call yc false 87 lim k c87 ([x0,x1,x2] ++ List.replicate 29 (.tup [])) H (kk none (fun s H => retK (gs [] s) H) [] retK []) = L87 ρ call yc lim k x0 x1 x2 H := by
 rw [evL_X,L87_x]
 simp only [← evL_X,L87,N87_1_eq]
theorem E87 (ρ : RO) (k lim : Nat) (x0 x1 x2 : AV) (H : Heap) : evCall (cx ρ) (k + 1) lim 87 [x0,x1,x2] H = L87 ρ (evCall (cx ρ) k) (evCY (cx ρ) k).2 lim k x0 x1 x2 H := by
 rw [evCall_body (cx ρ) k lim 87 _ H Try.f87 c87 [] (by kernel_rfl) (by kernel_rfl) (by kernel_rfl) (by kernel_rfl) (by kernel_rfl)]
 exact G87 ρ (evCall (cx ρ) k) (evCY (cx ρ) k).2 lim k x0 x1 x2 H
-- slices.partialInsertionSortOrdered[string]
noncomputable def c88 : Code := Code.of Try.prog 88
noncomputable def N88_1 (ρ : RO) (call : CallF) (yc : YieldF) (lim k : Nat) (H : Heap) (R : KR) : Res :=
 R [(.bool false)] H
theorem N88_1_eq (ρ call yc lim k H R) :
 evL (cx ρ) call yc false 88 lim k (Code.at [1,1,1] c88) (sp 133 []) H (kk none (fun s H => R (gs [6] s) H) [] R [6]) = N88_1 ρ call yc lim k H R := by
 kernel_rfl
noncomputable def N88_5 (ρ : RO) (call : CallF) (yc : YieldF) (lim k : Nat) (x0 x1 x2 x7 x8 : AV) (H : Heap) (kn : AV → AV → Heap → Res) : Res :=
 purK (binA Try.prog H .add 3 x8 (.int .i64 1)) fun x16_1 =>
 kn x7 x16_1 H
theorem N88_5_eq (ρ call yc lim k x0 x1 x2 x7 x8 H kn k0 R) :
 evL (cx ρ) call yc false 88 lim k (Code.at [1,1,0,1,0,0,1,1] c88) (sp 133 [(0,x0),(1,x1),(2,x2),(7,x7),(8,x8)]) H (kk (some [0,1,2,7,8]) kn [(0,(some []),k0)] R [6]) = N88_5 ρ call yc lim k x0 x1 x2 x7 x8 H (fun x7 x8 H => kn (sp 133 [(0,x0),(1,x1),(2,x2),(7,x7),(8,x8)]) H) := by
 kernel_rfl
noncomputable def N88_11 (ρ : RO) (call : CallF) (yc : YieldF) (lim k : Nat) (x0 x1 x2 x7 x8 x10 : AV) (H : Heap) (kn : AV → Heap → Res) : Res :=
 purK (binA Try.prog H .add 3 x10 (.int .i64 1)) fun x105_1 =>
 kn x105_1 H
theorem N88_11_eq (ρ call yc lim k x0 x1 x2 x7 x8 x10 H kn k6 k1 k0 R) :
 evL (cx ρ) call yc false 88 lim k (Code.at [1,1,0,1,0,0,1,0,0,1,1,1,1,1,1,0,1,0,0,1,1] c88) (sp 133 [(0,x0),(1,x1),(2,x2),(7,x7),(8,x8),(10,x10)]) H (kk (some [0,1,2,7,8,10]) kn [(6,(some [0,1,2,7,8]),k6),(1,(some [0,1,2,7,8]),k1),(0,(some []),k0)] R [6]) = N88_11 ρ call yc lim k x0 x1 x2 x7 x8 x10 H (fun x10 H => kn (sp 133 [(0,x0),(1,x1),(2,x2),(7,x7),(8,x8),(10,x10)]) H) := by
 kernel_rfl
noncomputable def N88_10b (ρ : RO) (call : CallF) (yc : YieldF) (lim k : Nat) (x0 x1 x2 x7 x8 x10 : AV) (H : Heap) (kn : AV → Heap → Res) (k6 : AV → AV → Heap → Res) : Res :=
 purK (binA Try.prog H .lss 3 x10 x2) fun x103_1 =>
 condK x103_1
 (
 purK (ixS 1 x0 x10) fun x108_1 =>
 purK (ld1 ρ H x108_1) fun x109_1 =>
 purK (binA Try.prog H .sub 3 x10 (.int .i64 1)) fun x112_1 =>
 purK (ixS 1 x0 x112_1) fun x113_1 =>
 purK (ld1 ρ H x113_1) fun x114_1 =>
 resK (call lim 89 [x109_1,x114_1] H) fun x115_1 H =>
 purK (unA .not x115_1) fun x116_1 =>
 condK x116_1
 (
 k6 x7 x8 H)
 (
 purK (binA Try.prog H .sub 3 x10 (.int .i64 1)) fun x121_1 =>
 purK (binA Try.prog H .sub 3 x10 (.int .i64 1)) fun x124_1 =>
 purK (ixS 1 x0 x124_1) fun x125_1 =>
 purK (ld1 ρ H x125_1) fun x126_1 =>
 purK (ixS 1 x0 x10) fun x129_1 =>
 purK (ld1 ρ H x129_1) fun x130_1 =>
 purK (ixS 1 x0 x10) fun x131_1 =>
 effK H (stA lim H 1 x131_1 x126_1) fun _ H => bif (agn (binA Try.prog H .sub 3 x10 (.int .i64 1)) x121_1 && true) then
 purK (ixS 1 x0 x121_1) fun x132_1 =>
 effK H (stA lim H 1 x132_1 x130_1) fun _ H =>
 N88_11 ρ call yc lim k x0 x1 x2 x7 x8 x10 H kn
 else .stop))
 (
 k6 x7 x8 H)
theorem N88_10b_x (ρ call yc lim k J x0 x1 x2 x7 x8 x10 H kn k6 k1 k0 R) :
 evX (cx ρ) call yc false 88 lim k J (Code.at [1,1,0,1,0,0,1,0,0,1,1,1,1,1,1,0,1,0,0] c88) (sp 133 [(0,x0),(1,x1),(2,x2),(7,x7),(8,x8),(10,x10)]) H (kk (some [0,1,2,7,8,10]) kn [(6,(some [0,1,2,7,8]),k6),(1,(some [0,1,2,7,8]),k1),(0,(some []),k0)] R [6]) =
 purK (binA Try.prog H .lss 3 x10 x2) fun x103_1 =>
 condK x103_1
 (
 purK (ixS 1 x0 x10) fun x108_1 =>
 purK (ld1 ρ H x108_1) fun x109_1 =>
 purK (binA Try.prog H .sub 3 x10 (.int .i64 1)) fun x112_1 =>
 purK (ixS 1 x0 x112_1) fun x113_1 =>
 purK (ld1 ρ H x113_1) fun x114_1 =>
 resK (call lim 89 [x109_1,x114_1] H) fun x115_1 H =>
 purK (unA .not x115_1) fun x116_1 =>
 condK x116_1
 (
 k6 (sp 133 [(0,x0),(1,x1),(2,x2),(7,x7),(8,x8)]) H)
 (
 purK (binA Try.prog H .sub 3 x10 (.int .i64 1)) fun x121_1 =>
 purK (binA Try.prog H .sub 3 x10 (.int .i64 1)) fun x124_1 =>
 purK (ixS 1 x0 x124_1) fun x125_1 =>
 purK (ld1 ρ H x125_1) fun x126_1 =>
 purK (ixS 1 x0 x10) fun x129_1 =>
 purK (ld1 ρ H x129_1) fun x130_1 =>
 purK (ixS 1 x0 x10) fun x131_1 =>
 effK H (stA lim H 1 x131_1 x126_1) fun _ H => bif (agn (binA Try.prog H .sub 3 x10 (.int .i64 1)) x121_1 && true) then
 purK (ixS 1 x0 x121_1) fun x132_1 =>
 effK H (stA lim H 1 x132_1 x130_1) fun _ H =>
 J (Code.at [1,1,0,1,0,0,1,0,0,1,1,1,1,1,1,0,1,0,0,1,1] c88) (sp 133 [(0,x0),(1,x1),(2,x2),(7,x7),(8,x8),(10,x10)]) H (kk (some [0,1,2,7,8,10]) kn [(6,(some [0,1,2,7,8]),k6),(1,(some [0,1,2,7,8]),k1),(0,(some []),k0)] R [6])
 else .stop))
 (
 k6 (sp 133 [(0,x0),(1,x1),(2,x2),(7,x7),(8,x8)]) H) := by
 kernel_rfl
theorem N88_10b_eq (ρ call yc lim k x0 x1 x2 x7 x8 x10 H kn k6 k1 k0 R) :
 evL (cx ρ) call yc false 88 lim k (Code.at [1,1,0,1,0,0,1,0,0,1,1,1,1,1,1,0,1,0,0] c88) (sp 133 [(0,x0),(1,x1),(2,x2),(7,x7),(8,x8),(10,x10)]) H (kk (some [0,1,2,7,8,10]) kn [(6,(some [0,1,2,7,8]),k6),(1,(some [0,1,2,7,8]),k1),(0,(some []),k0)] R [6]) = N88_10b ρ call yc lim k x0 x1 x2 x7 x8 x10 H (fun x10 H => kn (sp 133 [(0,x0),(1,x1),(2,x2),(7,x7),(8,x8),(10,x10)]) H) (fun x7 x8 H => k6 (sp 133 [(0,x0),(1,x1),(2,x2),(7,x7),(8,x8)]) H) := by
 rw [evL_X,N88_10b_x]
 simp only [← evL_X,N88_10b,N88_11_eq]
noncomputable def N88_10 (ρ : RO) (call : CallF) (yc : YieldF) (lim k : Nat) (x0 x1 x2 x7 x8 x10 : AV) (H : Heap) (k6 : AV → AV → Heap → Res) : Res :=
 loopL (fun (x : AV) H kn => N88_10b ρ call yc lim k x0 x1 x2 x7 x8 x H (fun x10 H => kn x10 H) k6) k x10 H
theorem N88_10_eq (ρ call yc lim k x0 x1 x2 x7 x8 x10 H kn k6 k1 k0 R) :
 evL (cx ρ) call yc false 88 lim k (Code.at [1,1,0,1,0,0,1,0,0,1,1,1,1,1,1,0,1,0] c88) (sp 133 [(0,x0),(1,x1),(2,x2),(7,x7),(8,x8),(10,x10)]) H (kk (some [0,1,2,7,8]) kn [(6,(some [0,1,2,7,8]),k6),(1,(some [0,1,2,7,8]),k1),(0,(some []),k0)] R [6]) = N88_10 ρ call yc lim k x0 x1 x2 x7 x8 x10 H (fun x7 x8 H => k6 (sp 133 [(0,x0),(1,x1),(2,x2),(7,x7),(8,x8)]) H) := by
 have e : Code.at [1,1,0,1,0,0,1,0,0,1,1,1,1,1,1,0,1,0] c88 = .loop (Code.at [1,1,0,1,0,0,1,0,0,1,1,1,1,1,1,0,1,0,0] c88) := by kernel_rfl
 rw [e]
 unfold N88_10
 exact loop_node [0,1,2,7,8,10] (fun x : AV => (sp 133 [(0,x0),(1,x1),(2,x2),(7,x7),(8,x8),(10,(x))])) (fun (x : AV) H kn => N88_10b ρ call yc lim k x0 x1 x2 x7 x8 x H (fun x10 H => kn x10 H) (fun x7 x8 H => k6 (sp 133 [(0,x0),(1,x1),(2,x2),(7,x7),(8,x8)]) H)) (by kernel_rfl) (fun x => by kernel_rfl) (fun x H kn => N88_10b_eq ρ call yc lim k x0 x1 x2 x7 x8 (x) H kn k6 k1 k0 R) x10 (sp 133 [(0,x0),(1,x1),(2,x2),(7,x7),(8,x8),(10,x10)]) H (by kernel_rfl)
noncomputable def N88_9 (ρ : RO) (call : CallF) (yc : YieldF) (lim k : Nat) (x0 x1 x2 x7 x8 x10 : AV) (H : Heap) (kn : AV → AV → Heap → Res) : Res :=
 N88_10 ρ call yc lim k x0 x1 x2 x7 x8 x10 H kn
theorem N88_9_x (ρ call yc lim k J x0 x1 x2 x7 x8 x10 H kn k1 k0 R) :
 evX (cx ρ) call yc false 88 lim k J (Code.at [1,1,0,1,0,0,1,0,0,1,1,1,1,1,1,0,1] c88) (sp 133 [(0,x0),(1,x1),(2,x2),(7,x7),(8,x8),(10,x10)]) H (kk (some [0,1,2,7,8]) kn [(1,(some [0,1,2,7,8]),k1),(0,(some []),k0)] R [6]) =
 J (Code.at [1,1,0,1,0,0,1,0,0,1,1,1,1,1,1,0,1,0] c88) (sp 133 [(0,x0),(1,x1),(2,x2),(7,x7),(8,x8),(10,x10)]) H (kk (some [0,1,2,7,8]) kn [(6,(some [0,1,2,7,8]),kn),(1,(some [0,1,2,7,8]),k1),(0,(some []),k0)] R [6]) := by
 kernel_rfl
theorem N88_9_eq (ρ call yc lim k x0 x1 x2 x7 x8 x10 H kn k1 k0 R) :
 evL (cx ρ) call yc false 88 lim k (Code.at [1,1,0,1,0,0,1,0,0,1,1,1,1,1,1,0,1] c88) (sp 133 [(0,x0),(1,x1),(2,x2),(7,x7),(8,x8),(10,x10)]) H (kk (some [0,1,2,7,8]) kn [(1,(some [0,1,2,7,8]),k1),(0,(some []),k0)] R [6]) = N88_9 ρ call yc lim k x0 x1 x2 x7 x8 x10 H (fun x7 x8 H => kn (sp 133 [(0,x0),(1,x1),(2,x2),(7,x7),(8,x8)]) H) := by
 rw [evL_X,N88_9_x]
 simp only [← evL_X,N88_9,N88_10_eq]
noncomputable def N88_8 (ρ : RO) (call : CallF) (yc : YieldF) (lim k : Nat) (x0 x1 x2 x7 x8 : AV) (H : Heap) (kn : AV → AV → Heap → Res) : Res :=
 purK (binA Try.prog H .sub 3 x2 x7) fun x97_1 =>
 purK (binA Try.prog H .geq 3 x97_1 (.int .i64 2)) fun x98_1 =>
 condK x98_1
 (
 purK (binA Try.prog H .add 3 x7 (.int .i64 1)) fun x100_1 =>
 N88_9 ρ call yc lim k x0 x1 x2 x7 x8 x100_1 H kn)
 (
 kn x7 x8 H)
theorem N88_8_x (ρ call yc lim k J x0 x1 x2 x7 x8 H kn k1 k0 R) :
 evX (cx ρ) call yc false 88 lim k J (Code.at [1,1,0,1,0,0,1,0,0,1,1,1,1,1] c88) (sp 133 [(0,x0),(1,x1),(2,x2),(7,x7),(8,x8)]) H (kk (some [0,1,2,7,8]) kn [(1,(some [0,1,2,7,8]),k1),(0,(some []),k0)] R [6]) =
 purK (binA Try.prog H .sub 3 x2 x7) fun x97_1 =>
 purK (binA Try.prog H .geq 3 x97_1 (.int .i64 2)) fun x98_1 =>
 condK x98_1
 (
 purK (binA Try.prog H .add 3 x7 (.int .i64 1)) fun x100_1 =>
 J (Code.at [1,1,0,1,0,0,1,0,0,1,1,1,1,1,1,0,1] c88) (sp 133 [(0,x0),(1,x1),(2,x2),(7,x7),(8,x8),(10,x100_1)]) H (kk (some [0,1,2,7,8]) kn [(1,(some [0,1,2,7,8]),k1),(0,(some []),k0)] R [6]))
 (
 kn (sp 133 [(0,x0),(1,x1),(2,x2),(7,x7),(8,x8)]) H) := by
 kernel_rfl
theorem N88_8_eq (ρ call yc lim k x0 x1 x2 x7 x8 H kn k1 k0 R) :
 evL (cx ρ) call yc false 88 lim k (Code.at [1,1,0,1,0,0,1,0,0,1,1,1,1,1] c88) (sp 133 [(0,x0),(1,x1),(2,x2),(7,x7),(8,x8)]) H (kk (some [0,1,2,7,8]) kn [(1,(some [0,1,2,7,8]),k1),(0,(some []),k0)] R [6]) = N88_8 ρ call yc lim k x0 x1 x2 x7 x8 H (fun x7 x8 H => kn (sp 133 [(0,x0),(1,x1),(2,x2),(7,x7),(8,x8)]) H) := by
 rw [evL_X,N88_8_x]
 simp only [← evL_X,N88_8,N88_9_eq]
noncomputable def N88_14 (ρ : RO) (call : CallF) (yc : YieldF) (lim k : Nat) (x0 x1 x2 x7 x8 x9 : AV) (H : Heap) (kn : AV → Heap → Res) : Res :=
 purK (binA Try.prog H .sub 3 x9 (.int .i64 1)) fun x67_1 =>
 kn x67_1 H
theorem N88_14_eq (ρ call yc lim k x0 x1 x2 x7 x8 x9 H kn k4 k1 k0 R) :
 evL (cx ρ) call yc false 88 lim k (Code.at [1,1,0,1,0,0,1,0,0,1,1,1,1,0,1,0,1,0,0,1,1] c88) (sp 133 [(0,x0),(1,x1),(2,x2),(7,x7),(8,x8),(9,x9)]) H (kk (some [0,1,2,7,8,9]) kn [(4,(some [0,1,2,7,8]),k4),(1,(some [0,1,2,7,8]),k1),(0,(some []),k0)] R [6]) = N88_14 ρ call yc lim k x0 x1 x2 x7 x8 x9 H (fun x9 H => kn (sp 133 [(0,x0),(1,x1),(2,x2),(7,x7),(8,x8),(9,x9)]) H) := by
 kernel_rfl
noncomputable def N88_13b (ρ : RO) (call : CallF) (yc : YieldF) (lim k : Nat) (x0 x1 x2 x7 x8 x9 : AV) (H : Heap) (kn : AV → Heap → Res) (k4 : AV → AV → Heap → Res) : Res :=
 purK (binA Try.prog H .geq 3 x9 (.int .i64 1)) fun x65_1 =>
 condK x65_1
 (
 purK (ixS 1 x0 x9) fun x70_1 =>
 purK (ld1 ρ H x70_1) fun x71_1 =>
 purK (binA Try.prog H .sub 3 x9 (.int .i64 1)) fun x74_1 =>
 purK (ixS 1 x0 x74_1) fun x75_1 =>
 purK (ld1 ρ H x75_1) fun x76_1 =>
 resK (call lim 89 [x71_1,x76_1] H) fun x77_1 H =>
 purK (unA .not x77_1) fun x78_1 =>
 condK x78_1
 (
 k4 x7 x8 H)
 (
 purK (binA Try.prog H .sub 3 x9 (.int .i64 1)) fun x83_1 =>
 purK (binA Try.prog H .sub 3 x9 (.int .i64 1)) fun x86_1 =>
 purK (ixS 1 x0 x86_1) fun x87_1 =>
 purK (ld1 ρ H x87_1) fun x88_1 =>
 purK (ixS 1 x0 x9) fun x91_1 =>
 purK (ld1 ρ H x91_1) fun x92_1 =>
 purK (ixS 1 x0 x9) fun x93_1 =>
 effK H (stA lim H 1 x93_1 x88_1) fun _ H => bif (agn (binA Try.prog H .sub 3 x9 (.int .i64 1)) x83_1 && true) then
 purK (ixS 1 x0 x83_1) fun x94_1 =>
 effK H (stA lim H 1 x94_1 x92_1) fun _ H =>
 N88_14 ρ call yc lim k x0 x1 x2 x7 x8 x9 H kn
 else .stop))
 (
 k4 x7 x8 H)
theorem N88_13b_x (ρ call yc lim k J x0 x1 x2 x7 x8 x9 H kn k4 k1 k0 R) :
 evX (cx ρ) call yc false 88 lim k J (Code.at [1,1,0,1,0,0,1,0,0,1,1,1,1,0,1,0,1,0,0] c88) (sp 133 [(0,x0),(1,x1),(2,x2),(7,x7),(8,x8),(9,x9)]) H (kk (some [0,1,2,7,8,9]) kn [(4,(some [0,1,2,7,8]),k4),(1,(some [0,1,2,7,8]),k1),(0,(some []),k0)] R [6]) =
 purK (binA Try.prog H .geq 3 x9 (.int .i64 1)) fun x65_1 =>
 condK x65_1
 (
 purK (ixS 1 x0 x9) fun x70_1 =>
 purK (ld1 ρ H x70_1) fun x71_1 =>
 purK (binA Try.prog H .sub 3 x9 (.int .i64 1)) fun x74_1 =>
 purK (ixS 1 x0 x74_1) fun x75_1 =>
 purK (ld1 ρ H x75_1) fun x76_1 =>
 resK (call lim 89 [x71_1,x76_1] H) fun x77_1 H =>
 purK (unA .not x77_1) fun x78_1 =>
 condK x78_1
 (
 k4 (sp 133 [(0,x0),(1,x1),(2,x2),(7,x7),(8,x8)]) H)
 (
 purK (binA Try.prog H .sub 3 x9 (.int .i64 1)) fun x83_1 =>
 purK (binA Try.prog H .sub 3 x9 (.int .i64 1)) fun x86_1 =>
 purK (ixS 1 x0 x86_1) fun x87_1 =>
 purK (ld1 ρ H x87_1) fun x88_1 =>
 purK (ixS 1 x0 x9) fun x91_1 =>
 purK (ld1 ρ H x91_1) fun x92_1 =>
 purK (ixS 1 x0 x9) fun x93_1 =>
 effK H (stA lim H 1 x93_1 x88_1) fun _ H => bif (agn (binA Try.prog H .sub 3 x9 (.int .i64 1)) x83_1 && true) then
 purK (ixS 1 x0 x83_1) fun x94_1 =>
 effK H (stA lim H 1 x94_1 x92_1) fun _ H =>
 J (Code.at [1,1,0,1,0,0,1,0,0,1,1,1,1,0,1,0,1,0,0,1,1] c88) (sp 133 [(0,x0),(1,x1),(2,x2),(7,x7),(8,x8),(9,x9)]) H (kk (some [0,1,2,7,8,9]) kn [(4,(some [0,1,2,7,8]),k4),(1,(some [0,1,2,7,8]),k1),(0,(some []),k0)] R [6])
 else .stop))
 (
 k4 (sp 133 [(0,x0),(1,x1),(2,x2),(7,x7),(8,x8)]) H) := by
 kernel_rfl
theorem N88_13b_eq (ρ call yc lim k x0 x1 x2 x7 x8 x9 H kn k4 k1 k0 R) :
 evL (cx ρ) call yc false 88 lim k (Code.at [1,1,0,1,0,0,1,0,0,1,1,1,1,0,1,0,1,0,0] c88) (sp 133 [(0,x0),(1,x1),(2,x2),(7,x7),(8,x8),(9,x9)]) H (kk (some [0,1,2,7,8,9]) kn [(4,(some [0,1,2,7,8]),k4),(1,(some [0,1,2,7,8]),k1),(0,(some []),k0)] R [6]) = N88_13b ρ call yc lim k x0 x1 x2 x7 x8 x9 H (fun x9 H => kn (sp 133 [(0,x0),(1,x1),(2,x2),(7,x7),(8,x8),(9,x9)]) H) (fun x7 x8 H => k4 (sp 133 [(0,x0),(1,x1),(2,x2),(7,x7),(8,x8)]) H) := by
 rw [evL_X,N88_13b_x]
 simp only [← evL_X,N88_13b,N88_14_eq]
noncomputable def N88_13 (ρ : RO) (call : CallF) (yc : YieldF) (lim k : Nat) (x0 x1 x2 x7 x8 x9 : AV) (H : Heap) (k4 : AV → AV → Heap → Res) : Res :=
 loopL (fun (x : AV) H kn => N88_13b ρ call yc lim k x0 x1 x2 x7 x8 x H (fun x9 H => kn x9 H) k4) k x9 H
theorem N88_13_eq (ρ call yc lim k x0 x1 x2 x7 x8 x9 H kn k4 k1 k0 R) :
 evL (cx ρ) call yc false 88 lim k (Code.at [1,1,0,1,0,0,1,0,0,1,1,1,1,0,1,0,1,0] c88) (sp 133 [(0,x0),(1,x1),(2,x2),(7,x7),(8,x8),(9,x9)]) H (kk (some [0,1,2,7,8]) kn [(4,(some [0,1,2,7,8]),k4),(1,(some [0,1,2,7,8]),k1),(0,(some []),k0)] R [6]) = N88_13 ρ call yc lim k x0 x1 x2 x7 x8 x9 H (fun x7 x8 H => k4 (sp 133 [(0,x0),(1,x1),(2,x2),(7,x7),(8,x8)]) H) := by
 have e : Code.at [1,1,0,1,0,0,1,0,0,1,1,1,1,0,1,0,1,0] c88 = .loop (Code.at [1,1,0,1,0,0,1,0,0,1,1,1,1,0,1,0,1,0,0] c88) := by kernel_rfl
 rw [e]
 unfold N88_13
 exact loop_node [0,1,2,7,8,9] (fun x : AV => (sp 133 [(0,x0),(1,x1),(2,x2),(7,x7),(8,x8),(9,(x))])) (fun (x : AV) H kn => N88_13b ρ call yc lim k x0 x1 x2 x7 x8 x H (fun x9 H => kn x9 H) (fun x7 x8 H => k4 (sp 133 [(0,x0),(1,x1),(2,x2),(7,x7),(8,x8)]) H)) (by kernel_rfl) (fun x => by kernel_rfl) (fun x H kn => N88_13b_eq ρ call yc lim k x0 x1 x2 x7 x8 (x) H kn k4 k1 k0 R) x9 (sp 133 [(0,x0),(1,x1),(2,x2),(7,x7),(8,x8),(9,x9)]) H (by kernel_rfl)
noncomputable def N88_12 (ρ : RO) (call : CallF) (yc : YieldF) (lim k : Nat) (x0 x1 x2 x7 x8 x9 : AV) (H : Heap) (kn : AV → AV → Heap → Res) : Res :=
 N88_13 ρ call yc lim k x0 x1 x2 x7 x8 x9 H kn
theorem N88_12_x (ρ call yc lim k J x0 x1 x2 x7 x8 x9 H kn k1 k0 R) :
 evX (cx ρ) call yc false 88 lim k J (Code.at [1,1,0,1,0,0,1,0,0,1,1,1,1,0,1,0,1] c88) (sp 133 [(0,x0),(1,x1),(2,x2),(7,x7),(8,x8),(9,x9)]) H (kk (some [0,1,2,7,8]) kn [(1,(some [0,1,2,7,8]),k1),(0,(some []),k0)] R [6]) =
 J (Code.at [1,1,0,1,0,0,1,0,0,1,1,1,1,0,1,0,1,0] c88) (sp 133 [(0,x0),(1,x1),(2,x2),(7,x7),(8,x8),(9,x9)]) H (kk (some [0,1,2,7,8]) kn [(4,(some [0,1,2,7,8]),kn),(1,(some [0,1,2,7,8]),k1),(0,(some []),k0)] R [6]) := by
 kernel_rfl
theorem N88_12_eq (ρ call yc lim k x0 x1 x2 x7 x8 x9 H kn k1 k0 R) :
 evL (cx ρ) call yc false 88 lim k (Code.at [1,1,0,1,0,0,1,0,0,1,1,1,1,0,1,0,1] c88) (sp 133 [(0,x0),(1,x1),(2,x2),(7,x7),(8,x8),(9,x9)]) H (kk (some [0,1,2,7,8]) kn [(1,(some [0,1,2,7,8]),k1),(0,(some []),k0)] R [6]) = N88_12 ρ call yc lim k x0 x1 x2 x7 x8 x9 H (fun x7 x8 H => kn (sp 133 [(0,x0),(1,x1),(2,x2),(7,x7),(8,x8)]) H) := by
 rw [evL_X,N88_12_x]
 simp only [← evL_X,N88_12,N88_13_eq]
noncomputable def N88_7 (ρ : RO) (call : CallF) (yc : YieldF) (lim k : Nat) (x0 x1 x2 x7 x8 : AV) (H : Heap) (kn : AV → AV → Heap → Res) : Res :=
 purK (binA Try.prog H .sub 3 x7 x1) fun x60_1 =>
 purK (binA Try.prog H .geq 3 x60_1 (.int .i64 2)) fun x61_1 =>
 condK x61_1
 (
 purK (binA Try.prog H .sub 3 x7 (.int .i64 1)) fun x63_1 =>
 N88_12 ρ call yc lim k x0 x1 x2 x7 x8 x63_1 H (fun x7_1 x8_1 H =>
 N88_8 ρ call yc lim k x0 x1 x2 x7_1 x8_1 H kn))
 (
 N88_8 ρ call yc lim k x0 x1 x2 x7 x8 H kn)
theorem N88_7_x (ρ call yc lim k J x0 x1 x2 x7 x8 H kn k1 k0 R) :
 evX (cx ρ) call yc false 88 lim k J (Code.at [1,1,0,1,0,0,1,0,0,1,1,1,1] c88) (sp 133 [(0,x0),(1,x1),(2,x2),(7,x7),(8,x8)]) H (kk (some [0,1,2,7,8]) kn [(1,(some [0,1,2,7,8]),k1),(0,(some []),k0)] R [6]) =
 purK (binA Try.prog H .sub 3 x7 x1) fun x60_1 =>
 purK (binA Try.prog H .geq 3 x60_1 (.int .i64 2)) fun x61_1 =>
 condK x61_1
 (
 purK (binA Try.prog H .sub 3 x7 (.int .i64 1)) fun x63_1 =>
 J (Code.at [1,1,0,1,0,0,1,0,0,1,1,1,1,0,1,0,1] c88) (sp 133 [(0,x0),(1,x1),(2,x2),(7,x7),(8,x8),(9,x63_1)]) H (kk (some [0,1,2,7,8]) (fun s H => J (Code.at [1,1,0,1,0,0,1,0,0,1,1,1,1,1] c88) s H (kk (some [0,1,2,7,8]) kn [(1,(some [0,1,2,7,8]),k1),(0,(some []),k0)] R [6])) [(1,(some [0,1,2,7,8]),k1),(0,(some []),k0)] R [6]))
 (
 J (Code.at [1,1,0,1,0,0,1,0,0,1,1,1,1,1] c88) (sp 133 [(0,x0),(1,x1),(2,x2),(7,x7),(8,x8)]) H (kk (some [0,1,2,7,8]) kn [(1,(some [0,1,2,7,8]),k1),(0,(some []),k0)] R [6])) := by
 kernel_rfl
theorem N88_7_eq (ρ call yc lim k x0 x1 x2 x7 x8 H kn k1 k0 R) :
 evL (cx ρ) call yc false 88 lim k (Code.at [1,1,0,1,0,0,1,0,0,1,1,1,1] c88) (sp 133 [(0,x0),(1,x1),(2,x2),(7,x7),(8,x8)]) H (kk (some [0,1,2,7,8]) kn [(1,(some [0,1,2,7,8]),k1),(0,(some []),k0)] R [6]) = N88_7 ρ call yc lim k x0 x1 x2 x7 x8 H (fun x7 x8 H => kn (sp 133 [(0,x0),(1,x1),(2,x2),(7,x7),(8,x8)]) H) := by
 rw [evL_X,N88_7_x]
 simp only [← evL_X,N88_7,N88_12_eq,N88_8_eq]
noncomputable def N88_6 (ρ : RO) (call : CallF) (yc : YieldF) (lim k : Nat) (x0 x1 x2 x7 x8 : AV) (H : Heap) (kn : AV → AV → Heap → Res) (R : KR) : Res :=
 purK (binA Try.prog H .eql 3 x7 x2) fun x37_1 =>
 condK x37_1
 (
 R [(.bool true)] H)
 (
 purK (binA Try.prog H .sub 3 x2 x1) fun x40_1 =>
 purK (binA Try.prog H .lss 3 x40_1 (.int .i64 50)) fun x41_1 =>
 condK x41_1
 (
 R [(.bool false)] H)
 (
 purK (binA Try.prog H .sub 3 x7 (.int .i64 1)) fun x46_1 =>
 purK (binA Try.prog H .sub 3 x7 (.int .i64 1)) fun x49_1 =>
 purK (ixS 1 x0 x49_1) fun x50_1 =>
 purK (ld1 ρ H x50_1) fun x51_1 =>
 purK (ixS 1 x0 x7) fun x54_1 =>
 purK (ld1 ρ H x54_1) fun x55_1 =>
 purK (ixS 1 x0 x7) fun x56_1 =>
 effK H (stA lim H 1 x56_1 x51_1) fun _ H => bif (agn (binA Try.prog H .sub 3 x7 (.int .i64 1)) x46_1 && true) then
 purK (ixS 1 x0 x46_1) fun x57_1 =>
 effK H (stA lim H 1 x57_1 x55_1) fun _ H =>
 N88_7 ρ call yc lim k x0 x1 x2 x7 x8 H kn
 else .stop))
theorem N88_6_x (ρ call yc lim k J x0 x1 x2 x7 x8 H kn k1 k0 R) :
 evX (cx ρ) call yc false 88 lim k J (Code.at [1,1,0,1,0,0,1,0,0,1] c88) (sp 133 [(0,x0),(1,x1),(2,x2),(7,x7),(8,x8)]) H (kk (some [0,1,2,7,8]) kn [(1,(some [0,1,2,7,8]),k1),(0,(some []),k0)] R [6]) =
 purK (binA Try.prog H .eql 3 x7 x2) fun x37_1 =>
 condK x37_1
 (
 R [(.bool true)] H)
 (
 purK (binA Try.prog H .sub 3 x2 x1) fun x40_1 =>
 purK (binA Try.prog H .lss 3 x40_1 (.int .i64 50)) fun x41_1 =>
 condK x41_1
 (
 R [(.bool false)] H)
 (
 purK (binA Try.prog H .sub 3 x7 (.int .i64 1)) fun x46_1 =>
 purK (binA Try.prog H .sub 3 x7 (.int .i64 1)) fun x49_1 =>
 purK (ixS 1 x0 x49_1) fun x50_1 =>
 purK (ld1 ρ H x50_1) fun x51_1 =>
 purK (ixS 1 x0 x7) fun x54_1 =>
 purK (ld1 ρ H x54_1) fun x55_1 =>
 purK (ixS 1 x0 x7) fun x56_1 =>
 effK H (stA lim H 1 x56_1 x51_1) fun _ H => bif (agn (binA Try.prog H .sub 3 x7 (.int .i64 1)) x46_1 && true) then
 purK (ixS 1 x0 x46_1) fun x57_1 =>
 effK H (stA lim H 1 x57_1 x55_1) fun _ H =>
 J (Code.at [1,1,0,1,0,0,1,0,0,1,1,1,1] c88) (sp 133 [(0,x0),(1,x1),(2,x2),(7,x7),(8,x8)]) H (kk (some [0,1,2,7,8]) kn [(1,(some [0,1,2,7,8]),k1),(0,(some []),k0)] R [6])
 else .stop)) := by
 kernel_rfl
theorem N88_6_eq (ρ call yc lim k x0 x1 x2 x7 x8 H kn k1 k0 R) :
 evL (cx ρ) call yc false 88 lim k (Code.at [1,1,0,1,0,0,1,0,0,1] c88) (sp 133 [(0,x0),(1,x1),(2,x2),(7,x7),(8,x8)]) H (kk (some [0,1,2,7,8]) kn [(1,(some [0,1,2,7,8]),k1),(0,(some []),k0)] R [6]) = N88_6 ρ call yc lim k x0 x1 x2 x7 x8 H (fun x7 x8 H => kn (sp 133 [(0,x0),(1,x1),(2,x2),(7,x7),(8,x8)]) H) R := by
 rw [evL_X,N88_6_x]
 simp only [← evL_X,N88_6,N88_7_eq]
noncomputable def N88_15b (ρ : RO) (call : CallF) (yc : YieldF) (lim k : Nat) (x0 x1 x2 x7 x8 : AV) (H : Heap) (kn : AV → Heap → Res) (k2 : AV → AV → Heap → Res) : Res :=
 purK (binA Try.prog H .lss 3 x7 x2) fun x19_1 =>
 boolK (wantV x19_1 true) fun b1 => purK (bif b1 then some x0 else some (.tup [])) fun x21_1 =>
 boolK (wantV x19_1 true) fun b2 => purK (bif b2 then some x7 else some (.tup [])) fun x22_1 =>
 boolK (wantV x19_1 true) fun b3 => purK (bif b3 then ixS 1 x21_1 x22_1 else some (.tup [])) fun x23_1 =>
 boolK (wantV x19_1 true) fun b4 => purK (bif b4 then ld1 ρ H x23_1 else some (.tup [])) fun x24_1 =>
 boolK (wantV x19_1 true) fun b5 => purK (bif b5 then some x0 else some (.tup [])) fun x25_1 =>
 boolK (wantV x19_1 true) fun b6 => purK (bif b6 then some x7 else some (.tup [])) fun x26_1 =>
 boolK (wantV x19_1 true) fun b7 => purK (bif b7 then binA Try.prog H .sub 3 x26_1 (.int .i64 1) else some (.tup [])) fun x27_1 =>
 boolK (wantV x19_1 true) fun b8 => purK (bif b8 then ixS 1 x25_1 x27_1 else some (.tup [])) fun x28_1 =>
 boolK (wantV x19_1 true) fun b9 => purK (bif b9 then ld1 ρ H x28_1 else some (.tup [])) fun x29_1 =>
 boolK (wantV x19_1 true) fun b10 => resK (gRes (some b10) H (call lim 89 [x24_1,x29_1] H)) fun x30_1 H => bif !b10 || ((!b9 || true) && ((!b7 || true) && ((!b4 || true) && true))) then
 purK (gPur (wantV x19_1 true) (unA .not x30_1)) fun x31_1 =>
 purK (pickA x19_1 x31_1 (.bool false)) fun x32_1 =>
 condK x32_1
 (
 purK (binA Try.prog H .add 3 x7 (.int .i64 1)) fun x34_1 =>
 kn x34_1 H)
 (
 k2 x7 x8 H)
 else .stop
theorem N88_15b_eq (ρ call yc lim k x0 x1 x2 x7 x8 H kn k2 k1 k0 R) :
 evL (cx ρ) call yc false 88 lim k (Code.at [1,1,0,1,0,0,1,0,0,0,0,0] c88) (sp 133 [(0,x0),(1,x1),(2,x2),(7,x7),(8,x8)]) H (kk (some [0,1,2,7,8]) kn [(2,(some [0,1,2,7,8]),k2),(1,(some [0,1,2,7,8]),k1),(0,(some []),k0)] R [6]) = N88_15b ρ call yc lim k x0 x1 x2 x7 x8 H (fun x7 H => kn (sp 133 [(0,x0),(1,x1),(2,x2),(7,x7),(8,x8)]) H) (fun x7 x8 H => k2 (sp 133 [(0,x0),(1,x1),(2,x2),(7,x7),(8,x8)]) H) := by
 kernel_rfl
noncomputable def N88_15 (ρ : RO) (call : CallF) (yc : YieldF) (lim k : Nat) (x0 x1 x2 x7 x8 : AV) (H : Heap) (k2 : AV → AV → Heap → Res) : Res :=
 loopL (fun (x : AV) H kn => N88_15b ρ call yc lim k x0 x1 x2 x x8 H (fun x7 H => kn x7 H) k2) k x7 H
theorem N88_15_eq (ρ call yc lim k x0 x1 x2 x7 x8 H kn k2 k1 k0 R) :
 evL (cx ρ) call yc false 88 lim k (Code.at [1,1,0,1,0,0,1,0,0,0,0] c88) (sp 133 [(0,x0),(1,x1),(2,x2),(7,x7),(8,x8)]) H (kk (some [0,1,2,7,8]) kn [(2,(some [0,1,2,7,8]),k2),(1,(some [0,1,2,7,8]),k1),(0,(some []),k0)] R [6]) = N88_15 ρ call yc lim k x0 x1 x2 x7 x8 H (fun x7 x8 H => k2 (sp 133 [(0,x0),(1,x1),(2,x2),(7,x7),(8,x8)]) H) := by
 have e : Code.at [1,1,0,1,0,0,1,0,0,0,0] c88 = .loop (Code.at [1,1,0,1,0,0,1,0,0,0,0,0] c88) := by kernel_rfl
 rw [e]
 unfold N88_15
 exact loop_node [0,1,2,7,8] (fun x : AV => (sp 133 [(0,x0),(1,x1),(2,x2),(7,(x)),(8,x8)])) (fun (x : AV) H kn => N88_15b ρ call yc lim k x0 x1 x2 x x8 H (fun x7 H => kn x7 H) (fun x7 x8 H => k2 (sp 133 [(0,x0),(1,x1),(2,x2),(7,x7),(8,x8)]) H)) (by kernel_rfl) (fun x => by kernel_rfl) (fun x H kn => N88_15b_eq ρ call yc lim k x0 x1 x2 (x) x8 H kn k2 k1 k0 R) x7 (sp 133 [(0,x0),(1,x1),(2,x2),(7,x7),(8,x8)]) H (by kernel_rfl)
noncomputable def N88_4 (ρ : RO) (call : CallF) (yc : YieldF) (lim k : Nat) (x0 x1 x2 x7 x8 : AV) (H : Heap) (kn : AV → AV → Heap → Res) (R : KR) : Res :=
 N88_15 ρ call yc lim k x0 x1 x2 x7 x8 H (fun x7_1 x8_1 H =>
 N88_6 ρ call yc lim k x0 x1 x2 x7_1 x8_1 H (fun x7_2 x8_2 H =>
 N88_5 ρ call yc lim k x0 x1 x2 x7_2 x8_2 H kn) R)
theorem N88_4_x (ρ call yc lim k J x0 x1 x2 x7 x8 H kn k0 R) :
 evX (cx ρ) call yc false 88 lim k J (Code.at [1,1,0,1,0,0,1] c88) (sp 133 [(0,x0),(1,x1),(2,x2),(7,x7),(8,x8)]) H (kk (some [0,1,2,7,8]) kn [(0,(some []),k0)] R [6]) =
 J (Code.at [1,1,0,1,0,0,1,0,0,0,0] c88) (sp 133 [(0,x0),(1,x1),(2,x2),(7,x7),(8,x8)]) H (kk (some [0,1,2,7,8]) (fun s H => J (Code.at [1,1,0,1,0,0,1,0,0,1] c88) s H (kk (some [0,1,2,7,8]) (fun s H => J (Code.at [1,1,0,1,0,0,1,1] c88) s H (kk (some [0,1,2,7,8]) kn [(0,(some []),k0)] R [6])) [(1,(some [0,1,2,7,8]),(fun s H => J (Code.at [1,1,0,1,0,0,1,1] c88) s H (kk (some [0,1,2,7,8]) kn [(0,(some []),k0)] R [6]))),(0,(some []),k0)] R [6])) [(2,(some [0,1,2,7,8]),(fun s H => J (Code.at [1,1,0,1,0,0,1,0,0,1] c88) s H (kk (some [0,1,2,7,8]) (fun s H => J (Code.at [1,1,0,1,0,0,1,1] c88) s H (kk (some [0,1,2,7,8]) kn [(0,(some []),k0)] R [6])) [(1,(some [0,1,2,7,8]),(fun s H => J (Code.at [1,1,0,1,0,0,1,1] c88) s H (kk (some [0,1,2,7,8]) kn [(0,(some []),k0)] R [6]))),(0,(some []),k0)] R [6]))),(1,(some [0,1,2,7,8]),(fun s H => J (Code.at [1,1,0,1,0,0,1,1] c88) s H (kk (some [0,1,2,7,8]) kn [(0,(some []),k0)] R [6]))),(0,(some []),k0)] R [6]) := by
 kernel_rfl
theorem N88_4_eq (ρ call yc lim k x0 x1 x2 x7 x8 H kn k0 R) :
 evL (cx ρ) call yc false 88 lim k (Code.at [1,1,0,1,0,0,1] c88) (sp 133 [(0,x0),(1,x1),(2,x2),(7,x7),(8,x8)]) H (kk (some [0,1,2,7,8]) kn [(0,(some []),k0)] R [6]) = N88_4 ρ call yc lim k x0 x1 x2 x7 x8 H (fun x7 x8 H => kn (sp 133 [(0,x0),(1,x1),(2,x2),(7,x7),(8,x8)]) H) R := by
 rw [evL_X,N88_4_x]
 simp only [← evL_X,N88_4,N88_15_eq,N88_5_eq,N88_6_eq]
noncomputable def N88_3b (ρ : RO) (call : CallF) (yc : YieldF) (lim k : Nat) (x0 x1 x2 x7 x8 : AV) (H : Heap) (kn : AV → AV → Heap → Res) (k0 : Heap → Res) (R : KR) : Res :=
 purK (binA Try.prog H .lss 3 x8 (.int .i64 5)) fun x14_1 =>
 condK x14_1
 (
 N88_4 ρ call yc lim k x0 x1 x2 x7 x8 H kn R)
 (
 k0 H)
theorem N88_3b_x (ρ call yc lim k J x0 x1 x2 x7 x8 H kn k0 R) :
 evX (cx ρ) call yc false 88 lim k J (Code.at [1,1,0,1,0,0] c88) (sp 133 [(0,x0),(1,x1),(2,x2),(7,x7),(8,x8)]) H (kk (some [0,1,2,7,8]) kn [(0,(some []),k0)] R [6]) =
 purK (binA Try.prog H .lss 3 x8 (.int .i64 5)) fun x14_1 =>
 condK x14_1
 (
 J (Code.at [1,1,0,1,0,0,1] c88) (sp 133 [(0,x0),(1,x1),(2,x2),(7,x7),(8,x8)]) H (kk (some [0,1,2,7,8]) kn [(0,(some []),k0)] R [6]))
 (
 k0 (sp 133 []) H) := by
 kernel_rfl
theorem N88_3b_eq (ρ call yc lim k x0 x1 x2 x7 x8 H kn k0 R) :
 evL (cx ρ) call yc false 88 lim k (Code.at [1,1,0,1,0,0] c88) (sp 133 [(0,x0),(1,x1),(2,x2),(7,x7),(8,x8)]) H (kk (some [0,1,2,7,8]) kn [(0,(some []),k0)] R [6]) = N88_3b ρ call yc lim k x0 x1 x2 x7 x8 H (fun x7 x8 H => kn (sp 133 [(0,x0),(1,x1),(2,x2),(7,x7),(8,x8)]) H) (fun H => k0 (sp 133 []) H) R := by
 rw [evL_X,N88_3b_x]
 simp only [← evL_X,N88_3b,N88_4_eq]
noncomputable def N88_3 (ρ : RO) (call : CallF) (yc : YieldF) (lim k : Nat) (x0 x1 x2 x7 x8 : AV) (H : Heap) (k0 : Heap → Res) (R : KR) : Res :=
 loopL (fun (x : AV × AV) H kn => N88_3b ρ call yc lim k x0 x1 x2 x.1 x.2 H (fun x7 x8 H => kn (x7,x8) H) k0 R) k (x7,x8) H
theorem N88_3_eq (ρ call yc lim k x0 x1 x2 x7 x8 H kn k0 R) :
 evL (cx ρ) call yc false 88 lim k (Code.at [1,1,0,1,0] c88) (sp 133 [(0,x0),(1,x1),(2,x2),(7,x7),(8,x8)]) H (kk (some []) kn [(0,(some []),k0)] R [6]) = N88_3 ρ call yc lim k x0 x1 x2 x7 x8 H (fun H => k0 (sp 133 []) H) R := by
 have e : Code.at [1,1,0,1,0] c88 = .loop (Code.at [1,1,0,1,0,0] c88) := by kernel_rfl
 rw [e]
 unfold N88_3
 exact loop_node [0,1,2,7,8] (fun x : AV × AV => (sp 133 [(0,x0),(1,x1),(2,x2),(7,(x.1)),(8,(x.2))])) (fun (x : AV × AV) H kn => N88_3b ρ call yc lim k x0 x1 x2 x.1 x.2 H (fun x7 x8 H => kn (x7,x8) H) (fun H => k0 (sp 133 []) H) R) (by kernel_rfl) (fun x => by kernel_rfl) (fun x H kn => N88_3b_eq ρ call yc lim k x0 x1 x2 (x.1) (x.2) H kn k0 R) (x7,x8) (sp 133 [(0,x0),(1,x1),(2,x2),(7,x7),(8,x8)]) H (by kernel_rfl)
noncomputable def N88_2 (ρ : RO) (call : CallF) (yc : YieldF) (lim k : Nat) (x0 x1 x2 x7 x8 : AV) (H : Heap) (kn : Heap → Res) (R : KR) : Res :=
 N88_3 ρ call yc lim k x0 x1 x2 x7 x8 H kn R
theorem N88_2_x (ρ call yc lim k J x0 x1 x2 x7 x8 H kn R) :
 evX (cx ρ) call yc false 88 lim k J (Code.at [1,1,0,1] c88) (sp 133 [(0,x0),(1,x1),(2,x2),(7,x7),(8,x8)]) H (kk (some []) kn [] R [6]) =
 J (Code.at [1,1,0,1,0] c88) (sp 133 [(0,x0),(1,x1),(2,x2),(7,x7),(8,x8)]) H (kk (some []) kn [(0,(some []),kn)] R [6]) := by
 kernel_rfl
theorem N88_2_eq (ρ call yc lim k x0 x1 x2 x7 x8 H kn R) :
 evL (cx ρ) call yc false 88 lim k (Code.at [1,1,0,1] c88) (sp 133 [(0,x0),(1,x1),(2,x2),(7,x7),(8,x8)]) H (kk (some []) kn [] R [6]) = N88_2 ρ call yc lim k x0 x1 x2 x7 x8 H (fun H => kn (sp 133 []) H) R := by
 rw [evL_X,N88_2_x]
 simp only [← evL_X,N88_2,N88_3_eq]
noncomputable def L88 (ρ : RO) (call : CallF) (yc : YieldF) (lim k : Nat) (x0 x1 x2 : AV) (H : Heap) : Res :=
 purK (binA Try.prog H .add 3 x1 (.int .i64 1)) fun x12 =>
 N88_2 ρ call yc lim k x0 x1 x2 x12 (.int .i64 0) H (fun H =>
 N88_1 ρ call yc lim k H retK) retK
theorem L88_x (ρ call yc lim k J x0 x1 x2 H) :
 evX (cx ρ) call yc false 88 lim k J c88 ([x0,x1,x2] ++ List.replicate 130 (.tup [])) H (kk none (fun s H => retK (gs [6] s) H) [] retK [6]) =
 purK (binA Try.prog H .add 3 x1 (.int .i64 1)) fun x12 =>
 J (Code.at [1,1,0,1] c88) (sp 133 [(0,x0),(1,x1),(2,x2),(7,x12),(8,(.int .i64 0))]) H (kk (some []) (fun s H => J (Code.at [1,1,1] c88) s H (kk none (fun s H => retK (gs [6] s) H) [] retK [6])) [] retK [6]) := by
 kernel_rfl
theorem G88 (ρ call yc lim k x0 x1 x2 H) :
 evL (cx ρ) call yc false 88 lim k c88 ([x0,x1,x2] ++ List.replicate 130 (.tup [])) H (kk none (fun s H => retK (gs [6] s) H) [] retK [6]) = L88 ρ call yc lim k x0 x1 x2 H := by
 rw [evL_X,L88_x]
 simp only [← evL_X,L88,N88_1_eq,N88_2_eq]
theorem E88 (ρ : RO) (k lim : Nat) (x0 x1 x2 : AV) (H : Heap) : evCall (cx ρ) (k + 1) lim 88 [x0,x1,x2] H = L88 ρ (evCall (cx ρ) k) (evCY (cx ρ) k).2 lim k x0 x1 x2 H := by
 rw [evCall_body (cx ρ) k lim 88 _ H Try.f88 c88 [6] (by kernel_rfl) (by kernel_rfl) (by kernel_rfl) (by kernel_rfl) (by kernel_rfl)]
 exact G88 ρ (evCall (cx ρ) k) (evCY (cx ρ) k).2 lim k x0 x1 x2 H
-- cmp.Less[string]
noncomputable def c89 : Code := Code.of Try.prog 89
noncomputable def L89 (ρ : RO) (call : CallF) (yc : YieldF) (lim k : Nat) (x0 x1 : AV) (H : Heap) : Res :=
 resK (call lim 107 [x0] H) fun x6 H =>
 purK (gPur (wantV x6 true) (some x1)) fun x8 =>
 resK (gRes (wantV x6 true) H (call lim 107 [x8] H)) fun x9 H =>
 purK (gPur (wantV x6 true) (unA .not x9)) fun x10 =>
 purK (pickA x6 x10 (.bool false)) fun x11 =>
 purK (gPur (wantV x11 false) (some x0)) fun x13 =>
 purK (gPur (wantV x11 false) (some x1)) fun x14 =>
 purK (gPur (wantV x11 false) (binA Try.prog H .lss 9 x13 x14)) fun x15 =>
 purK (pickA x11 (.bool true) x15) fun x16 =>
 retK [x16] H
theorem G89 (ρ call yc lim k x0 x1 H) :
 evL (cx ρ) call yc false 89 lim k c89 ([x0,x1] ++ List.replicate 15 (.tup [])) H (kk none (fun s H => retK (gs [4] s) H) [] retK [4]) = L89 ρ call yc lim k x0 x1 H := by
 kernel_rfl
theorem E89 (ρ : RO) (k lim : Nat) (x0 x1 : AV) (H : Heap) : evCall (cx ρ) (k + 1) lim 89 [x0,x1] H = L89 ρ (evCall (cx ρ) k) (evCY (cx ρ) k).2 lim k x0 x1 H := by
 rw [evCall_body (cx ρ) k lim 89 _ H Try.f89 c89 [4] (by kernel_rfl) (by kernel_rfl) (by kernel_rfl) (by kernel_rfl) (by kernel_rfl)]
 exact G89 ρ (evCall (cx ρ) k) (evCY (cx ρ) k).2 lim k x0 x1 H
end Go.Proofs.Ytkmohjddojpdjaa

-- part Ht9
/- Functions, lifted. Printed by a program of this repo. -/
set_option linter.unusedVariables false
set_option linter.unusedSimpArgs false
set_option maxRecDepth 100000
set_option maxHeartbeats 4000000
namespace Go.Proofs.Ytkmohjddojpdjaa
open Go.Ev Go.RowKit
-- slices.partitionEqualOrdered[string]
noncomputable def c90 : Code := Code.of Try.prog 90
noncomputable def N90_2 (ρ : RO) (call : CallF) (yc : YieldF) (lim k : Nat) (x9 : AV) (H : Heap) (R : KR) : Res :=
 R [x9] H
theorem N90_2_eq (ρ call yc lim k x9 H R) :
 evL (cx ρ) call yc false 90 lim k (Code.at [1,1,1,1] c90) (sp 84 [(9,x9)]) H (kk none (fun s H => R (gs [8] s) H) [] R [8]) = N90_2 ρ call yc lim k x9 H R := by
 kernel_rfl
noncomputable def N90_5 (ρ : RO) (call : CallF) (yc : YieldF) (lim k : Nat) (x0 x1 x9 x10 : AV) (H : Heap) (kn : AV → AV → Heap → Res) (k0 : AV → Heap → Res) : Res :=
 purK (binA Try.prog H .gtr 3 x9 x10) fun x64_1 =>
 condK x64_1
 (
 k0 x9 H)
 (
 purK (ixS 1 x0 x10) fun x71_1 =>
 purK (ld1 ρ H x71_1) fun x72_1 =>
 purK (ixS 1 x0 x9) fun x75_1 =>
 purK (ld1 ρ H x75_1) fun x76_1 =>
 purK (ixS 1 x0 x9) fun x77_1 =>
 effK H (stA lim H 1 x77_1 x72_1) fun _ H =>
 purK (ixS 1 x0 x10) fun x78_1 =>
 effK H (stA lim H 1 x78_1 x76_1) fun _ H =>
 purK (binA Try.prog H .add 3 x9 (.int .i64 1)) fun x80_1 =>
 purK (binA Try.prog H .sub 3 x10 (.int .i64 1)) fun x82_1 =>
 kn x80_1 x82_1 H)
theorem N90_5_eq (ρ call yc lim k x0 x1 x9 x10 H kn k1 k0 R) :
 evL (cx ρ) call yc false 90 lim k (Code.at [1,1,1,0,0,0,0,1,1] c90) (sp 84 [(0,x0),(1,x1),(9,x9),(10,x10)]) H (kk (some [0,1,9,10]) kn [(1,(some [0,1,9,10]),k1),(0,(some [9]),k0)] R [8]) = N90_5 ρ call yc lim k x0 x1 x9 x10 H (fun x9 x10 H => kn (sp 84 [(0,x0),(1,x1),(9,x9),(10,x10)]) H) (fun x9 H => k0 (sp 84 [(9,x9)]) H) := by
 kernel_rfl
noncomputable def N90_6b (ρ : RO) (call : CallF) (yc : YieldF) (lim k : Nat) (x0 x1 x9 x10 : AV) (H : Heap) (kn : AV → Heap → Res) (k4 : AV → AV → Heap → Res) : Res :=
 purK (binA Try.prog H .leq 3 x9 x10) fun x48_1 =>
 boolK (wantV x48_1 true) fun b1 => purK (bif b1 then some x0 else some (.tup [])) fun x50_1 =>
 boolK (wantV x48_1 true) fun b2 => purK (bif b2 then some x1 else some (.tup [])) fun x51_1 =>
 boolK (wantV x48_1 true) fun b3 => purK (bif b3 then ixS 1 x50_1 x51_1 else some (.tup [])) fun x52_1 =>
 boolK (wantV x48_1 true) fun b4 => purK (bif b4 then ld1 ρ H x52_1 else some (.tup [])) fun x53_1 =>
 boolK (wantV x48_1 true) fun b5 => purK (bif b5 then some x0 else some (.tup [])) fun x54_1 =>
 boolK (wantV x48_1 true) fun b6 => purK (bif b6 then some x10 else some (.tup [])) fun x55_1 =>
 boolK (wantV x48_1 true) fun b7 => purK (bif b7 then ixS 1 x54_1 x55_1 else some (.tup [])) fun x56_1 =>
 boolK (wantV x48_1 true) fun b8 => purK (bif b8 then ld1 ρ H x56_1 else some (.tup [])) fun x57_1 =>
 boolK (wantV x48_1 true) fun b9 => resK (gRes (some b9) H (call lim 89 [x53_1,x57_1] H)) fun x58_1 H => bif !b9 || ((!b8 || true) && ((!b4 || true) && true)) then
 purK (pickA x48_1 x58_1 (.bool false)) fun x59_1 =>
 condK x59_1
 (
 purK (binA Try.prog H .sub 3 x10 (.int .i64 1)) fun x61_1 =>
 kn x61_1 H)
 (
 k4 x9 x10 H)
 else .stop
theorem N90_6b_eq (ρ call yc lim k x0 x1 x9 x10 H kn k4 k1 k0 R) :
 evL (cx ρ) call yc false 90 lim k (Code.at [1,1,1,0,0,0,0,1,0,0,0] c90) (sp 84 [(0,x0),(1,x1),(9,x9),(10,x10)]) H (kk (some [0,1,9,10]) kn [(4,(some [0,1,9,10]),k4),(1,(some [0,1,9,10]),k1),(0,(some [9]),k0)] R [8]) = N90_6b ρ call yc lim k x0 x1 x9 x10 H (fun x10 H => kn (sp 84 [(0,x0),(1,x1),(9,x9),(10,x10)]) H) (fun x9 x10 H => k4 (sp 84 [(0,x0),(1,x1),(9,x9),(10,x10)]) H) := by
 kernel_rfl
noncomputable def N90_6 (ρ : RO) (call : CallF) (yc : YieldF) (lim k : Nat) (x0 x1 x9 x10 : AV) (H : Heap) (k4 : AV → AV → Heap → Res) : Res :=
 loopL (fun (x : AV) H kn => N90_6b ρ call yc lim k x0 x1 x9 x H (fun x10 H => kn x10 H) k4) k x10 H
theorem N90_6_eq (ρ call yc lim k x0 x1 x9 x10 H kn k4 k1 k0 R) :
 evL (cx ρ) call yc false 90 lim k (Code.at [1,1,1,0,0,0,0,1,0,0] c90) (sp 84 [(0,x0),(1,x1),(9,x9),(10,x10)]) H (kk (some [0,1,9,10]) kn [(4,(some [0,1,9,10]),k4),(1,(some [0,1,9,10]),k1),(0,(some [9]),k0)] R [8]) = N90_6 ρ call yc lim k x0 x1 x9 x10 H (fun x9 x10 H => k4 (sp 84 [(0,x0),(1,x1),(9,x9),(10,x10)]) H) := by
 have e : Code.at [1,1,1,0,0,0,0,1,0,0] c90 = .loop (Code.at [1,1,1,0,0,0,0,1,0,0,0] c90) := by kernel_rfl
 rw [e]
 unfold N90_6
 exact loop_node [0,1,9,10] (fun x : AV => (sp 84 [(0,x0),(1,x1),(9,x9),(10,(x))])) (fun (x : AV) H kn => N90_6b ρ call yc lim k x0 x1 x9 x H (fun x10 H => kn x10 H) (fun x9 x10 H => k4 (sp 84 [(0,x0),(1,x1),(9,x9),(10,x10)]) H)) (by kernel_rfl) (fun x => by kernel_rfl) (fun x H kn => N90_6b_eq ρ call yc lim k x0 x1 x9 (x) H kn k4 k1 k0 R) x10 (sp 84 [(0,x0),(1,x1),(9,x9),(10,x10)]) H (by kernel_rfl)
noncomputable def N90_4 (ρ : RO) (call : CallF) (yc : YieldF) (lim k : Nat) (x0 x1 x9 x10 : AV) (H : Heap) (kn : AV → AV → Heap → Res) (k0 : AV → Heap → Res) : Res :=
 N90_6 ρ call yc lim k x0 x1 x9 x10 H (fun x9_1 x10_1 H =>
 N90_5 ρ call yc lim k x0 x1 x9_1 x10_1 H kn k0)
theorem N90_4_x (ρ call yc lim k J x0 x1 x9 x10 H kn k1 k0 R) :
 evX (cx ρ) call yc false 90 lim k J (Code.at [1,1,1,0,0,0,0,1] c90) (sp 84 [(0,x0),(1,x1),(9,x9),(10,x10)]) H (kk (some [0,1,9,10]) kn [(1,(some [0,1,9,10]),k1),(0,(some [9]),k0)] R [8]) =
 J (Code.at [1,1,1,0,0,0,0,1,0,0] c90) (sp 84 [(0,x0),(1,x1),(9,x9),(10,x10)]) H (kk (some [0,1,9,10]) (fun s H => J (Code.at [1,1,1,0,0,0,0,1,1] c90) s H (kk (some [0,1,9,10]) kn [(1,(some [0,1,9,10]),k1),(0,(some [9]),k0)] R [8])) [(4,(some [0,1,9,10]),(fun s H => J (Code.at [1,1,1,0,0,0,0,1,1] c90) s H (kk (some [0,1,9,10]) kn [(1,(some [0,1,9,10]),k1),(0,(some [9]),k0)] R [8]))),(1,(some [0,1,9,10]),k1),(0,(some [9]),k0)] R [8]) := by
 kernel_rfl
theorem N90_4_eq (ρ call yc lim k x0 x1 x9 x10 H kn k1 k0 R) :
 evL (cx ρ) call yc false 90 lim k (Code.at [1,1,1,0,0,0,0,1] c90) (sp 84 [(0,x0),(1,x1),(9,x9),(10,x10)]) H (kk (some [0,1,9,10]) kn [(1,(some [0,1,9,10]),k1),(0,(some [9]),k0)] R [8]) = N90_4 ρ call yc lim k x0 x1 x9 x10 H (fun x9 x10 H => kn (sp 84 [(0,x0),(1,x1),(9,x9),(10,x10)]) H) (fun x9 H => k0 (sp 84 [(9,x9)]) H) := by
 rw [evL_X,N90_4_x]
 simp only [← evL_X,N90_4,N90_5_eq,N90_6_eq]
noncomputable def N90_7b (ρ : RO) (call : CallF) (yc : YieldF) (lim k : Nat) (x0 x1 x9 x10 : AV) (H : Heap) (kn : AV → Heap → Res) (k2 : AV → AV → Heap → Res) : Res :=
 purK (binA Try.prog H .leq 3 x9 x10) fun x31_1 =>
 boolK (wantV x31_1 true) fun b1 => purK (bif b1 then some x0 else some (.tup [])) fun x33_1 =>
 boolK (wantV x31_1 true) fun b2 => purK (bif b2 then some x1 else some (.tup [])) fun x34_1 =>
 boolK (wantV x31_1 true) fun b3 => purK (bif b3 then ixS 1 x33_1 x34_1 else some (.tup [])) fun x35_1 =>
 boolK (wantV x31_1 true) fun b4 => purK (bif b4 then ld1 ρ H x35_1 else some (.tup [])) fun x36_1 =>
 boolK (wantV x31_1 true) fun b5 => purK (bif b5 then some x0 else some (.tup [])) fun x37_1 =>
 boolK (wantV x31_1 true) fun b6 => purK (bif b6 then some x9 else some (.tup [])) fun x38_1 =>
 boolK (wantV x31_1 true) fun b7 => purK (bif b7 then ixS 1 x37_1 x38_1 else some (.tup [])) fun x39_1 =>
 boolK (wantV x31_1 true) fun b8 => purK (bif b8 then ld1 ρ H x39_1 else some (.tup [])) fun x40_1 =>
 boolK (wantV x31_1 true) fun b9 => resK (gRes (some b9) H (call lim 89 [x36_1,x40_1] H)) fun x41_1 H => bif !b9 || ((!b8 || true) && ((!b4 || true) && true)) then
 purK (gPur (wantV x31_1 true) (unA .not x41_1)) fun x42_1 =>
 purK (pickA x31_1 x42_1 (.bool false)) fun x43_1 =>
 condK x43_1
 (
 purK (binA Try.prog H .add 3 x9 (.int .i64 1)) fun x45_1 =>
 kn x45_1 H)
 (
 k2 x9 x10 H)
 else .stop
theorem N90_7b_eq (ρ call yc lim k x0 x1 x9 x10 H kn k2 k1 k0 R) :
 evL (cx ρ) call yc false 90 lim k (Code.at [1,1,1,0,0,0,0,0,0,0] c90) (sp 84 [(0,x0),(1,x1),(9,x9),(10,x10)]) H (kk (some [0,1,9,10]) kn [(2,(some [0,1,9,10]),k2),(1,(some [0,1,9,10]),k1),(0,(some [9]),k0)] R [8]) = N90_7b ρ call yc lim k x0 x1 x9 x10 H (fun x9 H => kn (sp 84 [(0,x0),(1,x1),(9,x9),(10,x10)]) H) (fun x9 x10 H => k2 (sp 84 [(0,x0),(1,x1),(9,x9),(10,x10)]) H) := by
 kernel_rfl
noncomputable def N90_7 (ρ : RO) (call : CallF) (yc : YieldF) (lim k : Nat) (x0 x1 x9 x10 : AV) (H : Heap) (k2 : AV → AV → Heap → Res) : Res :=
 loopL (fun (x : AV) H kn => N90_7b ρ call yc lim k x0 x1 x x10 H (fun x9 H => kn x9 H) k2) k x9 H
theorem N90_7_eq (ρ call yc lim k x0 x1 x9 x10 H kn k2 k1 k0 R) :
 evL (cx ρ) call yc false 90 lim k (Code.at [1,1,1,0,0,0,0,0,0] c90) (sp 84 [(0,x0),(1,x1),(9,x9),(10,x10)]) H (kk (some [0,1,9,10]) kn [(2,(some [0,1,9,10]),k2),(1,(some [0,1,9,10]),k1),(0,(some [9]),k0)] R [8]) = N90_7 ρ call yc lim k x0 x1 x9 x10 H (fun x9 x10 H => k2 (sp 84 [(0,x0),(1,x1),(9,x9),(10,x10)]) H) := by
 have e : Code.at [1,1,1,0,0,0,0,0,0] c90 = .loop (Code.at [1,1,1,0,0,0,0,0,0,0] c90) := by kernel_rfl
 rw [e]
 unfold N90_7
 exact loop_node [0,1,9,10] (fun x : AV => (sp 84 [(0,x0),(1,x1),(9,(x)),(10,x10)])) (fun (x : AV) H kn => N90_7b ρ call yc lim k x0 x1 x x10 H (fun x9 H => kn x9 H) (fun x9 x10 H => k2 (sp 84 [(0,x0),(1,x1),(9,x9),(10,x10)]) H)) (by kernel_rfl) (fun x => by kernel_rfl) (fun x H kn => N90_7b_eq ρ call yc lim k x0 x1 (x) x10 H kn k2 k1 k0 R) x9 (sp 84 [(0,x0),(1,x1),(9,x9),(10,x10)]) H (by kernel_rfl)
noncomputable def N90_3b (ρ : RO) (call : CallF) (yc : YieldF) (lim k : Nat) (x0 x1 x9 x10 : AV) (H : Heap) (kn : AV → AV → Heap → Res) (k0 : AV → Heap → Res) : Res :=
 N90_7 ρ call yc lim k x0 x1 x9 x10 H (fun x9_1 x10_1 H =>
 N90_4 ρ call yc lim k x0 x1 x9_1 x10_1 H kn k0)
theorem N90_3b_x (ρ call yc lim k J x0 x1 x9 x10 H kn k0 R) :
 evX (cx ρ) call yc false 90 lim k J (Code.at [1,1,1,0,0,0] c90) (sp 84 [(0,x0),(1,x1),(9,x9),(10,x10)]) H (kk (some [0,1,9,10]) kn [(0,(some [9]),k0)] R [8]) =
 J (Code.at [1,1,1,0,0,0,0,0,0] c90) (sp 84 [(0,x0),(1,x1),(9,x9),(10,x10)]) H (kk (some [0,1,9,10]) (fun s H => J (Code.at [1,1,1,0,0,0,0,1] c90) s H (kk (some [0,1,9,10]) kn [(1,(some [0,1,9,10]),kn),(0,(some [9]),k0)] R [8])) [(2,(some [0,1,9,10]),(fun s H => J (Code.at [1,1,1,0,0,0,0,1] c90) s H (kk (some [0,1,9,10]) kn [(1,(some [0,1,9,10]),kn),(0,(some [9]),k0)] R [8]))),(1,(some [0,1,9,10]),kn),(0,(some [9]),k0)] R [8]) := by
 kernel_rfl
theorem N90_3b_eq (ρ call yc lim k x0 x1 x9 x10 H kn k0 R) :
 evL (cx ρ) call yc false 90 lim k (Code.at [1,1,1,0,0,0] c90) (sp 84 [(0,x0),(1,x1),(9,x9),(10,x10)]) H (kk (some [0,1,9,10]) kn [(0,(some [9]),k0)] R [8]) = N90_3b ρ call yc lim k x0 x1 x9 x10 H (fun x9 x10 H => kn (sp 84 [(0,x0),(1,x1),(9,x9),(10,x10)]) H) (fun x9 H => k0 (sp 84 [(9,x9)]) H) := by
 rw [evL_X,N90_3b_x]
 simp only [← evL_X,N90_3b,N90_4_eq,N90_7_eq]
noncomputable def N90_3 (ρ : RO) (call : CallF) (yc : YieldF) (lim k : Nat) (x0 x1 x9 x10 : AV) (H : Heap) (k0 : AV → Heap → Res) : Res :=
 loopL (fun (x : AV × AV) H kn => N90_3b ρ call yc lim k x0 x1 x.1 x.2 H (fun x9 x10 H => kn (x9,x10) H) k0) k (x9,x10) H
theorem N90_3_eq (ρ call yc lim k x0 x1 x9 x10 H kn k0 R) :
 evL (cx ρ) call yc false 90 lim k (Code.at [1,1,1,0,0] c90) (sp 84 [(0,x0),(1,x1),(9,x9),(10,x10)]) H (kk (some [9]) kn [(0,(some [9]),k0)] R [8]) = N90_3 ρ call yc lim k x0 x1 x9 x10 H (fun x9 H => k0 (sp 84 [(9,x9)]) H) := by
 have e : Code.at [1,1,1,0,0] c90 = .loop (Code.at [1,1,1,0,0,0] c90) := by kernel_rfl
 rw [e]
 unfold N90_3
 exact loop_node [0,1,9,10] (fun x : AV × AV => (sp 84 [(0,x0),(1,x1),(9,(x.1)),(10,(x.2))])) (fun (x : AV × AV) H kn => N90_3b ρ call yc lim k x0 x1 x.1 x.2 H (fun x9 x10 H => kn (x9,x10) H) (fun x9 H => k0 (sp 84 [(9,x9)]) H)) (by kernel_rfl) (fun x => by kernel_rfl) (fun x H kn => N90_3b_eq ρ call yc lim k x0 x1 (x.1) (x.2) H kn k0 R) (x9,x10) (sp 84 [(0,x0),(1,x1),(9,x9),(10,x10)]) H (by kernel_rfl)
noncomputable def N90_1 (ρ : RO) (call : CallF) (yc : YieldF) (lim k : Nat) (x0 x1 x9 x10 : AV) (H : Heap) (R : KR) : Res :=
 N90_3 ρ call yc lim k x0 x1 x9 x10 H (fun x9_1 H =>
 N90_2 ρ call yc lim k x9_1 H R)
theorem N90_1_x (ρ call yc lim k J x0 x1 x9 x10 H R) :
 evX (cx ρ) call yc false 90 lim k J (Code.at [1,1,1] c90) (sp 84 [(0,x0),(1,x1),(9,x9),(10,x10)]) H (kk none (fun s H => R (gs [8] s) H) [] R [8]) =
 J (Code.at [1,1,1,0,0] c90) (sp 84 [(0,x0),(1,x1),(9,x9),(10,x10)]) H (kk (some [9]) (fun s H => J (Code.at [1,1,1,1] c90) s H (kk none (fun s H => R (gs [8] s) H) [] R [8])) [(0,(some [9]),(fun s H => J (Code.at [1,1,1,1] c90) s H (kk none (fun s H => R (gs [8] s) H) [] R [8])))] R [8]) := by
 kernel_rfl
theorem N90_1_eq (ρ call yc lim k x0 x1 x9 x10 H R) :
 evL (cx ρ) call yc false 90 lim k (Code.at [1,1,1] c90) (sp 84 [(0,x0),(1,x1),(9,x9),(10,x10)]) H (kk none (fun s H => R (gs [8] s) H) [] R [8]) = N90_1 ρ call yc lim k x0 x1 x9 x10 H R := by
 rw [evL_X,N90_1_x]
 simp only [← evL_X,N90_1,N90_2_eq,N90_3_eq]
noncomputable def L90 (ρ : RO) (call : CallF) (yc : YieldF) (lim k : Nat) (x0 x1 x2 x3 : AV) (H : Heap) : Res :=
 purK (ixS 1 x0 x3) fun x17 =>
 purK (ld1 ρ H x17) fun x18 =>
 purK (ixS 1 x0 x1) fun x21 =>
 purK (ld1 ρ H x21) fun x22 =>
 purK (ixS 1 x0 x1) fun x23 =>
 effK H (stA lim H 1 x23 x18) fun _ H =>
 purK (ixS 1 x0 x3) fun x24 =>
 effK H (stA lim H 1 x24 x22) fun _ H =>
 purK (binA Try.prog H .add 3 x1 (.int .i64 1)) fun x26 =>
 purK (binA Try.prog H .sub 3 x2 (.int .i64 1)) fun x28 =>
 N90_1 ρ call yc lim k x0 x1 x26 x28 H retK
theorem L90_x (ρ call yc lim k J x0 x1 x2 x3 H) :
 evX (cx ρ) call yc false 90 lim k J c90 ([x0,x1,x2,x3] ++ List.replicate 80 (.tup [])) H (kk none (fun s H => retK (gs [8] s) H) [] retK [8]) =
 purK (ixS 1 x0 x3) fun x17 =>
 purK (ld1 ρ H x17) fun x18 =>
 purK (ixS 1 x0 x1) fun x21 =>
 purK (ld1 ρ H x21) fun x22 =>
 purK (ixS 1 x0 x1) fun x23 =>
 effK H (stA lim H 1 x23 x18) fun _ H =>
 purK (ixS 1 x0 x3) fun x24 =>
 effK H (stA lim H 1 x24 x22) fun _ H =>
 purK (binA Try.prog H .add 3 x1 (.int .i64 1)) fun x26 =>
 purK (binA Try.prog H .sub 3 x2 (.int .i64 1)) fun x28 =>
 J (Code.at [1,1,1] c90) (sp 84 [(0,x0),(1,x1),(9,x26),(10,x28)]) H (kk none (fun s H => retK (gs [8] s) H) [] retK [8]) := by
 kernel_rfl
theorem G90 (ρ call yc lim k x0 x1 x2 x3 H) :
 evL (cx ρ) call yc false 90 lim k c90 ([x0,x1,x2,x3] ++ List.replicate 80 (.tup [])) H (kk none (fun s H => retK (gs [8] s) H) [] retK [8]) = L90 ρ call yc lim k x0 x1 x2 x3 H := by
 rw [evL_X,L90_x]
 simp only [← evL_X,L90,N90_1_eq]
theorem E90 (ρ : RO) (k lim : Nat) (x0 x1 x2 x3 : AV) (H : Heap) : evCall (cx ρ) (k + 1) lim 90 [x0,x1,x2,x3] H = L90 ρ (evCall (cx ρ) k) (evCY (cx ρ) k).2 lim k x0 x1 x2 x3 H := by
 rw [evCall_body (cx ρ) k lim 90 _ H Try.f90 c90 [8] (by kernel_rfl) (by kernel_rfl) (by kernel_rfl) (by kernel_rfl) (by kernel_rfl)]
 exact G90 ρ (evCall (cx ρ) k) (evCY (cx ρ) k).2 lim k x0 x1 x2 x3 H
-- slices.partitionOrdered[string]
noncomputable def c91 : Code := Code.of Try.prog 91
noncomputable def N91_6 (ρ : RO) (call : CallF) (yc : YieldF) (lim k : Nat) (x0 x1 x11 : AV) (H : Heap) (R : KR) : Res :=
 purK (ixS 1 x0 x1) fun x159_1 =>
 purK (ld1 ρ H x159_1) fun x160_1 =>
 purK (ixS 1 x0 x11) fun x163_1 =>
 purK (ld1 ρ H x163_1) fun x164_1 =>
 purK (ixS 1 x0 x11) fun x165_1 =>
 effK H (stA lim H 1 x165_1 x160_1) fun _ H =>
 purK (ixS 1 x0 x1) fun x166_1 =>
 effK H (stA lim H 1 x166_1 x164_1) fun _ H =>
 R [x11,(.bool false)] H
theorem N91_6_eq (ρ call yc lim k x0 x1 x11 H R) :
 evL (cx ρ) call yc false 91 lim k (Code.at [1,1,1,1,1,1,1,1,1,1] c91) (sp 168 [(0,x0),(1,x1),(11,x11)]) H (kk none (fun s H => R (gs [8,9] s) H) [] R [8,9]) = N91_6 ρ call yc lim k x0 x1 x11 H R := by
 kernel_rfl
noncomputable def N91_9 (ρ : RO) (call : CallF) (yc : YieldF) (lim k : Nat) (x0 x1 x10 x11 : AV) (H : Heap) (kn : AV → AV → Heap → Res) (k4 : AV → AV → AV → Heap → Res) : Res :=
 purK (binA Try.prog H .gtr 3 x10 x11) fun x134_1 =>
 condK x134_1
 (
 k4 x0 x1 x11 H)
 (
 purK (ixS 1 x0 x11) fun x141_1 =>
 purK (ld1 ρ H x141_1) fun x142_1 =>
 purK (ixS 1 x0 x10) fun x145_1 =>
 purK (ld1 ρ H x145_1) fun x146_1 =>
 purK (ixS 1 x0 x10) fun x147_1 =>
 effK H (stA lim H 1 x147_1 x142_1) fun _ H =>
 purK (ixS 1 x0 x11) fun x148_1 =>
 effK H (stA lim H 1 x148_1 x146_1) fun _ H =>
 purK (binA Try.prog H .add 3 x10 (.int .i64 1)) fun x150_1 =>
 purK (binA Try.prog H .sub 3 x11 (.int .i64 1)) fun x152_1 =>
 kn x150_1 x152_1 H)
theorem N91_9_eq (ρ call yc lim k x0 x1 x10 x11 H kn k5 k4 R) :
 evL (cx ρ) call yc false 91 lim k (Code.at [1,1,1,1,1,1,1,1,1,0,0,0,0,1,1] c91) (sp 168 [(0,x0),(1,x1),(10,x10),(11,x11)]) H (kk (some [0,1,10,11]) kn [(5,(some [0,1,10,11]),k5),(4,(some [0,1,11]),k4)] R [8,9]) = N91_9 ρ call yc lim k x0 x1 x10 x11 H (fun x10 x11 H => kn (sp 168 [(0,x0),(1,x1),(10,x10),(11,x11)]) H) (fun x0 x1 x11 H => k4 (sp 168 [(0,x0),(1,x1),(11,x11)]) H) := by
 kernel_rfl
noncomputable def N91_10b (ρ : RO) (call : CallF) (yc : YieldF) (lim k : Nat) (x0 x1 x10 x11 : AV) (H : Heap) (kn : AV → Heap → Res) (k8 : AV → AV → Heap → Res) : Res :=
 purK (binA Try.prog H .leq 3 x10 x11) fun x117_1 =>
 boolK (wantV x117_1 true) fun b1 => purK (bif b1 then some x0 else some (.tup [])) fun x119_1 =>
 boolK (wantV x117_1 true) fun b2 => purK (bif b2 then some x11 else some (.tup [])) fun x120_1 =>
 boolK (wantV x117_1 true) fun b3 => purK (bif b3 then ixS 1 x119_1 x120_1 else some (.tup [])) fun x121_1 =>
 boolK (wantV x117_1 true) fun b4 => purK (bif b4 then ld1 ρ H x121_1 else some (.tup [])) fun x122_1 =>
 boolK (wantV x117_1 true) fun b5 => purK (bif b5 then some x0 else some (.tup [])) fun x123_1 =>
 boolK (wantV x117_1 true) fun b6 => purK (bif b6 then some x1 else some (.tup [])) fun x124_1 =>
 boolK (wantV x117_1 true) fun b7 => purK (bif b7 then ixS 1 x123_1 x124_1 else some (.tup [])) fun x125_1 =>
 boolK (wantV x117_1 true) fun b8 => purK (bif b8 then ld1 ρ H x125_1 else some (.tup [])) fun x126_1 =>
 boolK (wantV x117_1 true) fun b9 => resK (gRes (some b9) H (call lim 89 [x122_1,x126_1] H)) fun x127_1 H => bif !b9 || ((!b8 || true) && ((!b4 || true) && true)) then
 purK (gPur (wantV x117_1 true) (unA .not x127_1)) fun x128_1 =>
 purK (pickA x117_1 x128_1 (.bool false)) fun x129_1 =>
 condK x129_1
 (
 purK (binA Try.prog H .sub 3 x11 (.int .i64 1)) fun x131_1 =>
 kn x131_1 H)
 (
 k8 x10 x11 H)
 else .stop
theorem N91_10b_eq (ρ call yc lim k x0 x1 x10 x11 H kn k8 k5 k4 R) :
 evL (cx ρ) call yc false 91 lim k (Code.at [1,1,1,1,1,1,1,1,1,0,0,0,0,1,0,0,0] c91) (sp 168 [(0,x0),(1,x1),(10,x10),(11,x11)]) H (kk (some [0,1,10,11]) kn [(8,(some [0,1,10,11]),k8),(5,(some [0,1,10,11]),k5),(4,(some [0,1,11]),k4)] R [8,9]) = N91_10b ρ call yc lim k x0 x1 x10 x11 H (fun x11 H => kn (sp 168 [(0,x0),(1,x1),(10,x10),(11,x11)]) H) (fun x10 x11 H => k8 (sp 168 [(0,x0),(1,x1),(10,x10),(11,x11)]) H) := by
 kernel_rfl
noncomputable def N91_10 (ρ : RO) (call : CallF) (yc : YieldF) (lim k : Nat) (x0 x1 x10 x11 : AV) (H : Heap) (k8 : AV → AV → Heap → Res) : Res :=
 loopL (fun (x : AV) H kn => N91_10b ρ call yc lim k x0 x1 x10 x H (fun x11 H => kn x11 H) k8) k x11 H
theorem N91_10_eq (ρ call yc lim k x0 x1 x10 x11 H kn k8 k5 k4 R) :
 evL (cx ρ) call yc false 91 lim k (Code.at [1,1,1,1,1,1,1,1,1,0,0,0,0,1,0,0] c91) (sp 168 [(0,x0),(1,x1),(10,x10),(11,x11)]) H (kk (some [0,1,10,11]) kn [(8,(some [0,1,10,11]),k8),(5,(some [0,1,10,11]),k5),(4,(some [0,1,11]),k4)] R [8,9]) = N91_10 ρ call yc lim k x0 x1 x10 x11 H (fun x10 x11 H => k8 (sp 168 [(0,x0),(1,x1),(10,x10),(11,x11)]) H) := by
 have e : Code.at [1,1,1,1,1,1,1,1,1,0,0,0,0,1,0,0] c91 = .loop (Code.at [1,1,1,1,1,1,1,1,1,0,0,0,0,1,0,0,0] c91) := by kernel_rfl
 rw [e]
 unfold N91_10
 exact loop_node [0,1,10,11] (fun x : AV => (sp 168 [(0,x0),(1,x1),(10,x10),(11,(x))])) (fun (x : AV) H kn => N91_10b ρ call yc lim k x0 x1 x10 x H (fun x11 H => kn x11 H) (fun x10 x11 H => k8 (sp 168 [(0,x0),(1,x1),(10,x10),(11,x11)]) H)) (by kernel_rfl) (fun x => by kernel_rfl) (fun x H kn => N91_10b_eq ρ call yc lim k x0 x1 x10 (x) H kn k8 k5 k4 R) x11 (sp 168 [(0,x0),(1,x1),(10,x10),(11,x11)]) H (by kernel_rfl)
noncomputable def N91_8 (ρ : RO) (call : CallF) (yc : YieldF) (lim k : Nat) (x0 x1 x10 x11 : AV) (H : Heap) (kn : AV → AV → Heap → Res) (k4 : AV → AV → AV → Heap → Res) : Res :=
 N91_10 ρ call yc lim k x0 x1 x10 x11 H (fun x10_1 x11_1 H =>
 N91_9 ρ call yc lim k x0 x1 x10_1 x11_1 H kn k4)
theorem N91_8_x (ρ call yc lim k J x0 x1 x10 x11 H kn k5 k4 R) :
 evX (cx ρ) call yc false 91 lim k J (Code.at [1,1,1,1,1,1,1,1,1,0,0,0,0,1] c91) (sp 168 [(0,x0),(1,x1),(10,x10),(11,x11)]) H (kk (some [0,1,10,11]) kn [(5,(some [0,1,10,11]),k5),(4,(some [0,1,11]),k4)] R [8,9]) =
 J (Code.at [1,1,1,1,1,1,1,1,1,0,0,0,0,1,0,0] c91) (sp 168 [(0,x0),(1,x1),(10,x10),(11,x11)]) H (kk (some [0,1,10,11]) (fun s H => J (Code.at [1,1,1,1,1,1,1,1,1,0,0,0,0,1,1] c91) s H (kk (some [0,1,10,11]) kn [(5,(some [0,1,10,11]),k5),(4,(some [0,1,11]),k4)] R [8,9])) [(8,(some [0,1,10,11]),(fun s H => J (Code.at [1,1,1,1,1,1,1,1,1,0,0,0,0,1,1] c91) s H (kk (some [0,1,10,11]) kn [(5,(some [0,1,10,11]),k5),(4,(some [0,1,11]),k4)] R [8,9]))),(5,(some [0,1,10,11]),k5),(4,(some [0,1,11]),k4)] R [8,9]) := by
 kernel_rfl
theorem N91_8_eq (ρ call yc lim k x0 x1 x10 x11 H kn k5 k4 R) :
 evL (cx ρ) call yc false 91 lim k (Code.at [1,1,1,1,1,1,1,1,1,0,0,0,0,1] c91) (sp 168 [(0,x0),(1,x1),(10,x10),(11,x11)]) H (kk (some [0,1,10,11]) kn [(5,(some [0,1,10,11]),k5),(4,(some [0,1,11]),k4)] R [8,9]) = N91_8 ρ call yc lim k x0 x1 x10 x11 H (fun x10 x11 H => kn (sp 168 [(0,x0),(1,x1),(10,x10),(11,x11)]) H) (fun x0 x1 x11 H => k4 (sp 168 [(0,x0),(1,x1),(11,x11)]) H) := by
 rw [evL_X,N91_8_x]
 simp only [← evL_X,N91_8,N91_10_eq,N91_9_eq]
noncomputable def N91_11b (ρ : RO) (call : CallF) (yc : YieldF) (lim k : Nat) (x0 x1 x10 x11 : AV) (H : Heap) (kn : AV → Heap → Res) (k6 : AV → AV → Heap → Res) : Res :=
 purK (binA Try.prog H .leq 3 x10 x11) fun x101_1 =>
 boolK (wantV x101_1 true) fun b1 => purK (bif b1 then some x0 else some (.tup [])) fun x103_1 =>
 boolK (wantV x101_1 true) fun b2 => purK (bif b2 then some x10 else some (.tup [])) fun x104_1 =>
 boolK (wantV x101_1 true) fun b3 => purK (bif b3 then ixS 1 x103_1 x104_1 else some (.tup [])) fun x105_1 =>
 boolK (wantV x101_1 true) fun b4 => purK (bif b4 then ld1 ρ H x105_1 else some (.tup [])) fun x106_1 =>
 boolK (wantV x101_1 true) fun b5 => purK (bif b5 then some x0 else some (.tup [])) fun x107_1 =>
 boolK (wantV x101_1 true) fun b6 => purK (bif b6 then some x1 else some (.tup [])) fun x108_1 =>
 boolK (wantV x101_1 true) fun b7 => purK (bif b7 then ixS 1 x107_1 x108_1 else some (.tup [])) fun x109_1 =>
 boolK (wantV x101_1 true) fun b8 => purK (bif b8 then ld1 ρ H x109_1 else some (.tup [])) fun x110_1 =>
 boolK (wantV x101_1 true) fun b9 => resK (gRes (some b9) H (call lim 89 [x106_1,x110_1] H)) fun x111_1 H => bif !b9 || ((!b8 || true) && ((!b4 || true) && true)) then
 purK (pickA x101_1 x111_1 (.bool false)) fun x112_1 =>
 condK x112_1
 (
 purK (binA Try.prog H .add 3 x10 (.int .i64 1)) fun x114_1 =>
 kn x114_1 H)
 (
 k6 x10 x11 H)
 else .stop
theorem N91_11b_eq (ρ call yc lim k x0 x1 x10 x11 H kn k6 k5 k4 R) :
 evL (cx ρ) call yc false 91 lim k (Code.at [1,1,1,1,1,1,1,1,1,0,0,0,0,0,0,0] c91) (sp 168 [(0,x0),(1,x1),(10,x10),(11,x11)]) H (kk (some [0,1,10,11]) kn [(6,(some [0,1,10,11]),k6),(5,(some [0,1,10,11]),k5),(4,(some [0,1,11]),k4)] R [8,9]) = N91_11b ρ call yc lim k x0 x1 x10 x11 H (fun x10 H => kn (sp 168 [(0,x0),(1,x1),(10,x10),(11,x11)]) H) (fun x10 x11 H => k6 (sp 168 [(0,x0),(1,x1),(10,x10),(11,x11)]) H) := by
 kernel_rfl
noncomputable def N91_11 (ρ : RO) (call : CallF) (yc : YieldF) (lim k : Nat) (x0 x1 x10 x11 : AV) (H : Heap) (k6 : AV → AV → Heap → Res) : Res :=
 loopL (fun (x : AV) H kn => N91_11b ρ call yc lim k x0 x1 x x11 H (fun x10 H => kn x10 H) k6) k x10 H
theorem N91_11_eq (ρ call yc lim k x0 x1 x10 x11 H kn k6 k5 k4 R) :
 evL (cx ρ) call yc false 91 lim k (Code.at [1,1,1,1,1,1,1,1,1,0,0,0,0,0,0] c91) (sp 168 [(0,x0),(1,x1),(10,x10),(11,x11)]) H (kk (some [0,1,10,11]) kn [(6,(some [0,1,10,11]),k6),(5,(some [0,1,10,11]),k5),(4,(some [0,1,11]),k4)] R [8,9]) = N91_11 ρ call yc lim k x0 x1 x10 x11 H (fun x10 x11 H => k6 (sp 168 [(0,x0),(1,x1),(10,x10),(11,x11)]) H) := by
 have e : Code.at [1,1,1,1,1,1,1,1,1,0,0,0,0,0,0] c91 = .loop (Code.at [1,1,1,1,1,1,1,1,1,0,0,0,0,0,0,0] c91) := by kernel_rfl
 rw [e]
 unfold N91_11
 exact loop_node [0,1,10,11] (fun x : AV => (sp 168 [(0,x0),(1,x1),(10,(x)),(11,x11)])) (fun (x : AV) H kn => N91_11b ρ call yc lim k x0 x1 x x11 H (fun x10 H => kn x10 H) (fun x10 x11 H => k6 (sp 168 [(0,x0),(1,x1),(10,x10),(11,x11)]) H)) (by kernel_rfl) (fun x => by kernel_rfl) (fun x H kn => N91_11b_eq ρ call yc lim k x0 x1 (x) x11 H kn k6 k5 k4 R) x10 (sp 168 [(0,x0),(1,x1),(10,x10),(11,x11)]) H (by kernel_rfl)
noncomputable def N91_7b (ρ : RO) (call : CallF) (yc : YieldF) (lim k : Nat) (x0 x1 x10 x11 : AV) (H : Heap) (kn : AV → AV → Heap → Res) (k4 : AV → AV → AV → Heap → Res) : Res :=
 N91_11 ρ call yc lim k x0 x1 x10 x11 H (fun x10_1 x11_1 H =>
 N91_8 ρ call yc lim k x0 x1 x10_1 x11_1 H kn k4)
theorem N91_7b_x (ρ call yc lim k J x0 x1 x10 x11 H kn k4 R) :
 evX (cx ρ) call yc false 91 lim k J (Code.at [1,1,1,1,1,1,1,1,1,0,0,0] c91) (sp 168 [(0,x0),(1,x1),(10,x10),(11,x11)]) H (kk (some [0,1,10,11]) kn [(4,(some [0,1,11]),k4)] R [8,9]) =
 J (Code.at [1,1,1,1,1,1,1,1,1,0,0,0,0,0,0] c91) (sp 168 [(0,x0),(1,x1),(10,x10),(11,x11)]) H (kk (some [0,1,10,11]) (fun s H => J (Code.at [1,1,1,1,1,1,1,1,1,0,0,0,0,1] c91) s H (kk (some [0,1,10,11]) kn [(5,(some [0,1,10,11]),kn),(4,(some [0,1,11]),k4)] R [8,9])) [(6,(some [0,1,10,11]),(fun s H => J (Code.at [1,1,1,1,1,1,1,1,1,0,0,0,0,1] c91) s H (kk (some [0,1,10,11]) kn [(5,(some [0,1,10,11]),kn),(4,(some [0,1,11]),k4)] R [8,9]))),(5,(some [0,1,10,11]),kn),(4,(some [0,1,11]),k4)] R [8,9]) := by
 kernel_rfl
theorem N91_7b_eq (ρ call yc lim k x0 x1 x10 x11 H kn k4 R) :
 evL (cx ρ) call yc false 91 lim k (Code.at [1,1,1,1,1,1,1,1,1,0,0,0] c91) (sp 168 [(0,x0),(1,x1),(10,x10),(11,x11)]) H (kk (some [0,1,10,11]) kn [(4,(some [0,1,11]),k4)] R [8,9]) = N91_7b ρ call yc lim k x0 x1 x10 x11 H (fun x10 x11 H => kn (sp 168 [(0,x0),(1,x1),(10,x10),(11,x11)]) H) (fun x0 x1 x11 H => k4 (sp 168 [(0,x0),(1,x1),(11,x11)]) H) := by
 rw [evL_X,N91_7b_x]
 simp only [← evL_X,N91_7b,N91_11_eq,N91_8_eq]
noncomputable def N91_7 (ρ : RO) (call : CallF) (yc : YieldF) (lim k : Nat) (x0 x1 x10 x11 : AV) (H : Heap) (k4 : AV → AV → AV → Heap → Res) : Res :=
 loopL (fun (x : AV × AV) H kn => N91_7b ρ call yc lim k x0 x1 x.1 x.2 H (fun x10 x11 H => kn (x10,x11) H) k4) k (x10,x11) H
theorem N91_7_eq (ρ call yc lim k x0 x1 x10 x11 H kn k4 R) :
 evL (cx ρ) call yc false 91 lim k (Code.at [1,1,1,1,1,1,1,1,1,0,0] c91) (sp 168 [(0,x0),(1,x1),(10,x10),(11,x11)]) H (kk (some [0,1,11]) kn [(4,(some [0,1,11]),k4)] R [8,9]) = N91_7 ρ call yc lim k x0 x1 x10 x11 H (fun x0 x1 x11 H => k4 (sp 168 [(0,x0),(1,x1),(11,x11)]) H) := by
 have e : Code.at [1,1,1,1,1,1,1,1,1,0,0] c91 = .loop (Code.at [1,1,1,1,1,1,1,1,1,0,0,0] c91) := by kernel_rfl
 rw [e]
 unfold N91_7
 exact loop_node [0,1,10,11] (fun x : AV × AV => (sp 168 [(0,x0),(1,x1),(10,(x.1)),(11,(x.2))])) (fun (x : AV × AV) H kn => N91_7b ρ call yc lim k x0 x1 x.1 x.2 H (fun x10 x11 H => kn (x10,x11) H) (fun x0 x1 x11 H => k4 (sp 168 [(0,x0),(1,x1),(11,x11)]) H)) (by kernel_rfl) (fun x => by kernel_rfl) (fun x H kn => N91_7b_eq ρ call yc lim k x0 x1 (x.1) (x.2) H kn k4 R) (x10,x11) (sp 168 [(0,x0),(1,x1),(10,x10),(11,x11)]) H (by kernel_rfl)
noncomputable def N91_5 (ρ : RO) (call : CallF) (yc : YieldF) (lim k : Nat) (x0 x1 x10 x11 : AV) (H : Heap) (R : KR) : Res :=
 N91_7 ρ call yc lim k x0 x1 x10 x11 H (fun x0_1 x1_1 x11_1 H =>
 N91_6 ρ call yc lim k x0_1 x1_1 x11_1 H R)
theorem N91_5_x (ρ call yc lim k J x0 x1 x10 x11 H R) :
 evX (cx ρ) call yc false 91 lim k J (Code.at [1,1,1,1,1,1,1,1,1] c91) (sp 168 [(0,x0),(1,x1),(10,x10),(11,x11)]) H (kk none (fun s H => R (gs [8,9] s) H) [] R [8,9]) =
 J (Code.at [1,1,1,1,1,1,1,1,1,0,0] c91) (sp 168 [(0,x0),(1,x1),(10,x10),(11,x11)]) H (kk (some [0,1,11]) (fun s H => J (Code.at [1,1,1,1,1,1,1,1,1,1] c91) s H (kk none (fun s H => R (gs [8,9] s) H) [] R [8,9])) [(4,(some [0,1,11]),(fun s H => J (Code.at [1,1,1,1,1,1,1,1,1,1] c91) s H (kk none (fun s H => R (gs [8,9] s) H) [] R [8,9])))] R [8,9]) := by
 kernel_rfl
theorem N91_5_eq (ρ call yc lim k x0 x1 x10 x11 H R) :
 evL (cx ρ) call yc false 91 lim k (Code.at [1,1,1,1,1,1,1,1,1] c91) (sp 168 [(0,x0),(1,x1),(10,x10),(11,x11)]) H (kk none (fun s H => R (gs [8,9] s) H) [] R [8,9]) = N91_5 ρ call yc lim k x0 x1 x10 x11 H R := by
 rw [evL_X,N91_5_x]
 simp only [← evL_X,N91_5,N91_6_eq,N91_7_eq]
noncomputable def N91_4 (ρ : RO) (call : CallF) (yc : YieldF) (lim k : Nat) (x0 x1 x10 x11 : AV) (H : Heap) (R : KR) : Res :=
 purK (binA Try.prog H .add 3 x10 (.int .i64 1)) fun x96_1 =>
 purK (binA Try.prog H .sub 3 x11 (.int .i64 1)) fun x98_1 =>
 N91_5 ρ call yc lim k x0 x1 x96_1 x98_1 H R
theorem N91_4_x (ρ call yc lim k J x0 x1 x10 x11 H R) :
 evX (cx ρ) call yc false 91 lim k J (Code.at [1,1,1,1,1,1,1] c91) (sp 168 [(0,x0),(1,x1),(10,x10),(11,x11)]) H (kk none (fun s H => R (gs [8,9] s) H) [] R [8,9]) =
 purK (binA Try.prog H .add 3 x10 (.int .i64 1)) fun x96_1 =>
 purK (binA Try.prog H .sub 3 x11 (.int .i64 1)) fun x98_1 =>
 J (Code.at [1,1,1,1,1,1,1,1,1] c91) (sp 168 [(0,x0),(1,x1),(10,x96_1),(11,x98_1)]) H (kk none (fun s H => R (gs [8,9] s) H) [] R [8,9]) := by
 kernel_rfl
theorem N91_4_eq (ρ call yc lim k x0 x1 x10 x11 H R) :
 evL (cx ρ) call yc false 91 lim k (Code.at [1,1,1,1,1,1,1] c91) (sp 168 [(0,x0),(1,x1),(10,x10),(11,x11)]) H (kk none (fun s H => R (gs [8,9] s) H) [] R [8,9]) = N91_4 ρ call yc lim k x0 x1 x10 x11 H R := by
 rw [evL_X,N91_4_x]
 simp only [← evL_X,N91_4,N91_5_eq]
noncomputable def N91_3 (ρ : RO) (call : CallF) (yc : YieldF) (lim k : Nat) (x0 x1 x10 x11 : AV) (H : Heap) (R : KR) : Res :=
 purK (binA Try.prog H .gtr 3 x10 x11) fun x65_1 =>
 condK x65_1
 (
 purK (ixS 1 x0 x1) fun x72_1 =>
 purK (ld1 ρ H x72_1) fun x73_1 =>
 purK (ixS 1 x0 x11) fun x76_1 =>
 purK (ld1 ρ H x76_1) fun x77_1 =>
 purK (ixS 1 x0 x11) fun x78_1 =>
 effK H (stA lim H 1 x78_1 x73_1) fun _ H =>
 purK (ixS 1 x0 x1) fun x79_1 =>
 effK H (stA lim H 1 x79_1 x77_1) fun _ H =>
 R [x11,(.bool true)] H)
 (
 purK (ixS 1 x0 x11) fun x87_1 =>
 purK (ld1 ρ H x87_1) fun x88_1 =>
 purK (ixS 1 x0 x10) fun x91_1 =>
 purK (ld1 ρ H x91_1) fun x92_1 =>
 purK (ixS 1 x0 x10) fun x93_1 =>
 effK H (stA lim H 1 x93_1 x88_1) fun _ H =>
 purK (ixS 1 x0 x11) fun x94_1 =>
 effK H (stA lim H 1 x94_1 x92_1) fun _ H =>
 N91_4 ρ call yc lim k x0 x1 x10 x11 H R)
theorem N91_3_x (ρ call yc lim k J x0 x1 x10 x11 H R) :
 evX (cx ρ) call yc false 91 lim k J (Code.at [1,1,1,1,1] c91) (sp 168 [(0,x0),(1,x1),(10,x10),(11,x11)]) H (kk none (fun s H => R (gs [8,9] s) H) [] R [8,9]) =
 purK (binA Try.prog H .gtr 3 x10 x11) fun x65_1 =>
 condK x65_1
 (
 purK (ixS 1 x0 x1) fun x72_1 =>
 purK (ld1 ρ H x72_1) fun x73_1 =>
 purK (ixS 1 x0 x11) fun x76_1 =>
 purK (ld1 ρ H x76_1) fun x77_1 =>
 purK (ixS 1 x0 x11) fun x78_1 =>
 effK H (stA lim H 1 x78_1 x73_1) fun _ H =>
 purK (ixS 1 x0 x1) fun x79_1 =>
 effK H (stA lim H 1 x79_1 x77_1) fun _ H =>
 R [x11,(.bool true)] H)
 (
 purK (ixS 1 x0 x11) fun x87_1 =>
 purK (ld1 ρ H x87_1) fun x88_1 =>
 purK (ixS 1 x0 x10) fun x91_1 =>
 purK (ld1 ρ H x91_1) fun x92_1 =>
 purK (ixS 1 x0 x10) fun x93_1 =>
 effK H (stA lim H 1 x93_1 x88_1) fun _ H =>
 purK (ixS 1 x0 x11) fun x94_1 =>
 effK H (stA lim H 1 x94_1 x92_1) fun _ H =>
 J (Code.at [1,1,1,1,1,1,1] c91) (sp 168 [(0,x0),(1,x1),(10,x10),(11,x11)]) H (kk none (fun s H => R (gs [8,9] s) H) [] R [8,9])) := by
 kernel_rfl
theorem N91_3_eq (ρ call yc lim k x0 x1 x10 x11 H R) :
 evL (cx ρ) call yc false 91 lim k (Code.at [1,1,1,1,1] c91) (sp 168 [(0,x0),(1,x1),(10,x10),(11,x11)]) H (kk none (fun s H => R (gs [8,9] s) H) [] R [8,9]) = N91_3 ρ call yc lim k x0 x1 x10 x11 H R := by
 rw [evL_X,N91_3_x]
 simp only [← evL_X,N91_3,N91_4_eq]
noncomputable def N91_12b (ρ : RO) (call : CallF) (yc : YieldF) (lim k : Nat) (x0 x1 x10 x11 : AV) (H : Heap) (kn : AV → Heap → Res) (k2 : AV → AV → AV → AV → Heap → Res) : Res :=
 purK (binA Try.prog H .leq 3 x10 x11) fun x48_1 =>
 boolK (wantV x48_1 true) fun b1 => purK (bif b1 then some x0 else some (.tup [])) fun x50_1 =>
 boolK (wantV x48_1 true) fun b2 => purK (bif b2 then some x11 else some (.tup [])) fun x51_1 =>
 boolK (wantV x48_1 true) fun b3 => purK (bif b3 then ixS 1 x50_1 x51_1 else some (.tup [])) fun x52_1 =>
 boolK (wantV x48_1 true) fun b4 => purK (bif b4 then ld1 ρ H x52_1 else some (.tup [])) fun x53_1 =>
 boolK (wantV x48_1 true) fun b5 => purK (bif b5 then some x0 else some (.tup [])) fun x54_1 =>
 boolK (wantV x48_1 true) fun b6 => purK (bif b6 then some x1 else some (.tup [])) fun x55_1 =>
 boolK (wantV x48_1 true) fun b7 => purK (bif b7 then ixS 1 x54_1 x55_1 else some (.tup [])) fun x56_1 =>
 boolK (wantV x48_1 true) fun b8 => purK (bif b8 then ld1 ρ H x56_1 else some (.tup [])) fun x57_1 =>
 boolK (wantV x48_1 true) fun b9 => resK (gRes (some b9) H (call lim 89 [x53_1,x57_1] H)) fun x58_1 H => bif !b9 || ((!b8 || true) && ((!b4 || true) && true)) then
 purK (gPur (wantV x48_1 true) (unA .not x58_1)) fun x59_1 =>
 purK (pickA x48_1 x59_1 (.bool false)) fun x60_1 =>
 condK x60_1
 (
 purK (binA Try.prog H .sub 3 x11 (.int .i64 1)) fun x62_1 =>
 kn x62_1 H)
 (
 k2 x0 x1 x10 x11 H)
 else .stop
theorem N91_12b_eq (ρ call yc lim k x0 x1 x10 x11 H kn k2 R) :
 evL (cx ρ) call yc false 91 lim k (Code.at [1,1,1,1,0,0,0] c91) (sp 168 [(0,x0),(1,x1),(10,x10),(11,x11)]) H (kk (some [0,1,10,11]) kn [(2,(some [0,1,10,11]),k2)] R [8,9]) = N91_12b ρ call yc lim k x0 x1 x10 x11 H (fun x11 H => kn (sp 168 [(0,x0),(1,x1),(10,x10),(11,x11)]) H) (fun x0 x1 x10 x11 H => k2 (sp 168 [(0,x0),(1,x1),(10,x10),(11,x11)]) H) := by
 kernel_rfl
noncomputable def N91_12 (ρ : RO) (call : CallF) (yc : YieldF) (lim k : Nat) (x0 x1 x10 x11 : AV) (H : Heap) (k2 : AV → AV → AV → AV → Heap → Res) : Res :=
 loopL (fun (x : AV) H kn => N91_12b ρ call yc lim k x0 x1 x10 x H (fun x11 H => kn x11 H) k2) k x11 H
theorem N91_12_eq (ρ call yc lim k x0 x1 x10 x11 H kn k2 R) :
 evL (cx ρ) call yc false 91 lim k (Code.at [1,1,1,1,0,0] c91) (sp 168 [(0,x0),(1,x1),(10,x10),(11,x11)]) H (kk (some [0,1,10,11]) kn [(2,(some [0,1,10,11]),k2)] R [8,9]) = N91_12 ρ call yc lim k x0 x1 x10 x11 H (fun x0 x1 x10 x11 H => k2 (sp 168 [(0,x0),(1,x1),(10,x10),(11,x11)]) H) := by
 have e : Code.at [1,1,1,1,0,0] c91 = .loop (Code.at [1,1,1,1,0,0,0] c91) := by kernel_rfl
 rw [e]
 unfold N91_12
 exact loop_node [0,1,10,11] (fun x : AV => (sp 168 [(0,x0),(1,x1),(10,x10),(11,(x))])) (fun (x : AV) H kn => N91_12b ρ call yc lim k x0 x1 x10 x H (fun x11 H => kn x11 H) (fun x0 x1 x10 x11 H => k2 (sp 168 [(0,x0),(1,x1),(10,x10),(11,x11)]) H)) (by kernel_rfl) (fun x => by kernel_rfl) (fun x H kn => N91_12b_eq ρ call yc lim k x0 x1 x10 (x) H kn k2 R) x11 (sp 168 [(0,x0),(1,x1),(10,x10),(11,x11)]) H (by kernel_rfl)
noncomputable def N91_2 (ρ : RO) (call : CallF) (yc : YieldF) (lim k : Nat) (x0 x1 x10 x11 : AV) (H : Heap) (R : KR) : Res :=
 N91_12 ρ call yc lim k x0 x1 x10 x11 H (fun x0_1 x1_1 x10_1 x11_1 H =>
 N91_3 ρ call yc lim k x0_1 x1_1 x10_1 x11_1 H R)
theorem N91_2_x (ρ call yc lim k J x0 x1 x10 x11 H R) :
 evX (cx ρ) call yc false 91 lim k J (Code.at [1,1,1,1] c91) (sp 168 [(0,x0),(1,x1),(10,x10),(11,x11)]) H (kk none (fun s H => R (gs [8,9] s) H) [] R [8,9]) =
 J (Code.at [1,1,1,1,0,0] c91) (sp 168 [(0,x0),(1,x1),(10,x10),(11,x11)]) H (kk (some [0,1,10,11]) (fun s H => J (Code.at [1,1,1,1,1] c91) s H (kk none (fun s H => R (gs [8,9] s) H) [] R [8,9])) [(2,(some [0,1,10,11]),(fun s H => J (Code.at [1,1,1,1,1] c91) s H (kk none (fun s H => R (gs [8,9] s) H) [] R [8,9])))] R [8,9]) := by
 kernel_rfl
theorem N91_2_eq (ρ call yc lim k x0 x1 x10 x11 H R) :
 evL (cx ρ) call yc false 91 lim k (Code.at [1,1,1,1] c91) (sp 168 [(0,x0),(1,x1),(10,x10),(11,x11)]) H (kk none (fun s H => R (gs [8,9] s) H) [] R [8,9]) = N91_2 ρ call yc lim k x0 x1 x10 x11 H R := by
 rw [evL_X,N91_2_x]
 simp only [← evL_X,N91_2,N91_12_eq,N91_3_eq]
noncomputable def N91_13b (ρ : RO) (call : CallF) (yc : YieldF) (lim k : Nat) (x0 x1 x10 x11 : AV) (H : Heap) (kn : AV → Heap → Res) (k0 : AV → AV → AV → AV → Heap → Res) : Res :=
 purK (binA Try.prog H .leq 3 x10 x11) fun x32_1 =>
 boolK (wantV x32_1 true) fun b1 => purK (bif b1 then some x0 else some (.tup [])) fun x34_1 =>
 boolK (wantV x32_1 true) fun b2 => purK (bif b2 then some x10 else some (.tup [])) fun x35_1 =>
 boolK (wantV x32_1 true) fun b3 => purK (bif b3 then ixS 1 x34_1 x35_1 else some (.tup [])) fun x36_1 =>
 boolK (wantV x32_1 true) fun b4 => purK (bif b4 then ld1 ρ H x36_1 else some (.tup [])) fun x37_1 =>
 boolK (wantV x32_1 true) fun b5 => purK (bif b5 then some x0 else some (.tup [])) fun x38_1 =>
 boolK (wantV x32_1 true) fun b6 => purK (bif b6 then some x1 else some (.tup [])) fun x39_1 =>
 boolK (wantV x32_1 true) fun b7 => purK (bif b7 then ixS 1 x38_1 x39_1 else some (.tup [])) fun x40_1 =>
 boolK (wantV x32_1 true) fun b8 => purK (bif b8 then ld1 ρ H x40_1 else some (.tup [])) fun x41_1 =>
 boolK (wantV x32_1 true) fun b9 => resK (gRes (some b9) H (call lim 89 [x37_1,x41_1] H)) fun x42_1 H => bif !b9 || ((!b8 || true) && ((!b4 || true) && true)) then
 purK (pickA x32_1 x42_1 (.bool false)) fun x43_1 =>
 condK x43_1
 (
 purK (binA Try.prog H .add 3 x10 (.int .i64 1)) fun x45_1 =>
 kn x45_1 H)
 (
 k0 x0 x1 x10 x11 H)
 else .stop
theorem N91_13b_eq (ρ call yc lim k x0 x1 x10 x11 H kn k0 R) :
 evL (cx ρ) call yc false 91 lim k (Code.at [1,1,1,0,0,0] c91) (sp 168 [(0,x0),(1,x1),(10,x10),(11,x11)]) H (kk (some [0,1,10,11]) kn [(0,(some [0,1,10,11]),k0)] R [8,9]) = N91_13b ρ call yc lim k x0 x1 x10 x11 H (fun x10 H => kn (sp 168 [(0,x0),(1,x1),(10,x10),(11,x11)]) H) (fun x0 x1 x10 x11 H => k0 (sp 168 [(0,x0),(1,x1),(10,x10),(11,x11)]) H) := by
 kernel_rfl
noncomputable def N91_13 (ρ : RO) (call : CallF) (yc : YieldF) (lim k : Nat) (x0 x1 x10 x11 : AV) (H : Heap) (k0 : AV → AV → AV → AV → Heap → Res) : Res :=
 loopL (fun (x : AV) H kn => N91_13b ρ call yc lim k x0 x1 x x11 H (fun x10 H => kn x10 H) k0) k x10 H
theorem N91_13_eq (ρ call yc lim k x0 x1 x10 x11 H kn k0 R) :
 evL (cx ρ) call yc false 91 lim k (Code.at [1,1,1,0,0] c91) (sp 168 [(0,x0),(1,x1),(10,x10),(11,x11)]) H (kk (some [0,1,10,11]) kn [(0,(some [0,1,10,11]),k0)] R [8,9]) = N91_13 ρ call yc lim k x0 x1 x10 x11 H (fun x0 x1 x10 x11 H => k0 (sp 168 [(0,x0),(1,x1),(10,x10),(11,x11)]) H) := by
 have e : Code.at [1,1,1,0,0] c91 = .loop (Code.at [1,1,1,0,0,0] c91) := by kernel_rfl
 rw [e]
 unfold N91_13
 exact loop_node [0,1,10,11] (fun x : AV => (sp 168 [(0,x0),(1,x1),(10,(x)),(11,x11)])) (fun (x : AV) H kn => N91_13b ρ call yc lim k x0 x1 x x11 H (fun x10 H => kn x10 H) (fun x0 x1 x10 x11 H => k0 (sp 168 [(0,x0),(1,x1),(10,x10),(11,x11)]) H)) (by kernel_rfl) (fun x => by kernel_rfl) (fun x H kn => N91_13b_eq ρ call yc lim k x0 x1 (x) x11 H kn k0 R) x10 (sp 168 [(0,x0),(1,x1),(10,x10),(11,x11)]) H (by kernel_rfl)
noncomputable def N91_1 (ρ : RO) (call : CallF) (yc : YieldF) (lim k : Nat) (x0 x1 x10 x11 : AV) (H : Heap) (R : KR) : Res :=
 N91_13 ρ call yc lim k x0 x1 x10 x11 H (fun x0_1 x1_1 x10_1 x11_1 H =>
 N91_2 ρ call yc lim k x0_1 x1_1 x10_1 x11_1 H R)
theorem N91_1_x (ρ call yc lim k J x0 x1 x10 x11 H R) :
 evX (cx ρ) call yc false 91 lim k J (Code.at [1,1,1] c91) (sp 168 [(0,x0),(1,x1),(10,x10),(11,x11)]) H (kk none (fun s H => R (gs [8,9] s) H) [] R [8,9]) =
 J (Code.at [1,1,1,0,0] c91) (sp 168 [(0,x0),(1,x1),(10,x10),(11,x11)]) H (kk (some [0,1,10,11]) (fun s H => J (Code.at [1,1,1,1] c91) s H (kk none (fun s H => R (gs [8,9] s) H) [] R [8,9])) [(0,(some [0,1,10,11]),(fun s H => J (Code.at [1,1,1,1] c91) s H (kk none (fun s H => R (gs [8,9] s) H) [] R [8,9])))] R [8,9]) := by
 kernel_rfl
theorem N91_1_eq (ρ call yc lim k x0 x1 x10 x11 H R) :
 evL (cx ρ) call yc false 91 lim k (Code.at [1,1,1] c91) (sp 168 [(0,x0),(1,x1),(10,x10),(11,x11)]) H (kk none (fun s H => R (gs [8,9] s) H) [] R [8,9]) = N91_1 ρ call yc lim k x0 x1 x10 x11 H R := by
 rw [evL_X,N91_1_x]
 simp only [← evL_X,N91_1,N91_13_eq,N91_2_eq]
noncomputable def L91 (ρ : RO) (call : CallF) (yc : YieldF) (lim k : Nat) (x0 x1 x2 x3 : AV) (H : Heap) : Res :=
 purK (ixS 1 x0 x3) fun x18 =>
 purK (ld1 ρ H x18) fun x19 =>
 purK (ixS 1 x0 x1) fun x22 =>
 purK (ld1 ρ H x22) fun x23 =>
 purK (ixS 1 x0 x1) fun x24 =>
 effK H (stA lim H 1 x24 x19) fun _ H =>
 purK (ixS 1 x0 x3) fun x25 =>
 effK H (stA lim H 1 x25 x23) fun _ H =>
 purK (binA Try.prog H .add 3 x1 (.int .i64 1)) fun x27 =>
 purK (binA Try.prog H .sub 3 x2 (.int .i64 1)) fun x29 =>
 N91_1 ρ call yc lim k x0 x1 x27 x29 H retK
theorem L91_x (ρ call yc lim k J x0 x1 x2 x3 H) :
 evX (cx ρ) call yc false 91 lim k J c91 ([x0,x1,x2,x3] ++ List.replicate 164 (.tup [])) H (kk none (fun s H => retK (gs [8,9] s) H) [] retK [8,9]) =
 purK (ixS 1 x0 x3) fun x18 =>
 purK (ld1 ρ H x18) fun x19 =>
 purK (ixS 1 x0 x1) fun x22 =>
 purK (ld1 ρ H x22) fun x23 =>
 purK (ixS 1 x0 x1) fun x24 =>
 effK H (stA lim H 1 x24 x19) fun _ H =>
 purK (ixS 1 x0 x3) fun x25 =>
 effK H (stA lim H 1 x25 x23) fun _ H =>
 purK (binA Try.prog H .add 3 x1 (.int .i64 1)) fun x27 =>
 purK (binA Try.prog H .sub 3 x2 (.int .i64 1)) fun x29 =>
 J (Code.at [1,1,1] c91) (sp 168 [(0,x0),(1,x1),(10,x27),(11,x29)]) H (kk none (fun s H => retK (gs [8,9] s) H) [] retK [8,9]) := by
 kernel_rfl
theorem G91 (ρ call yc lim k x0 x1 x2 x3 H) :
 evL (cx ρ) call yc false 91 lim k c91 ([x0,x1,x2,x3] ++ List.replicate 164 (.tup [])) H (kk none (fun s H => retK (gs [8,9] s) H) [] retK [8,9]) = L91 ρ call yc lim k x0 x1 x2 x3 H := by
 rw [evL_X,L91_x]
 simp only [← evL_X,L91,N91_1_eq]
theorem E91 (ρ : RO) (k lim : Nat) (x0 x1 x2 x3 : AV) (H : Heap) : evCall (cx ρ) (k + 1) lim 91 [x0,x1,x2,x3] H = L91 ρ (evCall (cx ρ) k) (evCY (cx ρ) k).2 lim k x0 x1 x2 x3 H := by
 rw [evCall_body (cx ρ) k lim 91 _ H Try.f91 c91 [8,9] (by kernel_rfl) (by kernel_rfl) (by kernel_rfl) (by kernel_rfl) (by kernel_rfl)]
 exact G91 ρ (evCall (cx ρ) k) (evCY (cx ρ) k).2 lim k x0 x1 x2 x3 H
end Go.Proofs.Ytkmohjddojpdjaa

-- part Ht10
/- Functions, lifted. Printed by a program of this repo. -/
set_option linter.unusedVariables false
set_option linter.unusedSimpArgs false
set_option maxRecDepth 100000
set_option maxHeartbeats 4000000
namespace Go.Proofs.Ytkmohjddojpdjaa
open Go.Ev Go.RowKit
-- math/bits.Len32
noncomputable def c92 : Code := Code.of Try.prog 92
noncomputable def N92_2 (ρ : RO) (call : CallF) (yc : YieldF) (lim k : Nat) (x0 x2 : AV) (H : Heap) (R : KR) : Res :=
 purK (cvI .u8 x0) fun x15_1 =>
 purK (ixT (.str (ByteArray.mk #[0,1,2,2,3,3,3,3,4,4,4,4,4,4,4,4,5,5,5,5,5,5,5,5,5,5,5,5,5,5,5,5,6,6,6,6,6,6,6,6,6,6,6,6,6,6,6,6,6,6,6,6,6,6,6,6,6,6,6,6,6,6,6,6,7,7,7,7,7,7,7,7,7,7,7,7,7,7,7,7,7,7,7,7,7,7,7,7,7,7,7,7,7,7,7,7,7,7,7,7,7,7,7,7,7,7,7,7,7,7,7,7,7,7,7,7,7,7,7,7,7,7,7,7,7,7,7,7,8,8,8,8,8,8,8,8,8,8,8,8,8,8,8,8,8,8,8,8,8,8,8,8,8,8,8,8,8,8,8,8,8,8,8,8,8,8,8,8,8,8,8,8,8,8,8,8,8,8,8,8,8,8,8,8,8,8,8,8,8,8,8,8,8,8,8,8,8,8,8,8,8,8,8,8,8,8,8,8,8,8,8,8,8,8,8,8,8,8,8,8,8,8,8,8,8,8,8,8,8,8,8,8,8,8,8,8,8,8,8,8,8,8,8,8,8,8,8,8,8,8,8,8,8,8,8,8])) x15_1) fun x16_1 =>
 purK (cvI .i64 x16_1) fun x17_1 =>
 purK (binA Try.prog H .add 3 x2 x17_1) fun x18_1 =>
 R [x18_1] H
theorem N92_2_eq (ρ call yc lim k x0 x2 H R) :
 evL (cx ρ) call yc false 92 lim k (Code.at [1,1,1] c92) (sp 19 [(0,x0),(2,x2)]) H (kk none (fun s H => R (gs [2] s) H) [] R [2]) = N92_2 ρ call yc lim k x0 x2 H R := by
 kernel_rfl
noncomputable def N92_1 (ρ : RO) (call : CallF) (yc : YieldF) (lim k : Nat) (x0 x2 : AV) (H : Heap) (R : KR) : Res :=
 purK (binA Try.prog H .geq 100 x0 (.int .u32 256)) fun x8_1 =>
 condK x8_1
 (
 purK (binA Try.prog H .shr 100 x0 (.int .u64 8)) fun x10_1 =>
 purK (binA Try.prog H .add 3 x2 (.int .i64 8)) fun x12_1 =>
 N92_2 ρ call yc lim k x10_1 x12_1 H R)
 (
 N92_2 ρ call yc lim k x0 x2 H R)
theorem N92_1_x (ρ call yc lim k J x0 x2 H R) :
 evX (cx ρ) call yc false 92 lim k J (Code.at [1,1] c92) (sp 19 [(0,x0),(2,x2)]) H (kk none (fun s H => R (gs [2] s) H) [] R [2]) =
 purK (binA Try.prog H .geq 100 x0 (.int .u32 256)) fun x8_1 =>
 condK x8_1
 (
 purK (binA Try.prog H .shr 100 x0 (.int .u64 8)) fun x10_1 =>
 purK (binA Try.prog H .add 3 x2 (.int .i64 8)) fun x12_1 =>
 J (Code.at [1,1,1] c92) (sp 19 [(0,x10_1),(2,x12_1)]) H (kk none (fun s H => R (gs [2] s) H) [] R [2]))
 (
 J (Code.at [1,1,1] c92) (sp 19 [(0,x0),(2,x2)]) H (kk none (fun s H => R (gs [2] s) H) [] R [2])) := by
 kernel_rfl
theorem N92_1_eq (ρ call yc lim k x0 x2 H R) :
 evL (cx ρ) call yc false 92 lim k (Code.at [1,1] c92) (sp 19 [(0,x0),(2,x2)]) H (kk none (fun s H => R (gs [2] s) H) [] R [2]) = N92_1 ρ call yc lim k x0 x2 H R := by
 rw [evL_X,N92_1_x]
 simp only [← evL_X,N92_1,N92_2_eq]
noncomputable def L92 (ρ : RO) (call : CallF) (yc : YieldF) (lim k : Nat) (x0 : AV) (H : Heap) : Res :=
 purK (binA Try.prog H .geq 100 x0 (.int .u32 65536)) fun x4 =>
 condK x4
 (
 purK (binA Try.prog H .shr 100 x0 (.int .u64 16)) fun x6 =>
 N92_1 ρ call yc lim k x6 (.int .i64 16) H retK)
 (
 N92_1 ρ call yc lim k x0 (.int .i64 0) H retK)
theorem L92_x (ρ call yc lim k J x0 H) :
 evX (cx ρ) call yc false 92 lim k J c92 ([x0] ++ List.replicate 18 (.tup [])) H (kk none (fun s H => retK (gs [2] s) H) [] retK [2]) =
 purK (binA Try.prog H .geq 100 x0 (.int .u32 65536)) fun x4 =>
 condK x4
 (
 purK (binA Try.prog H .shr 100 x0 (.int .u64 16)) fun x6 =>
 J (Code.at [1,1] c92) (sp 19 [(0,x6),(2,(.int .i64 16))]) H (kk none (fun s H => retK (gs [2] s) H) [] retK [2]))
 (
 J (Code.at [1,1] c92) (sp 19 [(0,x0),(2,(.int .i64 0))]) H (kk none (fun s H => retK (gs [2] s) H) [] retK [2])) := by
 kernel_rfl
theorem G92 (ρ call yc lim k x0 H) :
 evL (cx ρ) call yc false 92 lim k c92 ([x0] ++ List.replicate 18 (.tup [])) H (kk none (fun s H => retK (gs [2] s) H) [] retK [2]) = L92 ρ call yc lim k x0 H := by
 rw [evL_X,L92_x]
 simp only [← evL_X,L92,N92_1_eq]
theorem E92 (ρ : RO) (k lim : Nat) (x0 : AV) (H : Heap) : evCall (cx ρ) (k + 1) lim 92 [x0] H = L92 ρ (evCall (cx ρ) k) (evCY (cx ρ) k).2 lim k x0 H := by
 rw [evCall_body (cx ρ) k lim 92 _ H Try.f92 c92 [2] (by kernel_rfl) (by kernel_rfl) (by kernel_rfl) (by kernel_rfl) (by kernel_rfl)]
 exact G92 ρ (evCall (cx ρ) k) (evCY (cx ρ) k).2 lim k x0 H
-- math/bits.Len64
noncomputable def c93 : Code := Code.of Try.prog 93
noncomputable def N93_3 (ρ : RO) (call : CallF) (yc : YieldF) (lim k : Nat) (x0 x2 : AV) (H : Heap) (R : KR) : Res :=
 purK (cvI .u8 x0) fun x21_1 =>
 purK (ixT (.str (ByteArray.mk #[0,1,2,2,3,3,3,3,4,4,4,4,4,4,4,4,5,5,5,5,5,5,5,5,5,5,5,5,5,5,5,5,6,6,6,6,6,6,6,6,6,6,6,6,6,6,6,6,6,6,6,6,6,6,6,6,6,6,6,6,6,6,6,6,7,7,7,7,7,7,7,7,7,7,7,7,7,7,7,7,7,7,7,7,7,7,7,7,7,7,7,7,7,7,7,7,7,7,7,7,7,7,7,7,7,7,7,7,7,7,7,7,7,7,7,7,7,7,7,7,7,7,7,7,7,7,7,7,8,8,8,8,8,8,8,8,8,8,8,8,8,8,8,8,8,8,8,8,8,8,8,8,8,8,8,8,8,8,8,8,8,8,8,8,8,8,8,8,8,8,8,8,8,8,8,8,8,8,8,8,8,8,8,8,8,8,8,8,8,8,8,8,8,8,8,8,8,8,8,8,8,8,8,8,8,8,8,8,8,8,8,8,8,8,8,8,8,8,8,8,8,8,8,8,8,8,8,8,8,8,8,8,8,8,8,8,8,8,8,8,8,8,8,8,8,8,8,8,8,8,8,8,8,8,8,8])) x21_1) fun x22_1 =>
 purK (cvI .i64 x22_1) fun x23_1 =>
 purK (binA Try.prog H .add 3 x2 x23_1) fun x24_1 =>
 R [x24_1] H
theorem N93_3_eq (ρ call yc lim k x0 x2 H R) :
 evL (cx ρ) call yc false 93 lim k (Code.at [1,1,1,1] c93) (sp 25 [(0,x0),(2,x2)]) H (kk none (fun s H => R (gs [2] s) H) [] R [2]) = N93_3 ρ call yc lim k x0 x2 H R := by
 kernel_rfl
noncomputable def N93_2 (ρ : RO) (call : CallF) (yc : YieldF) (lim k : Nat) (x0 x2 : AV) (H : Heap) (R : KR) : Res :=
 purK (binA Try.prog H .geq 49 x0 (.int .u64 256)) fun x14_1 =>
 condK x14_1
 (
 purK (binA Try.prog H .shr 49 x0 (.int .u64 8)) fun x16_1 =>
 purK (binA Try.prog H .add 3 x2 (.int .i64 8)) fun x18_1 =>
 N93_3 ρ call yc lim k x16_1 x18_1 H R)
 (
 N93_3 ρ call yc lim k x0 x2 H R)
theorem N93_2_x (ρ call yc lim k J x0 x2 H R) :
 evX (cx ρ) call yc false 93 lim k J (Code.at [1,1,1] c93) (sp 25 [(0,x0),(2,x2)]) H (kk none (fun s H => R (gs [2] s) H) [] R [2]) =
 purK (binA Try.prog H .geq 49 x0 (.int .u64 256)) fun x14_1 =>
 condK x14_1
 (
 purK (binA Try.prog H .shr 49 x0 (.int .u64 8)) fun x16_1 =>
 purK (binA Try.prog H .add 3 x2 (.int .i64 8)) fun x18_1 =>
 J (Code.at [1,1,1,1] c93) (sp 25 [(0,x16_1),(2,x18_1)]) H (kk none (fun s H => R (gs [2] s) H) [] R [2]))
 (
 J (Code.at [1,1,1,1] c93) (sp 25 [(0,x0),(2,x2)]) H (kk none (fun s H => R (gs [2] s) H) [] R [2])) := by
 kernel_rfl
theorem N93_2_eq (ρ call yc lim k x0 x2 H R) :
 evL (cx ρ) call yc false 93 lim k (Code.at [1,1,1] c93) (sp 25 [(0,x0),(2,x2)]) H (kk none (fun s H => R (gs [2] s) H) [] R [2]) = N93_2 ρ call yc lim k x0 x2 H R := by
 rw [evL_X,N93_2_x]
 simp only [← evL_X,N93_2,N93_3_eq]
noncomputable def N93_1 (ρ : RO) (call : CallF) (yc : YieldF) (lim k : Nat) (x0 x2 : AV) (H : Heap) (R : KR) : Res :=
 purK (binA Try.prog H .geq 49 x0 (.int .u64 65536)) fun x8_1 =>
 condK x8_1
 (
 purK (binA Try.prog H .shr 49 x0 (.int .u64 16)) fun x10_1 =>
 purK (binA Try.prog H .add 3 x2 (.int .i64 16)) fun x12_1 =>
 N93_2 ρ call yc lim k x10_1 x12_1 H R)
 (
 N93_2 ρ call yc lim k x0 x2 H R)
theorem N93_1_x (ρ call yc lim k J x0 x2 H R) :
 evX (cx ρ) call yc false 93 lim k J (Code.at [1,1] c93) (sp 25 [(0,x0),(2,x2)]) H (kk none (fun s H => R (gs [2] s) H) [] R [2]) =
 purK (binA Try.prog H .geq 49 x0 (.int .u64 65536)) fun x8_1 =>
 condK x8_1
 (
 purK (binA Try.prog H .shr 49 x0 (.int .u64 16)) fun x10_1 =>
 purK (binA Try.prog H .add 3 x2 (.int .i64 16)) fun x12_1 =>
 J (Code.at [1,1,1] c93) (sp 25 [(0,x10_1),(2,x12_1)]) H (kk none (fun s H => R (gs [2] s) H) [] R [2]))
 (
 J (Code.at [1,1,1] c93) (sp 25 [(0,x0),(2,x2)]) H (kk none (fun s H => R (gs [2] s) H) [] R [2])) := by
 kernel_rfl
theorem N93_1_eq (ρ call yc lim k x0 x2 H R) :
 evL (cx ρ) call yc false 93 lim k (Code.at [1,1] c93) (sp 25 [(0,x0),(2,x2)]) H (kk none (fun s H => R (gs [2] s) H) [] R [2]) = N93_1 ρ call yc lim k x0 x2 H R := by
 rw [evL_X,N93_1_x]
 simp only [← evL_X,N93_1,N93_2_eq]
noncomputable def L93 (ρ : RO) (call : CallF) (yc : YieldF) (lim k : Nat) (x0 : AV) (H : Heap) : Res :=
 purK (binA Try.prog H .geq 49 x0 (.int .u64 4294967296)) fun x4 =>
 condK x4
 (
 purK (binA Try.prog H .shr 49 x0 (.int .u64 32)) fun x6 =>
 N93_1 ρ call yc lim k x6 (.int .i64 32) H retK)
 (
 N93_1 ρ call yc lim k x0 (.int .i64 0) H retK)
theorem L93_x (ρ call yc lim k J x0 H) :
 evX (cx ρ) call yc false 93 lim k J c93 ([x0] ++ List.replicate 24 (.tup [])) H (kk none (fun s H => retK (gs [2] s) H) [] retK [2]) =
 purK (binA Try.prog H .geq 49 x0 (.int .u64 4294967296)) fun x4 =>
 condK x4
 (
 purK (binA Try.prog H .shr 49 x0 (.int .u64 32)) fun x6 =>
 J (Code.at [1,1] c93) (sp 25 [(0,x6),(2,(.int .i64 32))]) H (kk none (fun s H => retK (gs [2] s) H) [] retK [2]))
 (
 J (Code.at [1,1] c93) (sp 25 [(0,x0),(2,(.int .i64 0))]) H (kk none (fun s H => retK (gs [2] s) H) [] retK [2])) := by
 kernel_rfl
theorem G93 (ρ call yc lim k x0 H) :
 evL (cx ρ) call yc false 93 lim k c93 ([x0] ++ List.replicate 24 (.tup [])) H (kk none (fun s H => retK (gs [2] s) H) [] retK [2]) = L93 ρ call yc lim k x0 H := by
 rw [evL_X,L93_x]
 simp only [← evL_X,L93,N93_1_eq]
theorem E93 (ρ : RO) (k lim : Nat) (x0 : AV) (H : Heap) : evCall (cx ρ) (k + 1) lim 93 [x0] H = L93 ρ (evCall (cx ρ) k) (evCY (cx ρ) k).2 lim k x0 H := by
 rw [evCall_body (cx ρ) k lim 93 _ H Try.f93 c93 [2] (by kernel_rfl) (by kernel_rfl) (by kernel_rfl) (by kernel_rfl) (by kernel_rfl)]
 exact G93 ρ (evCall (cx ρ) k) (evCY (cx ρ) k).2 lim k x0 H
-- slices.IndexFunc[[]haycroft/history.node,haycroft/history.node]
noncomputable def c94 : Code := Code.of Try.prog 94
noncomputable def N94_1 (ρ : RO) (call : CallF) (yc : YieldF) (lim k : Nat) (H : Heap) (R : KR) : Res :=
 R [(.int .i64 (-1))] H
theorem N94_1_eq (ρ call yc lim k H R) :
 evL (cx ρ) call yc false 94 lim k (Code.at [1,1] c94) (sp 19 []) H (kk none (fun s H => R (gs [4] s) H) [] R [4]) = N94_1 ρ call yc lim k H R := by
 kernel_rfl
noncomputable def N94_3b (ρ : RO) (call : CallF) (yc : YieldF) (lim k : Nat) (x0 x1 x7 x8 : AV) (H : Heap) (kn : AV → Heap → Res) (k0 : Heap → Res) (R : KR) : Res :=
 purK (binA Try.prog H .lss 3 x8 x7) fun x9_1 =>
 condK x9_1
 (
 purK (ixS 3 x0 x8) fun x14_1 =>
 purK (ldN ρ H 3 x14_1) fun x15_1 =>
 valK call yc lim x1 [x15_1] H fun x16_1 H =>
 condK x16_1
 (
 R [x8] H)
 (
 purK (binA Try.prog H .add 3 x8 (.int .i64 1)) fun x18_1 =>
 kn x18_1 H))
 (
 k0 H)
theorem N94_3b_eq (ρ call yc lim k x0 x1 x7 x8 H kn k0 R) :
 evL (cx ρ) call yc false 94 lim k (Code.at [1,0,1,0,0] c94) (sp 19 [(0,x0),(1,x1),(7,x7),(8,x8)]) H (kk (some [0,1,7,8]) kn [(0,(some []),k0)] R [4]) = N94_3b ρ call yc lim k x0 x1 x7 x8 H (fun x8 H => kn (sp 19 [(0,x0),(1,x1),(7,x7),(8,x8)]) H) (fun H => k0 (sp 19 []) H) R := by
 kernel_rfl
noncomputable def N94_3 (ρ : RO) (call : CallF) (yc : YieldF) (lim k : Nat) (x0 x1 x7 x8 : AV) (H : Heap) (k0 : Heap → Res) (R : KR) : Res :=
 loopL (fun (x : AV) H kn => N94_3b ρ call yc lim k x0 x1 x7 x H (fun x8 H => kn x8 H) k0 R) k x8 H
theorem N94_3_eq (ρ call yc lim k x0 x1 x7 x8 H kn k0 R) :
 evL (cx ρ) call yc false 94 lim k (Code.at [1,0,1,0] c94) (sp 19 [(0,x0),(1,x1),(7,x7),(8,x8)]) H (kk (some []) kn [(0,(some []),k0)] R [4]) = N94_3 ρ call yc lim k x0 x1 x7 x8 H (fun H => k0 (sp 19 []) H) R := by
 have e : Code.at [1,0,1,0] c94 = .loop (Code.at [1,0,1,0,0] c94) := by kernel_rfl
 rw [e]
 unfold N94_3
 exact loop_node [0,1,7,8] (fun x : AV => (sp 19 [(0,x0),(1,x1),(7,x7),(8,(x))])) (fun (x : AV) H kn => N94_3b ρ call yc lim k x0 x1 x7 x H (fun x8 H => kn x8 H) (fun H => k0 (sp 19 []) H) R) (by kernel_rfl) (fun x => by kernel_rfl) (fun x H kn => N94_3b_eq ρ call yc lim k x0 x1 x7 (x) H kn k0 R) x8 (sp 19 [(0,x0),(1,x1),(7,x7),(8,x8)]) H (by kernel_rfl)
noncomputable def N94_2 (ρ : RO) (call : CallF) (yc : YieldF) (lim k : Nat) (x0 x1 x7 x8 : AV) (H : Heap) (kn : Heap → Res) (R : KR) : Res :=
 N94_3 ρ call yc lim k x0 x1 x7 x8 H kn R
theorem N94_2_x (ρ call yc lim k J x0 x1 x7 x8 H kn R) :
 evX (cx ρ) call yc false 94 lim k J (Code.at [1,0,1] c94) (sp 19 [(0,x0),(1,x1),(7,x7),(8,x8)]) H (kk (some []) kn [] R [4]) =
 J (Code.at [1,0,1,0] c94) (sp 19 [(0,x0),(1,x1),(7,x7),(8,x8)]) H (kk (some []) kn [(0,(some []),kn)] R [4]) := by
 kernel_rfl
theorem N94_2_eq (ρ call yc lim k x0 x1 x7 x8 H kn R) :
 evL (cx ρ) call yc false 94 lim k (Code.at [1,0,1] c94) (sp 19 [(0,x0),(1,x1),(7,x7),(8,x8)]) H (kk (some []) kn [] R [4]) = N94_2 ρ call yc lim k x0 x1 x7 x8 H (fun H => kn (sp 19 []) H) R := by
 rw [evL_X,N94_2_x]
 simp only [← evL_X,N94_2,N94_3_eq]
noncomputable def L94 (ρ : RO) (call : CallF) (yc : YieldF) (lim k : Nat) (x0 x1 : AV) (H : Heap) : Res :=
 purK (lenS x0) fun x7 =>
 N94_2 ρ call yc lim k x0 x1 x7 (.int .i64 0) H (fun H =>
 N94_1 ρ call yc lim k H retK) retK
theorem L94_x (ρ call yc lim k J x0 x1 H) :
 evX (cx ρ) call yc false 94 lim k J c94 ([x0,x1] ++ List.replicate 17 (.tup [])) H (kk none (fun s H => retK (gs [4] s) H) [] retK [4]) =
 purK (lenS x0) fun x7 =>
 J (Code.at [1,0,1] c94) (sp 19 [(0,x0),(1,x1),(7,x7),(8,(.int .i64 0))]) H (kk (some []) (fun s H => J (Code.at [1,1] c94) s H (kk none (fun s H => retK (gs [4] s) H) [] retK [4])) [] retK [4]) := by
 kernel_rfl
theorem G94 (ρ call yc lim k x0 x1 H) :
 evL (cx ρ) call yc false 94 lim k c94 ([x0,x1] ++ List.replicate 17 (.tup [])) H (kk none (fun s H => retK (gs [4] s) H) [] retK [4]) = L94 ρ call yc lim k x0 x1 H := by
 rw [evL_X,L94_x]
 simp only [← evL_X,L94,N94_1_eq,N94_2_eq]
theorem E94 (ρ : RO) (k lim : Nat) (x0 x1 : AV) (H : Heap) : evCall (cx ρ) (k + 1) lim 94 [x0,x1] H = L94 ρ (evCall (cx ρ) k) (evCY (cx ρ) k).2 lim k x0 x1 H := by
 rw [evCall_body (cx ρ) k lim 94 _ H Try.f94 c94 [4] (by kernel_rfl) (by kernel_rfl) (by kernel_rfl) (by kernel_rfl) (by kernel_rfl)]
 exact G94 ρ (evCall (cx ρ) k) (evCY (cx ρ) k).2 lim k x0 x1 H
-- (*haycroft/history.search).may
noncomputable def c95 : Code := Code.of Try.prog 95
noncomputable def N95_2 (ρ : RO) (call : CallF) (yc : YieldF) (lim k : Nat) (x2 x4 x6 x10 x11 : AV) (H : Heap) (R : KR) : Res :=
 purK (addA 0 x4) fun x75_1 =>
 purK (ld1 ρ H x75_1) fun x76_1 =>
 purK (binA Try.prog H .shl 101 (.int .u32 1) x2) fun x78_1 =>
 purK (binA Try.prog H .or 101 x76_1 x78_1) fun x79_1 =>
 purK (bldA [.str ByteArray.empty,.bool false] [(0,1,x10),(1,1,x11)]) fun x82_1 =>
 purK (bldA [.int .u32 0,.str ByteArray.empty,.bool false] [(0,1,x79_1),(1,2,x82_1)]) fun x83_1 =>
 effK H (stA lim H 3 x6 x83_1) fun _ H =>
 R [x6,(.bool true)] H
theorem N95_2_eq (ρ call yc lim k x2 x4 x6 x10 x11 H R) :
 evL (cx ρ) call yc false 95 lim k (Code.at [1,1,1,1,1,1] c95) (sp 84 [(2,x2),(4,x4),(6,x6),(10,x10),(11,x11)]) H (kk none (fun s H => R (gs [6,7] s) H) [] R [6,7]) = N95_2 ρ call yc lim k x2 x4 x6 x10 x11 H R := by
 kernel_rfl
noncomputable def N95_3 (ρ : RO) (call : CallF) (yc : YieldF) (lim k : Nat) (x2 x4 x6 x10 x11 x73 : AV) (H : Heap) (kn : AV → AV → AV → AV → AV → Heap → Res) (R : KR) : Res :=
 condK x73
 (
 purK (bldA [.int .u32 0,.str ByteArray.empty,.bool false] []) fun x74_1 =>
 effK H (stA lim H 3 x6 x74_1) fun _ H =>
 R [x6,(.bool false)] H)
 (
 kn x2 x4 x6 x10 x11 H)
theorem N95_3_eq (ρ call yc lim k x2 x4 x6 x10 x11 x73 H kn R) :
 evL (cx ρ) call yc false 95 lim k (Code.at [1,1,1,1,1,0,1] c95) (sp 84 [(2,x2),(4,x4),(6,x6),(10,x10),(11,x11),(73,x73)]) H (kk (some [2,4,6,10,11]) kn [] R [6,7]) = N95_3 ρ call yc lim k x2 x4 x6 x10 x11 x73 H (fun x2 x4 x6 x10 x11 H => kn (sp 84 [(2,x2),(4,x4),(6,x6),(10,x10),(11,x11)]) H) R := by
 kernel_rfl
noncomputable def N95_1 (ρ : RO) (call : CallF) (yc : YieldF) (lim k : Nat) (x2 x4 x6 x8 : AV) (H : Heap) (R : KR) : Res :=
 purK (addA 1 x4) fun x53_1 =>
 purK (addA 0 x53_1) fun x54_1 =>
 purK (ld1 ρ H x54_1) fun x55_1 =>
 purK (addA 1 x4) fun x56_1 =>
 purK (addA 1 x56_1) fun x57_1 =>
 purK (ld1 ρ H x57_1) fun x58_1 =>
 purK (addA 0 x8) fun x59_1 =>
 purK (ldN ρ H 4 x59_1) fun x60_1 =>
 resK (call lim 29 [x55_1,x58_1,x60_1] H) fun x61_1 H =>
 purK (extA 0 x61_1) fun x62_1 =>
 purK (extA 1 x61_1) fun x63_1 =>
 purK (extA 2 x61_1) fun x64_1 =>
 effK H (some (.ptr H.sz 0 0,.new (newCells 53 false [.int .i64 0,.str ByteArray.empty]))) fun x12_1 H =>
 effK H (stA lim H 2 x12_1 x64_1) fun _ H =>
 purK (addA 7 x8) fun x65_1 =>
 purK (ld1 ρ H x65_1) fun x66_1 =>
 purK (binA Try.prog H .gtr 3 x66_1 (.int .i64 0)) fun x67_1 =>
 purK (gPur (wantV x67_1 true) (ldN ρ H 2 x12_1)) fun x69_1 =>
 purK (gPur (wantV x67_1 true) (addA 4 x8)) fun x70_1 =>
 purK (gPur (wantV x67_1 true) (ldN ρ H 2 x70_1)) fun x71_1 =>
 purK (gPur (wantV x67_1 true) (binA Try.prog H .neq 53 x69_1 x71_1)) fun x72_1 =>
 purK (pickA x67_1 x72_1 (.bool false)) fun x73_1 =>
 N95_3 ρ call yc lim k x2 x4 x6 x62_1 x63_1 x73_1 H (fun x2_1 x4_1 x6_1 x10_1 x11_1 H =>
 N95_2 ρ call yc lim k x2_1 x4_1 x6_1 x10_1 x11_1 H R) R
theorem N95_1_x (ρ call yc lim k J x2 x4 x6 x8 H R) :
 evX (cx ρ) call yc false 95 lim k J (Code.at [1,1,1,1] c95) (sp 84 [(2,x2),(4,x4),(6,x6),(8,x8)]) H (kk none (fun s H => R (gs [6,7] s) H) [] R [6,7]) =
 purK (addA 1 x4) fun x53_1 =>
 purK (addA 0 x53_1) fun x54_1 =>
 purK (ld1 ρ H x54_1) fun x55_1 =>
 purK (addA 1 x4) fun x56_1 =>
 purK (addA 1 x56_1) fun x57_1 =>
 purK (ld1 ρ H x57_1) fun x58_1 =>
 purK (addA 0 x8) fun x59_1 =>
 purK (ldN ρ H 4 x59_1) fun x60_1 =>
 resK (call lim 29 [x55_1,x58_1,x60_1] H) fun x61_1 H =>
 purK (extA 0 x61_1) fun x62_1 =>
 purK (extA 1 x61_1) fun x63_1 =>
 purK (extA 2 x61_1) fun x64_1 =>
 effK H (some (.ptr H.sz 0 0,.new (newCells 53 false [.int .i64 0,.str ByteArray.empty]))) fun x12_1 H =>
 effK H (stA lim H 2 x12_1 x64_1) fun _ H =>
 purK (addA 7 x8) fun x65_1 =>
 purK (ld1 ρ H x65_1) fun x66_1 =>
 purK (binA Try.prog H .gtr 3 x66_1 (.int .i64 0)) fun x67_1 =>
 purK (gPur (wantV x67_1 true) (ldN ρ H 2 x12_1)) fun x69_1 =>
 purK (gPur (wantV x67_1 true) (addA 4 x8)) fun x70_1 =>
 purK (gPur (wantV x67_1 true) (ldN ρ H 2 x70_1)) fun x71_1 =>
 purK (gPur (wantV x67_1 true) (binA Try.prog H .neq 53 x69_1 x71_1)) fun x72_1 =>
 purK (pickA x67_1 x72_1 (.bool false)) fun x73_1 =>
 J (Code.at [1,1,1,1,1,0,1] c95) (sp 84 [(2,x2),(4,x4),(6,x6),(10,x62_1),(11,x63_1),(73,x73_1)]) H (kk (some [2,4,6,10,11]) (fun s H => J (Code.at [1,1,1,1,1,1] c95) s H (kk none (fun s H => R (gs [6,7] s) H) [] R [6,7])) [] R [6,7]) := by
 kernel_rfl
theorem N95_1_eq (ρ call yc lim k x2 x4 x6 x8 H R) :
 evL (cx ρ) call yc false 95 lim k (Code.at [1,1,1,1] c95) (sp 84 [(2,x2),(4,x4),(6,x6),(8,x8)]) H (kk none (fun s H => R (gs [6,7] s) H) [] R [6,7]) = N95_1 ρ call yc lim k x2 x4 x6 x8 H R := by
 rw [evL_X,N95_1_x]
 simp only [← evL_X,N95_1,N95_2_eq,N95_3_eq]
noncomputable def N95_4 (ρ : RO) (call : CallF) (yc : YieldF) (lim k : Nat) (x2 x4 x6 x8 x50 : AV) (H : Heap) (kn : AV → AV → AV → AV → Heap → Res) (R : KR) : Res :=
 condK x50
 (
 purK (bldA [.int .u32 0,.str ByteArray.empty,.bool false] []) fun x51_1 =>
 effK H (stA lim H 3 x6 x51_1) fun _ H =>
 R [x6,(.bool false)] H)
 (
 kn x2 x4 x6 x8 H)
theorem N95_4_eq (ρ call yc lim k x2 x4 x6 x8 x50 H kn R) :
 evL (cx ρ) call yc false 95 lim k (Code.at [1,1,1,0,1] c95) (sp 84 [(2,x2),(4,x4),(6,x6),(8,x8),(50,x50)]) H (kk (some [2,4,6,8]) kn [] R [6,7]) = N95_4 ρ call yc lim k x2 x4 x6 x8 x50 H (fun x2 x4 x6 x8 H => kn (sp 84 [(2,x2),(4,x4),(6,x6),(8,x8)]) H) R := by
 kernel_rfl
noncomputable def L95 (ρ : RO) (call : CallF) (yc : YieldF) (lim k : Nat) (x0 x1 x2 : AV) (H : Heap) : Res :=
 effK H (boxA H 105 x1) fun x4 H =>
 effK H (some (.ptr H.sz 0 0,.new (newCells 105 false [.int .u32 0,.str ByteArray.empty,.bool false]))) fun x6 H =>
 purK (nilChkA x0) fun x14 =>
 purK (addA 0 x14) fun x15 =>
 purK (ld1 ρ H x15) fun x16 =>
 purK (ixS 8 x16 x2) fun x18 =>
 purK (ldN ρ H 8 x18) fun x19 =>
 effK H (some (.ptr H.sz 0 0,.new (newCells 55 false [.int .i64 0,.str ByteArray.empty,.str ByteArray.empty,.int .u64 0,.int .i64 0,.str ByteArray.empty,.int .i64 0,.int .i64 0]))) fun x8 H =>
 effK H (stA lim H 8 x8 x19) fun _ H =>
 purK (addA 7 x8) fun x20 =>
 purK (ld1 ρ H x20) fun x21 =>
 purK (binA Try.prog H .gtr 3 x21 (.int .i64 0)) fun x22 =>
 purK (gPur (wantV x22 true) (addA 4 x8)) fun x24 =>
 purK (gPur (wantV x22 true) (addA 0 x24)) fun x25 =>
 purK (gPur (wantV x22 true) (ld1 ρ H x25)) fun x26 =>
 purK (gPur (wantV x22 true) (binA Try.prog H .eql 25 x26 (.int .i64 9))) fun x27 =>
 purK (pickA x22 x27 (.bool false)) fun x28 =>
 purK (gPur (wantV x28 false) (addA 0 x4)) fun x31 =>
 purK (gPur (wantV x28 false) (ld1 ρ H x31)) fun x32 =>
 purK (gPur (wantV x28 false) (some x2)) fun x33 =>
 purK (gPur (wantV x28 false) (binA Try.prog H .shr 101 x32 x33)) fun x34 =>
 purK (gPur (wantV x28 false) (binA Try.prog H .and 101 x34 (.int .u32 1))) fun x35 =>
 purK (gPur (wantV x28 false) (binA Try.prog H .eql 101 x35 (.int .u32 1))) fun x36 =>
 purK (pickA x28 (.bool true) x36) fun x37 =>
 purK (gPur (wantV x37 false) (some x0)) fun x39 =>
 purK (gPur (wantV x37 false) (nilChkA x39)) fun x40 =>
 purK (gPur (wantV x37 false) (addA 2 x40)) fun x41 =>
 purK (gPur (wantV x37 false) (ld1 ρ H x41)) fun x42 =>
 purK (gPur (wantV x37 false) (some x2)) fun x43 =>
 purK (gPur (wantV x37 false) (ixS 1 x42 x43)) fun x44 =>
 purK (gPur (wantV x37 false) (ld1 ρ H x44)) fun x45 =>
 purK (gPur (wantV x37 false) (addA 0 x4)) fun x46 =>
 purK (gPur (wantV x37 false) (ld1 ρ H x46)) fun x47 =>
 purK (gPur (wantV x37 false) (binA Try.prog H .andNot 101 x45 x47)) fun x48 =>
 purK (gPur (wantV x37 false) (binA Try.prog H .neq 101 x48 (.int .u32 0))) fun x49 =>
 purK (pickA x37 (.bool true) x49) fun x50 =>
 N95_4 ρ call yc lim k x2 x4 x6 x8 x50 H (fun x2_1 x4_1 x6_1 x8_1 H =>
 N95_1 ρ call yc lim k x2_1 x4_1 x6_1 x8_1 H (retC (cx ρ) [some 105,none])) (retC (cx ρ) [some 105,none])
theorem L95_x (ρ call yc lim k J x0 x1 x2 H) :
 evX (cx ρ) call yc false 95 lim k J c95 ([x0,x1,x2] ++ List.replicate 81 (.tup [])) H (kk none (fun s H => (retC (cx ρ) [some 105,none]) (gs [6,7] s) H) [] (retC (cx ρ) [some 105,none]) [6,7]) =
 effK H (boxA H 105 x1) fun x4 H =>
 effK H (some (.ptr H.sz 0 0,.new (newCells 105 false [.int .u32 0,.str ByteArray.empty,.bool false]))) fun x6 H =>
 purK (nilChkA x0) fun x14 =>
 purK (addA 0 x14) fun x15 =>
 purK (ld1 ρ H x15) fun x16 =>
 purK (ixS 8 x16 x2) fun x18 =>
 purK (ldN ρ H 8 x18) fun x19 =>
 effK H (some (.ptr H.sz 0 0,.new (newCells 55 false [.int .i64 0,.str ByteArray.empty,.str ByteArray.empty,.int .u64 0,.int .i64 0,.str ByteArray.empty,.int .i64 0,.int .i64 0]))) fun x8 H =>
 effK H (stA lim H 8 x8 x19) fun _ H =>
 purK (addA 7 x8) fun x20 =>
 purK (ld1 ρ H x20) fun x21 =>
 purK (binA Try.prog H .gtr 3 x21 (.int .i64 0)) fun x22 =>
 purK (gPur (wantV x22 true) (addA 4 x8)) fun x24 =>
 purK (gPur (wantV x22 true) (addA 0 x24)) fun x25 =>
 purK (gPur (wantV x22 true) (ld1 ρ H x25)) fun x26 =>
 purK (gPur (wantV x22 true) (binA Try.prog H .eql 25 x26 (.int .i64 9))) fun x27 =>
 purK (pickA x22 x27 (.bool false)) fun x28 =>
 purK (gPur (wantV x28 false) (addA 0 x4)) fun x31 =>
 purK (gPur (wantV x28 false) (ld1 ρ H x31)) fun x32 =>
 purK (gPur (wantV x28 false) (some x2)) fun x33 =>
 purK (gPur (wantV x28 false) (binA Try.prog H .shr 101 x32 x33)) fun x34 =>
 purK (gPur (wantV x28 false) (binA Try.prog H .and 101 x34 (.int .u32 1))) fun x35 =>
 purK (gPur (wantV x28 false) (binA Try.prog H .eql 101 x35 (.int .u32 1))) fun x36 =>
 purK (pickA x28 (.bool true) x36) fun x37 =>
 purK (gPur (wantV x37 false) (some x0)) fun x39 =>
 purK (gPur (wantV x37 false) (nilChkA x39)) fun x40 =>
 purK (gPur (wantV x37 false) (addA 2 x40)) fun x41 =>
 purK (gPur (wantV x37 false) (ld1 ρ H x41)) fun x42 =>
 purK (gPur (wantV x37 false) (some x2)) fun x43 =>
 purK (gPur (wantV x37 false) (ixS 1 x42 x43)) fun x44 =>
 purK (gPur (wantV x37 false) (ld1 ρ H x44)) fun x45 =>
 purK (gPur (wantV x37 false) (addA 0 x4)) fun x46 =>
 purK (gPur (wantV x37 false) (ld1 ρ H x46)) fun x47 =>
 purK (gPur (wantV x37 false) (binA Try.prog H .andNot 101 x45 x47)) fun x48 =>
 purK (gPur (wantV x37 false) (binA Try.prog H .neq 101 x48 (.int .u32 0))) fun x49 =>
 purK (pickA x37 (.bool true) x49) fun x50 =>
 J (Code.at [1,1,1,0,1] c95) (sp 84 [(2,x2),(4,x4),(6,x6),(8,x8),(50,x50)]) H (kk (some [2,4,6,8]) (fun s H => J (Code.at [1,1,1,1] c95) s H (kk none (fun s H => (retC (cx ρ) [some 105,none]) (gs [6,7] s) H) [] (retC (cx ρ) [some 105,none]) [6,7])) [] (retC (cx ρ) [some 105,none]) [6,7]) := by
 kernel_rfl
theorem G95 (ρ call yc lim k x0 x1 x2 H) :
 evL (cx ρ) call yc false 95 lim k c95 ([x0,x1,x2] ++ List.replicate 81 (.tup [])) H (kk none (fun s H => (retC (cx ρ) [some 105,none]) (gs [6,7] s) H) [] (retC (cx ρ) [some 105,none]) [6,7]) = L95 ρ call yc lim k x0 x1 x2 H := by
 rw [evL_X,L95_x]
 simp only [← evL_X,L95,N95_1_eq,N95_4_eq]
theorem E95 (ρ : RO) (k lim : Nat) (x0 x1 x2 : AV) (H : Heap) : evCall (cx ρ) (k + 1) lim 95 [x0,x1,x2] H = L95 ρ (evCall (cx ρ) k) (evCY (cx ρ) k).2 lim k x0 x1 x2 H := by
 rw [evCall_cells (cx ρ) k lim 95 _ H Try.f95 c95 [6,7] [some 105,none] (by kernel_rfl) (by kernel_rfl) (by kernel_rfl) (by kernel_rfl) (by kernel_rfl) (by kernel_rfl)]
 exact G95 ρ (evCall (cx ρ) k) (evCY (cx ρ) k).2 lim k x0 x1 x2 H
-- haycroft/field.Words
noncomputable def c96 : Code := Code.of Try.prog 96
noncomputable def N96_1 (ρ : RO) (call : CallF) (yc : YieldF) (lim k : Nat) (x3 : AV) (H : Heap) (R : KR) : Res :=
 R [x3] H
theorem N96_1_eq (ρ call yc lim k x3 H R) :
 evL (cx ρ) call yc false 96 lim k (Code.at [1,1,1] c96) (sp 33 [(3,x3)]) H (kk none (fun s H => R (gs [2] s) H) [] R [2]) = N96_1 ρ call yc lim k x3 H R := by
 kernel_rfl
noncomputable def N96_3b (ρ : RO) (call : CallF) (yc : YieldF) (lim k : Nat) (x0 x3 x12 x13 : AV) (H : Heap) (kn : AV → Heap → Res) (k0 : AV → Heap → Res) : Res :=
 purK (binA Try.prog H .lss 3 x13 x12) fun x14_1 =>
 condK x14_1
 (
 purK (binA Try.prog H .quo 3 x13 (.int .i64 8)) fun x18_1 =>
 purK (ixS 1 x3 x18_1) fun x19_1 =>
 purK (ld1 ρ H x19_1) fun x20_1 =>
 purK (ixT x0 x13) fun x23_1 =>
 purK (cvI .u64 x23_1) fun x24_1 =>
 purK (binA Try.prog H .rem 3 x13 (.int .i64 8)) fun x26_1 =>
 purK (binA Try.prog H .mul 3 x26_1 (.int .i64 8)) fun x27_1 =>
 purK (binA Try.prog H .shl 49 x24_1 x27_1) fun x28_1 =>
 purK (binA Try.prog H .or 49 x20_1 x28_1) fun x29_1 =>
 purK (ixS 1 x3 x18_1) fun x30_1 =>
 effK H (stA lim H 1 x30_1 x29_1) fun _ H =>
 purK (binA Try.prog H .add 3 x13 (.int .i64 1)) fun x31_1 =>
 kn x31_1 H)
 (
 k0 x3 H)
theorem N96_3b_eq (ρ call yc lim k x0 x3 x12 x13 H kn k0 R) :
 evL (cx ρ) call yc false 96 lim k (Code.at [1,1,0,1,0,0] c96) (sp 33 [(0,x0),(3,x3),(12,x12),(13,x13)]) H (kk (some [0,3,12,13]) kn [(0,(some [3]),k0)] R [2]) = N96_3b ρ call yc lim k x0 x3 x12 x13 H (fun x13 H => kn (sp 33 [(0,x0),(3,x3),(12,x12),(13,x13)]) H) (fun x3 H => k0 (sp 33 [(3,x3)]) H) := by
 kernel_rfl
noncomputable def N96_3 (ρ : RO) (call : CallF) (yc : YieldF) (lim k : Nat) (x0 x3 x12 x13 : AV) (H : Heap) (k0 : AV → Heap → Res) : Res :=
 loopL (fun (x : AV) H kn => N96_3b ρ call yc lim k x0 x3 x12 x H (fun x13 H => kn x13 H) k0) k x13 H
theorem N96_3_eq (ρ call yc lim k x0 x3 x12 x13 H kn k0 R) :
 evL (cx ρ) call yc false 96 lim k (Code.at [1,1,0,1,0] c96) (sp 33 [(0,x0),(3,x3),(12,x12),(13,x13)]) H (kk (some [3]) kn [(0,(some [3]),k0)] R [2]) = N96_3 ρ call yc lim k x0 x3 x12 x13 H (fun x3 H => k0 (sp 33 [(3,x3)]) H) := by
 have e : Code.at [1,1,0,1,0] c96 = .loop (Code.at [1,1,0,1,0,0] c96) := by kernel_rfl
 rw [e]
 unfold N96_3
 exact loop_node [0,3,12,13] (fun x : AV => (sp 33 [(0,x0),(3,x3),(12,x12),(13,(x))])) (fun (x : AV) H kn => N96_3b ρ call yc lim k x0 x3 x12 x H (fun x13 H => kn x13 H) (fun x3 H => k0 (sp 33 [(3,x3)]) H)) (by kernel_rfl) (fun x => by kernel_rfl) (fun x H kn => N96_3b_eq ρ call yc lim k x0 x3 x12 (x) H kn k0 R) x13 (sp 33 [(0,x0),(3,x3),(12,x12),(13,x13)]) H (by kernel_rfl)
noncomputable def N96_2 (ρ : RO) (call : CallF) (yc : YieldF) (lim k : Nat) (x0 x3 x12 x13 : AV) (H : Heap) (kn : AV → Heap → Res) : Res :=
 N96_3 ρ call yc lim k x0 x3 x12 x13 H kn
theorem N96_2_x (ρ call yc lim k J x0 x3 x12 x13 H kn R) :
 evX (cx ρ) call yc false 96 lim k J (Code.at [1,1,0,1] c96) (sp 33 [(0,x0),(3,x3),(12,x12),(13,x13)]) H (kk (some [3]) kn [] R [2]) =
 J (Code.at [1,1,0,1,0] c96) (sp 33 [(0,x0),(3,x3),(12,x12),(13,x13)]) H (kk (some [3]) kn [(0,(some [3]),kn)] R [2]) := by
 kernel_rfl
theorem N96_2_eq (ρ call yc lim k x0 x3 x12 x13 H kn R) :
 evL (cx ρ) call yc false 96 lim k (Code.at [1,1,0,1] c96) (sp 33 [(0,x0),(3,x3),(12,x12),(13,x13)]) H (kk (some [3]) kn [] R [2]) = N96_2 ρ call yc lim k x0 x3 x12 x13 H (fun x3 H => kn (sp 33 [(3,x3)]) H) := by
 rw [evL_X,N96_2_x]
 simp only [← evL_X,N96_2,N96_3_eq]
noncomputable def L96 (ρ : RO) (call : CallF) (yc : YieldF) (lim k : Nat) (x0 : AV) (H : Heap) : Res :=
 purK (lenT x0) fun x6 =>
 purK (binA Try.prog H .add 3 x6 (.int .i64 8)) fun x7 =>
 purK (binA Try.prog H .sub 3 x7 (.int .i64 1)) fun x8 =>
 purK (binA Try.prog H .quo 3 x8 (.int .i64 8)) fun x9 =>
 effK H (mkS H 49 1 8 [.int .u64 0] x9 x9) fun x10 H =>
 purK (lenT x0) fun x12 =>
 N96_2 ρ call yc lim k x0 x10 x12 (.int .i64 0) H (fun x3 H =>
 N96_1 ρ call yc lim k x3 H retK)
theorem L96_x (ρ call yc lim k J x0 H) :
 evX (cx ρ) call yc false 96 lim k J c96 ([x0] ++ List.replicate 32 (.tup [])) H (kk none (fun s H => retK (gs [2] s) H) [] retK [2]) =
 purK (lenT x0) fun x6 =>
 purK (binA Try.prog H .add 3 x6 (.int .i64 8)) fun x7 =>
 purK (binA Try.prog H .sub 3 x7 (.int .i64 1)) fun x8 =>
 purK (binA Try.prog H .quo 3 x8 (.int .i64 8)) fun x9 =>
 effK H (mkS H 49 1 8 [.int .u64 0] x9 x9) fun x10 H =>
 purK (lenT x0) fun x12 =>
 J (Code.at [1,1,0,1] c96) (sp 33 [(0,x0),(3,x10),(12,x12),(13,(.int .i64 0))]) H (kk (some [3]) (fun s H => J (Code.at [1,1,1] c96) s H (kk none (fun s H => retK (gs [2] s) H) [] retK [2])) [] retK [2]) := by
 kernel_rfl
theorem G96 (ρ call yc lim k x0 H) :
 evL (cx ρ) call yc false 96 lim k c96 ([x0] ++ List.replicate 32 (.tup [])) H (kk none (fun s H => retK (gs [2] s) H) [] retK [2]) = L96 ρ call yc lim k x0 H := by
 rw [evL_X,L96_x]
 simp only [← evL_X,L96,N96_1_eq,N96_2_eq]
theorem E96 (ρ : RO) (k lim : Nat) (x0 : AV) (H : Heap) : evCall (cx ρ) (k + 1) lim 96 [x0] H = L96 ρ (evCall (cx ρ) k) (evCY (cx ρ) k).2 lim k x0 H := by
 rw [evCall_body (cx ρ) k lim 96 _ H Try.f96 c96 [2] (by kernel_rfl) (by kernel_rfl) (by kernel_rfl) (by kernel_rfl) (by kernel_rfl)]
 exact G96 ρ (evCall (cx ρ) k) (evCY (cx ρ) k).2 lim k x0 H
-- slices.siftDownOrdered[string]
noncomputable def c102 : Code := Code.of Try.prog 102
noncomputable def N102_4 (ρ : RO) (call : CallF) (yc : YieldF) (lim k : Nat) (x0 x2 x3 x9 : AV) (H : Heap) (kn : AV → Heap → Res) : Res :=
 kn x9 H
theorem N102_4_eq (ρ call yc lim k x0 x2 x3 x9 H kn k1 R) :
 evL (cx ρ) call yc false 102 lim k (Code.at [1,0,0,0,1,1,1,1,1] c102) (sp 76 [(0,x0),(2,x2),(3,x3),(9,x9)]) H (kk (some [0,2,3,8]) kn [(1,(some [0,2,3,8]),k1),(0,none,(fun s H => R (gs [] s) H))] R []) = N102_4 ρ call yc lim k x0 x2 x3 x9 H (fun x8 H => kn (sp 76 [(0,x0),(2,x2),(3,x3),(8,x8)]) H) := by
 kernel_rfl
noncomputable def N102_3 (ρ : RO) (call : CallF) (yc : YieldF) (lim k : Nat) (x0 x2 x3 x8 x9 : AV) (H : Heap) (kn : AV → Heap → Res) (R : KR) : Res :=
 purK (binA Try.prog H .add 3 x3 x8) fun x42_1 =>
 purK (ixS 1 x0 x42_1) fun x43_1 =>
 purK (ld1 ρ H x43_1) fun x44_1 =>
 purK (binA Try.prog H .add 3 x3 x9) fun x48_1 =>
 purK (ixS 1 x0 x48_1) fun x49_1 =>
 purK (ld1 ρ H x49_1) fun x50_1 =>
 resK (call lim 89 [x44_1,x50_1] H) fun x51_1 H =>
 purK (unA .not x51_1) fun x52_1 =>
 condK x52_1
 (
 R [] H)
 (
 purK (binA Try.prog H .add 3 x3 x8) fun x56_1 =>
 purK (binA Try.prog H .add 3 x3 x9) fun x60_1 =>
 purK (binA Try.prog H .add 3 x3 x9) fun x64_1 =>
 purK (ixS 1 x0 x64_1) fun x65_1 =>
 purK (ld1 ρ H x65_1) fun x66_1 =>
 purK (binA Try.prog H .add 3 x3 x8) fun x70_1 =>
 purK (ixS 1 x0 x70_1) fun x71_1 =>
 purK (ld1 ρ H x71_1) fun x72_1 =>
 purK (ixS 1 x0 x56_1) fun x73_1 =>
 effK H (stA lim H 1 x73_1 x66_1) fun _ H => bif (agn (binA Try.prog H .add 3 x3 x9) x60_1 && true) then
 purK (ixS 1 x0 x60_1) fun x74_1 =>
 effK H (stA lim H 1 x74_1 x72_1) fun _ H =>
 N102_4 ρ call yc lim k x0 x2 x3 x9 H kn
 else .stop)
theorem N102_3_x (ρ call yc lim k J x0 x2 x3 x8 x9 H kn k1 R) :
 evX (cx ρ) call yc false 102 lim k J (Code.at [1,0,0,0,1,1,1] c102) (sp 76 [(0,x0),(2,x2),(3,x3),(8,x8),(9,x9)]) H (kk (some [0,2,3,8]) kn [(1,(some [0,2,3,8]),k1),(0,none,(fun s H => R (gs [] s) H))] R []) =
 purK (binA Try.prog H .add 3 x3 x8) fun x42_1 =>
 purK (ixS 1 x0 x42_1) fun x43_1 =>
 purK (ld1 ρ H x43_1) fun x44_1 =>
 purK (binA Try.prog H .add 3 x3 x9) fun x48_1 =>
 purK (ixS 1 x0 x48_1) fun x49_1 =>
 purK (ld1 ρ H x49_1) fun x50_1 =>
 resK (call lim 89 [x44_1,x50_1] H) fun x51_1 H =>
 purK (unA .not x51_1) fun x52_1 =>
 condK x52_1
 (
 R [] H)
 (
 purK (binA Try.prog H .add 3 x3 x8) fun x56_1 =>
 purK (binA Try.prog H .add 3 x3 x9) fun x60_1 =>
 purK (binA Try.prog H .add 3 x3 x9) fun x64_1 =>
 purK (ixS 1 x0 x64_1) fun x65_1 =>
 purK (ld1 ρ H x65_1) fun x66_1 =>
 purK (binA Try.prog H .add 3 x3 x8) fun x70_1 =>
 purK (ixS 1 x0 x70_1) fun x71_1 =>
 purK (ld1 ρ H x71_1) fun x72_1 =>
 purK (ixS 1 x0 x56_1) fun x73_1 =>
 effK H (stA lim H 1 x73_1 x66_1) fun _ H => bif (agn (binA Try.prog H .add 3 x3 x9) x60_1 && true) then
 purK (ixS 1 x0 x60_1) fun x74_1 =>
 effK H (stA lim H 1 x74_1 x72_1) fun _ H =>
 J (Code.at [1,0,0,0,1,1,1,1,1] c102) (sp 76 [(0,x0),(2,x2),(3,x3),(9,x9)]) H (kk (some [0,2,3,8]) kn [(1,(some [0,2,3,8]),k1),(0,none,(fun s H => R (gs [] s) H))] R [])
 else .stop) := by
 kernel_rfl
theorem N102_3_eq (ρ call yc lim k x0 x2 x3 x8 x9 H kn k1 R) :
 evL (cx ρ) call yc false 102 lim k (Code.at [1,0,0,0,1,1,1] c102) (sp 76 [(0,x0),(2,x2),(3,x3),(8,x8),(9,x9)]) H (kk (some [0,2,3,8]) kn [(1,(some [0,2,3,8]),k1),(0,none,(fun s H => R (gs [] s) H))] R []) = N102_3 ρ call yc lim k x0 x2 x3 x8 x9 H (fun x8 H => kn (sp 76 [(0,x0),(2,x2),(3,x3),(8,x8)]) H) R := by
 rw [evL_X,N102_3_x]
 simp only [← evL_X,N102_3,N102_4_eq]
noncomputable def N102_5 (ρ : RO) (call : CallF) (yc : YieldF) (lim k : Nat) (x0 x2 x3 x8 x9 x36 : AV) (H : Heap) (kn : AV → AV → Heap → Res) : Res :=
 condK x36
 (
 purK (binA Try.prog H .add 3 x9 (.int .i64 1)) fun x38_1 =>
 kn x8 x38_1 H)
 (
 kn x8 x9 H)
theorem N102_5_eq (ρ call yc lim k x0 x2 x3 x8 x9 x36 H kn k1 R) :
 evL (cx ρ) call yc false 102 lim k (Code.at [1,0,0,0,1,1,0,1] c102) (sp 76 [(0,x0),(2,x2),(3,x3),(8,x8),(9,x9),(36,x36)]) H (kk (some [0,2,3,8,9]) kn [(1,(some [0,2,3,8]),k1),(0,none,(fun s H => R (gs [] s) H))] R []) = N102_5 ρ call yc lim k x0 x2 x3 x8 x9 x36 H (fun x8 x9 H => kn (sp 76 [(0,x0),(2,x2),(3,x3),(8,x8),(9,x9)]) H) := by
 kernel_rfl
noncomputable def N102_2b (ρ : RO) (call : CallF) (yc : YieldF) (lim k : Nat) (x0 x2 x3 x8 : AV) (H : Heap) (kn : AV → Heap → Res) (R : KR) : Res :=
 purK (binA Try.prog H .mul 3 (.int .i64 2) x8) fun x12_1 =>
 purK (binA Try.prog H .add 3 x12_1 (.int .i64 1)) fun x13_1 =>
 purK (binA Try.prog H .geq 3 x13_1 x2) fun x16_1 =>
 condK x16_1
 (
 R [] H)
 (
 purK (binA Try.prog H .add 3 x13_1 (.int .i64 1)) fun x18_1 =>
 purK (binA Try.prog H .lss 3 x18_1 x2) fun x20_1 =>
 boolK (wantV x20_1 true) fun b1 => purK (bif b1 then some x0 else some (.tup [])) fun x22_1 =>
 boolK (wantV x20_1 true) fun b2 => purK (bif b2 then some x3 else some (.tup [])) fun x23_1 =>
 boolK (wantV x20_1 true) fun b3 => purK (bif b3 then some x13_1 else some (.tup [])) fun x24_1 =>
 boolK (wantV x20_1 true) fun b4 => purK (bif b4 then binA Try.prog H .add 3 x23_1 x24_1 else some (.tup [])) fun x25_1 =>
 boolK (wantV x20_1 true) fun b5 => purK (bif b5 then ixS 1 x22_1 x25_1 else some (.tup [])) fun x26_1 =>
 boolK (wantV x20_1 true) fun b6 => purK (bif b6 then ld1 ρ H x26_1 else some (.tup [])) fun x27_1 =>
 boolK (wantV x20_1 true) fun b7 => purK (bif b7 then some x0 else some (.tup [])) fun x28_1 =>
 boolK (wantV x20_1 true) fun b8 => purK (bif b8 then some x3 else some (.tup [])) fun x29_1 =>
 boolK (wantV x20_1 true) fun b9 => purK (bif b9 then some x13_1 else some (.tup [])) fun x30_1 =>
 boolK (wantV x20_1 true) fun b10 => purK (bif b10 then binA Try.prog H .add 3 x29_1 x30_1 else some (.tup [])) fun x31_1 =>
 boolK (wantV x20_1 true) fun b11 => purK (bif b11 then binA Try.prog H .add 3 x31_1 (.int .i64 1) else some (.tup [])) fun x32_1 =>
 boolK (wantV x20_1 true) fun b12 => purK (bif b12 then ixS 1 x28_1 x32_1 else some (.tup [])) fun x33_1 =>
 boolK (wantV x20_1 true) fun b13 => purK (bif b13 then ld1 ρ H x33_1 else some (.tup [])) fun x34_1 =>
 boolK (wantV x20_1 true) fun b14 => resK (gRes (some b14) H (call lim 89 [x27_1,x34_1] H)) fun x35_1 H => bif !b14 || ((!b13 || true) && ((!b11 || true) && ((!b10 || true) && ((!b6 || true) && ((!b4 || true) && true))))) then
 purK (pickA x20_1 x35_1 (.bool false)) fun x36_1 =>
 N102_5 ρ call yc lim k x0 x2 x3 x8 x13_1 x36_1 H (fun x8_1 x9_1 H =>
 N102_3 ρ call yc lim k x0 x2 x3 x8_1 x9_1 H kn R)
 else .stop)
theorem N102_2b_x (ρ call yc lim k J x0 x2 x3 x8 H kn R) :
 evX (cx ρ) call yc false 102 lim k J (Code.at [1,0,0] c102) (sp 76 [(0,x0),(2,x2),(3,x3),(8,x8)]) H (kk (some [0,2,3,8]) kn [(0,none,(fun s H => R (gs [] s) H))] R []) =
 purK (binA Try.prog H .mul 3 (.int .i64 2) x8) fun x12_1 =>
 purK (binA Try.prog H .add 3 x12_1 (.int .i64 1)) fun x13_1 =>
 purK (binA Try.prog H .geq 3 x13_1 x2) fun x16_1 =>
 condK x16_1
 (
 R [] H)
 (
 purK (binA Try.prog H .add 3 x13_1 (.int .i64 1)) fun x18_1 =>
 purK (binA Try.prog H .lss 3 x18_1 x2) fun x20_1 =>
 boolK (wantV x20_1 true) fun b1 => purK (bif b1 then some x0 else some (.tup [])) fun x22_1 =>
 boolK (wantV x20_1 true) fun b2 => purK (bif b2 then some x3 else some (.tup [])) fun x23_1 =>
 boolK (wantV x20_1 true) fun b3 => purK (bif b3 then some x13_1 else some (.tup [])) fun x24_1 =>
 boolK (wantV x20_1 true) fun b4 => purK (bif b4 then binA Try.prog H .add 3 x23_1 x24_1 else some (.tup [])) fun x25_1 =>
 boolK (wantV x20_1 true) fun b5 => purK (bif b5 then ixS 1 x22_1 x25_1 else some (.tup [])) fun x26_1 =>
 boolK (wantV x20_1 true) fun b6 => purK (bif b6 then ld1 ρ H x26_1 else some (.tup [])) fun x27_1 =>
 boolK (wantV x20_1 true) fun b7 => purK (bif b7 then some x0 else some (.tup [])) fun x28_1 =>
 boolK (wantV x20_1 true) fun b8 => purK (bif b8 then some x3 else some (.tup [])) fun x29_1 =>
 boolK (wantV x20_1 true) fun b9 => purK (bif b9 then some x13_1 else some (.tup [])) fun x30_1 =>
 boolK (wantV x20_1 true) fun b10 => purK (bif b10 then binA Try.prog H .add 3 x29_1 x30_1 else some (.tup [])) fun x31_1 =>
 boolK (wantV x20_1 true) fun b11 => purK (bif b11 then binA Try.prog H .add 3 x31_1 (.int .i64 1) else some (.tup [])) fun x32_1 =>
 boolK (wantV x20_1 true) fun b12 => purK (bif b12 then ixS 1 x28_1 x32_1 else some (.tup [])) fun x33_1 =>
 boolK (wantV x20_1 true) fun b13 => purK (bif b13 then ld1 ρ H x33_1 else some (.tup [])) fun x34_1 =>
 boolK (wantV x20_1 true) fun b14 => resK (gRes (some b14) H (call lim 89 [x27_1,x34_1] H)) fun x35_1 H => bif !b14 || ((!b13 || true) && ((!b11 || true) && ((!b10 || true) && ((!b6 || true) && ((!b4 || true) && true))))) then
 purK (pickA x20_1 x35_1 (.bool false)) fun x36_1 =>
 J (Code.at [1,0,0,0,1,1,0,1] c102) (sp 76 [(0,x0),(2,x2),(3,x3),(8,x8),(9,x13_1),(36,x36_1)]) H (kk (some [0,2,3,8,9]) (fun s H => J (Code.at [1,0,0,0,1,1,1] c102) s H (kk (some [0,2,3,8]) kn [(1,(some [0,2,3,8]),kn),(0,none,(fun s H => R (gs [] s) H))] R [])) [(1,(some [0,2,3,8]),kn),(0,none,(fun s H => R (gs [] s) H))] R [])
 else .stop) := by
 kernel_rfl
theorem N102_2b_eq (ρ call yc lim k x0 x2 x3 x8 H kn R) :
 evL (cx ρ) call yc false 102 lim k (Code.at [1,0,0] c102) (sp 76 [(0,x0),(2,x2),(3,x3),(8,x8)]) H (kk (some [0,2,3,8]) kn [(0,none,(fun s H => R (gs [] s) H))] R []) = N102_2b ρ call yc lim k x0 x2 x3 x8 H (fun x8 H => kn (sp 76 [(0,x0),(2,x2),(3,x3),(8,x8)]) H) R := by
 rw [evL_X,N102_2b_x]
 simp only [← evL_X,N102_2b,N102_3_eq,N102_5_eq]
noncomputable def N102_2 (ρ : RO) (call : CallF) (yc : YieldF) (lim k : Nat) (x0 x2 x3 x8 : AV) (H : Heap) (R : KR) : Res :=
 loopL (fun (x : AV) H kn => N102_2b ρ call yc lim k x0 x2 x3 x H (fun x8 H => kn x8 H) R) k x8 H
theorem N102_2_eq (ρ call yc lim k x0 x2 x3 x8 H R) :
 evL (cx ρ) call yc false 102 lim k (Code.at [1,0] c102) (sp 76 [(0,x0),(2,x2),(3,x3),(8,x8)]) H (kk none (fun s H => R (gs [] s) H) [(0,none,(fun s H => R (gs [] s) H))] R []) = N102_2 ρ call yc lim k x0 x2 x3 x8 H R := by
 have e : Code.at [1,0] c102 = .loop (Code.at [1,0,0] c102) := by kernel_rfl
 rw [e]
 unfold N102_2
 exact loop_node [0,2,3,8] (fun x : AV => (sp 76 [(0,x0),(2,x2),(3,x3),(8,(x))])) (fun (x : AV) H kn => N102_2b ρ call yc lim k x0 x2 x3 x H (fun x8 H => kn x8 H) R) (by kernel_rfl) (fun x => by kernel_rfl) (fun x H kn => N102_2b_eq ρ call yc lim k x0 x2 x3 (x) H kn R) x8 (sp 76 [(0,x0),(2,x2),(3,x3),(8,x8)]) H (by kernel_rfl)
noncomputable def N102_1 (ρ : RO) (call : CallF) (yc : YieldF) (lim k : Nat) (x0 x2 x3 x8 : AV) (H : Heap) (R : KR) : Res :=
 N102_2 ρ call yc lim k x0 x2 x3 x8 H R
theorem N102_1_x (ρ call yc lim k J x0 x2 x3 x8 H R) :
 evX (cx ρ) call yc false 102 lim k J (Code.at [1] c102) (sp 76 [(0,x0),(2,x2),(3,x3),(8,x8)]) H (kk none (fun s H => R (gs [] s) H) [] R []) =
 J (Code.at [1,0] c102) (sp 76 [(0,x0),(2,x2),(3,x3),(8,x8)]) H (kk none (fun s H => R (gs [] s) H) [(0,none,(fun s H => R (gs [] s) H))] R []) := by
 kernel_rfl
theorem N102_1_eq (ρ call yc lim k x0 x2 x3 x8 H R) :
 evL (cx ρ) call yc false 102 lim k (Code.at [1] c102) (sp 76 [(0,x0),(2,x2),(3,x3),(8,x8)]) H (kk none (fun s H => R (gs [] s) H) [] R []) = N102_1 ρ call yc lim k x0 x2 x3 x8 H R := by
 rw [evL_X,N102_1_x]
 simp only [← evL_X,N102_1,N102_2_eq]
noncomputable def L102 (ρ : RO) (call : CallF) (yc : YieldF) (lim k : Nat) (x0 x1 x2 x3 : AV) (H : Heap) : Res :=
 N102_1 ρ call yc lim k x0 x2 x3 x1 H retK
theorem L102_x (ρ call yc lim k J x0 x1 x2 x3 H) :
 evX (cx ρ) call yc false 102 lim k J c102 ([x0,x1,x2,x3] ++ List.replicate 72 (.tup [])) H (kk none (fun s H => retK (gs [] s) H) [] retK []) =
 J (Code.at [1] c102) (sp 76 [(0,x0),(2,x2),(3,x3),(8,x1)]) H (kk none (fun s H => retK (gs [] s) H) [] retK []) := by
 kernel_rfl
theorem G102 (ρ call yc lim k x0 x1 x2 x3 H) :
 evL (cx ρ) call yc false 102 lim k c102 ([x0,x1,x2,x3] ++ List.replicate 72 (.tup [])) H (kk none (fun s H => retK (gs [] s) H) [] retK []) = L102 ρ call yc lim k x0 x1 x2 x3 H := by
 rw [evL_X,L102_x]
 simp only [← evL_X,L102,N102_1_eq]
theorem E102 (ρ : RO) (k lim : Nat) (x0 x1 x2 x3 : AV) (H : Heap) : evCall (cx ρ) (k + 1) lim 102 [x0,x1,x2,x3] H = L102 ρ (evCall (cx ρ) k) (evCY (cx ρ) k).2 lim k x0 x1 x2 x3 H := by
 rw [evCall_body (cx ρ) k lim 102 _ H Try.f102 c102 [] (by kernel_rfl) (by kernel_rfl) (by kernel_rfl) (by kernel_rfl) (by kernel_rfl)]
 exact G102 ρ (evCall (cx ρ) k) (evCY (cx ρ) k).2 lim k x0 x1 x2 x3 H
-- slices.nextPowerOfTwo
noncomputable def c103 : Code := Code.of Try.prog 103
noncomputable def L103 (ρ : RO) (call : CallF) (yc : YieldF) (lim k : Nat) (x0 : AV) (H : Heap) : Res :=
 purK (cvI .u64 x0) fun x4 =>
 resK (call lim 66 [x4] H) fun x5 H =>
 purK (binA Try.prog H .shl 121 (.int .u64 1) x5) fun x6 =>
 retK [x6] H
theorem G103 (ρ call yc lim k x0 H) :
 evL (cx ρ) call yc false 103 lim k c103 ([x0] ++ List.replicate 6 (.tup [])) H (kk none (fun s H => retK (gs [2] s) H) [] retK [2]) = L103 ρ call yc lim k x0 H := by
 kernel_rfl
theorem E103 (ρ : RO) (k lim : Nat) (x0 : AV) (H : Heap) : evCall (cx ρ) (k + 1) lim 103 [x0] H = L103 ρ (evCall (cx ρ) k) (evCY (cx ρ) k).2 lim k x0 H := by
 rw [evCall_body (cx ρ) k lim 103 _ H Try.f103 c103 [2] (by kernel_rfl) (by kernel_rfl) (by kernel_rfl) (by kernel_rfl) (by kernel_rfl)]
 exact G103 ρ (evCall (cx ρ) k) (evCY (cx ρ) k).2 lim k x0 H
end Go.Proofs.Ytkmohjddojpdjaa

-- part Ht11
/- Functions, lifted. Printed by a program of this repo. -/
set_option linter.unusedVariables false
set_option linter.unusedSimpArgs false
set_option maxRecDepth 100000
set_option maxHeartbeats 4000000
namespace Go.Proofs.Ytkmohjddojpdjaa
open Go.Ev Go.RowKit
-- (*slices.xorshift).Next
noncomputable def c104 : Code := Code.of Try.prog 104
noncomputable def N104_1 (ρ : RO) (call : CallF) (yc : YieldF) (lim k : Nat) (x0 : AV) (H : Heap) (R : KR) : Res :=
 purK (nilChkA x0) fun x31_1 =>
 purK (ld1 ρ H x31_1) fun x32_1 =>
 R [x32_1] H
theorem N104_1_eq (ρ call yc lim k x0 H R) :
 evL (cx ρ) call yc false 104 lim k (Code.at [1,1,1,1] c104) (sp 33 [(0,x0)]) H (kk none (fun s H => R (gs [2] s) H) [] R [2]) = N104_1 ρ call yc lim k x0 H R := by
 kernel_rfl
noncomputable def L104 (ρ : RO) (call : CallF) (yc : YieldF) (lim k : Nat) (x0 : AV) (H : Heap) : Res :=
 purK (nilChkA x0) fun x4 =>
 purK (ld1 ρ H x4) fun x5 =>
 purK (nilChkA x0) fun x7 =>
 purK (ld1 ρ H x7) fun x8 =>
 purK (binA Try.prog H .shl 160 x8 (.int .u64 13)) fun x9 =>
 purK (binA Try.prog H .xor 160 x5 x9) fun x10 =>
 purK (nilChkA x0) fun x11 =>
 effK H (stA lim H 1 x11 x10) fun _ H =>
 purK (nilChkA x0) fun x13 =>
 purK (ld1 ρ H x13) fun x14 =>
 purK (nilChkA x0) fun x16 =>
 purK (ld1 ρ H x16) fun x17 =>
 purK (binA Try.prog H .shr 160 x17 (.int .u64 7)) fun x18 =>
 purK (binA Try.prog H .xor 160 x14 x18) fun x19 =>
 purK (nilChkA x0) fun x20 =>
 effK H (stA lim H 1 x20 x19) fun _ H =>
 purK (nilChkA x0) fun x22 =>
 purK (ld1 ρ H x22) fun x23 =>
 purK (nilChkA x0) fun x25 =>
 purK (ld1 ρ H x25) fun x26 =>
 purK (binA Try.prog H .shl 160 x26 (.int .u64 17)) fun x27 =>
 purK (binA Try.prog H .xor 160 x23 x27) fun x28 =>
 purK (nilChkA x0) fun x29 =>
 effK H (stA lim H 1 x29 x28) fun _ H =>
 N104_1 ρ call yc lim k x0 H retK
theorem L104_x (ρ call yc lim k J x0 H) :
 evX (cx ρ) call yc false 104 lim k J c104 ([x0] ++ List.replicate 32 (.tup [])) H (kk none (fun s H => retK (gs [2] s) H) [] retK [2]) =
 purK (nilChkA x0) fun x4 =>
 purK (ld1 ρ H x4) fun x5 =>
 purK (nilChkA x0) fun x7 =>
 purK (ld1 ρ H x7) fun x8 =>
 purK (binA Try.prog H .shl 160 x8 (.int .u64 13)) fun x9 =>
 purK (binA Try.prog H .xor 160 x5 x9) fun x10 =>
 purK (nilChkA x0) fun x11 =>
 effK H (stA lim H 1 x11 x10) fun _ H =>
 purK (nilChkA x0) fun x13 =>
 purK (ld1 ρ H x13) fun x14 =>
 purK (nilChkA x0) fun x16 =>
 purK (ld1 ρ H x16) fun x17 =>
 purK (binA Try.prog H .shr 160 x17 (.int .u64 7)) fun x18 =>
 purK (binA Try.prog H .xor 160 x14 x18) fun x19 =>
 purK (nilChkA x0) fun x20 =>
 effK H (stA lim H 1 x20 x19) fun _ H =>
 purK (nilChkA x0) fun x22 =>
 purK (ld1 ρ H x22) fun x23 =>
 purK (nilChkA x0) fun x25 =>
 purK (ld1 ρ H x25) fun x26 =>
 purK (binA Try.prog H .shl 160 x26 (.int .u64 17)) fun x27 =>
 purK (binA Try.prog H .xor 160 x23 x27) fun x28 =>
 purK (nilChkA x0) fun x29 =>
 effK H (stA lim H 1 x29 x28) fun _ H =>
 J (Code.at [1,1,1,1] c104) (sp 33 [(0,x0)]) H (kk none (fun s H => retK (gs [2] s) H) [] retK [2]) := by
 kernel_rfl
theorem G104 (ρ call yc lim k x0 H) :
 evL (cx ρ) call yc false 104 lim k c104 ([x0] ++ List.replicate 32 (.tup [])) H (kk none (fun s H => retK (gs [2] s) H) [] retK [2]) = L104 ρ call yc lim k x0 H := by
 rw [evL_X,L104_x]
 simp only [← evL_X,L104,N104_1_eq]
theorem E104 (ρ : RO) (k lim : Nat) (x0 : AV) (H : Heap) : evCall (cx ρ) (k + 1) lim 104 [x0] H = L104 ρ (evCall (cx ρ) k) (evCY (cx ρ) k).2 lim k x0 H := by
 rw [evCall_body (cx ρ) k lim 104 _ H Try.f104 c104 [2] (by kernel_rfl) (by kernel_rfl) (by kernel_rfl) (by kernel_rfl) (by kernel_rfl)]
 exact G104 ρ (evCall (cx ρ) k) (evCY (cx ρ) k).2 lim k x0 H
-- slices.medianAdjacentOrdered[string]
noncomputable def c105 : Code := Code.of Try.prog 105
noncomputable def L105 (ρ : RO) (call : CallF) (yc : YieldF) (lim k : Nat) (x0 x1 x2 : AV) (H : Heap) : Res :=
 purK (binA Try.prog H .sub 3 x1 (.int .i64 1)) fun x9 =>
 purK (binA Try.prog H .add 3 x1 (.int .i64 1)) fun x12 =>
 resK (call lim 106 [x0,x9,x1,x12,x2] H) fun x14 H =>
 retK [x14] H
theorem G105 (ρ call yc lim k x0 x1 x2 H) :
 evL (cx ρ) call yc false 105 lim k c105 ([x0,x1,x2] ++ List.replicate 12 (.tup [])) H (kk none (fun s H => retK (gs [6] s) H) [] retK [6]) = L105 ρ call yc lim k x0 x1 x2 H := by
 kernel_rfl
theorem E105 (ρ : RO) (k lim : Nat) (x0 x1 x2 : AV) (H : Heap) : evCall (cx ρ) (k + 1) lim 105 [x0,x1,x2] H = L105 ρ (evCall (cx ρ) k) (evCY (cx ρ) k).2 lim k x0 x1 x2 H := by
 rw [evCall_body (cx ρ) k lim 105 _ H Try.f105 c105 [6] (by kernel_rfl) (by kernel_rfl) (by kernel_rfl) (by kernel_rfl) (by kernel_rfl)]
 exact G105 ρ (evCall (cx ρ) k) (evCY (cx ρ) k).2 lim k x0 x1 x2 H
-- slices.medianOrdered[string]
noncomputable def c106 : Code := Code.of Try.prog 106
noncomputable def N106_1 (ρ : RO) (call : CallF) (yc : YieldF) (lim k : Nat) (x2 : AV) (H : Heap) (R : KR) : Res :=
 R [x2] H
theorem N106_1_eq (ρ call yc lim k x2 H R) :
 evL (cx ρ) call yc false 106 lim k (Code.at [1,1,1,1] c106) (sp 36 [(2,x2)]) H (kk none (fun s H => R (gs [10] s) H) [] R [10]) = N106_1 ρ call yc lim k x2 H R := by
 kernel_rfl
noncomputable def L106 (ρ : RO) (call : CallF) (yc : YieldF) (lim k : Nat) (x0 x1 x2 x3 x4 : AV) (H : Heap) : Res :=
 resK (call lim 109 [x0,x1,x2,x4] H) fun x16 H =>
 purK (extA 0 x16) fun x17 =>
 purK (extA 1 x16) fun x18 =>
 resK (call lim 109 [x0,x18,x3,x4] H) fun x24 H =>
 purK (extA 0 x24) fun x25 =>
 purK (extA 1 x24) fun x26 =>
 resK (call lim 109 [x0,x17,x25,x4] H) fun x32 H =>
 purK (extA 0 x32) fun x33 =>
 purK (extA 1 x32) fun x34 =>
 N106_1 ρ call yc lim k x34 H retK
theorem L106_x (ρ call yc lim k J x0 x1 x2 x3 x4 H) :
 evX (cx ρ) call yc false 106 lim k J c106 ([x0,x1,x2,x3,x4] ++ List.replicate 31 (.tup [])) H (kk none (fun s H => retK (gs [10] s) H) [] retK [10]) =
 resK (call lim 109 [x0,x1,x2,x4] H) fun x16 H =>
 purK (extA 0 x16) fun x17 =>
 purK (extA 1 x16) fun x18 =>
 resK (call lim 109 [x0,x18,x3,x4] H) fun x24 H =>
 purK (extA 0 x24) fun x25 =>
 purK (extA 1 x24) fun x26 =>
 resK (call lim 109 [x0,x17,x25,x4] H) fun x32 H =>
 purK (extA 0 x32) fun x33 =>
 purK (extA 1 x32) fun x34 =>
 J (Code.at [1,1,1,1] c106) (sp 36 [(2,x34)]) H (kk none (fun s H => retK (gs [10] s) H) [] retK [10]) := by
 kernel_rfl
theorem G106 (ρ call yc lim k x0 x1 x2 x3 x4 H) :
 evL (cx ρ) call yc false 106 lim k c106 ([x0,x1,x2,x3,x4] ++ List.replicate 31 (.tup [])) H (kk none (fun s H => retK (gs [10] s) H) [] retK [10]) = L106 ρ call yc lim k x0 x1 x2 x3 x4 H := by
 rw [evL_X,L106_x]
 simp only [← evL_X,L106,N106_1_eq]
theorem E106 (ρ : RO) (k lim : Nat) (x0 x1 x2 x3 x4 : AV) (H : Heap) : evCall (cx ρ) (k + 1) lim 106 [x0,x1,x2,x3,x4] H = L106 ρ (evCall (cx ρ) k) (evCY (cx ρ) k).2 lim k x0 x1 x2 x3 x4 H := by
 rw [evCall_body (cx ρ) k lim 106 _ H Try.f106 c106 [10] (by kernel_rfl) (by kernel_rfl) (by kernel_rfl) (by kernel_rfl) (by kernel_rfl)]
 exact G106 ρ (evCall (cx ρ) k) (evCY (cx ρ) k).2 lim k x0 x1 x2 x3 x4 H
-- cmp.isNaN[string]
noncomputable def c107 : Code := Code.of Try.prog 107
noncomputable def L107 (ρ : RO) (call : CallF) (yc : YieldF) (lim k : Nat) (x0 : AV) (H : Heap) : Res :=
 purK (binA Try.prog H .neq 9 x0 x0) fun x5 =>
 retK [x5] H
theorem G107 (ρ call yc lim k x0 H) :
 evL (cx ρ) call yc false 107 lim k c107 ([x0] ++ List.replicate 5 (.tup [])) H (kk none (fun s H => retK (gs [2] s) H) [] retK [2]) = L107 ρ call yc lim k x0 H := by
 kernel_rfl
theorem E107 (ρ : RO) (k lim : Nat) (x0 : AV) (H : Heap) : evCall (cx ρ) (k + 1) lim 107 [x0] H = L107 ρ (evCall (cx ρ) k) (evCY (cx ρ) k).2 lim k x0 H := by
 rw [evCall_body (cx ρ) k lim 107 _ H Try.f107 c107 [2] (by kernel_rfl) (by kernel_rfl) (by kernel_rfl) (by kernel_rfl) (by kernel_rfl)]
 exact G107 ρ (evCall (cx ρ) k) (evCY (cx ρ) k).2 lim k x0 H
-- slices.order2Ordered[string]
noncomputable def c109 : Code := Code.of Try.prog 109
noncomputable def L109 (ρ : RO) (call : CallF) (yc : YieldF) (lim k : Nat) (x0 x1 x2 x3 : AV) (H : Heap) : Res :=
 purK (ixS 1 x0 x2) fun x12 =>
 purK (ld1 ρ H x12) fun x13 =>
 purK (ixS 1 x0 x1) fun x16 =>
 purK (ld1 ρ H x16) fun x17 =>
 resK (call lim 89 [x13,x17] H) fun x18 H =>
 condK x18
 (
 purK (nilChkA x3) fun x20 =>
 purK (ld1 ρ H x20) fun x21 =>
 purK (binA Try.prog H .add 3 x21 (.int .i64 1)) fun x22 =>
 purK (nilChkA x3) fun x23 =>
 effK H (stA lim H 1 x23 x22) fun _ H =>
 retK [x2,x1] H)
 (
 retK [x1,x2] H)
theorem G109 (ρ call yc lim k x0 x1 x2 x3 H) :
 evL (cx ρ) call yc false 109 lim k c109 ([x0,x1,x2,x3] ++ List.replicate 24 (.tup [])) H (kk none (fun s H => retK (gs [8,9] s) H) [] retK [8,9]) = L109 ρ call yc lim k x0 x1 x2 x3 H := by
 kernel_rfl
theorem E109 (ρ : RO) (k lim : Nat) (x0 x1 x2 x3 : AV) (H : Heap) : evCall (cx ρ) (k + 1) lim 109 [x0,x1,x2,x3] H = L109 ρ (evCall (cx ρ) k) (evCY (cx ρ) k).2 lim k x0 x1 x2 x3 H := by
 rw [evCall_body (cx ρ) k lim 109 _ H Try.f109 c109 [8,9] (by kernel_rfl) (by kernel_rfl) (by kernel_rfl) (by kernel_rfl) (by kernel_rfl)]
 exact G109 ρ (evCall (cx ρ) k) (evCY (cx ρ) k).2 lim k x0 x1 x2 x3 H
end Go.Proofs.Ytkmohjddojpdjaa

-- part Ht
/- All functions that are lifted. Printed by a program of this repo. -/
set_option linter.unusedVariables false
set_option linter.unusedSimpArgs false
set_option maxRecDepth 100000
set_option maxHeartbeats 4000000
namespace Go.Proofs.Ytkmohjddojpdjaa
open Go.Ev Go.RowKit

theorem ldT47 (ρ : RO) (H : Heap) (x : AV) : loadA (cx ρ) H 47 x = ldN ρ H 2 x := by kernel_rfl
theorem ldT53 (ρ : RO) (H : Heap) (x : AV) : loadA (cx ρ) H 53 x = ldN ρ H 2 x := by kernel_rfl
theorem ldT105 (ρ : RO) (H : Heap) (x : AV) : loadA (cx ρ) H 105 x = ldN ρ H 3 x := by kernel_rfl
end Go.Proofs.Ytkmohjddojpdjaa
