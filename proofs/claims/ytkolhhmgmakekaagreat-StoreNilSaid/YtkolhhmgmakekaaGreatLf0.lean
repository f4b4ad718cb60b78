/- Functions, lifted. Printed by a program of this repo. -/
import Derived.Test.YtkolhhmgmakekaaGreatLfTab
set_option linter.unusedVariables false
set_option linter.unusedSimpArgs false
set_option maxRecDepth 100000
set_option maxHeartbeats 4000000
namespace Go.Proofs.YtkolhhmgmakekaaGreat
open Go.Ev Go.RowKit
-- haycroft/haycroftlaw24.StoreNil
noncomputable def c3 : Code := Code.of Tryz.prog 3
noncomputable def N3_1 (ρ : Addr → Option Value) (call : CallF) (yc : YieldF) (lim k : Nat) (x3 x5 x6 x7 x8 x9 x10 x11 x13 x14 x15 : AV) (H : Heap) (R : List AV → Heap → Res) : Res :=
  purK (binA Tryz.prog H .eql 3 x6 (.int .i64 0)) fun x51_1 =>
  purK (gPur (wantV x51_1 true) (some x7)) fun x53_1 =>
  purK (gPur (wantV x51_1 true) (binA Tryz.prog H .eql 32 x53_1 (.int .i64 2))) fun x54_1 =>
  purK (pickA x51_1 x54_1 (.bool false)) fun x55_1 =>
  purK (gPur (wantV x55_1 true) (ldN ρ H 2 x8)) fun x57_1 =>
  purK (gPur (wantV x55_1 true) (bldA [.int .i64 0, .str ByteArray.empty] [])) fun x58_1 =>
  purK (gPur (wantV x55_1 true) (binA Tryz.prog H .eql 36 x57_1 x58_1)) fun x59_1 =>
  purK (pickA x55_1 x59_1 (.bool false)) fun x60_1 =>
  purK (gPur (wantV x60_1 true) (some x9)) fun x62_1 =>
  purK (gPur (wantV x60_1 true) (unA .not x62_1)) fun x63_1 =>
  purK (pickA x60_1 x63_1 (.bool false)) fun x64_1 =>
  purK (gPur (wantV x64_1 true) (some x10)) fun x66_1 =>
  purK (gPur (wantV x64_1 true) (binA Tryz.prog H .eql 31 x66_1 .nilp)) fun x67_1 =>
  purK (pickA x64_1 x67_1 (.bool false)) fun x68_1 =>
  purK (gPur (wantV x68_1 true) (some x11)) fun x70_1 =>
  purK (gPur (wantV x68_1 true) (binA Tryz.prog H .eql 32 x70_1 (.int .i64 2))) fun x71_1 =>
  purK (pickA x68_1 x71_1 (.bool false)) fun x72_1 =>
  purK (gPur (wantV x72_1 true) (some x13)) fun x74_1 =>
  purK (gPur (wantV x72_1 true) (binA Tryz.prog H .eql 31 x74_1 .nilp)) fun x75_1 =>
  purK (pickA x72_1 x75_1 (.bool false)) fun x76_1 =>
  purK (gPur (wantV x76_1 true) (some x14)) fun x78_1 =>
  purK (gPur (wantV x76_1 true) (some x15)) fun x79_1 =>
  purK (gPur (wantV x76_1 true) (binA Tryz.prog H .eql 32 x78_1 x79_1)) fun x80_1 =>
  purK (pickA x76_1 x80_1 (.bool false)) fun x81_1 =>
  purK (gPur (wantV x81_1 true) (some x5)) fun x83_1 =>
  resK (gRes (wantV x81_1 true) H (call lim 11 [x83_1] H)) fun x84_1 H =>
  purK (gPur (wantV x81_1 true) (unA .not x84_1)) fun x85_1 =>
  purK (pickA x81_1 x85_1 (.bool false)) fun x86_1 =>
  purK (gPur (wantV x86_1 true) (some x5)) fun x88_1 =>
  resK (gRes (wantV x86_1 true) H (call lim 12 [x88_1] H)) fun x89_1 H =>
  purK (gPur (wantV x86_1 true) (binA Tryz.prog H .eql 3 x89_1 (.int .i64 0))) fun x90_1 =>
  purK (pickA x86_1 x90_1 (.bool false)) fun x91_1 =>
  purK (gPur (wantV x91_1 true) (some x5)) fun x93_1 =>
  resK (gRes (wantV x91_1 true) H (call lim 13 [x93_1] H)) fun x94_1 H =>
  purK (gPur (wantV x91_1 true) (unA .not x94_1)) fun x95_1 =>
  purK (pickA x91_1 x95_1 (.bool false)) fun x96_1 =>
  purK (gPur (wantV x96_1 true) (some x5)) fun x98_1 =>
  resK (gRes (wantV x96_1 true) H (call lim 14 [x98_1] H)) fun x99_1 H =>
  purK (gPur (wantV x96_1 true) (bldA [.int .i64 0, .int .i64 0, .int .i64 0, .int .i64 0, .int .i64 0, .int .i64 0] [])) fun x100_1 =>
  purK (gPur (wantV x96_1 true) (binA Tryz.prog H .eql 23 x99_1 x100_1)) fun x101_1 =>
  purK (pickA x96_1 x101_1 (.bool false)) fun x102_1 =>
  purK (gPur (wantV x102_1 true) (some x5)) fun x104_1 =>
  resK (gRes (wantV x102_1 true) H (call lim 15 [x104_1] H)) fun x105_1 H =>
  purK (gPur (wantV x102_1 true) (binA Tryz.prog H .eql 47 x105_1 .nilp)) fun x106_1 =>
  purK (pickA x102_1 x106_1 (.bool false)) fun x107_1 =>
  purK (gPur (wantV x107_1 true) (some x5)) fun x109_1 =>
  resK (gRes (wantV x107_1 true) H (call lim 16 [x109_1] H)) fun x110_1 H =>
  purK (gPur (wantV x107_1 true) (binA Tryz.prog H .eql 49 x110_1 .nilp)) fun x111_1 =>
  purK (pickA x107_1 x111_1 (.bool false)) fun x112_1 =>
  purK (gPur (wantV x112_1 true) (some x5)) fun x114_1 =>
  resK (gRes (wantV x112_1 true) H (call lim 17 [x114_1] H)) fun x115_1 H =>
  purK (gPur (wantV x112_1 true) (binA Tryz.prog H .eql 41 x115_1 .nilp)) fun x116_1 =>
  purK (pickA x112_1 x116_1 (.bool false)) fun x117_1 =>
  purK (gPur (wantV x117_1 true) (some x5)) fun x119_1 =>
  purK (gPur (wantV x117_1 true) (addA 1 x3)) fun x120_1 =>
  purK (gPur (wantV x117_1 true) (ld1 ρ H x120_1)) fun x121_1 =>
  resK (gRes (wantV x117_1 true) H (call lim 18 [x119_1, x121_1] H)) fun x122_1 H =>
  purK (gPur (wantV x117_1 true) (binA Tryz.prog H .eql 51 x122_1 .nilp)) fun x123_1 =>
  purK (pickA x117_1 x123_1 (.bool false)) fun x124_1 =>
  R [x124_1] H
theorem N3_1_eq (ρ : Addr → Option Value) (call : CallF) (yc : YieldF) (lim k : Nat) (x3 x5 x6 x7 x8 x9 x10 x11 x13 x14 x15 : AV) (H : Heap) (R : List AV → Heap → Res) :
    evL (cx ρ) call yc false 3 lim k (Code.at [1, 1, 1, 1, 1, 1, 1, 1, 1, 1, 1] c3) (sp 125 [(3, x3), (5, x5), (6, x6), (7, x7), (8, x8), (9, x9), (10, x10), (11, x11), (13, x13), (14, x14), (15, x15)]) H (kk none (fun s H => R (([4] : List Nat).map fun t => s.getD t (.tup [])) H) [] R [4]) = N3_1 ρ call yc lim k x3 x5 x6 x7 x8 x9 x10 x11 x13 x14 x15 H R := by
  kernel_rfl
noncomputable def L3 (ρ : Addr → Option Value) (call : CallF) (yc : YieldF) (lim k : Nat) (x0 x1 : AV) (H : Heap) : Res :=
  effK H (boxA H 23 x0) fun x2 H =>
  effK H (boxA H 29 x1) fun x3 H =>
  resK (call lim 4 [] H) fun x16 H =>
  purK (unA .not x16) fun x17 =>
  condK x17
  (
    retK [(.bool false)] H)
  (
    purK (ldN ρ H 8 x3) fun x20 =>
    resK (call lim 5 [.nilp, x20] H) fun x21 H =>
    purK (extA 0 x21) fun x22 =>
    purK (extA 1 x21) fun x23 =>
    purK (addA 1 x3) fun x26 =>
    purK (ld1 ρ H x26) fun x27 =>
    purK (addA 2 x3) fun x28 =>
    purK (ld1 ρ H x28) fun x29 =>
    resK (call lim 6 [.nilp, x27, x29] H) fun x30 H =>
    purK (extA 0 x30) fun x31 =>
    purK (extA 1 x30) fun x32 =>
    effK H (some (.ptr H.sz 0 0, .new (newCells 36 false [.int .i64 0, .str ByteArray.empty]))) fun x8 H =>
    effK H (stA lim H 2 x8 x31) fun _ H =>
    purK (ldN ρ H 6 x2) fun x34 =>
    resK (call lim 7 [x34, .nilp] H) fun x35 H =>
    purK (extA 0 x35) fun x36 =>
    purK (extA 1 x35) fun x37 =>
    resK (call lim 8 [] H) fun x38 H =>
    resK (call lim 9 [x38, .nils] H) fun x40 H =>
    purK (ldN ρ H 6 x2) fun x42 =>
    resK (call lim 7 [x42, x38] H) fun x44 H =>
    purK (extA 0 x44) fun x45 =>
    purK (extA 1 x44) fun x46 =>
    purK (ldN ρ H 6 x2) fun x47 =>
    resK (call lim 10 [x47] H) fun x48 H =>
    purK (unA .not x48) fun x49 =>
    condK x49
    (
      N3_1 ρ call yc lim k x3 .nilp x22 x23 x8 x32 x36 x37 x45 x46 (.int .i64 1) H retK)
    (
      N3_1 ρ call yc lim k x3 .nilp x22 x23 x8 x32 x36 x37 x45 x46 (.int .i64 6) H retK))
theorem L3_x (ρ : Addr → Option Value) (call : CallF) (yc : YieldF) (lim k : Nat) (J : CodeF) (x0 x1 : AV) (H : Heap) :
    evX (cx ρ) call yc false 3 lim k J c3 [x0, x1, (.tup []), (.tup []), (.tup []), (.tup []), (.tup []), (.tup []), (.tup []), (.tup []), (.tup []), (.tup []), (.tup []), (.tup []), (.tup []), (.tup []), (.tup []), (.tup []), (.tup []), (.tup []), (.tup []), (.tup []), (.tup []), (.tup []), (.tup []), (.tup []), (.tup []), (.tup []), (.tup []), (.tup []), (.tup []), (.tup []), (.tup []), (.tup []), (.tup []), (.tup []), (.tup []), (.tup []), (.tup []), (.tup []), (.tup []), (.tup []), (.tup []), (.tup []), (.tup []), (.tup []), (.tup []), (.tup []), (.tup []), (.tup []), (.tup []), (.tup []), (.tup []), (.tup []), (.tup []), (.tup []), (.tup []), (.tup []), (.tup []), (.tup []), (.tup []), (.tup []), (.tup []), (.tup []), (.tup []), (.tup []), (.tup []), (.tup []), (.tup []), (.tup []), (.tup []), (.tup []), (.tup []), (.tup []), (.tup []), (.tup []), (.tup []), (.tup []), (.tup []), (.tup []), (.tup []), (.tup []), (.tup []), (.tup []), (.tup []), (.tup []), (.tup []), (.tup []), (.tup []), (.tup []), (.tup []), (.tup []), (.tup []), (.tup []), (.tup []), (.tup []), (.tup []), (.tup []), (.tup []), (.tup []), (.tup []), (.tup []), (.tup []), (.tup []), (.tup []), (.tup []), (.tup []), (.tup []), (.tup []), (.tup []), (.tup []), (.tup []), (.tup []), (.tup []), (.tup []), (.tup []), (.tup []), (.tup []), (.tup []), (.tup []), (.tup []), (.tup []), (.tup []), (.tup []), (.tup [])] H (kk none (fun s H => retK (([4] : List Nat).map fun t => s.getD t (.tup [])) H) [] retK [4]) =
  effK H (boxA H 23 x0) fun x2 H =>
  effK H (boxA H 29 x1) fun x3 H =>
  resK (call lim 4 [] H) fun x16 H =>
  purK (unA .not x16) fun x17 =>
  condK x17
  (
    retK [(.bool false)] H)
  (
    purK (ldN ρ H 8 x3) fun x20 =>
    resK (call lim 5 [.nilp, x20] H) fun x21 H =>
    purK (extA 0 x21) fun x22 =>
    purK (extA 1 x21) fun x23 =>
    purK (addA 1 x3) fun x26 =>
    purK (ld1 ρ H x26) fun x27 =>
    purK (addA 2 x3) fun x28 =>
    purK (ld1 ρ H x28) fun x29 =>
    resK (call lim 6 [.nilp, x27, x29] H) fun x30 H =>
    purK (extA 0 x30) fun x31 =>
    purK (extA 1 x30) fun x32 =>
    effK H (some (.ptr H.sz 0 0, .new (newCells 36 false [.int .i64 0, .str ByteArray.empty]))) fun x8 H =>
    effK H (stA lim H 2 x8 x31) fun _ H =>
    purK (ldN ρ H 6 x2) fun x34 =>
    resK (call lim 7 [x34, .nilp] H) fun x35 H =>
    purK (extA 0 x35) fun x36 =>
    purK (extA 1 x35) fun x37 =>
    resK (call lim 8 [] H) fun x38 H =>
    resK (call lim 9 [x38, .nils] H) fun x40 H =>
    purK (ldN ρ H 6 x2) fun x42 =>
    resK (call lim 7 [x42, x38] H) fun x44 H =>
    purK (extA 0 x44) fun x45 =>
    purK (extA 1 x44) fun x46 =>
    purK (ldN ρ H 6 x2) fun x47 =>
    resK (call lim 10 [x47] H) fun x48 H =>
    purK (unA .not x48) fun x49 =>
    condK x49
    (
      J (Code.at [1, 1, 1, 1, 1, 1, 1, 1, 1, 1, 1] c3) (sp 125 [(3, x3), (5, .nilp), (6, x22), (7, x23), (8, x8), (9, x32), (10, x36), (11, x37), (13, x45), (14, x46), (15, (.int .i64 1))]) H (kk none (fun s H => retK (([4] : List Nat).map fun t => s.getD t (.tup [])) H) [] retK [4]))
    (
      J (Code.at [1, 1, 1, 1, 1, 1, 1, 1, 1, 1, 1] c3) (sp 125 [(3, x3), (5, .nilp), (6, x22), (7, x23), (8, x8), (9, x32), (10, x36), (11, x37), (13, x45), (14, x46), (15, (.int .i64 6))]) H (kk none (fun s H => retK (([4] : List Nat).map fun t => s.getD t (.tup [])) H) [] retK [4]))) := by
  kernel_rfl
theorem G3 (ρ : Addr → Option Value) (call : CallF) (yc : YieldF) (lim k : Nat) (x0 x1 : AV) (H : Heap) :
    evL (cx ρ) call yc false 3 lim k c3 [x0, x1, (.tup []), (.tup []), (.tup []), (.tup []), (.tup []), (.tup []), (.tup []), (.tup []), (.tup []), (.tup []), (.tup []), (.tup []), (.tup []), (.tup []), (.tup []), (.tup []), (.tup []), (.tup []), (.tup []), (.tup []), (.tup []), (.tup []), (.tup []), (.tup []), (.tup []), (.tup []), (.tup []), (.tup []), (.tup []), (.tup []), (.tup []), (.tup []), (.tup []), (.tup []), (.tup []), (.tup []), (.tup []), (.tup []), (.tup []), (.tup []), (.tup []), (.tup []), (.tup []), (.tup []), (.tup []), (.tup []), (.tup []), (.tup []), (.tup []), (.tup []), (.tup []), (.tup []), (.tup []), (.tup []), (.tup []), (.tup []), (.tup []), (.tup []), (.tup []), (.tup []), (.tup []), (.tup []), (.tup []), (.tup []), (.tup []), (.tup []), (.tup []), (.tup []), (.tup []), (.tup []), (.tup []), (.tup []), (.tup []), (.tup []), (.tup []), (.tup []), (.tup []), (.tup []), (.tup []), (.tup []), (.tup []), (.tup []), (.tup []), (.tup []), (.tup []), (.tup []), (.tup []), (.tup []), (.tup []), (.tup []), (.tup []), (.tup []), (.tup []), (.tup []), (.tup []), (.tup []), (.tup []), (.tup []), (.tup []), (.tup []), (.tup []), (.tup []), (.tup []), (.tup []), (.tup []), (.tup []), (.tup []), (.tup []), (.tup []), (.tup []), (.tup []), (.tup []), (.tup []), (.tup []), (.tup []), (.tup []), (.tup []), (.tup []), (.tup []), (.tup []), (.tup []), (.tup []), (.tup [])] H (kk none (fun s H => retK (([4] : List Nat).map fun t => s.getD t (.tup [])) H) [] retK [4]) = L3 ρ call yc lim k x0 x1 H := by
  rw [evL_X, L3_x]
  simp only [← evL_X, L3, N3_1_eq]
theorem E3 (ρ : Addr → Option Value) (k lim : Nat) (x0 x1 : AV) (H : Heap) : evCall (cx ρ) (k + 1) lim 3 [x0, x1] H = L3 ρ (evCall (cx ρ) k) (evCY (cx ρ) k).2 lim k x0 x1 H := by
  rw [evCall_body (cx ρ) k lim 3 _ H Tryz.f3 c3 [4] (by kernel_rfl) (by kernel_rfl) (by kernel_rfl) (by kernel_rfl) (by kernel_rfl)]
  exact G3 ρ (evCall (cx ρ) k) (evCY (cx ρ) k).2 lim k x0 x1 H
-- haycroft/haycroftlaw24.awake
noncomputable def c4 : Code := Code.of Tryz.prog 4
noncomputable def L4 (ρ : Addr → Option Value) (call : CallF) (yc : YieldF) (lim k : Nat) (H : Heap) : Res :=
  resK (call lim 19 [] H) fun x6 H =>
  resK (call lim 8 [] H) fun x7 H =>
  resK (call lim 7 [x6, x7] H) fun x8 H =>
  purK (extA 0 x8) fun x9 =>
  purK (extA 1 x8) fun x10 =>
  purK (bldA [.int .i64 0, .str ByteArray.empty, .str ByteArray.empty, .int .u64 0] [(0, 1, (.int .i64 1)), (1, 1, (.str (ByteArray.mk #[107])))]) fun x13 =>
  purK (bldA [.int .i64 0, .int .i64 0, .int .i64 0, .int .i64 0, .str ByteArray.empty, .str ByteArray.empty, .int .u64 0, .nils] [(0, 1, (.int .i64 1)), (3, 4, x13)]) fun x14 =>
  resK (call lim 5 [x9, x14] H) fun x15 H =>
  purK (extA 0 x15) fun x16 =>
  purK (extA 1 x15) fun x17 =>
  purK (binA Tryz.prog H .eql 32 x10 (.int .i64 0)) fun x19 =>
  purK (gPur (wantV x19 true) (some x9)) fun x21 =>
  resK (gRes (wantV x19 true) H (call lim 12 [x21] H)) fun x22 H =>
  purK (gPur (wantV x19 true) (binA Tryz.prog H .eql 3 x22 (.int .i64 0))) fun x23 =>
  purK (pickA x19 x23 (.bool false)) fun x24 =>
  purK (gPur (wantV x24 true) (some x16)) fun x26 =>
  purK (gPur (wantV x24 true) (binA Tryz.prog H .eql 3 x26 (.int .i64 1))) fun x27 =>
  purK (pickA x24 x27 (.bool false)) fun x28 =>
  purK (gPur (wantV x28 true) (some x17)) fun x30 =>
  purK (gPur (wantV x28 true) (binA Tryz.prog H .eql 32 x30 (.int .i64 0))) fun x31 =>
  purK (pickA x28 x31 (.bool false)) fun x32 =>
  purK (gPur (wantV x32 true) (some x9)) fun x34 =>
  resK (gRes (wantV x32 true) H (call lim 11 [x34] H)) fun x35 H =>
  purK (pickA x32 x35 (.bool false)) fun x36 =>
  retK [x36] H
theorem G4 (ρ : Addr → Option Value) (call : CallF) (yc : YieldF) (lim k : Nat) (H : Heap) :
    evL (cx ρ) call yc false 4 lim k c4 [(.tup []), (.tup []), (.tup []), (.tup []), (.tup []), (.tup []), (.tup []), (.tup []), (.tup []), (.tup []), (.tup []), (.tup []), (.tup []), (.tup []), (.tup []), (.tup []), (.tup []), (.tup []), (.tup []), (.tup []), (.tup []), (.tup []), (.tup []), (.tup []), (.tup []), (.tup []), (.tup []), (.tup []), (.tup []), (.tup []), (.tup []), (.tup []), (.tup []), (.tup []), (.tup []), (.tup []), (.tup [])] H (kk none (fun s H => retK (([0] : List Nat).map fun t => s.getD t (.tup [])) H) [] retK [0]) = L4 ρ call yc lim k H := by
  kernel_rfl
theorem E4 (ρ : Addr → Option Value) (k lim : Nat) (H : Heap) : evCall (cx ρ) (k + 1) lim 4 [] H = L4 ρ (evCall (cx ρ) k) (evCY (cx ρ) k).2 lim k H := by
  rw [evCall_body (cx ρ) k lim 4 _ H Tryz.f4 c4 [0] (by kernel_rfl) (by kernel_rfl) (by kernel_rfl) (by kernel_rfl) (by kernel_rfl)]
  exact G4 ρ (evCall (cx ρ) k) (evCY (cx ρ) k).2 lim k H
-- (*haycroft/store.Store).Do
noncomputable def c5 : Code := Code.of Tryz.prog 5
noncomputable def L5 (ρ : Addr → Option Value) (call : CallF) (yc : YieldF) (lim k : Nat) (x0 x1 : AV) (H : Heap) : Res :=
  effK H (boxA H 29 x1) fun x3 H =>
  purK (ldN ρ H 8 x3) fun x8 =>
  resK (call lim 20 [x0, x8] H) fun x9 H =>
  purK (binA Tryz.prog H .neq 32 x9 (.int .i64 0)) fun x11 =>
  condK x11
  (
    retK [(.int .i64 0), x9] H)
  (
    purK (addA 0 x3) fun x13 =>
    purK (ld1 ρ H x13) fun x14 =>
    purK (binA Tryz.prog H .eql 3 x14 (.int .i64 1)) fun x16 =>
    condK x16
    (
      purK (ldN ρ H 8 x3) fun x18 =>
      resK (call lim 21 [x0, x18] H) fun x19 H =>
      purK (extA 0 x19) fun x20 =>
      purK (extA 1 x19) fun x21 =>
      retK [x20, x21] H)
    (
      purK (binA Tryz.prog H .eql 3 x14 (.int .i64 2)) fun x23 =>
      condK x23
      (
        purK (nilChkA x0) fun x25 =>
        purK (addA 7 x25) fun x26 =>
        purK (ld1 ρ H x26) fun x27 =>
        purK (nilChkA x27) fun x28 =>
        purK (addA 2 x28) fun x29 =>
        purK (ld1 ρ H x29) fun x30 =>
        purK (addA 1 x3) fun x31 =>
        purK (ld1 ρ H x31) fun x32 =>
        purK (ixS 1 x30 x32) fun x33 =>
        purK (ld1 ρ H x33) fun x34 =>
        resK (call lim 22 [x34] H) fun x35 H =>
        purK (extA 0 x35) fun x36 =>
        purK (extA 1 x35) fun x37 =>
        retK [x36, x37] H)
      (
        purK (binA Tryz.prog H .eql 3 x14 (.int .i64 3)) fun x39 =>
        condK x39
        (
          purK (nilChkA x0) fun x41 =>
          purK (addA 7 x41) fun x42 =>
          purK (ld1 ρ H x42) fun x43 =>
          purK (nilChkA x43) fun x44 =>
          purK (addA 2 x44) fun x45 =>
          purK (ld1 ρ H x45) fun x46 =>
          purK (addA 1 x3) fun x47 =>
          purK (ld1 ρ H x47) fun x48 =>
          purK (ixS 1 x46 x48) fun x49 =>
          purK (ld1 ρ H x49) fun x50 =>
          resK (call lim 23 [x50] H) fun x51 H =>
          purK (extA 0 x51) fun x52 =>
          purK (extA 1 x51) fun x53 =>
          retK [x52, x53] H)
        (
          purK (binA Tryz.prog H .eql 3 x14 (.int .i64 4)) fun x55 =>
          condK x55
          (
            purK (addA 2 x3) fun x57 =>
            purK (ld1 ρ H x57) fun x58 =>
            resK (call lim 24 [x0, x58] H) fun x59 H =>
            purK (extA 0 x59) fun x60 =>
            purK (extA 1 x59) fun x61 =>
            retK [x60, x61] H)
          (
            purK (binA Tryz.prog H .eql 3 x14 (.int .i64 5)) fun x63 =>
            condK x63
            (
              purK (nilChkA x0) fun x65 =>
              purK (addA 7 x65) fun x66 =>
              purK (ld1 ρ H x66) fun x67 =>
              purK (nilChkA x67) fun x68 =>
              purK (addA 0 x68) fun x69 =>
              purK (ld1 ρ H x69) fun x70 =>
              purK (addA 2 x3) fun x71 =>
              purK (ld1 ρ H x71) fun x72 =>
              resK (call lim 25 [x70, x72] H) fun x73 H =>
              retK [(.int .i64 0), x73] H)
            (
              purK (binA Tryz.prog H .eql 3 x14 (.int .i64 6)) fun x75 =>
              condK x75
              (
                purK (nilChkA x0) fun x77 =>
                purK (addA 7 x77) fun x78 =>
                purK (ld1 ρ H x78) fun x79 =>
                purK (nilChkA x79) fun x80 =>
                purK (addA 0 x80) fun x81 =>
                purK (ld1 ρ H x81) fun x82 =>
                purK (addA 2 x3) fun x83 =>
                purK (ld1 ρ H x83) fun x84 =>
                resK (call lim 26 [x82, x84] H) fun x85 H =>
                retK [(.int .i64 0), x85] H)
              (
                purK (binA Tryz.prog H .eql 3 x14 (.int .i64 7)) fun x87 =>
                condK x87
                (
                  purK (nilChkA x0) fun x89 =>
                  purK (addA 7 x89) fun x90 =>
                  purK (ld1 ρ H x90) fun x91 =>
                  purK (nilChkA x91) fun x92 =>
                  purK (addA 0 x92) fun x93 =>
                  purK (ld1 ρ H x93) fun x94 =>
                  purK (addA 2 x3) fun x95 =>
                  purK (ld1 ρ H x95) fun x96 =>
                  resK (call lim 27 [x94, x96] H) fun x97 H =>
                  purK (extA 0 x97) fun x98 =>
                  purK (extA 1 x97) fun x99 =>
                  retK [x98, x99] H)
                (
                  purK (binA Tryz.prog H .eql 3 x14 (.int .i64 8)) fun x101 =>
                  condK x101
                  (
                    resK (call lim 28 [x0] H) fun x103 H =>
                    purK (extA 0 x103) fun x104 =>
                    purK (extA 1 x103) fun x105 =>
                    retK [x104, x105] H)
                  (
                    purK (binA Tryz.prog H .eql 3 x14 (.int .i64 9)) fun x107 =>
                    condK x107
                    (
                      purK (addA 7 x3) fun x109 =>
                      purK (ld1 ρ H x109) fun x110 =>
                      resK (call lim 29 [x0, x110] H) fun x111 H =>
                      purK (extA 0 x111) fun x112 =>
                      purK (extA 1 x111) fun x113 =>
                      retK [x112, x113] H)
                    (
                      resK (call lim 30 [x0] H) fun x115 H =>
                      purK (extA 0 x115) fun x116 =>
                      purK (extA 1 x115) fun x117 =>
                      retK [x116, x117] H))))))))))
theorem G5 (ρ : Addr → Option Value) (call : CallF) (yc : YieldF) (lim k : Nat) (x0 x1 : AV) (H : Heap) :
    evL (cx ρ) call yc false 5 lim k c5 [x0, x1, (.tup []), (.tup []), (.tup []), (.tup []), (.tup []), (.tup []), (.tup []), (.tup []), (.tup []), (.tup []), (.tup []), (.tup []), (.tup []), (.tup []), (.tup []), (.tup []), (.tup []), (.tup []), (.tup []), (.tup []), (.tup []), (.tup []), (.tup []), (.tup []), (.tup []), (.tup []), (.tup []), (.tup []), (.tup []), (.tup []), (.tup []), (.tup []), (.tup []), (.tup []), (.tup []), (.tup []), (.tup []), (.tup []), (.tup []), (.tup []), (.tup []), (.tup []), (.tup []), (.tup []), (.tup []), (.tup []), (.tup []), (.tup []), (.tup []), (.tup []), (.tup []), (.tup []), (.tup []), (.tup []), (.tup []), (.tup []), (.tup []), (.tup []), (.tup []), (.tup []), (.tup []), (.tup []), (.tup []), (.tup []), (.tup []), (.tup []), (.tup []), (.tup []), (.tup []), (.tup []), (.tup []), (.tup []), (.tup []), (.tup []), (.tup []), (.tup []), (.tup []), (.tup []), (.tup []), (.tup []), (.tup []), (.tup []), (.tup []), (.tup []), (.tup []), (.tup []), (.tup []), (.tup []), (.tup []), (.tup []), (.tup []), (.tup []), (.tup []), (.tup []), (.tup []), (.tup []), (.tup []), (.tup []), (.tup []), (.tup []), (.tup []), (.tup []), (.tup []), (.tup []), (.tup []), (.tup []), (.tup []), (.tup []), (.tup []), (.tup []), (.tup []), (.tup []), (.tup []), (.tup []), (.tup []), (.tup [])] H (kk none (fun s H => retK (([4, 5] : List Nat).map fun t => s.getD t (.tup [])) H) [] retK [4, 5]) = L5 ρ call yc lim k x0 x1 H := by
  kernel_rfl
theorem E5 (ρ : Addr → Option Value) (k lim : Nat) (x0 x1 : AV) (H : Heap) : evCall (cx ρ) (k + 1) lim 5 [x0, x1] H = L5 ρ (evCall (cx ρ) k) (evCY (cx ρ) k).2 lim k x0 x1 H := by
  rw [evCall_body (cx ρ) k lim 5 _ H Tryz.f5 c5 [4, 5] (by kernel_rfl) (by kernel_rfl) (by kernel_rfl) (by kernel_rfl) (by kernel_rfl)]
  exact G5 ρ (evCall (cx ρ) k) (evCY (cx ρ) k).2 lim k x0 x1 H
-- (*haycroft/store.Store).Outcome
noncomputable def c6 : Code := Code.of Tryz.prog 6
noncomputable def L6 (ρ : Addr → Option Value) (call : CallF) (yc : YieldF) (lim k : Nat) (x0 x1 x2 : AV) (H : Heap) : Res :=
  effK H (some (.ptr H.sz 0 0, .new (newCells 36 false [.int .i64 0, .str ByteArray.empty]))) fun x6 H =>
  resK (call lim 18 [x0, x1] H) fun x10 H =>
  resK (call lim 31 [x10, x2] H) fun x12 H =>
  purK (extA 0 x12) fun x13 =>
  purK (extA 1 x12) fun x14 =>
  effK H (stA lim H 2 x6 x13) fun _ H =>
  (retC (cx ρ) [some 36, none]) [x6, x14] H
theorem G6 (ρ : Addr → Option Value) (call : CallF) (yc : YieldF) (lim k : Nat) (x0 x1 x2 : AV) (H : Heap) :
    evL (cx ρ) call yc false 6 lim k c6 [x0, x1, x2, (.tup []), (.tup []), (.tup []), (.tup []), (.tup []), (.tup []), (.tup []), (.tup []), (.tup []), (.tup []), (.tup []), (.tup [])] H (kk none (fun s H => (retC (cx ρ) [some 36, none]) (([6, 7] : List Nat).map fun t => s.getD t (.tup [])) H) [] (retC (cx ρ) [some 36, none]) [6, 7]) = L6 ρ call yc lim k x0 x1 x2 H := by
  kernel_rfl
theorem E6 (ρ : Addr → Option Value) (k lim : Nat) (x0 x1 x2 : AV) (H : Heap) : evCall (cx ρ) (k + 1) lim 6 [x0, x1, x2] H = L6 ρ (evCall (cx ρ) k) (evCY (cx ρ) k).2 lim k x0 x1 x2 H := by
  rw [evCall_cells (cx ρ) k lim 6 _ H Tryz.f6 c6 [6, 7] [some 36, none] (by kernel_rfl) (by kernel_rfl) (by kernel_rfl) (by kernel_rfl) (by kernel_rfl) (by kernel_rfl)]
  exact G6 ρ (evCall (cx ρ) k) (evCY (cx ρ) k).2 lim k x0 x1 x2 H
-- haycroft/store.Open
noncomputable def c7 : Code := Code.of Tryz.prog 7
noncomputable def L7 (ρ : Addr → Option Value) (call : CallF) (yc : YieldF) (lim k : Nat) (x0 x1 : AV) (H : Heap) : Res :=
  effK H (boxA H 23 x0) fun x2 H =>
  purK (binA Tryz.prog H .eql 41 x1 .nilp) fun x10 =>
  condK x10
  (
    retK [.nilp, (.int .i64 2)] H)
  (
    purK (ldN ρ H 6 x2) fun x12 =>
    resK (call lim 32 [x12] H) fun x13 H =>
    purK (unA .not x13) fun x14 =>
    condK x14
    (
      retK [.nilp, (.int .i64 1)] H)
    (
      resK (call lim 33 [x1] H) fun x17 H =>
      purK (unA .not x17) fun x18 =>
      condK x18
      (
        retK [.nilp, (.int .i64 6)] H)
      (
        purK (ldN ρ H 6 x2) fun x20 =>
        resK (call lim 34 [x20, x1] H) fun x22 H =>
        purK (extA 0 x22) fun x23 =>
        purK (extA 1 x22) fun x24 =>
        purK (binA Tryz.prog H .neq 32 x24 (.int .i64 0)) fun x26 =>
        condK x26
        (
          retK [.nilp, x24] H)
        (
          purK (ldN ρ H 6 x2) fun x28 =>
          purK (bldA [.int .i64 0, .int .i64 0, .int .i64 0, .int .i64 0, .int .i64 0, .int .i64 0, .nilp, .nilp] [(0, 6, x28), (6, 1, x1), (7, 1, x23)]) fun x31 =>
          effK H (boxA H 57 x31) fun x32 H =>
          retK [x32, (.int .i64 0)] H))))
theorem G7 (ρ : Addr → Option Value) (call : CallF) (yc : YieldF) (lim k : Nat) (x0 x1 : AV) (H : Heap) :
    evL (cx ρ) call yc false 7 lim k c7 [x0, x1, (.tup []), (.tup []), (.tup []), (.tup []), (.tup []), (.tup []), (.tup []), (.tup []), (.tup []), (.tup []), (.tup []), (.tup []), (.tup []), (.tup []), (.tup []), (.tup []), (.tup []), (.tup []), (.tup []), (.tup []), (.tup []), (.tup []), (.tup []), (.tup []), (.tup []), (.tup []), (.tup []), (.tup []), (.tup []), (.tup []), (.tup [])] H (kk none (fun s H => retK (([4, 5] : List Nat).map fun t => s.getD t (.tup [])) H) [] retK [4, 5]) = L7 ρ call yc lim k x0 x1 H := by
  kernel_rfl
theorem E7 (ρ : Addr → Option Value) (k lim : Nat) (x0 x1 : AV) (H : Heap) : evCall (cx ρ) (k + 1) lim 7 [x0, x1] H = L7 ρ (evCall (cx ρ) k) (evCY (cx ρ) k).2 lim k x0 x1 H := by
  rw [evCall_body (cx ρ) k lim 7 _ H Tryz.f7 c7 [4, 5] (by kernel_rfl) (by kernel_rfl) (by kernel_rfl) (by kernel_rfl) (by kernel_rfl)]
  exact G7 ρ (evCall (cx ρ) k) (evCY (cx ρ) k).2 lim k x0 x1 H
-- haycroft/device.New
noncomputable def c8 : Code := Code.of Tryz.prog 8
noncomputable def L8 (ρ : Addr → Option Value) (call : CallF) (yc : YieldF) (lim k : Nat) (H : Heap) : Res :=
  effK H (some (makeMapA H)) fun x1 H =>
  effK H (some (makeMapA H)) fun x2 H =>
  effK H (some (makeMapA H)) fun x3 H =>
  purK (bldA [.bool false, .nilm, .nilm, .nilm, .int .i64 0] [(1, 1, x1), (2, 1, x2), (3, 1, x3)]) fun x4 =>
  effK H (boxA H 73 x4) fun x5 H =>
  retK [x5] H
theorem G8 (ρ : Addr → Option Value) (call : CallF) (yc : YieldF) (lim k : Nat) (H : Heap) :
    evL (cx ρ) call yc false 8 lim k c8 [(.tup []), (.tup []), (.tup []), (.tup []), (.tup []), (.tup [])] H (kk none (fun s H => retK (([0] : List Nat).map fun t => s.getD t (.tup [])) H) [] retK [0]) = L8 ρ call yc lim k H := by
  kernel_rfl
theorem E8 (ρ : Addr → Option Value) (k lim : Nat) (H : Heap) : evCall (cx ρ) (k + 1) lim 8 [] H = L8 ρ (evCall (cx ρ) k) (evCY (cx ρ) k).2 lim k H := by
  rw [evCall_body (cx ρ) k lim 8 _ H Tryz.f8 c8 [0] (by kernel_rfl) (by kernel_rfl) (by kernel_rfl) (by kernel_rfl) (by kernel_rfl)]
  exact G8 ρ (evCall (cx ρ) k) (evCY (cx ρ) k).2 lim k H
-- (*haycroft/device.Device).Crash
noncomputable def c9 : Code := Code.of Tryz.prog 9
noncomputable def N9_1 (ρ : Addr → Option Value) (call : CallF) (yc : YieldF) (lim k : Nat) (x0 : AV) (H : Heap) (R : List AV → Heap → Res) : Res :=
  purK (nilChkA x0) fun x72_1 =>
  purK (addA 2 x72_1) fun x73_1 =>
  purK (ld1 ρ H x73_1) fun x74_1 =>
  effK H (builtinA (cx ρ) lim H .clear #[70] [x74_1]) fun _ H =>
  purK (nilChkA x0) fun x76_1 =>
  purK (addA 3 x76_1) fun x77_1 =>
  purK (ld1 ρ H x77_1) fun x78_1 =>
  effK H (builtinA (cx ρ) lim H .clear #[71] [x78_1]) fun _ H =>
  purK (nilChkA x0) fun x80_1 =>
  purK (addA 0 x80_1) fun x81_1 =>
  effK H (stA lim H 1 x81_1 (.bool true)) fun _ H =>
  R [(.int .i64 0)] H
theorem N9_1_eq (ρ : Addr → Option Value) (call : CallF) (yc : YieldF) (lim k : Nat) (x0 : AV) (H : Heap) (R : List AV → Heap → Res) :
    evL (cx ρ) call yc false 9 lim k (Code.at [1, 1, 1] c9) (sp 82 [(0, x0)]) H (kk none (fun s H => R (([4] : List Nat).map fun t => s.getD t (.tup [])) H) [] R [4]) = N9_1 ρ call yc lim k x0 H R := by
  kernel_rfl
noncomputable def N9_4 (ρ : Addr → Option Value) (call : CallF) (yc : YieldF) (lim k : Nat) (x0 x1 x16 x17 x18 : AV) (H : Heap) (kn : AV → AV → AV → AV → AV → Heap → Res) : Res :=
  purK (binA Tryz.prog H .add 3 x18 (.int .i64 1)) fun x70_1 =>
  kn x0 x1 x16 x17 x70_1 H
theorem N9_4_eq (ρ : Addr → Option Value) (call : CallF) (yc : YieldF) (lim k : Nat) (x0 x1 x16 x17 x18 : AV) (H : Heap) (kn : KS) (k0 : KS) (R : List AV → Heap → Res) :
    evL (cx ρ) call yc false 9 lim k (Code.at [1, 1, 0, 1, 0, 0, 1, 1, 1] c9) (sp 82 [(0, x0), (1, x1), (16, x16), (17, x17), (18, x18)]) H (kk (some [0, 1, 16, 17, 18]) kn [(0, (some [0]), k0)] R [4]) = N9_4 ρ call yc lim k x0 x1 x16 x17 x18 H (fun x0 x1 x16 x17 x18 H => kn (sp 82 [(0, x0), (1, x1), (16, x16), (17, x17), (18, x18)]) H) := by
  kernel_rfl
noncomputable def N9_5 (ρ : Addr → Option Value) (call : CallF) (yc : YieldF) (lim k : Nat) (x0 x1 x8 x9 x16 x17 x18 : AV) (H : Heap) (kn : AV → AV → AV → AV → AV → Heap → Res) : Res :=
  purK (binA Tryz.prog H .eql 3 x9 (.int .i64 1)) fun x41_1 =>
  condK x41_1
  (
    purK (nilChkA x0) fun x43_1 =>
    purK (addA 1 x43_1) fun x44_1 =>
    purK (ld1 ρ H x44_1) fun x45_1 =>
    purK (addA 0 x8) fun x46_1 =>
    purK (ldN ρ H 2 x46_1) fun x47_1 =>
    purK (addA 3 x8) fun x48_1 =>
    purK (ld1 ρ H x48_1) fun x49_1 =>
    effK H ((mapPutA (cx ρ) lim H 69 x45_1 x47_1 x49_1).map skips) fun _ H =>
    kn x0 x1 x16 x17 x18 H)
  (
    purK (binA Tryz.prog H .gtr 3 x9 (.int .i64 1)) fun x52_1 =>
    condK x52_1
    (
      purK (nilChkA x0) fun x54_1 =>
      purK (addA 1 x54_1) fun x55_1 =>
      purK (ld1 ρ H x55_1) fun x56_1 =>
      purK (addA 0 x8) fun x57_1 =>
      purK (ldN ρ H 2 x57_1) fun x58_1 =>
      purK (nilChkA x0) fun x60_1 =>
      purK (addA 1 x60_1) fun x61_1 =>
      purK (ld1 ρ H x61_1) fun x62_1 =>
      purK (addA 0 x8) fun x63_1 =>
      purK (ldN ρ H 2 x63_1) fun x64_1 =>
      purK (lookupA (cx ρ) H 69 x62_1 x64_1 false) fun x65_1 =>
      purK (addA 3 x8) fun x66_1 =>
      purK (ld1 ρ H x66_1) fun x67_1 =>
      resK (call lim 37 [x65_1, x67_1, x9] H) fun x69_1 H => bif (agn (ldN ρ H 2 x57_1) x58_1 && (agn (ld1 ρ H x55_1) x56_1 && true)) then
        effK H ((mapPutA (cx ρ) lim H 69 x56_1 x58_1 x69_1).map skips) fun _ H =>
        kn x0 x1 x16 x17 x18 H
      else none)
    (
      kn x0 x1 x16 x17 x18 H))
theorem N9_5_eq (ρ : Addr → Option Value) (call : CallF) (yc : YieldF) (lim k : Nat) (x0 x1 x8 x9 x16 x17 x18 : AV) (H : Heap) (kn : KS) (k1 : KS) (k0 : KS) (R : List AV → Heap → Res) :
    evL (cx ρ) call yc false 9 lim k (Code.at [1, 1, 0, 1, 0, 0, 1, 1, 0, 0, 1, 1, 1, 1, 1] c9) (sp 82 [(0, x0), (1, x1), (8, x8), (9, x9), (16, x16), (17, x17), (18, x18)]) H (kk (some [0, 1, 16, 17, 18]) kn [(1, (some [0, 1, 16, 17, 18]), k1), (0, (some [0]), k0)] R [4]) = N9_5 ρ call yc lim k x0 x1 x8 x9 x16 x17 x18 H (fun x0 x1 x16 x17 x18 H => kn (sp 82 [(0, x0), (1, x1), (16, x16), (17, x17), (18, x18)]) H) := by
  kernel_rfl
noncomputable def N9_3b (ρ : Addr → Option Value) (call : CallF) (yc : YieldF) (lim k : Nat) (x0 x1 x16 x17 x18 : AV) (H : Heap) (kn : AV → AV → AV → AV → AV → Heap → Res) (k0 : AV → Heap → Res) : Res :=
  purK (binA Tryz.prog H .lss 3 x18 x17) fun x19_1 =>
  condK x19_1
  (
    purK (ixS 1 x16 x18) fun x20_1 =>
    purK (ld1 ρ H x20_1) fun x21_1 =>
    purK (nilChkA x0) fun x23_1 =>
    purK (addA 2 x23_1) fun x24_1 =>
    purK (ld1 ρ H x24_1) fun x25_1 =>
    purK (lookupA (cx ρ) H 70 x25_1 x21_1 false) fun x27_1 =>
    effK H (some (.ptr H.sz 0 0, .new (newCells 79 false [.int .i64 0, .int .i64 0, .bool false, .str ByteArray.empty]))) fun x8_1 H =>
    effK H (stA lim H 4 x8_1 x27_1) fun _ H =>
    purK (addA 2 x8_1) fun x28_1 =>
    purK (ld1 ρ H x28_1) fun x29_1 =>
    purK (unA .not x29_1) fun x30_1 =>
    condK x30_1
    (
      N9_4 ρ call yc lim k x0 x1 x16 x17 x18 H kn)
    (
      purK (lenS x1) fun x32_1 =>
      purK (binA Tryz.prog H .gtr 3 x32_1 (.int .i64 0)) fun x33_1 =>
      condK x33_1
      (
        purK (ixS 1 x1 (.int .i64 0)) fun x35_1 =>
        purK (ld1 ρ H x35_1) fun x36_1 =>
        purK (slS 1 x1 (some (.int .i64 1)) none none) fun x38_1 =>
        N9_5 ρ call yc lim k x0 x38_1 x8_1 x36_1 x16 x17 x18 H (fun x0_1 x1_2 x16_1 x17_1 x18_1 H =>
          N9_4 ρ call yc lim k x0_1 x1_2 x16_1 x17_1 x18_1 H kn))
      (
        N9_5 ρ call yc lim k x0 x1 x8_1 (.int .i64 0) x16 x17 x18 H (fun x0_2 x1_3 x16_2 x17_2 x18_2 H =>
          N9_4 ρ call yc lim k x0_2 x1_3 x16_2 x17_2 x18_2 H kn))))
  (
    k0 x0 H)
theorem N9_3b_x (ρ : Addr → Option Value) (call : CallF) (yc : YieldF) (lim k : Nat) (J : CodeF) (x0 x1 x16 x17 x18 : AV) (H : Heap) (kn : KS) (k0 : KS) (R : List AV → Heap → Res) :
    evX (cx ρ) call yc false 9 lim k J (Code.at [1, 1, 0, 1, 0, 0] c9) (sp 82 [(0, x0), (1, x1), (16, x16), (17, x17), (18, x18)]) H (kk (some [0, 1, 16, 17, 18]) kn [(0, (some [0]), k0)] R [4]) =
  purK (binA Tryz.prog H .lss 3 x18 x17) fun x19_1 =>
  condK x19_1
  (
    purK (ixS 1 x16 x18) fun x20_1 =>
    purK (ld1 ρ H x20_1) fun x21_1 =>
    purK (nilChkA x0) fun x23_1 =>
    purK (addA 2 x23_1) fun x24_1 =>
    purK (ld1 ρ H x24_1) fun x25_1 =>
    purK (lookupA (cx ρ) H 70 x25_1 x21_1 false) fun x27_1 =>
    effK H (some (.ptr H.sz 0 0, .new (newCells 79 false [.int .i64 0, .int .i64 0, .bool false, .str ByteArray.empty]))) fun x8_1 H =>
    effK H (stA lim H 4 x8_1 x27_1) fun _ H =>
    purK (addA 2 x8_1) fun x28_1 =>
    purK (ld1 ρ H x28_1) fun x29_1 =>
    purK (unA .not x29_1) fun x30_1 =>
    condK x30_1
    (
      J (Code.at [1, 1, 0, 1, 0, 0, 1, 1, 1] c9) (sp 82 [(0, x0), (1, x1), (16, x16), (17, x17), (18, x18)]) H (kk (some [0, 1, 16, 17, 18]) kn [(0, (some [0]), k0)] R [4]))
    (
      purK (lenS x1) fun x32_1 =>
      purK (binA Tryz.prog H .gtr 3 x32_1 (.int .i64 0)) fun x33_1 =>
      condK x33_1
      (
        purK (ixS 1 x1 (.int .i64 0)) fun x35_1 =>
        purK (ld1 ρ H x35_1) fun x36_1 =>
        purK (slS 1 x1 (some (.int .i64 1)) none none) fun x38_1 =>
        J (Code.at [1, 1, 0, 1, 0, 0, 1, 1, 0, 0, 1, 1, 1, 1, 1] c9) (sp 82 [(0, x0), (1, x38_1), (8, x8_1), (9, x36_1), (16, x16), (17, x17), (18, x18)]) H (kk (some [0, 1, 16, 17, 18]) (fun s H => J (Code.at [1, 1, 0, 1, 0, 0, 1, 1, 1] c9) s H (kk (some [0, 1, 16, 17, 18]) kn [(0, (some [0]), k0)] R [4])) [(1, (some [0, 1, 16, 17, 18]), (fun s H => J (Code.at [1, 1, 0, 1, 0, 0, 1, 1, 1] c9) s H (kk (some [0, 1, 16, 17, 18]) kn [(0, (some [0]), k0)] R [4]))), (0, (some [0]), k0)] R [4]))
      (
        J (Code.at [1, 1, 0, 1, 0, 0, 1, 1, 0, 0, 1, 1, 1, 1, 1] c9) (sp 82 [(0, x0), (1, x1), (8, x8_1), (9, (.int .i64 0)), (16, x16), (17, x17), (18, x18)]) H (kk (some [0, 1, 16, 17, 18]) (fun s H => J (Code.at [1, 1, 0, 1, 0, 0, 1, 1, 1] c9) s H (kk (some [0, 1, 16, 17, 18]) kn [(0, (some [0]), k0)] R [4])) [(1, (some [0, 1, 16, 17, 18]), (fun s H => J (Code.at [1, 1, 0, 1, 0, 0, 1, 1, 1] c9) s H (kk (some [0, 1, 16, 17, 18]) kn [(0, (some [0]), k0)] R [4]))), (0, (some [0]), k0)] R [4]))))
  (
    k0 (sp 82 [(0, x0)]) H) := by
  kernel_rfl
theorem N9_3b_eq (ρ : Addr → Option Value) (call : CallF) (yc : YieldF) (lim k : Nat) (x0 x1 x16 x17 x18 : AV) (H : Heap) (kn : KS) (k0 : KS) (R : List AV → Heap → Res) :
    evL (cx ρ) call yc false 9 lim k (Code.at [1, 1, 0, 1, 0, 0] c9) (sp 82 [(0, x0), (1, x1), (16, x16), (17, x17), (18, x18)]) H (kk (some [0, 1, 16, 17, 18]) kn [(0, (some [0]), k0)] R [4]) = N9_3b ρ call yc lim k x0 x1 x16 x17 x18 H (fun x0 x1 x16 x17 x18 H => kn (sp 82 [(0, x0), (1, x1), (16, x16), (17, x17), (18, x18)]) H) (fun x0 H => k0 (sp 82 [(0, x0)]) H) := by
  rw [evL_X, N9_3b_x]
  simp only [← evL_X, N9_3b, N9_4_eq, N9_5_eq]
noncomputable def N9_3 (ρ : Addr → Option Value) (call : CallF) (yc : YieldF) (lim k : Nat) (x0 x1 x16 x17 x18 : AV) (H : Heap) (k0 : AV → Heap → Res) : Res :=
  loopL (fun (x : AV × AV) H kn => N9_3b ρ call yc lim k x0 x.1 x16 x17 x.2 H (fun _ x1 _ _ x18 H => kn (x1, x18) H) k0) k (x1, x18) H
theorem N9_3_eq (ρ : Addr → Option Value) (call : CallF) (yc : YieldF) (lim k : Nat) (x0 x1 x16 x17 x18 : AV) (H : Heap) (kn : KS) (k0 : KS) (R : List AV → Heap → Res) :
    evL (cx ρ) call yc false 9 lim k (Code.at [1, 1, 0, 1, 0] c9) (sp 82 [(0, x0), (1, x1), (16, x16), (17, x17), (18, x18)]) H (kk (some [0]) kn [(0, (some [0]), k0)] R [4]) = N9_3 ρ call yc lim k x0 x1 x16 x17 x18 H (fun x0 H => k0 (sp 82 [(0, x0)]) H) := by
  have e : Code.at [1, 1, 0, 1, 0] c9 = .loop (Code.at [1, 1, 0, 1, 0, 0] c9) := by kernel_rfl
  rw [e]
  unfold N9_3
  exact loop_node [0, 1, 16, 17, 18] (fun x : AV × AV => (sp 82 [(0, x0), (1, (x.1)), (16, x16), (17, x17), (18, (x.2))])) (fun (x : AV × AV) H kn => N9_3b ρ call yc lim k x0 x.1 x16 x17 x.2 H (fun _ x1 _ _ x18 H => kn (x1, x18) H) (fun x0 H => k0 (sp 82 [(0, x0)]) H)) (by kernel_rfl) (fun x => by kernel_rfl) (fun x H kn => N9_3b_eq ρ call yc lim k x0 (x.1) x16 x17 (x.2) H kn k0 R) (x1, x18) (sp 82 [(0, x0), (1, x1), (16, x16), (17, x17), (18, x18)]) H (by kernel_rfl)
noncomputable def N9_2 (ρ : Addr → Option Value) (call : CallF) (yc : YieldF) (lim k : Nat) (x0 x1 x16 x17 x18 : AV) (H : Heap) (kn : AV → Heap → Res) : Res :=
  N9_3 ρ call yc lim k x0 x1 x16 x17 x18 H kn
theorem N9_2_x (ρ : Addr → Option Value) (call : CallF) (yc : YieldF) (lim k : Nat) (J : CodeF) (x0 x1 x16 x17 x18 : AV) (H : Heap) (kn : KS) (R : List AV → Heap → Res) :
    evX (cx ρ) call yc false 9 lim k J (Code.at [1, 1, 0, 1] c9) (sp 82 [(0, x0), (1, x1), (16, x16), (17, x17), (18, x18)]) H (kk (some [0]) kn [] R [4]) =
  J (Code.at [1, 1, 0, 1, 0] c9) (sp 82 [(0, x0), (1, x1), (16, x16), (17, x17), (18, x18)]) H (kk (some [0]) kn [(0, (some [0]), kn)] R [4]) := by
  kernel_rfl
theorem N9_2_eq (ρ : Addr → Option Value) (call : CallF) (yc : YieldF) (lim k : Nat) (x0 x1 x16 x17 x18 : AV) (H : Heap) (kn : KS) (R : List AV → Heap → Res) :
    evL (cx ρ) call yc false 9 lim k (Code.at [1, 1, 0, 1] c9) (sp 82 [(0, x0), (1, x1), (16, x16), (17, x17), (18, x18)]) H (kk (some [0]) kn [] R [4]) = N9_2 ρ call yc lim k x0 x1 x16 x17 x18 H (fun x0 H => kn (sp 82 [(0, x0)]) H) := by
  rw [evL_X, N9_2_x]
  simp only [← evL_X, N9_2, N9_3_eq]
noncomputable def L9 (ρ : Addr → Option Value) (call : CallF) (yc : YieldF) (lim k : Nat) (x0 x1 : AV) (H : Heap) : Res :=
  resK (call lim 35 [x0] H) fun x11 H =>
  purK (binA Tryz.prog H .neq 32 x11 (.int .i64 0)) fun x13 =>
  condK x13
  (
    retK [x11] H)
  (
    resK (call lim 36 [x0] H) fun x16 H =>
    purK (lenS x16) fun x17 =>
    N9_2 ρ call yc lim k x0 x1 x16 x17 (.int .i64 0) H (fun x0_1 H =>
      N9_1 ρ call yc lim k x0_1 H retK))
theorem L9_x (ρ : Addr → Option Value) (call : CallF) (yc : YieldF) (lim k : Nat) (J : CodeF) (x0 x1 : AV) (H : Heap) :
    evX (cx ρ) call yc false 9 lim k J c9 [x0, x1, (.tup []), (.tup []), (.tup []), (.tup []), (.tup []), (.tup []), (.tup []), (.tup []), (.tup []), (.tup []), (.tup []), (.tup []), (.tup []), (.tup []), (.tup []), (.tup []), (.tup []), (.tup []), (.tup []), (.tup []), (.tup []), (.tup []), (.tup []), (.tup []), (.tup []), (.tup []), (.tup []), (.tup []), (.tup []), (.tup []), (.tup []), (.tup []), (.tup []), (.tup []), (.tup []), (.tup []), (.tup []), (.tup []), (.tup []), (.tup []), (.tup []), (.tup []), (.tup []), (.tup []), (.tup []), (.tup []), (.tup []), (.tup []), (.tup []), (.tup []), (.tup []), (.tup []), (.tup []), (.tup []), (.tup []), (.tup []), (.tup []), (.tup []), (.tup []), (.tup []), (.tup []), (.tup []), (.tup []), (.tup []), (.tup []), (.tup []), (.tup []), (.tup []), (.tup []), (.tup []), (.tup []), (.tup []), (.tup []), (.tup []), (.tup []), (.tup []), (.tup []), (.tup []), (.tup []), (.tup [])] H (kk none (fun s H => retK (([4] : List Nat).map fun t => s.getD t (.tup [])) H) [] retK [4]) =
  resK (call lim 35 [x0] H) fun x11 H =>
  purK (binA Tryz.prog H .neq 32 x11 (.int .i64 0)) fun x13 =>
  condK x13
  (
    retK [x11] H)
  (
    resK (call lim 36 [x0] H) fun x16 H =>
    purK (lenS x16) fun x17 =>
    J (Code.at [1, 1, 0, 1] c9) (sp 82 [(0, x0), (1, x1), (16, x16), (17, x17), (18, (.int .i64 0))]) H (kk (some [0]) (fun s H => J (Code.at [1, 1, 1] c9) s H (kk none (fun s H => retK (([4] : List Nat).map fun t => s.getD t (.tup [])) H) [] retK [4])) [] retK [4])) := by
  kernel_rfl
theorem G9 (ρ : Addr → Option Value) (call : CallF) (yc : YieldF) (lim k : Nat) (x0 x1 : AV) (H : Heap) :
    evL (cx ρ) call yc false 9 lim k c9 [x0, x1, (.tup []), (.tup []), (.tup []), (.tup []), (.tup []), (.tup []), (.tup []), (.tup []), (.tup []), (.tup []), (.tup []), (.tup []), (.tup []), (.tup []), (.tup []), (.tup []), (.tup []), (.tup []), (.tup []), (.tup []), (.tup []), (.tup []), (.tup []), (.tup []), (.tup []), (.tup []), (.tup []), (.tup []), (.tup []), (.tup []), (.tup []), (.tup []), (.tup []), (.tup []), (.tup []), (.tup []), (.tup []), (.tup []), (.tup []), (.tup []), (.tup []), (.tup []), (.tup []), (.tup []), (.tup []), (.tup []), (.tup []), (.tup []), (.tup []), (.tup []), (.tup []), (.tup []), (.tup []), (.tup []), (.tup []), (.tup []), (.tup []), (.tup []), (.tup []), (.tup []), (.tup []), (.tup []), (.tup []), (.tup []), (.tup []), (.tup []), (.tup []), (.tup []), (.tup []), (.tup []), (.tup []), (.tup []), (.tup []), (.tup []), (.tup []), (.tup []), (.tup []), (.tup []), (.tup []), (.tup [])] H (kk none (fun s H => retK (([4] : List Nat).map fun t => s.getD t (.tup [])) H) [] retK [4]) = L9 ρ call yc lim k x0 x1 H := by
  rw [evL_X, L9_x]
  simp only [← evL_X, L9, N9_1_eq, N9_2_eq]
theorem E9 (ρ : Addr → Option Value) (k lim : Nat) (x0 x1 : AV) (H : Heap) : evCall (cx ρ) (k + 1) lim 9 [x0, x1] H = L9 ρ (evCall (cx ρ) k) (evCY (cx ρ) k).2 lim k x0 x1 H := by
  rw [evCall_body (cx ρ) k lim 9 _ H Tryz.f9 c9 [4] (by kernel_rfl) (by kernel_rfl) (by kernel_rfl) (by kernel_rfl) (by kernel_rfl)]
  exact G9 ρ (evCall (cx ρ) k) (evCY (cx ρ) k).2 lim k x0 x1 H
-- haycroft/haycroftref24.Right
noncomputable def c10 : Code := Code.of Tryz.prog 10
noncomputable def L10 (ρ : Addr → Option Value) (call : CallF) (yc : YieldF) (lim k : Nat) (x0 : AV) (H : Heap) : Res :=
  effK H (boxA H 23 x0) fun x1 H =>
  purK (addA 0 x1) fun x3 =>
  purK (ld1 ρ H x3) fun x4 =>
  resK (call lim 38 [x4] H) fun x5 H =>
  purK (binA Tryz.prog H .gtr 3 x5 (.int .i64 0)) fun x6 =>
  purK (gPur (wantV x6 true) (addA 1 x1)) fun x8 =>
  purK (gPur (wantV x6 true) (ld1 ρ H x8)) fun x9 =>
  purK (gPur (wantV x6 true) (binA Tryz.prog H .geq 3 x9 (.int .i64 2))) fun x10 =>
  purK (pickA x6 x10 (.bool false)) fun x11 =>
  purK (gPur (wantV x11 true) (addA 1 x1)) fun x13 =>
  purK (gPur (wantV x11 true) (ld1 ρ H x13)) fun x14 =>
  purK (gPur (wantV x11 true) (binA Tryz.prog H .leq 3 x14 (.int .i64 8))) fun x15 =>
  purK (pickA x11 x15 (.bool false)) fun x16 =>
  purK (gPur (wantV x16 true) (addA 2 x1)) fun x18 =>
  purK (gPur (wantV x16 true) (ld1 ρ H x18)) fun x19 =>
  purK (gPur (wantV x16 true) (binA Tryz.prog H .geq 3 x19 (.int .i64 1))) fun x20 =>
  purK (pickA x16 x20 (.bool false)) fun x21 =>
  purK (gPur (wantV x21 true) (addA 2 x1)) fun x23 =>
  purK (gPur (wantV x21 true) (ld1 ρ H x23)) fun x24 =>
  purK (gPur (wantV x21 true) (binA Tryz.prog H .leq 3 x24 (.int .i64 64))) fun x25 =>
  purK (pickA x21 x25 (.bool false)) fun x26 =>
  purK (gPur (wantV x26 true) (addA 3 x1)) fun x28 =>
  purK (gPur (wantV x26 true) (ld1 ρ H x28)) fun x29 =>
  resK (gRes (wantV x26 true) H (call lim 39 [x29] H)) fun x30 H =>
  purK (pickA x26 x30 (.bool false)) fun x31 =>
  purK (gPur (wantV x31 true) (addA 4 x1)) fun x33 =>
  purK (gPur (wantV x31 true) (ld1 ρ H x33)) fun x34 =>
  purK (gPur (wantV x31 true) (binA Tryz.prog H .geq 3 x34 (.int .i64 0))) fun x35 =>
  purK (pickA x31 x35 (.bool false)) fun x36 =>
  purK (gPur (wantV x36 true) (addA 4 x1)) fun x38 =>
  purK (gPur (wantV x36 true) (ld1 ρ H x38)) fun x39 =>
  purK (gPur (wantV x36 true) (binA Tryz.prog H .leq 3 x39 (.int .i64 64))) fun x40 =>
  purK (pickA x36 x40 (.bool false)) fun x41 =>
  purK (gPur (wantV x41 true) (addA 5 x1)) fun x43 =>
  purK (gPur (wantV x41 true) (ld1 ρ H x43)) fun x44 =>
  purK (gPur (wantV x41 true) (binA Tryz.prog H .geq 3 x44 (.int .i64 1))) fun x45 =>
  purK (pickA x41 x45 (.bool false)) fun x46 =>
  purK (gPur (wantV x46 true) (addA 5 x1)) fun x48 =>
  purK (gPur (wantV x46 true) (ld1 ρ H x48)) fun x49 =>
  purK (gPur (wantV x46 true) (binA Tryz.prog H .leq 3 x49 (.int .i64 8))) fun x50 =>
  purK (pickA x46 x50 (.bool false)) fun x51 =>
  retK [x51] H
theorem G10 (ρ : Addr → Option Value) (call : CallF) (yc : YieldF) (lim k : Nat) (x0 : AV) (H : Heap) :
    evL (cx ρ) call yc false 10 lim k c10 [x0, (.tup []), (.tup []), (.tup []), (.tup []), (.tup []), (.tup []), (.tup []), (.tup []), (.tup []), (.tup []), (.tup []), (.tup []), (.tup []), (.tup []), (.tup []), (.tup []), (.tup []), (.tup []), (.tup []), (.tup []), (.tup []), (.tup []), (.tup []), (.tup []), (.tup []), (.tup []), (.tup []), (.tup []), (.tup []), (.tup []), (.tup []), (.tup []), (.tup []), (.tup []), (.tup []), (.tup []), (.tup []), (.tup []), (.tup []), (.tup []), (.tup []), (.tup []), (.tup []), (.tup []), (.tup []), (.tup []), (.tup []), (.tup []), (.tup []), (.tup []), (.tup [])] H (kk none (fun s H => retK (([2] : List Nat).map fun t => s.getD t (.tup [])) H) [] retK [2]) = L10 ρ call yc lim k x0 H := by
  kernel_rfl
theorem E10 (ρ : Addr → Option Value) (k lim : Nat) (x0 : AV) (H : Heap) : evCall (cx ρ) (k + 1) lim 10 [x0] H = L10 ρ (evCall (cx ρ) k) (evCY (cx ρ) k).2 lim k x0 H := by
  rw [evCall_body (cx ρ) k lim 10 _ H Tryz.f10 c10 [2] (by kernel_rfl) (by kernel_rfl) (by kernel_rfl) (by kernel_rfl) (by kernel_rfl)]
  exact G10 ρ (evCall (cx ρ) k) (evCY (cx ρ) k).2 lim k x0 H
-- (*haycroft/store.Store).Up
noncomputable def c11 : Code := Code.of Tryz.prog 11
noncomputable def L11 (ρ : Addr → Option Value) (call : CallF) (yc : YieldF) (lim k : Nat) (x0 : AV) (H : Heap) : Res :=
  purK (binA Tryz.prog H .neq 31 x0 .nilp) fun x4 =>
  purK (gPur (wantV x4 true) (some x0)) fun x6 =>
  purK (gPur (wantV x4 true) (nilChkA x6)) fun x7 =>
  purK (gPur (wantV x4 true) (addA 7 x7)) fun x8 =>
  purK (gPur (wantV x4 true) (ld1 ρ H x8)) fun x9 =>
  purK (gPur (wantV x4 true) (binA Tryz.prog H .neq 55 x9 .nilp)) fun x10 =>
  purK (pickA x4 x10 (.bool false)) fun x11 =>
  retK [x11] H
theorem G11 (ρ : Addr → Option Value) (call : CallF) (yc : YieldF) (lim k : Nat) (x0 : AV) (H : Heap) :
    evL (cx ρ) call yc false 11 lim k c11 [x0, (.tup []), (.tup []), (.tup []), (.tup []), (.tup []), (.tup []), (.tup []), (.tup []), (.tup []), (.tup []), (.tup [])] H (kk none (fun s H => retK (([2] : List Nat).map fun t => s.getD t (.tup [])) H) [] retK [2]) = L11 ρ call yc lim k x0 H := by
  kernel_rfl
theorem E11 (ρ : Addr → Option Value) (k lim : Nat) (x0 : AV) (H : Heap) : evCall (cx ρ) (k + 1) lim 11 [x0] H = L11 ρ (evCall (cx ρ) k) (evCY (cx ρ) k).2 lim k x0 H := by
  rw [evCall_body (cx ρ) k lim 11 _ H Tryz.f11 c11 [2] (by kernel_rfl) (by kernel_rfl) (by kernel_rfl) (by kernel_rfl) (by kernel_rfl)]
  exact G11 ρ (evCall (cx ρ) k) (evCY (cx ρ) k).2 lim k x0 H
-- (*haycroft/store.Store).Gen
noncomputable def c12 : Code := Code.of Tryz.prog 12
noncomputable def L12 (ρ : Addr → Option Value) (call : CallF) (yc : YieldF) (lim k : Nat) (x0 : AV) (H : Heap) : Res :=
  resK (call lim 11 [x0] H) fun x4 H =>
  purK (unA .not x4) fun x5 =>
  condK x5
  (
    retK [(.int .i64 0)] H)
  (
    purK (nilChkA x0) fun x7 =>
    purK (addA 7 x7) fun x8 =>
    purK (ld1 ρ H x8) fun x9 =>
    purK (nilChkA x9) fun x10 =>
    purK (addA 3 x10) fun x11 =>
    purK (ld1 ρ H x11) fun x12 =>
    retK [x12] H)
theorem G12 (ρ : Addr → Option Value) (call : CallF) (yc : YieldF) (lim k : Nat) (x0 : AV) (H : Heap) :
    evL (cx ρ) call yc false 12 lim k c12 [x0, (.tup []), (.tup []), (.tup []), (.tup []), (.tup []), (.tup []), (.tup []), (.tup []), (.tup []), (.tup []), (.tup []), (.tup [])] H (kk none (fun s H => retK (([2] : List Nat).map fun t => s.getD t (.tup [])) H) [] retK [2]) = L12 ρ call yc lim k x0 H := by
  kernel_rfl
theorem E12 (ρ : Addr → Option Value) (k lim : Nat) (x0 : AV) (H : Heap) : evCall (cx ρ) (k + 1) lim 12 [x0] H = L12 ρ (evCall (cx ρ) k) (evCY (cx ρ) k).2 lim k x0 H := by
  rw [evCall_body (cx ρ) k lim 12 _ H Tryz.f12 c12 [2] (by kernel_rfl) (by kernel_rfl) (by kernel_rfl) (by kernel_rfl) (by kernel_rfl)]
  exact G12 ρ (evCall (cx ρ) k) (evCY (cx ρ) k).2 lim k x0 H
-- (*haycroft/store.Store).Saving
noncomputable def c13 : Code := Code.of Tryz.prog 13
noncomputable def L13 (ρ : Addr → Option Value) (call : CallF) (yc : YieldF) (lim k : Nat) (x0 : AV) (H : Heap) : Res :=
  resK (call lim 11 [x0] H) fun x4 H =>
  purK (gPur (wantV x4 true) (some x0)) fun x6 =>
  purK (gPur (wantV x4 true) (nilChkA x6)) fun x7 =>
  purK (gPur (wantV x4 true) (addA 7 x7)) fun x8 =>
  purK (gPur (wantV x4 true) (ld1 ρ H x8)) fun x9 =>
  purK (gPur (wantV x4 true) (nilChkA x9)) fun x10 =>
  purK (gPur (wantV x4 true) (addA 4 x10)) fun x11 =>
  purK (gPur (wantV x4 true) (ld1 ρ H x11)) fun x12 =>
  purK (gPur (wantV x4 true) (binA Tryz.prog H .neq 59 x12 .nilp)) fun x13 =>
  purK (pickA x4 x13 (.bool false)) fun x14 =>
  retK [x14] H
theorem G13 (ρ : Addr → Option Value) (call : CallF) (yc : YieldF) (lim k : Nat) (x0 : AV) (H : Heap) :
    evL (cx ρ) call yc false 13 lim k c13 [x0, (.tup []), (.tup []), (.tup []), (.tup []), (.tup []), (.tup []), (.tup []), (.tup []), (.tup []), (.tup []), (.tup []), (.tup []), (.tup []), (.tup [])] H (kk none (fun s H => retK (([2] : List Nat).map fun t => s.getD t (.tup [])) H) [] retK [2]) = L13 ρ call yc lim k x0 H := by
  kernel_rfl
theorem E13 (ρ : Addr → Option Value) (k lim : Nat) (x0 : AV) (H : Heap) : evCall (cx ρ) (k + 1) lim 13 [x0] H = L13 ρ (evCall (cx ρ) k) (evCY (cx ρ) k).2 lim k x0 H := by
  rw [evCall_body (cx ρ) k lim 13 _ H Tryz.f13 c13 [2] (by kernel_rfl) (by kernel_rfl) (by kernel_rfl) (by kernel_rfl) (by kernel_rfl)]
  exact G13 ρ (evCall (cx ρ) k) (evCY (cx ρ) k).2 lim k x0 H
-- (*haycroft/store.Store).Config
noncomputable def c14 : Code := Code.of Tryz.prog 14
noncomputable def L14 (ρ : Addr → Option Value) (call : CallF) (yc : YieldF) (lim k : Nat) (x0 : AV) (H : Heap) : Res :=
  effK H (some (.ptr H.sz 0 0, .new (newCells 23 false [.int .i64 0, .int .i64 0, .int .i64 0, .int .i64 0, .int .i64 0, .int .i64 0]))) fun x2 H =>
  purK (binA Tryz.prog H .eql 31 x0 .nilp) fun x4 =>
  condK x4
  (
    purK (bldA [.int .i64 0, .int .i64 0, .int .i64 0, .int .i64 0, .int .i64 0, .int .i64 0] []) fun x5 =>
    effK H (stA lim H 6 x2 x5) fun _ H =>
    (retC (cx ρ) [some 23]) [x2] H)
  (
    purK (nilChkA x0) fun x7 =>
    purK (addA 0 x7) fun x8 =>
    purK (ldN ρ H 6 x8) fun x9 =>
    effK H (stA lim H 6 x2 x9) fun _ H =>
    (retC (cx ρ) [some 23]) [x2] H)
theorem G14 (ρ : Addr → Option Value) (call : CallF) (yc : YieldF) (lim k : Nat) (x0 : AV) (H : Heap) :
    evL (cx ρ) call yc false 14 lim k c14 [x0, (.tup []), (.tup []), (.tup []), (.tup []), (.tup []), (.tup []), (.tup []), (.tup []), (.tup [])] H (kk none (fun s H => (retC (cx ρ) [some 23]) (([2] : List Nat).map fun t => s.getD t (.tup [])) H) [] (retC (cx ρ) [some 23]) [2]) = L14 ρ call yc lim k x0 H := by
  kernel_rfl
theorem E14 (ρ : Addr → Option Value) (k lim : Nat) (x0 : AV) (H : Heap) : evCall (cx ρ) (k + 1) lim 14 [x0] H = L14 ρ (evCall (cx ρ) k) (evCY (cx ρ) k).2 lim k x0 H := by
  rw [evCall_cells (cx ρ) k lim 14 _ H Tryz.f14 c14 [2] [some 23] (by kernel_rfl) (by kernel_rfl) (by kernel_rfl) (by kernel_rfl) (by kernel_rfl) (by kernel_rfl)]
  exact G14 ρ (evCall (cx ρ) k) (evCY (cx ρ) k).2 lim k x0 H
-- (*haycroft/store.Store).Log
noncomputable def c15 : Code := Code.of Tryz.prog 15
noncomputable def L15 (ρ : Addr → Option Value) (call : CallF) (yc : YieldF) (lim k : Nat) (x0 : AV) (H : Heap) : Res :=
  resK (call lim 11 [x0] H) fun x4 H =>
  purK (unA .not x4) fun x5 =>
  condK x5
  (
    retK [.nilp] H)
  (
    purK (nilChkA x0) fun x7 =>
    purK (addA 7 x7) fun x8 =>
    purK (ld1 ρ H x8) fun x9 =>
    purK (nilChkA x9) fun x10 =>
    purK (addA 0 x10) fun x11 =>
    purK (ld1 ρ H x11) fun x12 =>
    retK [x12] H)
theorem G15 (ρ : Addr → Option Value) (call : CallF) (yc : YieldF) (lim k : Nat) (x0 : AV) (H : Heap) :
    evL (cx ρ) call yc false 15 lim k c15 [x0, (.tup []), (.tup []), (.tup []), (.tup []), (.tup []), (.tup []), (.tup []), (.tup []), (.tup []), (.tup []), (.tup []), (.tup [])] H (kk none (fun s H => retK (([2] : List Nat).map fun t => s.getD t (.tup [])) H) [] retK [2]) = L15 ρ call yc lim k x0 H := by
  kernel_rfl
theorem E15 (ρ : Addr → Option Value) (k lim : Nat) (x0 : AV) (H : Heap) : evCall (cx ρ) (k + 1) lim 15 [x0] H = L15 ρ (evCall (cx ρ) k) (evCY (cx ρ) k).2 lim k x0 H := by
  rw [evCall_body (cx ρ) k lim 15 _ H Tryz.f15 c15 [2] (by kernel_rfl) (by kernel_rfl) (by kernel_rfl) (by kernel_rfl) (by kernel_rfl)]
  exact G15 ρ (evCall (cx ρ) k) (evCY (cx ρ) k).2 lim k x0 H
-- (*haycroft/store.Store).Index
noncomputable def c16 : Code := Code.of Tryz.prog 16
noncomputable def L16 (ρ : Addr → Option Value) (call : CallF) (yc : YieldF) (lim k : Nat) (x0 : AV) (H : Heap) : Res :=
  resK (call lim 11 [x0] H) fun x4 H =>
  purK (unA .not x4) fun x5 =>
  condK x5
  (
    retK [.nilp] H)
  (
    purK (nilChkA x0) fun x7 =>
    purK (addA 7 x7) fun x8 =>
    purK (ld1 ρ H x8) fun x9 =>
    purK (nilChkA x9) fun x10 =>
    purK (addA 1 x10) fun x11 =>
    purK (ld1 ρ H x11) fun x12 =>
    retK [x12] H)
theorem G16 (ρ : Addr → Option Value) (call : CallF) (yc : YieldF) (lim k : Nat) (x0 : AV) (H : Heap) :
    evL (cx ρ) call yc false 16 lim k c16 [x0, (.tup []), (.tup []), (.tup []), (.tup []), (.tup []), (.tup []), (.tup []), (.tup []), (.tup []), (.tup []), (.tup []), (.tup [])] H (kk none (fun s H => retK (([2] : List Nat).map fun t => s.getD t (.tup [])) H) [] retK [2]) = L16 ρ call yc lim k x0 H := by
  kernel_rfl
theorem E16 (ρ : Addr → Option Value) (k lim : Nat) (x0 : AV) (H : Heap) : evCall (cx ρ) (k + 1) lim 16 [x0] H = L16 ρ (evCall (cx ρ) k) (evCY (cx ρ) k).2 lim k x0 H := by
  rw [evCall_body (cx ρ) k lim 16 _ H Tryz.f16 c16 [2] (by kernel_rfl) (by kernel_rfl) (by kernel_rfl) (by kernel_rfl) (by kernel_rfl)]
  exact G16 ρ (evCall (cx ρ) k) (evCY (cx ρ) k).2 lim k x0 H
-- (*haycroft/store.Store).Device
noncomputable def c17 : Code := Code.of Tryz.prog 17
noncomputable def L17 (ρ : Addr → Option Value) (call : CallF) (yc : YieldF) (lim k : Nat) (x0 : AV) (H : Heap) : Res :=
  purK (binA Tryz.prog H .eql 31 x0 .nilp) fun x4 =>
  condK x4
  (
    retK [.nilp] H)
  (
    purK (nilChkA x0) fun x6 =>
    purK (addA 6 x6) fun x7 =>
    purK (ld1 ρ H x7) fun x8 =>
    retK [x8] H)
theorem G17 (ρ : Addr → Option Value) (call : CallF) (yc : YieldF) (lim k : Nat) (x0 : AV) (H : Heap) :
    evL (cx ρ) call yc false 17 lim k c17 [x0, (.tup []), (.tup []), (.tup []), (.tup []), (.tup []), (.tup []), (.tup []), (.tup [])] H (kk none (fun s H => retK (([2] : List Nat).map fun t => s.getD t (.tup [])) H) [] retK [2]) = L17 ρ call yc lim k x0 H := by
  kernel_rfl
theorem E17 (ρ : Addr → Option Value) (k lim : Nat) (x0 : AV) (H : Heap) : evCall (cx ρ) (k + 1) lim 17 [x0] H = L17 ρ (evCall (cx ρ) k) (evCY (cx ρ) k).2 lim k x0 H := by
  rw [evCall_body (cx ρ) k lim 17 _ H Tryz.f17 c17 [2] (by kernel_rfl) (by kernel_rfl) (by kernel_rfl) (by kernel_rfl) (by kernel_rfl)]
  exact G17 ρ (evCall (cx ρ) k) (evCY (cx ρ) k).2 lim k x0 H
-- (*haycroft/store.Store).Session
noncomputable def c18 : Code := Code.of Tryz.prog 18
noncomputable def L18 (ρ : Addr → Option Value) (call : CallF) (yc : YieldF) (lim k : Nat) (x0 x1 : AV) (H : Heap) : Res :=
  resK (call lim 11 [x0] H) fun x6 H =>
  purK (unA .not x6) fun x7 =>
  purK (gPur (wantV x7 false) (some x1)) fun x9 =>
  purK (gPur (wantV x7 false) (some x0)) fun x10 =>
  purK (gPur (wantV x7 false) (nilChkA x10)) fun x11 =>
  purK (gPur (wantV x7 false) (addA 0 x11)) fun x12 =>
  purK (gPur (wantV x7 false) (addA 5 x12)) fun x13 =>
  purK (gPur (wantV x7 false) (ld1 ρ H x13)) fun x14 =>
  purK (gPur (wantV x7 false) (binA Tryz.prog H .sub 3 x14 (.int .i64 1))) fun x15 =>
  resK (gRes (wantV x7 false) H (call lim 40 [x9, (.int .i64 0), x15] H)) fun x16 H =>
  purK (gPur (wantV x7 false) (unA .not x16)) fun x17 =>
  purK (pickA x7 (.bool true) x17) fun x18 =>
  condK x18
  (
    retK [.nilp] H)
  (
    purK (nilChkA x0) fun x20 =>
    purK (addA 7 x20) fun x21 =>
    purK (ld1 ρ H x21) fun x22 =>
    purK (nilChkA x22) fun x23 =>
    purK (addA 2 x23) fun x24 =>
    purK (ld1 ρ H x24) fun x25 =>
    purK (ixS 1 x25 x1) fun x27 =>
    purK (ld1 ρ H x27) fun x28 =>
    retK [x28] H)
theorem G18 (ρ : Addr → Option Value) (call : CallF) (yc : YieldF) (lim k : Nat) (x0 x1 : AV) (H : Heap) :
    evL (cx ρ) call yc false 18 lim k c18 [x0, x1, (.tup []), (.tup []), (.tup []), (.tup []), (.tup []), (.tup []), (.tup []), (.tup []), (.tup []), (.tup []), (.tup []), (.tup []), (.tup []), (.tup []), (.tup []), (.tup []), (.tup []), (.tup []), (.tup []), (.tup []), (.tup []), (.tup []), (.tup []), (.tup []), (.tup []), (.tup []), (.tup [])] H (kk none (fun s H => retK (([4] : List Nat).map fun t => s.getD t (.tup [])) H) [] retK [4]) = L18 ρ call yc lim k x0 x1 H := by
  kernel_rfl
theorem E18 (ρ : Addr → Option Value) (k lim : Nat) (x0 x1 : AV) (H : Heap) : evCall (cx ρ) (k + 1) lim 18 [x0, x1] H = L18 ρ (evCall (cx ρ) k) (evCY (cx ρ) k).2 lim k x0 x1 H := by
  rw [evCall_body (cx ρ) k lim 18 _ H Tryz.f18 c18 [4] (by kernel_rfl) (by kernel_rfl) (by kernel_rfl) (by kernel_rfl) (by kernel_rfl)]
  exact G18 ρ (evCall (cx ρ) k) (evCY (cx ρ) k).2 lim k x0 x1 H
-- haycroft/haycroftlaw24.Plain
noncomputable def c19 : Code := Code.of Tryz.prog 19
noncomputable def L19 (ρ : Addr → Option Value) (call : CallF) (yc : YieldF) (lim k : Nat) (H : Heap) : Res :=
  effK H (some (.ptr H.sz 0 0, .new (newCells 23 false [.int .i64 0, .int .i64 0, .int .i64 0, .int .i64 0, .int .i64 0, .int .i64 0]))) fun x0 H =>
  purK (bldA [.int .i64 0, .int .i64 0, .int .i64 0, .int .i64 0, .int .i64 0, .int .i64 0] [(0, 1, (.int .i64 5)), (1, 1, (.int .i64 2)), (2, 1, (.int .i64 8)), (3, 1, (.int .i64 1)), (4, 1, (.int .i64 1)), (5, 1, (.int .i64 2))]) fun x1 =>
  effK H (stA lim H 6 x0 x1) fun _ H =>
  (retC (cx ρ) [some 23]) [x0] H
theorem G19 (ρ : Addr → Option Value) (call : CallF) (yc : YieldF) (lim k : Nat) (H : Heap) :
    evL (cx ρ) call yc false 19 lim k c19 [(.tup []), (.tup [])] H (kk none (fun s H => (retC (cx ρ) [some 23]) (([0] : List Nat).map fun t => s.getD t (.tup [])) H) [] (retC (cx ρ) [some 23]) [0]) = L19 ρ call yc lim k H := by
  kernel_rfl
theorem E19 (ρ : Addr → Option Value) (k lim : Nat) (H : Heap) : evCall (cx ρ) (k + 1) lim 19 [] H = L19 ρ (evCall (cx ρ) k) (evCY (cx ρ) k).2 lim k H := by
  rw [evCall_cells (cx ρ) k lim 19 _ H Tryz.f19 c19 [0] [some 23] (by kernel_rfl) (by kernel_rfl) (by kernel_rfl) (by kernel_rfl) (by kernel_rfl) (by kernel_rfl)]
  exact G19 ρ (evCall (cx ρ) k) (evCY (cx ρ) k).2 lim k H
-- (*haycroft/store.Store).may
noncomputable def c20 : Code := Code.of Tryz.prog 20
noncomputable def L20 (ρ : Addr → Option Value) (call : CallF) (yc : YieldF) (lim k : Nat) (x0 x1 : AV) (H : Heap) : Res :=
  effK H (boxA H 29 x1) fun x3 H =>
  purK (addA 0 x3) fun x6 =>
  purK (ld1 ρ H x6) fun x7 =>
  resK (call lim 40 [x7, (.int .i64 1), (.int .i64 3)] H) fun x8 H =>
  purK (binA Tryz.prog H .eql 31 x0 .nilp) fun x11 =>
  condK x11
  (
    retK [(.int .i64 2)] H)
  (
    purK (addA 0 x3) fun x13 =>
    purK (ld1 ρ H x13) fun x14 =>
    resK (call lim 40 [x14, (.int .i64 1), (.int .i64 10)] H) fun x15 H =>
    purK (unA .not x15) fun x16 =>
    condK x16
    (
      retK [(.int .i64 1)] H)
    (
      purK (addA 0 x3) fun x18 =>
      purK (ld1 ρ H x18) fun x19 =>
      purK (binA Tryz.prog H .eql 3 x19 (.int .i64 10)) fun x20 =>
      purK (gPur (wantV x20 true) (some x0)) fun x22 =>
      resK (gRes (wantV x20 true) H (call lim 11 [x22] H)) fun x23 H =>
      purK (pickA x20 x23 (.bool false)) fun x24 =>
      condK x24
      (
        retK [(.int .i64 8)] H)
      (
        purK (addA 0 x3) fun x26 =>
        purK (ld1 ρ H x26) fun x27 =>
        purK (binA Tryz.prog H .neq 3 x27 (.int .i64 10)) fun x28 =>
        purK (gPur (wantV x28 true) (some x0)) fun x30 =>
        resK (gRes (wantV x28 true) H (call lim 11 [x30] H)) fun x31 H =>
        purK (gPur (wantV x28 true) (unA .not x31)) fun x32 =>
        purK (pickA x28 x32 (.bool false)) fun x33 =>
        condK x33
        (
          retK [(.int .i64 6)] H)
        (
          boolK (wantV x8 true) fun b1 => purK (bif b1 then addA 1 x3 else some (.tup [])) fun x37 =>
          boolK (wantV x8 true) fun b2 => purK (bif b2 then ld1 ρ H x37 else some (.tup [])) fun x38 =>
          boolK (wantV x8 true) fun b3 => purK (bif b3 then some x0 else some (.tup [])) fun x39 =>
          boolK (wantV x8 true) fun b4 => purK (bif b4 then nilChkA x39 else some (.tup [])) fun x40 =>
          boolK (wantV x8 true) fun b5 => purK (bif b5 then addA 0 x40 else some (.tup [])) fun x41 =>
          boolK (wantV x8 true) fun b6 => purK (bif b6 then addA 5 x41 else some (.tup [])) fun x42 =>
          boolK (wantV x8 true) fun b7 => purK (bif b7 then ld1 ρ H x42 else some (.tup [])) fun x43 =>
          boolK (wantV x8 true) fun b8 => purK (bif b8 then binA Tryz.prog H .sub 3 x43 (.int .i64 1) else some (.tup [])) fun x44 =>
          boolK (wantV x8 true) fun b9 => resK (gRes (some b9) H (call lim 40 [x38, (.int .i64 0), x44] H)) fun x45 H => bif !b9 || ((!b8 || true) && ((!b7 || true) && ((!b2 || true) && true))) then
            purK (gPur (wantV x8 true) (unA .not x45)) fun x46 =>
            purK (pickA x8 x46 (.bool false)) fun x47 =>
            condK x47
            (
              retK [(.int .i64 1)] H)
            (
              retK [(.int .i64 0)] H)
          else none))))
theorem G20 (ρ : Addr → Option Value) (call : CallF) (yc : YieldF) (lim k : Nat) (x0 x1 : AV) (H : Heap) :
    evL (cx ρ) call yc false 20 lim k c20 [x0, x1, (.tup []), (.tup []), (.tup []), (.tup []), (.tup []), (.tup []), (.tup []), (.tup []), (.tup []), (.tup []), (.tup []), (.tup []), (.tup []), (.tup []), (.tup []), (.tup []), (.tup []), (.tup []), (.tup []), (.tup []), (.tup []), (.tup []), (.tup []), (.tup []), (.tup []), (.tup []), (.tup []), (.tup []), (.tup []), (.tup []), (.tup []), (.tup []), (.tup []), (.tup []), (.tup []), (.tup []), (.tup []), (.tup []), (.tup []), (.tup []), (.tup []), (.tup []), (.tup []), (.tup []), (.tup []), (.tup [])] H (kk none (fun s H => retK (([4] : List Nat).map fun t => s.getD t (.tup [])) H) [] retK [4]) = L20 ρ call yc lim k x0 x1 H := by
  kernel_rfl
theorem E20 (ρ : Addr → Option Value) (k lim : Nat) (x0 x1 : AV) (H : Heap) : evCall (cx ρ) (k + 1) lim 20 [x0, x1] H = L20 ρ (evCall (cx ρ) k) (evCY (cx ρ) k).2 lim k x0 x1 H := by
  rw [evCall_body (cx ρ) k lim 20 _ H Tryz.f20 c20 [4] (by kernel_rfl) (by kernel_rfl) (by kernel_rfl) (by kernel_rfl) (by kernel_rfl)]
  exact G20 ρ (evCall (cx ρ) k) (evCY (cx ρ) k).2 lim k x0 x1 H
-- (*haycroft/store.Store).ask
noncomputable def c21 : Code := Code.of Tryz.prog 21
noncomputable def L21 (ρ : Addr → Option Value) (call : CallF) (yc : YieldF) (lim k : Nat) (x0 x1 : AV) (H : Heap) : Res :=
  effK H (boxA H 29 x1) fun x3 H =>
  purK (nilChkA x0) fun x7 =>
  purK (addA 7 x7) fun x8 =>
  purK (ld1 ρ H x8) fun x9 =>
  purK (nilChkA x9) fun x10 =>
  purK (addA 4 x10) fun x11 =>
  purK (ld1 ρ H x11) fun x12 =>
  purK (binA Tryz.prog H .neq 59 x12 .nilp) fun x13 =>
  condK x13
  (
    retK [(.int .i64 0), (.int .i64 10)] H)
  (
    purK (nilChkA x0) fun x15 =>
    purK (addA 7 x15) fun x16 =>
    purK (ld1 ρ H x16) fun x17 =>
    purK (nilChkA x17) fun x18 =>
    purK (addA 2 x18) fun x19 =>
    purK (ld1 ρ H x19) fun x20 =>
    purK (addA 1 x3) fun x21 =>
    purK (ld1 ρ H x21) fun x22 =>
    purK (ixS 1 x20 x22) fun x23 =>
    purK (ld1 ρ H x23) fun x24 =>
    purK (addA 3 x3) fun x25 =>
    purK (ldN ρ H 4 x25) fun x26 =>
    resK (call lim 41 [x24, x26] H) fun x27 H =>
    purK (extA 0 x27) fun x28 =>
    purK (extA 1 x27) fun x29 =>
    retK [x28, x29] H)
theorem G21 (ρ : Addr → Option Value) (call : CallF) (yc : YieldF) (lim k : Nat) (x0 x1 : AV) (H : Heap) :
    evL (cx ρ) call yc false 21 lim k c21 [x0, x1, (.tup []), (.tup []), (.tup []), (.tup []), (.tup []), (.tup []), (.tup []), (.tup []), (.tup []), (.tup []), (.tup []), (.tup []), (.tup []), (.tup []), (.tup []), (.tup []), (.tup []), (.tup []), (.tup []), (.tup []), (.tup []), (.tup []), (.tup []), (.tup []), (.tup []), (.tup []), (.tup []), (.tup [])] H (kk none (fun s H => retK (([4, 5] : List Nat).map fun t => s.getD t (.tup [])) H) [] retK [4, 5]) = L21 ρ call yc lim k x0 x1 H := by
  kernel_rfl
theorem E21 (ρ : Addr → Option Value) (k lim : Nat) (x0 x1 : AV) (H : Heap) : evCall (cx ρ) (k + 1) lim 21 [x0, x1] H = L21 ρ (evCall (cx ρ) k) (evCY (cx ρ) k).2 lim k x0 x1 H := by
  rw [evCall_body (cx ρ) k lim 21 _ H Tryz.f21 c21 [4, 5] (by kernel_rfl) (by kernel_rfl) (by kernel_rfl) (by kernel_rfl) (by kernel_rfl)]
  exact G21 ρ (evCall (cx ρ) k) (evCY (cx ρ) k).2 lim k x0 x1 H
-- (*haycroft/session.Session).Outcome
noncomputable def c31 : Code := Code.of Tryz.prog 31
noncomputable def L31 (ρ : Addr → Option Value) (call : CallF) (yc : YieldF) (lim k : Nat) (x0 x1 : AV) (H : Heap) : Res :=
  effK H (some (.ptr H.sz 0 0, .new (newCells 36 false [.int .i64 0, .str ByteArray.empty]))) fun x4 H =>
  purK (binA Tryz.prog H .eql 51 x0 .nilp) fun x9 =>
  condK x9
  (
    purK (bldA [.int .i64 0, .str ByteArray.empty] []) fun x10 =>
    effK H (stA lim H 2 x4 x10) fun _ H =>
    (retC (cx ρ) [some 36, none]) [x4, (.bool false)] H)
  (
    purK (nilChkA x0) fun x13 =>
    purK (addA 8 x13) fun x14 =>
    purK (ld1 ρ H x14) fun x15 =>
    purK (lookupA (cx ρ) H 87 x15 x1 true) fun x17 =>
    purK (extA 0 x17) fun x18 =>
    purK (extA 1 x17) fun x19 =>
    effK H (some (.ptr H.sz 0 0, .new (newCells 36 false [.int .i64 0, .str ByteArray.empty]))) fun x6 H =>
    effK H (stA lim H 2 x6 x18) fun _ H =>
    purK (ldN ρ H 2 x6) fun x20 =>
    effK H (stA lim H 2 x4 x20) fun _ H =>
    (retC (cx ρ) [some 36, none]) [x4, x19] H)
theorem G31 (ρ : Addr → Option Value) (call : CallF) (yc : YieldF) (lim k : Nat) (x0 x1 : AV) (H : Heap) :
    evL (cx ρ) call yc false 31 lim k c31 [x0, x1, (.tup []), (.tup []), (.tup []), (.tup []), (.tup []), (.tup []), (.tup []), (.tup []), (.tup []), (.tup []), (.tup []), (.tup []), (.tup []), (.tup []), (.tup []), (.tup []), (.tup []), (.tup []), (.tup []), (.tup [])] H (kk none (fun s H => (retC (cx ρ) [some 36, none]) (([4, 5] : List Nat).map fun t => s.getD t (.tup [])) H) [] (retC (cx ρ) [some 36, none]) [4, 5]) = L31 ρ call yc lim k x0 x1 H := by
  kernel_rfl
theorem E31 (ρ : Addr → Option Value) (k lim : Nat) (x0 x1 : AV) (H : Heap) : evCall (cx ρ) (k + 1) lim 31 [x0, x1] H = L31 ρ (evCall (cx ρ) k) (evCY (cx ρ) k).2 lim k x0 x1 H := by
  rw [evCall_cells (cx ρ) k lim 31 _ H Tryz.f31 c31 [4, 5] [some 36, none] (by kernel_rfl) (by kernel_rfl) (by kernel_rfl) (by kernel_rfl) (by kernel_rfl) (by kernel_rfl)]
  exact G31 ρ (evCall (cx ρ) k) (evCY (cx ρ) k).2 lim k x0 x1 H
-- haycroft/store.Right
noncomputable def c32 : Code := Code.of Tryz.prog 32
noncomputable def L32 (ρ : Addr → Option Value) (call : CallF) (yc : YieldF) (lim k : Nat) (x0 : AV) (H : Heap) : Res :=
  effK H (boxA H 23 x0) fun x1 H =>
  purK (addA 0 x1) fun x3 =>
  purK (ld1 ρ H x3) fun x4 =>
  resK (call lim 67 [x4] H) fun x5 H =>
  purK (gPur (wantV x5 true) (addA 1 x1)) fun x7 =>
  purK (gPur (wantV x5 true) (ld1 ρ H x7)) fun x8 =>
  resK (gRes (wantV x5 true) H (call lim 40 [x8, (.int .i64 2), (.int .i64 8)] H)) fun x9 H =>
  purK (pickA x5 x9 (.bool false)) fun x10 =>
  purK (gPur (wantV x10 true) (addA 2 x1)) fun x12 =>
  purK (gPur (wantV x10 true) (ld1 ρ H x12)) fun x13 =>
  resK (gRes (wantV x10 true) H (call lim 40 [x13, (.int .i64 1), (.int .i64 64)] H)) fun x14 H =>
  purK (pickA x10 x14 (.bool false)) fun x15 =>
  purK (gPur (wantV x15 true) (addA 3 x1)) fun x17 =>
  purK (gPur (wantV x15 true) (ld1 ρ H x17)) fun x18 =>
  resK (gRes (wantV x15 true) H (call lim 68 [x18] H)) fun x19 H =>
  purK (pickA x15 x19 (.bool false)) fun x20 =>
  purK (gPur (wantV x20 true) (addA 4 x1)) fun x22 =>
  purK (gPur (wantV x20 true) (ld1 ρ H x22)) fun x23 =>
  resK (gRes (wantV x20 true) H (call lim 40 [x23, (.int .i64 0), (.int .i64 64)] H)) fun x24 H =>
  purK (pickA x20 x24 (.bool false)) fun x25 =>
  purK (gPur (wantV x25 true) (addA 5 x1)) fun x27 =>
  purK (gPur (wantV x25 true) (ld1 ρ H x27)) fun x28 =>
  resK (gRes (wantV x25 true) H (call lim 40 [x28, (.int .i64 1), (.int .i64 8)] H)) fun x29 H =>
  purK (pickA x25 x29 (.bool false)) fun x30 =>
  retK [x30] H
theorem G32 (ρ : Addr → Option Value) (call : CallF) (yc : YieldF) (lim k : Nat) (x0 : AV) (H : Heap) :
    evL (cx ρ) call yc false 32 lim k c32 [x0, (.tup []), (.tup []), (.tup []), (.tup []), (.tup []), (.tup []), (.tup []), (.tup []), (.tup []), (.tup []), (.tup []), (.tup []), (.tup []), (.tup []), (.tup []), (.tup []), (.tup []), (.tup []), (.tup []), (.tup []), (.tup []), (.tup []), (.tup []), (.tup []), (.tup []), (.tup []), (.tup []), (.tup []), (.tup []), (.tup [])] H (kk none (fun s H => retK (([2] : List Nat).map fun t => s.getD t (.tup [])) H) [] retK [2]) = L32 ρ call yc lim k x0 H := by
  kernel_rfl
theorem E32 (ρ : Addr → Option Value) (k lim : Nat) (x0 : AV) (H : Heap) : evCall (cx ρ) (k + 1) lim 32 [x0] H = L32 ρ (evCall (cx ρ) k) (evCY (cx ρ) k).2 lim k x0 H := by
  rw [evCall_body (cx ρ) k lim 32 _ H Tryz.f32 c32 [2] (by kernel_rfl) (by kernel_rfl) (by kernel_rfl) (by kernel_rfl) (by kernel_rfl)]
  exact G32 ρ (evCall (cx ρ) k) (evCY (cx ρ) k).2 lim k x0 H
-- (*haycroft/device.Device).On
noncomputable def c33 : Code := Code.of Tryz.prog 33
noncomputable def L33 (ρ : Addr → Option Value) (call : CallF) (yc : YieldF) (lim k : Nat) (x0 : AV) (H : Heap) : Res :=
  resK (call lim 35 [x0] H) fun x4 H =>
  purK (binA Tryz.prog H .eql 32 x4 (.int .i64 0)) fun x5 =>
  retK [x5] H
theorem G33 (ρ : Addr → Option Value) (call : CallF) (yc : YieldF) (lim k : Nat) (x0 : AV) (H : Heap) :
    evL (cx ρ) call yc false 33 lim k c33 [x0, (.tup []), (.tup []), (.tup []), (.tup []), (.tup [])] H (kk none (fun s H => retK (([2] : List Nat).map fun t => s.getD t (.tup [])) H) [] retK [2]) = L33 ρ call yc lim k x0 H := by
  kernel_rfl
theorem E33 (ρ : Addr → Option Value) (k lim : Nat) (x0 : AV) (H : Heap) : evCall (cx ρ) (k + 1) lim 33 [x0] H = L33 ρ (evCall (cx ρ) k) (evCY (cx ρ) k).2 lim k x0 H := by
  rw [evCall_body (cx ρ) k lim 33 _ H Tryz.f33 c33 [2] (by kernel_rfl) (by kernel_rfl) (by kernel_rfl) (by kernel_rfl) (by kernel_rfl)]
  exact G33 ρ (evCall (cx ρ) k) (evCY (cx ρ) k).2 lim k x0 H
-- haycroft/store.load
noncomputable def c34 : Code := Code.of Tryz.prog 34
noncomputable def N34_1 (ρ : Addr → Option Value) (call : CallF) (yc : YieldF) (lim k : Nat) (x1 x2 : AV) (H : Heap) (R : List AV → Heap → Res) : Res :=
  purK (ldN ρ H 6 x2) fun x25_1 =>
  resK (call lim 71 [x25_1, x1] H) fun x27_1 H =>
  purK (extA 0 x27_1) fun x28_1 =>
  purK (extA 1 x27_1) fun x29_1 =>
  R [x28_1, x29_1] H
theorem N34_1_eq (ρ : Addr → Option Value) (call : CallF) (yc : YieldF) (lim k : Nat) (x1 x2 : AV) (H : Heap) (R : List AV → Heap → Res) :
    evL (cx ρ) call yc false 34 lim k (Code.at [1, 1] c34) (sp 30 [(1, x1), (2, x2)]) H (kk none (fun s H => R (([4, 5] : List Nat).map fun t => s.getD t (.tup [])) H) [] R [4, 5]) = N34_1 ρ call yc lim k x1 x2 H R := by
  kernel_rfl
noncomputable def L34 (ρ : Addr → Option Value) (call : CallF) (yc : YieldF) (lim k : Nat) (x0 x1 : AV) (H : Heap) : Res :=
  effK H (boxA H 23 x0) fun x2 H =>
  resK (call lim 69 [x1] H) fun x12 H =>
  purK (extA 0 x12) fun x13 =>
  purK (extA 1 x12) fun x14 =>
  effK H (some (.ptr H.sz 0 0, .new (newCells 117 false [.int .i64 0, .int .i64 0, .nils, .nils]))) fun x6 H =>
  effK H (stA lim H 4 x6 x13) fun _ H =>
  condK x14
  (
    purK (ldN ρ H 6 x2) fun x17 =>
    purK (ldN ρ H 4 x6) fun x19 =>
    resK (call lim 70 [x17, x1, x19] H) fun x20 H =>
    purK (extA 0 x20) fun x21 =>
    purK (extA 1 x20) fun x22 =>
    condK x22
    (
      retK [x21, (.int .i64 0)] H)
    (
      N34_1 ρ call yc lim k x1 x2 H retK))
  (
    N34_1 ρ call yc lim k x1 x2 H retK)
theorem L34_x (ρ : Addr → Option Value) (call : CallF) (yc : YieldF) (lim k : Nat) (J : CodeF) (x0 x1 : AV) (H : Heap) :
    evX (cx ρ) call yc false 34 lim k J c34 [x0, x1, (.tup []), (.tup []), (.tup []), (.tup []), (.tup []), (.tup []), (.tup []), (.tup []), (.tup []), (.tup []), (.tup []), (.tup []), (.tup []), (.tup []), (.tup []), (.tup []), (.tup []), (.tup []), (.tup []), (.tup []), (.tup []), (.tup []), (.tup []), (.tup []), (.tup []), (.tup []), (.tup []), (.tup [])] H (kk none (fun s H => retK (([4, 5] : List Nat).map fun t => s.getD t (.tup [])) H) [] retK [4, 5]) =
  effK H (boxA H 23 x0) fun x2 H =>
  resK (call lim 69 [x1] H) fun x12 H =>
  purK (extA 0 x12) fun x13 =>
  purK (extA 1 x12) fun x14 =>
  effK H (some (.ptr H.sz 0 0, .new (newCells 117 false [.int .i64 0, .int .i64 0, .nils, .nils]))) fun x6 H =>
  effK H (stA lim H 4 x6 x13) fun _ H =>
  condK x14
  (
    purK (ldN ρ H 6 x2) fun x17 =>
    purK (ldN ρ H 4 x6) fun x19 =>
    resK (call lim 70 [x17, x1, x19] H) fun x20 H =>
    purK (extA 0 x20) fun x21 =>
    purK (extA 1 x20) fun x22 =>
    condK x22
    (
      retK [x21, (.int .i64 0)] H)
    (
      J (Code.at [1, 1] c34) (sp 30 [(1, x1), (2, x2)]) H (kk none (fun s H => retK (([4, 5] : List Nat).map fun t => s.getD t (.tup [])) H) [] retK [4, 5])))
  (
    J (Code.at [1, 1] c34) (sp 30 [(1, x1), (2, x2)]) H (kk none (fun s H => retK (([4, 5] : List Nat).map fun t => s.getD t (.tup [])) H) [] retK [4, 5])) := by
  kernel_rfl
theorem G34 (ρ : Addr → Option Value) (call : CallF) (yc : YieldF) (lim k : Nat) (x0 x1 : AV) (H : Heap) :
    evL (cx ρ) call yc false 34 lim k c34 [x0, x1, (.tup []), (.tup []), (.tup []), (.tup []), (.tup []), (.tup []), (.tup []), (.tup []), (.tup []), (.tup []), (.tup []), (.tup []), (.tup []), (.tup []), (.tup []), (.tup []), (.tup []), (.tup []), (.tup []), (.tup []), (.tup []), (.tup []), (.tup []), (.tup []), (.tup []), (.tup []), (.tup []), (.tup [])] H (kk none (fun s H => retK (([4, 5] : List Nat).map fun t => s.getD t (.tup [])) H) [] retK [4, 5]) = L34 ρ call yc lim k x0 x1 H := by
  rw [evL_X, L34_x]
  simp only [← evL_X, L34, N34_1_eq]
theorem E34 (ρ : Addr → Option Value) (k lim : Nat) (x0 x1 : AV) (H : Heap) : evCall (cx ρ) (k + 1) lim 34 [x0, x1] H = L34 ρ (evCall (cx ρ) k) (evCY (cx ρ) k).2 lim k x0 x1 H := by
  rw [evCall_body (cx ρ) k lim 34 _ H Tryz.f34 c34 [4, 5] (by kernel_rfl) (by kernel_rfl) (by kernel_rfl) (by kernel_rfl) (by kernel_rfl)]
  exact G34 ρ (evCall (cx ρ) k) (evCY (cx ρ) k).2 lim k x0 x1 H
-- (*haycroft/device.Device).power
noncomputable def c35 : Code := Code.of Tryz.prog 35
noncomputable def L35 (ρ : Addr → Option Value) (call : CallF) (yc : YieldF) (lim k : Nat) (x0 : AV) (H : Heap) : Res :=
  purK (binA Tryz.prog H .eql 41 x0 .nilp) fun x5 =>
  condK x5
  (
    retK [(.int .i64 2)] H)
  (
    purK (nilChkA x0) fun x8 =>
    purK (addA 0 x8) fun x9 =>
    purK (ld1 ρ H x9) fun x10 =>
    condK x10
    (
      retK [(.int .i64 6)] H)
    (
      retK [(.int .i64 0)] H))
theorem G35 (ρ : Addr → Option Value) (call : CallF) (yc : YieldF) (lim k : Nat) (x0 : AV) (H : Heap) :
    evL (cx ρ) call yc false 35 lim k c35 [x0, (.tup []), (.tup []), (.tup []), (.tup []), (.tup []), (.tup []), (.tup []), (.tup []), (.tup []), (.tup [])] H (kk none (fun s H => retK (([2] : List Nat).map fun t => s.getD t (.tup [])) H) [] retK [2]) = L35 ρ call yc lim k x0 H := by
  kernel_rfl
theorem E35 (ρ : Addr → Option Value) (k lim : Nat) (x0 : AV) (H : Heap) : evCall (cx ρ) (k + 1) lim 35 [x0] H = L35 ρ (evCall (cx ρ) k) (evCY (cx ρ) k).2 lim k x0 H := by
  rw [evCall_body (cx ρ) k lim 35 _ H Tryz.f35 c35 [2] (by kernel_rfl) (by kernel_rfl) (by kernel_rfl) (by kernel_rfl) (by kernel_rfl)]
  exact G35 ρ (evCall (cx ρ) k) (evCY (cx ρ) k).2 lim k x0 H
-- (*haycroft/device.Device).Flight
noncomputable def c36 : Code := Code.of Tryz.prog 36
noncomputable def L36 (ρ : Addr → Option Value) (call : CallF) (yc : YieldF) (lim k : Nat) (x0 : AV) (H : Heap) : Res :=
  purK (binA Tryz.prog H .eql 41 x0 .nilp) fun x4 =>
  condK x4
  (
    retK [.nils] H)
  (
    purK (nilChkA x0) fun x6 =>
    purK (addA 2 x6) fun x7 =>
    purK (ld1 ρ H x7) fun x8 =>
    resK (call lim 73 [x8] H) fun x9 H =>
    resK (call lim 72 [x9] H) fun x10 H =>
    retK [x10] H)
theorem G36 (ρ : Addr → Option Value) (call : CallF) (yc : YieldF) (lim k : Nat) (x0 : AV) (H : Heap) :
    evL (cx ρ) call yc false 36 lim k c36 [x0, (.tup []), (.tup []), (.tup []), (.tup []), (.tup []), (.tup []), (.tup []), (.tup []), (.tup []), (.tup [])] H (kk none (fun s H => retK (([2] : List Nat).map fun t => s.getD t (.tup [])) H) [] retK [2]) = L36 ρ call yc lim k x0 H := by
  kernel_rfl
theorem E36 (ρ : Addr → Option Value) (k lim : Nat) (x0 : AV) (H : Heap) : evCall (cx ρ) (k + 1) lim 36 [x0] H = L36 ρ (evCall (cx ρ) k) (evCY (cx ρ) k).2 lim k x0 H := by
  rw [evCall_body (cx ρ) k lim 36 _ H Tryz.f36 c36 [2] (by kernel_rfl) (by kernel_rfl) (by kernel_rfl) (by kernel_rfl) (by kernel_rfl)]
  exact G36 ρ (evCall (cx ρ) k) (evCY (cx ρ) k).2 lim k x0 H
-- haycroft/haycroftref02.Size
noncomputable def c38 : Code := Code.of Tryz.prog 38
noncomputable def L38 (ρ : Addr → Option Value) (call : CallF) (yc : YieldF) (lim k : Nat) (x0 : AV) (H : Heap) : Res :=
  purK (binA Tryz.prog H .eql 3 x0 (.int .i64 5)) fun x5 =>
  condK x5
  (
    retK [(.int .i64 32)] H)
  (
    purK (binA Tryz.prog H .eql 3 x0 (.int .i64 6)) fun x7 =>
    condK x7
    (
      retK [(.int .i64 64)] H)
    (
      purK (binA Tryz.prog H .eql 3 x0 (.int .i64 7)) fun x9 =>
      condK x9
      (
        retK [(.int .i64 128)] H)
      (
        purK (binA Tryz.prog H .eql 3 x0 (.int .i64 8)) fun x11 =>
        condK x11
        (
          retK [(.int .i64 256)] H)
        (
          purK (binA Tryz.prog H .eql 3 x0 (.int .i64 9)) fun x13 =>
          condK x13
          (
            retK [(.int .i64 512)] H)
          (
            retK [(.int .i64 0)] H)))))
theorem G38 (ρ : Addr → Option Value) (call : CallF) (yc : YieldF) (lim k : Nat) (x0 : AV) (H : Heap) :
    evL (cx ρ) call yc false 38 lim k c38 [x0, (.tup []), (.tup []), (.tup []), (.tup []), (.tup []), (.tup []), (.tup []), (.tup []), (.tup []), (.tup []), (.tup []), (.tup []), (.tup [])] H (kk none (fun s H => retK (([2] : List Nat).map fun t => s.getD t (.tup [])) H) [] retK [2]) = L38 ρ call yc lim k x0 H := by
  kernel_rfl
theorem E38 (ρ : Addr → Option Value) (k lim : Nat) (x0 : AV) (H : Heap) : evCall (cx ρ) (k + 1) lim 38 [x0] H = L38 ρ (evCall (cx ρ) k) (evCY (cx ρ) k).2 lim k x0 H := by
  rw [evCall_body (cx ρ) k lim 38 _ H Tryz.f38 c38 [2] (by kernel_rfl) (by kernel_rfl) (by kernel_rfl) (by kernel_rfl) (by kernel_rfl)]
  exact G38 ρ (evCall (cx ρ) k) (evCY (cx ρ) k).2 lim k x0 H
-- haycroft/haycroftref03.May
noncomputable def c39 : Code := Code.of Tryz.prog 39
noncomputable def N39_1 (ρ : Addr → Option Value) (call : CallF) (yc : YieldF) (lim k : Nat) (H : Heap) (R : List AV → Heap → Res) : Res :=
  R [(.bool false)] H
theorem N39_1_eq (ρ : Addr → Option Value) (call : CallF) (yc : YieldF) (lim k : Nat) (H : Heap) (R : List AV → Heap → Res) :
    evL (cx ρ) call yc false 39 lim k (Code.at [1, 1] c39) (sp 11 []) H (kk none (fun s H => R (([2] : List Nat).map fun t => s.getD t (.tup [])) H) [] R [2]) = N39_1 ρ call yc lim k H R := by
  kernel_rfl
noncomputable def N39_3b (ρ : Addr → Option Value) (call : CallF) (yc : YieldF) (lim k : Nat) (x0 x3 : AV) (H : Heap) (kn : AV → AV → Heap → Res) (k0 : Heap → Res) (R : List AV → Heap → Res) : Res :=
  purK (binA Tryz.prog H .leq 3 x3 (.int .i64 1024)) fun x5_1 =>
  condK x5_1
  (
    purK (binA Tryz.prog H .eql 3 x3 x0) fun x10_1 =>
    condK x10_1
    (
      R [(.bool true)] H)
    (
      purK (binA Tryz.prog H .mul 3 x3 (.int .i64 2)) fun x7_1 =>
      kn x0 x7_1 H))
  (
    k0 H)
theorem N39_3b_eq (ρ : Addr → Option Value) (call : CallF) (yc : YieldF) (lim k : Nat) (x0 x3 : AV) (H : Heap) (kn : KS) (k0 : KS) (R : List AV → Heap → Res) :
    evL (cx ρ) call yc false 39 lim k (Code.at [1, 0, 1, 0, 0] c39) (sp 11 [(0, x0), (3, x3)]) H (kk (some [0, 3]) kn [(0, (some []), k0)] R [2]) = N39_3b ρ call yc lim k x0 x3 H (fun x0 x3 H => kn (sp 11 [(0, x0), (3, x3)]) H) (fun H => k0 (sp 11 []) H) R := by
  kernel_rfl
noncomputable def N39_3 (ρ : Addr → Option Value) (call : CallF) (yc : YieldF) (lim k : Nat) (x0 x3 : AV) (H : Heap) (k0 : Heap → Res) (R : List AV → Heap → Res) : Res :=
  loopL (fun (x : AV) H kn => N39_3b ρ call yc lim k x0 x H (fun _ x3 H => kn x3 H) k0 R) k x3 H
theorem N39_3_eq (ρ : Addr → Option Value) (call : CallF) (yc : YieldF) (lim k : Nat) (x0 x3 : AV) (H : Heap) (kn : KS) (k0 : KS) (R : List AV → Heap → Res) :
    evL (cx ρ) call yc false 39 lim k (Code.at [1, 0, 1, 0] c39) (sp 11 [(0, x0), (3, x3)]) H (kk (some []) kn [(0, (some []), k0)] R [2]) = N39_3 ρ call yc lim k x0 x3 H (fun H => k0 (sp 11 []) H) R := by
  have e : Code.at [1, 0, 1, 0] c39 = .loop (Code.at [1, 0, 1, 0, 0] c39) := by kernel_rfl
  rw [e]
  unfold N39_3
  exact loop_node [0, 3] (fun x : AV => (sp 11 [(0, x0), (3, (x))])) (fun (x : AV) H kn => N39_3b ρ call yc lim k x0 x H (fun _ x3 H => kn x3 H) (fun H => k0 (sp 11 []) H) R) (by kernel_rfl) (fun x => by kernel_rfl) (fun x H kn => N39_3b_eq ρ call yc lim k x0 (x) H kn k0 R) x3 (sp 11 [(0, x0), (3, x3)]) H (by kernel_rfl)
noncomputable def N39_2 (ρ : Addr → Option Value) (call : CallF) (yc : YieldF) (lim k : Nat) (x0 x3 : AV) (H : Heap) (kn : Heap → Res) (R : List AV → Heap → Res) : Res :=
  N39_3 ρ call yc lim k x0 x3 H kn R
theorem N39_2_x (ρ : Addr → Option Value) (call : CallF) (yc : YieldF) (lim k : Nat) (J : CodeF) (x0 x3 : AV) (H : Heap) (kn : KS) (R : List AV → Heap → Res) :
    evX (cx ρ) call yc false 39 lim k J (Code.at [1, 0, 1] c39) (sp 11 [(0, x0), (3, x3)]) H (kk (some []) kn [] R [2]) =
  J (Code.at [1, 0, 1, 0] c39) (sp 11 [(0, x0), (3, x3)]) H (kk (some []) kn [(0, (some []), kn)] R [2]) := by
  kernel_rfl
theorem N39_2_eq (ρ : Addr → Option Value) (call : CallF) (yc : YieldF) (lim k : Nat) (x0 x3 : AV) (H : Heap) (kn : KS) (R : List AV → Heap → Res) :
    evL (cx ρ) call yc false 39 lim k (Code.at [1, 0, 1] c39) (sp 11 [(0, x0), (3, x3)]) H (kk (some []) kn [] R [2]) = N39_2 ρ call yc lim k x0 x3 H (fun H => kn (sp 11 []) H) R := by
  rw [evL_X, N39_2_x]
  simp only [← evL_X, N39_2, N39_3_eq]
noncomputable def L39 (ρ : Addr → Option Value) (call : CallF) (yc : YieldF) (lim k : Nat) (x0 : AV) (H : Heap) : Res :=
  N39_2 ρ call yc lim k x0 (.int .i64 1) H (fun H =>
    N39_1 ρ call yc lim k H retK) retK
theorem L39_x (ρ : Addr → Option Value) (call : CallF) (yc : YieldF) (lim k : Nat) (J : CodeF) (x0 : AV) (H : Heap) :
    evX (cx ρ) call yc false 39 lim k J c39 [x0, (.tup []), (.tup []), (.tup []), (.tup []), (.tup []), (.tup []), (.tup []), (.tup []), (.tup []), (.tup [])] H (kk none (fun s H => retK (([2] : List Nat).map fun t => s.getD t (.tup [])) H) [] retK [2]) =
  J (Code.at [1, 0, 1] c39) (sp 11 [(0, x0), (3, (.int .i64 1))]) H (kk (some []) (fun s H => J (Code.at [1, 1] c39) s H (kk none (fun s H => retK (([2] : List Nat).map fun t => s.getD t (.tup [])) H) [] retK [2])) [] retK [2]) := by
  kernel_rfl
theorem G39 (ρ : Addr → Option Value) (call : CallF) (yc : YieldF) (lim k : Nat) (x0 : AV) (H : Heap) :
    evL (cx ρ) call yc false 39 lim k c39 [x0, (.tup []), (.tup []), (.tup []), (.tup []), (.tup []), (.tup []), (.tup []), (.tup []), (.tup []), (.tup [])] H (kk none (fun s H => retK (([2] : List Nat).map fun t => s.getD t (.tup [])) H) [] retK [2]) = L39 ρ call yc lim k x0 H := by
  rw [evL_X, L39_x]
  simp only [← evL_X, L39, N39_1_eq, N39_2_eq]
theorem E39 (ρ : Addr → Option Value) (k lim : Nat) (x0 : AV) (H : Heap) : evCall (cx ρ) (k + 1) lim 39 [x0] H = L39 ρ (evCall (cx ρ) k) (evCY (cx ρ) k).2 lim k x0 H := by
  rw [evCall_body (cx ρ) k lim 39 _ H Tryz.f39 c39 [2] (by kernel_rfl) (by kernel_rfl) (by kernel_rfl) (by kernel_rfl) (by kernel_rfl)]
  exact G39 ρ (evCall (cx ρ) k) (evCY (cx ρ) k).2 lim k x0 H
-- haycroft/store.within
noncomputable def c40 : Code := Code.of Tryz.prog 40
noncomputable def L40 (ρ : Addr → Option Value) (call : CallF) (yc : YieldF) (lim k : Nat) (x0 x1 x2 : AV) (H : Heap) : Res :=
  purK (binA Tryz.prog H .geq 3 x0 x1) fun x9 =>
  purK (gPur (wantV x9 true) (some x0)) fun x11 =>
  purK (gPur (wantV x9 true) (some x2)) fun x12 =>
  purK (gPur (wantV x9 true) (binA Tryz.prog H .leq 3 x11 x12)) fun x13 =>
  purK (pickA x9 x13 (.bool false)) fun x14 =>
  retK [x14] H
theorem G40 (ρ : Addr → Option Value) (call : CallF) (yc : YieldF) (lim k : Nat) (x0 x1 x2 : AV) (H : Heap) :
    evL (cx ρ) call yc false 40 lim k c40 [x0, x1, x2, (.tup []), (.tup []), (.tup []), (.tup []), (.tup []), (.tup []), (.tup []), (.tup []), (.tup []), (.tup []), (.tup []), (.tup [])] H (kk none (fun s H => retK (([6] : List Nat).map fun t => s.getD t (.tup [])) H) [] retK [6]) = L40 ρ call yc lim k x0 x1 x2 H := by
  kernel_rfl
theorem E40 (ρ : Addr → Option Value) (k lim : Nat) (x0 x1 x2 : AV) (H : Heap) : evCall (cx ρ) (k + 1) lim 40 [x0, x1, x2] H = L40 ρ (evCall (cx ρ) k) (evCY (cx ρ) k).2 lim k x0 x1 x2 H := by
  rw [evCall_body (cx ρ) k lim 40 _ H Tryz.f40 c40 [6] (by kernel_rfl) (by kernel_rfl) (by kernel_rfl) (by kernel_rfl) (by kernel_rfl)]
  exact G40 ρ (evCall (cx ρ) k) (evCY (cx ρ) k).2 lim k x0 x1 x2 H
-- (*haycroft/session.Session).Ask
noncomputable def c41 : Code := Code.of Tryz.prog 41
noncomputable def L41 (ρ : Addr → Option Value) (call : CallF) (yc : YieldF) (lim k : Nat) (x0 x1 : AV) (H : Heap) : Res :=
  effK H (boxA H 26 x1) fun x3 H =>
  purK (binA Tryz.prog H .eql 51 x0 .nilp) fun x10 =>
  condK x10
  (
    retK [(.int .i64 0), (.int .i64 2)] H)
  (
    purK (nilChkA x0) fun x13 =>
    purK (addA 5 x13) fun x14 =>
    purK (ld1 ρ H x14) fun x15 =>
    purK (binA Tryz.prog H .neq 85 x15 .nilp) fun x16 =>
    condK x16
    (
      retK [(.int .i64 0), (.int .i64 10)] H)
    (
      purK (nilChkA x0) fun x19 =>
      purK (addA 6 x19) fun x20 =>
      purK (ld1 ρ H x20) fun x21 =>
      purK (lenS x21) fun x22 =>
      purK (binA Tryz.prog H .geq 3 x22 (.int .i64 8)) fun x23 =>
      condK x23
      (
        retK [(.int .i64 0), (.int .i64 9)] H)
      (
        purK (nilChkA x0) fun x26 =>
        purK (addA 0 x26) fun x27 =>
        purK (ld1 ρ H x27) fun x28 =>
        purK (nilChkA x0) fun x30 =>
        purK (addA 1 x30) fun x31 =>
        purK (ld1 ρ H x31) fun x32 =>
        purK (nilChkA x0) fun x34 =>
        purK (addA 2 x34) fun x35 =>
        purK (ld1 ρ H x35) fun x36 =>
        purK (ldN ρ H 4 x3) fun x37 =>
        purK (nilChkA x0) fun x39 =>
        purK (addA 7 x39) fun x40 =>
        purK (ld1 ρ H x40) fun x41 =>
        resK (call lim 74 [x28, x32, x36, x37, x41] H) fun x42 H =>
        purK (extA 0 x42) fun x43 =>
        purK (extA 1 x42) fun x44 =>
        purK (binA Tryz.prog H .neq 32 x44 (.int .i64 0)) fun x47 =>
        condK x47
        (
          retK [(.int .i64 0), x44] H)
        (
          purK (nilChkA x0) fun x51 =>
          purK (addA 3 x51) fun x52 =>
          purK (ld1 ρ H x52) fun x53 =>
          purK (binA Tryz.prog H .geq 3 x53 (.int .i64 1073741824)) fun x54 =>
          condK x54
          (
            retK [(.int .i64 0), (.int .i64 13)] H)
          (
            purK (nilChkA x0) fun x56 =>
            purK (addA 3 x56) fun x57 =>
            purK (ld1 ρ H x57) fun x58 =>
            purK (binA Tryz.prog H .add 3 x58 (.int .i64 1)) fun x59 =>
            purK (nilChkA x0) fun x60 =>
            purK (addA 3 x60) fun x61 =>
            effK H (stA lim H 1 x61 x59) fun _ H =>
            purK (nilChkA x0) fun x63 =>
            purK (addA 4 x63) fun x64 =>
            effK H (stA lim H 1 x64 (.bool true)) fun _ H =>
            purK (nilChkA x0) fun x68 =>
            purK (addA 3 x68) fun x69 =>
            purK (ld1 ρ H x69) fun x70 =>
            purK (bldA [.int .i64 0, .nilp, .int .i64 0] [(0, 1, x70), (1, 1, x43)]) fun x72 =>
            effK H (boxA H 93 x72) fun x73 H =>
            purK (nilChkA x0) fun x74 =>
            purK (addA 5 x74) fun x75 =>
            effK H (stA lim H 1 x75 x73) fun _ H =>
            purK (nilChkA x0) fun x76 =>
            purK (addA 7 x76) fun x77 =>
            effK H (stA lim H 1 x77 (.int .i64 0)) fun _ H =>
            purK (nilChkA x0) fun x79 =>
            purK (addA 3 x79) fun x80 =>
            purK (ld1 ρ H x80) fun x81 =>
            retK [x81, (.int .i64 0)] H)))))
theorem G41 (ρ : Addr → Option Value) (call : CallF) (yc : YieldF) (lim k : Nat) (x0 x1 : AV) (H : Heap) :
    evL (cx ρ) call yc false 41 lim k c41 [x0, x1, (.tup []), (.tup []), (.tup []), (.tup []), (.tup []), (.tup []), (.tup []), (.tup []), (.tup []), (.tup []), (.tup []), (.tup []), (.tup []), (.tup []), (.tup []), (.tup []), (.tup []), (.tup []), (.tup []), (.tup []), (.tup []), (.tup []), (.tup []), (.tup []), (.tup []), (.tup []), (.tup []), (.tup []), (.tup []), (.tup []), (.tup []), (.tup []), (.tup []), (.tup []), (.tup []), (.tup []), (.tup []), (.tup []), (.tup []), (.tup []), (.tup []), (.tup []), (.tup []), (.tup []), (.tup []), (.tup []), (.tup []), (.tup []), (.tup []), (.tup []), (.tup []), (.tup []), (.tup []), (.tup []), (.tup []), (.tup []), (.tup []), (.tup []), (.tup []), (.tup []), (.tup []), (.tup []), (.tup []), (.tup []), (.tup []), (.tup []), (.tup []), (.tup []), (.tup []), (.tup []), (.tup []), (.tup []), (.tup []), (.tup []), (.tup []), (.tup []), (.tup []), (.tup []), (.tup []), (.tup [])] H (kk none (fun s H => retK (([4, 5] : List Nat).map fun t => s.getD t (.tup [])) H) [] retK [4, 5]) = L41 ρ call yc lim k x0 x1 H := by
  kernel_rfl
theorem E41 (ρ : Addr → Option Value) (k lim : Nat) (x0 x1 : AV) (H : Heap) : evCall (cx ρ) (k + 1) lim 41 [x0, x1] H = L41 ρ (evCall (cx ρ) k) (evCY (cx ρ) k).2 lim k x0 x1 H := by
  rw [evCall_body (cx ρ) k lim 41 _ H Tryz.f41 c41 [4, 5] (by kernel_rfl) (by kernel_rfl) (by kernel_rfl) (by kernel_rfl) (by kernel_rfl)]
  exact G41 ρ (evCall (cx ρ) k) (evCY (cx ρ) k).2 lim k x0 x1 H
-- haycroft/place.May
noncomputable def c67 : Code := Code.of Tryz.prog 67
noncomputable def L67 (ρ : Addr → Option Value) (call : CallF) (yc : YieldF) (lim k : Nat) (x0 : AV) (H : Heap) : Res :=
  purK (binA Tryz.prog H .geq 3 x0 (.int .i64 5)) fun x4 =>
  purK (gPur (wantV x4 true) (some x0)) fun x6 =>
  purK (gPur (wantV x4 true) (binA Tryz.prog H .leq 3 x6 (.int .i64 9))) fun x7 =>
  purK (pickA x4 x7 (.bool false)) fun x8 =>
  retK [x8] H
theorem G67 (ρ : Addr → Option Value) (call : CallF) (yc : YieldF) (lim k : Nat) (x0 : AV) (H : Heap) :
    evL (cx ρ) call yc false 67 lim k c67 [x0, (.tup []), (.tup []), (.tup []), (.tup []), (.tup []), (.tup []), (.tup []), (.tup [])] H (kk none (fun s H => retK (([2] : List Nat).map fun t => s.getD t (.tup [])) H) [] retK [2]) = L67 ρ call yc lim k x0 H := by
  kernel_rfl
theorem E67 (ρ : Addr → Option Value) (k lim : Nat) (x0 : AV) (H : Heap) : evCall (cx ρ) (k + 1) lim 67 [x0] H = L67 ρ (evCall (cx ρ) k) (evCY (cx ρ) k).2 lim k x0 H := by
  rw [evCall_body (cx ρ) k lim 67 _ H Tryz.f67 c67 [2] (by kernel_rfl) (by kernel_rfl) (by kernel_rfl) (by kernel_rfl) (by kernel_rfl)]
  exact G67 ρ (evCall (cx ρ) k) (evCY (cx ρ) k).2 lim k x0 H
-- haycroft/mix.May
noncomputable def c68 : Code := Code.of Tryz.prog 68
noncomputable def L68 (ρ : Addr → Option Value) (call : CallF) (yc : YieldF) (lim k : Nat) (x0 : AV) (H : Heap) : Res :=
  purK (binA Tryz.prog H .geq 3 x0 (.int .i64 1)) fun x4 =>
  purK (gPur (wantV x4 true) (some x0)) fun x6 =>
  purK (gPur (wantV x4 true) (binA Tryz.prog H .leq 3 x6 (.int .i64 1024))) fun x7 =>
  purK (pickA x4 x7 (.bool false)) fun x8 =>
  purK (gPur (wantV x8 true) (some x0)) fun x10 =>
  purK (gPur (wantV x8 true) (some x0)) fun x11 =>
  purK (gPur (wantV x8 true) (binA Tryz.prog H .sub 3 x11 (.int .i64 1))) fun x12 =>
  purK (gPur (wantV x8 true) (binA Tryz.prog H .and 3 x10 x12)) fun x13 =>
  purK (gPur (wantV x8 true) (binA Tryz.prog H .eql 3 x13 (.int .i64 0))) fun x14 =>
  purK (pickA x8 x14 (.bool false)) fun x15 =>
  retK [x15] H
theorem G68 (ρ : Addr → Option Value) (call : CallF) (yc : YieldF) (lim k : Nat) (x0 : AV) (H : Heap) :
    evL (cx ρ) call yc false 68 lim k c68 [x0, (.tup []), (.tup []), (.tup []), (.tup []), (.tup []), (.tup []), (.tup []), (.tup []), (.tup []), (.tup []), (.tup []), (.tup []), (.tup []), (.tup []), (.tup [])] H (kk none (fun s H => retK (([2] : List Nat).map fun t => s.getD t (.tup [])) H) [] retK [2]) = L68 ρ call yc lim k x0 H := by
  kernel_rfl
theorem E68 (ρ : Addr → Option Value) (k lim : Nat) (x0 : AV) (H : Heap) : evCall (cx ρ) (k + 1) lim 68 [x0] H = L68 ρ (evCall (cx ρ) k) (evCY (cx ρ) k).2 lim k x0 H := by
  rw [evCall_body (cx ρ) k lim 68 _ H Tryz.f68 c68 [2] (by kernel_rfl) (by kernel_rfl) (by kernel_rfl) (by kernel_rfl) (by kernel_rfl)]
  exact G68 ρ (evCall (cx ρ) k) (evCY (cx ρ) k).2 lim k x0 H
-- haycroft/save.Find
noncomputable def c69 : Code := Code.of Tryz.prog 69
noncomputable def N69_2 (ρ : Addr → Option Value) (call : CallF) (yc : YieldF) (lim k : Nat) (x2 : AV) (H : Heap) (R : List AV → Heap → Res) : Res :=
  purK (bldA [.int .i64 0, .int .i64 0, .nils, .nils] []) fun x53_1 =>
  effK H (stA lim H 4 x2 x53_1) fun _ H =>
  R [x2, (.bool false)] H
theorem N69_2_eq (ρ : Addr → Option Value) (call : CallF) (yc : YieldF) (lim k : Nat) (x2 : AV) (H : Heap) (R : List AV → Heap → Res) :
    evL (cx ρ) call yc false 69 lim k (Code.at [1, 1, 1, 1, 1] c69) (sp 54 [(2, x2)]) H (kk none (fun s H => R (([2, 3] : List Nat).map fun t => s.getD t (.tup [])) H) [] R [2, 3]) = N69_2 ρ call yc lim k x2 H R := by
  kernel_rfl
noncomputable def N69_4b (ρ : Addr → Option Value) (call : CallF) (yc : YieldF) (lim k : Nat) (x0 x2 x38 x39 x40 : AV) (H : Heap) (kn : AV → AV → AV → AV → AV → Heap → Res) (k2 : AV → Heap → Res) (R : List AV → Heap → Res) : Res :=
  purK (binA Tryz.prog H .lss 3 x40 x39) fun x41_1 =>
  condK x41_1
  (
    purK (ixS 3 x38 x40) fun x42_1 =>
    purK (ldN ρ H 3 x42_1) fun x43_1 =>
    effK H (some (.ptr H.sz 0 0, .new (newCells 176 false [.int .i64 0, .int .i64 0, .int .u64 0]))) fun x11_1 H =>
    effK H (stA lim H 3 x11_1 x43_1) fun _ H =>
    purK (ldN ρ H 3 x11_1) fun x46_1 =>
    resK (call lim 122 [x0, x46_1] H) fun x47_1 H =>
    purK (extA 0 x47_1) fun x48_1 =>
    purK (extA 1 x47_1) fun x49_1 =>
    effK H (some (.ptr H.sz 0 0, .new (newCells 117 false [.int .i64 0, .int .i64 0, .nils, .nils]))) fun x12_1 H =>
    effK H (stA lim H 4 x12_1 x48_1) fun _ H =>
    condK x49_1
    (
      purK (ldN ρ H 4 x12_1) fun x51_1 =>
      effK H (stA lim H 4 x2 x51_1) fun _ H =>
      R [x2, (.bool true)] H)
    (
      purK (binA Tryz.prog H .add 3 x40 (.int .i64 1)) fun x52_1 =>
      kn x0 x2 x38 x39 x52_1 H))
  (
    k2 x2 H)
theorem N69_4b_eq (ρ : Addr → Option Value) (call : CallF) (yc : YieldF) (lim k : Nat) (x0 x2 x38 x39 x40 : AV) (H : Heap) (kn : KS) (k2 : KS) (R : List AV → Heap → Res) :
    evL (cx ρ) call yc false 69 lim k (Code.at [1, 1, 1, 1, 0, 1, 0, 0] c69) (sp 54 [(0, x0), (2, x2), (38, x38), (39, x39), (40, x40)]) H (kk (some [0, 2, 38, 39, 40]) kn [(2, (some [2]), k2)] R [2, 3]) = N69_4b ρ call yc lim k x0 x2 x38 x39 x40 H (fun x0 x2 x38 x39 x40 H => kn (sp 54 [(0, x0), (2, x2), (38, x38), (39, x39), (40, x40)]) H) (fun x2 H => k2 (sp 54 [(2, x2)]) H) R := by
  kernel_rfl
noncomputable def N69_4 (ρ : Addr → Option Value) (call : CallF) (yc : YieldF) (lim k : Nat) (x0 x2 x38 x39 x40 : AV) (H : Heap) (k2 : AV → Heap → Res) (R : List AV → Heap → Res) : Res :=
  loopL (fun (x : AV) H kn => N69_4b ρ call yc lim k x0 x2 x38 x39 x H (fun _ _ _ _ x40 H => kn x40 H) k2 R) k x40 H
theorem N69_4_eq (ρ : Addr → Option Value) (call : CallF) (yc : YieldF) (lim k : Nat) (x0 x2 x38 x39 x40 : AV) (H : Heap) (kn : KS) (k2 : KS) (R : List AV → Heap → Res) :
    evL (cx ρ) call yc false 69 lim k (Code.at [1, 1, 1, 1, 0, 1, 0] c69) (sp 54 [(0, x0), (2, x2), (38, x38), (39, x39), (40, x40)]) H (kk (some [2]) kn [(2, (some [2]), k2)] R [2, 3]) = N69_4 ρ call yc lim k x0 x2 x38 x39 x40 H (fun x2 H => k2 (sp 54 [(2, x2)]) H) R := by
  have e : Code.at [1, 1, 1, 1, 0, 1, 0] c69 = .loop (Code.at [1, 1, 1, 1, 0, 1, 0, 0] c69) := by kernel_rfl
  rw [e]
  unfold N69_4
  exact loop_node [0, 2, 38, 39, 40] (fun x : AV => (sp 54 [(0, x0), (2, x2), (38, x38), (39, x39), (40, (x))])) (fun (x : AV) H kn => N69_4b ρ call yc lim k x0 x2 x38 x39 x H (fun _ _ _ _ x40 H => kn x40 H) (fun x2 H => k2 (sp 54 [(2, x2)]) H) R) (by kernel_rfl) (fun x => by kernel_rfl) (fun x H kn => N69_4b_eq ρ call yc lim k x0 x2 x38 x39 (x) H kn k2 R) x40 (sp 54 [(0, x0), (2, x2), (38, x38), (39, x39), (40, x40)]) H (by kernel_rfl)
noncomputable def N69_3 (ρ : Addr → Option Value) (call : CallF) (yc : YieldF) (lim k : Nat) (x0 x2 x38 x39 x40 : AV) (H : Heap) (kn : AV → Heap → Res) (R : List AV → Heap → Res) : Res :=
  N69_4 ρ call yc lim k x0 x2 x38 x39 x40 H kn R
theorem N69_3_x (ρ : Addr → Option Value) (call : CallF) (yc : YieldF) (lim k : Nat) (J : CodeF) (x0 x2 x38 x39 x40 : AV) (H : Heap) (kn : KS) (R : List AV → Heap → Res) :
    evX (cx ρ) call yc false 69 lim k J (Code.at [1, 1, 1, 1, 0, 1] c69) (sp 54 [(0, x0), (2, x2), (38, x38), (39, x39), (40, x40)]) H (kk (some [2]) kn [] R [2, 3]) =
  J (Code.at [1, 1, 1, 1, 0, 1, 0] c69) (sp 54 [(0, x0), (2, x2), (38, x38), (39, x39), (40, x40)]) H (kk (some [2]) kn [(2, (some [2]), kn)] R [2, 3]) := by
  kernel_rfl
theorem N69_3_eq (ρ : Addr → Option Value) (call : CallF) (yc : YieldF) (lim k : Nat) (x0 x2 x38 x39 x40 : AV) (H : Heap) (kn : KS) (R : List AV → Heap → Res) :
    evL (cx ρ) call yc false 69 lim k (Code.at [1, 1, 1, 1, 0, 1] c69) (sp 54 [(0, x0), (2, x2), (38, x38), (39, x39), (40, x40)]) H (kk (some [2]) kn [] R [2, 3]) = N69_3 ρ call yc lim k x0 x2 x38 x39 x40 H (fun x2 H => kn (sp 54 [(2, x2)]) H) R := by
  rw [evL_X, N69_3_x]
  simp only [← evL_X, N69_3, N69_4_eq]
noncomputable def N69_1 (ρ : Addr → Option Value) (call : CallF) (yc : YieldF) (lim k : Nat) (x0 x2 x4 : AV) (H : Heap) (R : List AV → Heap → Res) : Res :=
  resK (call lim 119 [x4, (.fn (.func 120) [] [])] H) fun x37_1 H =>
  purK (lenS x4) fun x39_1 =>
  N69_3 ρ call yc lim k x0 x2 x4 x39_1 (.int .i64 0) H (fun x2_1 H =>
    N69_2 ρ call yc lim k x2_1 H R) R
theorem N69_1_x (ρ : Addr → Option Value) (call : CallF) (yc : YieldF) (lim k : Nat) (J : CodeF) (x0 x2 x4 : AV) (H : Heap) (R : List AV → Heap → Res) :
    evX (cx ρ) call yc false 69 lim k J (Code.at [1, 1, 1] c69) (sp 54 [(0, x0), (2, x2), (4, x4)]) H (kk none (fun s H => R (([2, 3] : List Nat).map fun t => s.getD t (.tup [])) H) [] R [2, 3]) =
  resK (call lim 119 [x4, (.fn (.func 120) [] [])] H) fun x37_1 H =>
  purK (lenS x4) fun x39_1 =>
  J (Code.at [1, 1, 1, 1, 0, 1] c69) (sp 54 [(0, x0), (2, x2), (38, x4), (39, x39_1), (40, (.int .i64 0))]) H (kk (some [2]) (fun s H => J (Code.at [1, 1, 1, 1, 1] c69) s H (kk none (fun s H => R (([2, 3] : List Nat).map fun t => s.getD t (.tup [])) H) [] R [2, 3])) [] R [2, 3]) := by
  kernel_rfl
theorem N69_1_eq (ρ : Addr → Option Value) (call : CallF) (yc : YieldF) (lim k : Nat) (x0 x2 x4 : AV) (H : Heap) (R : List AV → Heap → Res) :
    evL (cx ρ) call yc false 69 lim k (Code.at [1, 1, 1] c69) (sp 54 [(0, x0), (2, x2), (4, x4)]) H (kk none (fun s H => R (([2, 3] : List Nat).map fun t => s.getD t (.tup [])) H) [] R [2, 3]) = N69_1 ρ call yc lim k x0 x2 x4 H R := by
  rw [evL_X, N69_1_x]
  simp only [← evL_X, N69_1, N69_2_eq, N69_3_eq]
noncomputable def N69_7 (ρ : Addr → Option Value) (call : CallF) (yc : YieldF) (lim k : Nat) (x0 x2 x4 x14 : AV) (H : Heap) (kn : AV → AV → AV → AV → Heap → Res) : Res :=
  purK (binA Tryz.prog H .add 3 x14 (.int .i64 1)) fun x35_1 =>
  kn x0 x2 x4 x35_1 H
theorem N69_7_eq (ρ : Addr → Option Value) (call : CallF) (yc : YieldF) (lim k : Nat) (x0 x2 x4 x14 : AV) (H : Heap) (kn : KS) (k0 : KS) (R : List AV → Heap → Res) :
    evL (cx ρ) call yc false 69 lim k (Code.at [1, 1, 0, 1, 0, 0, 1, 1, 1] c69) (sp 54 [(0, x0), (2, x2), (4, x4), (14, x14)]) H (kk (some [0, 2, 4, 14]) kn [(0, (some [0, 2, 4]), k0)] R [2, 3]) = N69_7 ρ call yc lim k x0 x2 x4 x14 H (fun x0 x2 x4 x14 H => kn (sp 54 [(0, x0), (2, x2), (4, x4), (14, x14)]) H) := by
  kernel_rfl
noncomputable def N69_6b (ρ : Addr → Option Value) (call : CallF) (yc : YieldF) (lim k : Nat) (x0 x2 x4 x14 : AV) (H : Heap) (kn : AV → AV → AV → AV → Heap → Res) (k0 : AV → AV → AV → Heap → Res) : Res :=
  purK (binA Tryz.prog H .lss 3 x14 (.int .i64 2)) fun x15_1 =>
  condK x15_1
  (
    purK (bldA [.int .i64 0, .int .i64 0] [(0, 1, (.int .i64 2)), (1, 1, x14)]) fun x20_1 =>
    resK (call lim 117 [x0, x20_1] H) fun x21_1 H =>
    purK (extA 0 x21_1) fun x22_1 =>
    purK (extA 1 x21_1) fun x23_1 =>
    resK (call lim 118 [x22_1] H) fun x26_1 H =>
    purK (extA 0 x26_1) fun x27_1 =>
    purK (extA 1 x26_1) fun x28_1 =>
    effK H (some (.ptr H.sz 0 0, .new (newCells 176 false [.int .i64 0, .int .i64 0, .int .u64 0]))) fun x8_1 H =>
    effK H (stA lim H 3 x8_1 x27_1) fun _ H =>
    purK (binA Tryz.prog H .eql 32 x28_1 (.int .i64 0)) fun x30_1 =>
    condK x30_1
    (
      purK (ldN ρ H 3 x8_1) fun x32_1 =>
      effK H (bldS H 176 3 [.int .i64 0, .int .i64 0, .int .u64 0] 1 [(0, 3, x32_1)]) fun x33_1 H =>
      effK H (apA ρ lim H 176 3 24 x4 x33_1) fun x34_1 H =>
      N69_7 ρ call yc lim k x0 x2 x34_1 x14 H kn)
    (
      N69_7 ρ call yc lim k x0 x2 x4 x14 H kn))
  (
    k0 x0 x2 x4 H)
theorem N69_6b_x (ρ : Addr → Option Value) (call : CallF) (yc : YieldF) (lim k : Nat) (J : CodeF) (x0 x2 x4 x14 : AV) (H : Heap) (kn : KS) (k0 : KS) (R : List AV → Heap → Res) :
    evX (cx ρ) call yc false 69 lim k J (Code.at [1, 1, 0, 1, 0, 0] c69) (sp 54 [(0, x0), (2, x2), (4, x4), (14, x14)]) H (kk (some [0, 2, 4, 14]) kn [(0, (some [0, 2, 4]), k0)] R [2, 3]) =
  purK (binA Tryz.prog H .lss 3 x14 (.int .i64 2)) fun x15_1 =>
  condK x15_1
  (
    purK (bldA [.int .i64 0, .int .i64 0] [(0, 1, (.int .i64 2)), (1, 1, x14)]) fun x20_1 =>
    resK (call lim 117 [x0, x20_1] H) fun x21_1 H =>
    purK (extA 0 x21_1) fun x22_1 =>
    purK (extA 1 x21_1) fun x23_1 =>
    resK (call lim 118 [x22_1] H) fun x26_1 H =>
    purK (extA 0 x26_1) fun x27_1 =>
    purK (extA 1 x26_1) fun x28_1 =>
    effK H (some (.ptr H.sz 0 0, .new (newCells 176 false [.int .i64 0, .int .i64 0, .int .u64 0]))) fun x8_1 H =>
    effK H (stA lim H 3 x8_1 x27_1) fun _ H =>
    purK (binA Tryz.prog H .eql 32 x28_1 (.int .i64 0)) fun x30_1 =>
    condK x30_1
    (
      purK (ldN ρ H 3 x8_1) fun x32_1 =>
      effK H (bldS H 176 3 [.int .i64 0, .int .i64 0, .int .u64 0] 1 [(0, 3, x32_1)]) fun x33_1 H =>
      effK H (apA ρ lim H 176 3 24 x4 x33_1) fun x34_1 H =>
      J (Code.at [1, 1, 0, 1, 0, 0, 1, 1, 1] c69) (sp 54 [(0, x0), (2, x2), (4, x34_1), (14, x14)]) H (kk (some [0, 2, 4, 14]) kn [(0, (some [0, 2, 4]), k0)] R [2, 3]))
    (
      J (Code.at [1, 1, 0, 1, 0, 0, 1, 1, 1] c69) (sp 54 [(0, x0), (2, x2), (4, x4), (14, x14)]) H (kk (some [0, 2, 4, 14]) kn [(0, (some [0, 2, 4]), k0)] R [2, 3])))
  (
    k0 (sp 54 [(0, x0), (2, x2), (4, x4)]) H) := by
  kernel_rfl
theorem N69_6b_eq (ρ : Addr → Option Value) (call : CallF) (yc : YieldF) (lim k : Nat) (x0 x2 x4 x14 : AV) (H : Heap) (kn : KS) (k0 : KS) (R : List AV → Heap → Res) :
    evL (cx ρ) call yc false 69 lim k (Code.at [1, 1, 0, 1, 0, 0] c69) (sp 54 [(0, x0), (2, x2), (4, x4), (14, x14)]) H (kk (some [0, 2, 4, 14]) kn [(0, (some [0, 2, 4]), k0)] R [2, 3]) = N69_6b ρ call yc lim k x0 x2 x4 x14 H (fun x0 x2 x4 x14 H => kn (sp 54 [(0, x0), (2, x2), (4, x4), (14, x14)]) H) (fun x0 x2 x4 H => k0 (sp 54 [(0, x0), (2, x2), (4, x4)]) H) := by
  rw [evL_X, N69_6b_x]
  simp only [← evL_X, N69_6b, N69_7_eq]
noncomputable def N69_6 (ρ : Addr → Option Value) (call : CallF) (yc : YieldF) (lim k : Nat) (x0 x2 x4 x14 : AV) (H : Heap) (k0 : AV → AV → AV → Heap → Res) : Res :=
  loopL (fun (x : AV × AV) H kn => N69_6b ρ call yc lim k x0 x2 x.1 x.2 H (fun _ _ x4 x14 H => kn (x4, x14) H) k0) k (x4, x14) H
theorem N69_6_eq (ρ : Addr → Option Value) (call : CallF) (yc : YieldF) (lim k : Nat) (x0 x2 x4 x14 : AV) (H : Heap) (kn : KS) (k0 : KS) (R : List AV → Heap → Res) :
    evL (cx ρ) call yc false 69 lim k (Code.at [1, 1, 0, 1, 0] c69) (sp 54 [(0, x0), (2, x2), (4, x4), (14, x14)]) H (kk (some [0, 2, 4]) kn [(0, (some [0, 2, 4]), k0)] R [2, 3]) = N69_6 ρ call yc lim k x0 x2 x4 x14 H (fun x0 x2 x4 H => k0 (sp 54 [(0, x0), (2, x2), (4, x4)]) H) := by
  have e : Code.at [1, 1, 0, 1, 0] c69 = .loop (Code.at [1, 1, 0, 1, 0, 0] c69) := by kernel_rfl
  rw [e]
  unfold N69_6
  exact loop_node [0, 2, 4, 14] (fun x : AV × AV => (sp 54 [(0, x0), (2, x2), (4, (x.1)), (14, (x.2))])) (fun (x : AV × AV) H kn => N69_6b ρ call yc lim k x0 x2 x.1 x.2 H (fun _ _ x4 x14 H => kn (x4, x14) H) (fun x0 x2 x4 H => k0 (sp 54 [(0, x0), (2, x2), (4, x4)]) H)) (by kernel_rfl) (fun x => by kernel_rfl) (fun x H kn => N69_6b_eq ρ call yc lim k x0 x2 (x.1) (x.2) H kn k0 R) (x4, x14) (sp 54 [(0, x0), (2, x2), (4, x4), (14, x14)]) H (by kernel_rfl)
noncomputable def N69_5 (ρ : Addr → Option Value) (call : CallF) (yc : YieldF) (lim k : Nat) (x0 x2 x4 x14 : AV) (H : Heap) (kn : AV → AV → AV → Heap → Res) : Res :=
  N69_6 ρ call yc lim k x0 x2 x4 x14 H kn
theorem N69_5_x (ρ : Addr → Option Value) (call : CallF) (yc : YieldF) (lim k : Nat) (J : CodeF) (x0 x2 x4 x14 : AV) (H : Heap) (kn : KS) (R : List AV → Heap → Res) :
    evX (cx ρ) call yc false 69 lim k J (Code.at [1, 1, 0, 1] c69) (sp 54 [(0, x0), (2, x2), (4, x4), (14, x14)]) H (kk (some [0, 2, 4]) kn [] R [2, 3]) =
  J (Code.at [1, 1, 0, 1, 0] c69) (sp 54 [(0, x0), (2, x2), (4, x4), (14, x14)]) H (kk (some [0, 2, 4]) kn [(0, (some [0, 2, 4]), kn)] R [2, 3]) := by
  kernel_rfl
theorem N69_5_eq (ρ : Addr → Option Value) (call : CallF) (yc : YieldF) (lim k : Nat) (x0 x2 x4 x14 : AV) (H : Heap) (kn : KS) (R : List AV → Heap → Res) :
    evL (cx ρ) call yc false 69 lim k (Code.at [1, 1, 0, 1] c69) (sp 54 [(0, x0), (2, x2), (4, x4), (14, x14)]) H (kk (some [0, 2, 4]) kn [] R [2, 3]) = N69_5 ρ call yc lim k x0 x2 x4 x14 H (fun x0 x2 x4 H => kn (sp 54 [(0, x0), (2, x2), (4, x4)]) H) := by
  rw [evL_X, N69_5_x]
  simp only [← evL_X, N69_5, N69_6_eq]
noncomputable def L69 (ρ : Addr → Option Value) (call : CallF) (yc : YieldF) (lim k : Nat) (x0 : AV) (H : Heap) : Res :=
  effK H (some (.ptr H.sz 0 0, .new (newCells 117 false [.int .i64 0, .int .i64 0, .nils, .nils]))) fun x2 H =>
  N69_5 ρ call yc lim k x0 x2 .nils (.int .i64 0) H (fun x0_1 x2_1 x4 H =>
    N69_1 ρ call yc lim k x0_1 x2_1 x4 H (retC (cx ρ) [some 117, none]))
theorem L69_x (ρ : Addr → Option Value) (call : CallF) (yc : YieldF) (lim k : Nat) (J : CodeF) (x0 : AV) (H : Heap) :
    evX (cx ρ) call yc false 69 lim k J c69 [x0, (.tup []), (.tup []), (.tup []), (.tup []), (.tup []), (.tup []), (.tup []), (.tup []), (.tup []), (.tup []), (.tup []), (.tup []), (.tup []), (.tup []), (.tup []), (.tup []), (.tup []), (.tup []), (.tup []), (.tup []), (.tup []), (.tup []), (.tup []), (.tup []), (.tup []), (.tup []), (.tup []), (.tup []), (.tup []), (.tup []), (.tup []), (.tup []), (.tup []), (.tup []), (.tup []), (.tup []), (.tup []), (.tup []), (.tup []), (.tup []), (.tup []), (.tup []), (.tup []), (.tup []), (.tup []), (.tup []), (.tup []), (.tup []), (.tup []), (.tup []), (.tup []), (.tup []), (.tup [])] H (kk none (fun s H => (retC (cx ρ) [some 117, none]) (([2, 3] : List Nat).map fun t => s.getD t (.tup [])) H) [] (retC (cx ρ) [some 117, none]) [2, 3]) =
  effK H (some (.ptr H.sz 0 0, .new (newCells 117 false [.int .i64 0, .int .i64 0, .nils, .nils]))) fun x2 H =>
  J (Code.at [1, 1, 0, 1] c69) (sp 54 [(0, x0), (2, x2), (4, .nils), (14, (.int .i64 0))]) H (kk (some [0, 2, 4]) (fun s H => J (Code.at [1, 1, 1] c69) s H (kk none (fun s H => (retC (cx ρ) [some 117, none]) (([2, 3] : List Nat).map fun t => s.getD t (.tup [])) H) [] (retC (cx ρ) [some 117, none]) [2, 3])) [] (retC (cx ρ) [some 117, none]) [2, 3]) := by
  kernel_rfl
theorem G69 (ρ : Addr → Option Value) (call : CallF) (yc : YieldF) (lim k : Nat) (x0 : AV) (H : Heap) :
    evL (cx ρ) call yc false 69 lim k c69 [x0, (.tup []), (.tup []), (.tup []), (.tup []), (.tup []), (.tup []), (.tup []), (.tup []), (.tup []), (.tup []), (.tup []), (.tup []), (.tup []), (.tup []), (.tup []), (.tup []), (.tup []), (.tup []), (.tup []), (.tup []), (.tup []), (.tup []), (.tup []), (.tup []), (.tup []), (.tup []), (.tup []), (.tup []), (.tup []), (.tup []), (.tup []), (.tup []), (.tup []), (.tup []), (.tup []), (.tup []), (.tup []), (.tup []), (.tup []), (.tup []), (.tup []), (.tup []), (.tup []), (.tup []), (.tup []), (.tup []), (.tup []), (.tup []), (.tup []), (.tup []), (.tup []), (.tup []), (.tup [])] H (kk none (fun s H => (retC (cx ρ) [some 117, none]) (([2, 3] : List Nat).map fun t => s.getD t (.tup [])) H) [] (retC (cx ρ) [some 117, none]) [2, 3]) = L69 ρ call yc lim k x0 H := by
  rw [evL_X, L69_x]
  simp only [← evL_X, L69, N69_1_eq, N69_5_eq]
theorem E69 (ρ : Addr → Option Value) (k lim : Nat) (x0 : AV) (H : Heap) : evCall (cx ρ) (k + 1) lim 69 [x0] H = L69 ρ (evCall (cx ρ) k) (evCY (cx ρ) k).2 lim k x0 H := by
  rw [evCall_cells (cx ρ) k lim 69 _ H Tryz.f69 c69 [2, 3] [some 117, none] (by kernel_rfl) (by kernel_rfl) (by kernel_rfl) (by kernel_rfl) (by kernel_rfl) (by kernel_rfl)]
  exact G69 ρ (evCall (cx ρ) k) (evCY (cx ρ) k).2 lim k x0 H
-- haycroft/store.fresh
noncomputable def c71 : Code := Code.of Tryz.prog 71
noncomputable def N71_1 (ρ : Addr → Option Value) (call : CallF) (yc : YieldF) (lim k : Nat) (x9 : AV) (H : Heap) (R : List AV → Heap → Res) : Res :=
  R [x9, (.int .i64 0)] H
theorem N71_1_eq (ρ : Addr → Option Value) (call : CallF) (yc : YieldF) (lim k : Nat) (x9 : AV) (H : Heap) (R : List AV → Heap → Res) :
    evL (cx ρ) call yc false 71 lim k (Code.at [1, 1, 1, 1, 1, 1, 1] c71) (sp 64 [(9, x9)]) H (kk none (fun s H => R (([4, 5] : List Nat).map fun t => s.getD t (.tup [])) H) [] R [4, 5]) = N71_1 ρ call yc lim k x9 H R := by
  kernel_rfl
noncomputable def N71_3b (ρ : Addr → Option Value) (call : CallF) (yc : YieldF) (lim k : Nat) (x6 x8 x9 x38 x39 : AV) (H : Heap) (kn : AV → AV → AV → AV → AV → Heap → Res) (k0 : AV → Heap → Res) (R : List AV → Heap → Res) : Res :=
  purK (binA Tryz.prog H .lss 3 x39 x38) fun x40_1 =>
  condK x40_1
  (
    resK (call lim 127 [x6, x8, x39] H) fun x46_1 H =>
    purK (extA 0 x46_1) fun x47_1 =>
    purK (extA 1 x46_1) fun x48_1 =>
    purK (binA Tryz.prog H .neq 32 x48_1 (.int .i64 0)) fun x50_1 =>
    condK x50_1
    (
      R [.nilp, x48_1] H)
    (
      purK (nilChkA x9) fun x54_1 =>
      purK (addA 2 x54_1) fun x55_1 =>
      purK (ld1 ρ H x55_1) fun x56_1 =>
      effK H (bldS H 51 1 [.nilp] 1 [(0, 1, x47_1)]) fun x58_1 H =>
      effK H (apA ρ lim H 51 1 8 x56_1 x58_1) fun x59_1 H =>
      purK (nilChkA x9) fun x60_1 =>
      purK (addA 2 x60_1) fun x61_1 =>
      effK H (stA lim H 1 x61_1 x59_1) fun _ H =>
      purK (binA Tryz.prog H .add 3 x39 (.int .i64 1)) fun x62_1 =>
      kn x6 x8 x9 x38 x62_1 H))
  (
    k0 x9 H)
theorem N71_3b_eq (ρ : Addr → Option Value) (call : CallF) (yc : YieldF) (lim k : Nat) (x6 x8 x9 x38 x39 : AV) (H : Heap) (kn : KS) (k0 : KS) (R : List AV → Heap → Res) :
    evL (cx ρ) call yc false 71 lim k (Code.at [1, 1, 1, 1, 1, 1, 0, 1, 0, 0] c71) (sp 64 [(6, x6), (8, x8), (9, x9), (38, x38), (39, x39)]) H (kk (some [6, 8, 9, 38, 39]) kn [(0, (some [9]), k0)] R [4, 5]) = N71_3b ρ call yc lim k x6 x8 x9 x38 x39 H (fun x6 x8 x9 x38 x39 H => kn (sp 64 [(6, x6), (8, x8), (9, x9), (38, x38), (39, x39)]) H) (fun x9 H => k0 (sp 64 [(9, x9)]) H) R := by
  kernel_rfl
noncomputable def N71_3 (ρ : Addr → Option Value) (call : CallF) (yc : YieldF) (lim k : Nat) (x6 x8 x9 x38 x39 : AV) (H : Heap) (k0 : AV → Heap → Res) (R : List AV → Heap → Res) : Res :=
  loopL (fun (x : AV) H kn => N71_3b ρ call yc lim k x6 x8 x9 x38 x H (fun _ _ _ _ x39 H => kn x39 H) k0 R) k x39 H
theorem N71_3_eq (ρ : Addr → Option Value) (call : CallF) (yc : YieldF) (lim k : Nat) (x6 x8 x9 x38 x39 : AV) (H : Heap) (kn : KS) (k0 : KS) (R : List AV → Heap → Res) :
    evL (cx ρ) call yc false 71 lim k (Code.at [1, 1, 1, 1, 1, 1, 0, 1, 0] c71) (sp 64 [(6, x6), (8, x8), (9, x9), (38, x38), (39, x39)]) H (kk (some [9]) kn [(0, (some [9]), k0)] R [4, 5]) = N71_3 ρ call yc lim k x6 x8 x9 x38 x39 H (fun x9 H => k0 (sp 64 [(9, x9)]) H) R := by
  have e : Code.at [1, 1, 1, 1, 1, 1, 0, 1, 0] c71 = .loop (Code.at [1, 1, 1, 1, 1, 1, 0, 1, 0, 0] c71) := by kernel_rfl
  rw [e]
  unfold N71_3
  exact loop_node [6, 8, 9, 38, 39] (fun x : AV => (sp 64 [(6, x6), (8, x8), (9, x9), (38, x38), (39, (x))])) (fun (x : AV) H kn => N71_3b ρ call yc lim k x6 x8 x9 x38 x H (fun _ _ _ _ x39 H => kn x39 H) (fun x9 H => k0 (sp 64 [(9, x9)]) H) R) (by kernel_rfl) (fun x => by kernel_rfl) (fun x H kn => N71_3b_eq ρ call yc lim k x6 x8 x9 x38 (x) H kn k0 R) x39 (sp 64 [(6, x6), (8, x8), (9, x9), (38, x38), (39, x39)]) H (by kernel_rfl)
noncomputable def N71_2 (ρ : Addr → Option Value) (call : CallF) (yc : YieldF) (lim k : Nat) (x6 x8 x9 x38 x39 : AV) (H : Heap) (kn : AV → Heap → Res) (R : List AV → Heap → Res) : Res :=
  N71_3 ρ call yc lim k x6 x8 x9 x38 x39 H kn R
theorem N71_2_x (ρ : Addr → Option Value) (call : CallF) (yc : YieldF) (lim k : Nat) (J : CodeF) (x6 x8 x9 x38 x39 : AV) (H : Heap) (kn : KS) (R : List AV → Heap → Res) :
    evX (cx ρ) call yc false 71 lim k J (Code.at [1, 1, 1, 1, 1, 1, 0, 1] c71) (sp 64 [(6, x6), (8, x8), (9, x9), (38, x38), (39, x39)]) H (kk (some [9]) kn [] R [4, 5]) =
  J (Code.at [1, 1, 1, 1, 1, 1, 0, 1, 0] c71) (sp 64 [(6, x6), (8, x8), (9, x9), (38, x38), (39, x39)]) H (kk (some [9]) kn [(0, (some [9]), kn)] R [4, 5]) := by
  kernel_rfl
theorem N71_2_eq (ρ : Addr → Option Value) (call : CallF) (yc : YieldF) (lim k : Nat) (x6 x8 x9 x38 x39 : AV) (H : Heap) (kn : KS) (R : List AV → Heap → Res) :
    evL (cx ρ) call yc false 71 lim k (Code.at [1, 1, 1, 1, 1, 1, 0, 1] c71) (sp 64 [(6, x6), (8, x8), (9, x9), (38, x38), (39, x39)]) H (kk (some [9]) kn [] R [4, 5]) = N71_2 ρ call yc lim k x6 x8 x9 x38 x39 H (fun x9 H => kn (sp 64 [(9, x9)]) H) R := by
  rw [evL_X, N71_2_x]
  simp only [← evL_X, N71_2, N71_3_eq]
noncomputable def L71 (ρ : Addr → Option Value) (call : CallF) (yc : YieldF) (lim k : Nat) (x0 x1 : AV) (H : Heap) : Res :=
  effK H (boxA H 23 x0) fun x2 H =>
  purK (ldN ρ H 6 x2) fun x14 =>
  resK (call lim 125 [x14, x1] H) fun x16 H =>
  purK (extA 0 x16) fun x17 =>
  purK (extA 1 x16) fun x18 =>
  purK (binA Tryz.prog H .neq 32 x18 (.int .i64 0)) fun x20 =>
  condK x20
  (
    retK [.nilp, x18] H)
  (
    purK (addA 3 x2) fun x23 =>
    purK (ld1 ρ H x23) fun x24 =>
    purK (addA 4 x2) fun x25 =>
    purK (ld1 ρ H x25) fun x26 =>
    resK (call lim 126 [x24, x26] H) fun x27 H =>
    purK (extA 0 x27) fun x28 =>
    purK (extA 1 x27) fun x29 =>
    purK (binA Tryz.prog H .neq 32 x29 (.int .i64 0)) fun x31 =>
    condK x31
    (
      retK [.nilp, x29] H)
    (
      purK (bldA [.nilp, .nilp, .nils, .int .i64 0, .nilp] [(0, 1, x17), (1, 1, x28)]) fun x35 =>
      effK H (boxA H 61 x35) fun x36 H =>
      purK (addA 5 x2) fun x37 =>
      purK (ld1 ρ H x37) fun x38 =>
      N71_2 ρ call yc lim k x17 x28 x36 x38 (.int .i64 0) H (fun x9 H =>
        N71_1 ρ call yc lim k x9 H retK) retK))
theorem L71_x (ρ : Addr → Option Value) (call : CallF) (yc : YieldF) (lim k : Nat) (J : CodeF) (x0 x1 : AV) (H : Heap) :
    evX (cx ρ) call yc false 71 lim k J c71 [x0, x1, (.tup []), (.tup []), (.tup []), (.tup []), (.tup []), (.tup []), (.tup []), (.tup []), (.tup []), (.tup []), (.tup []), (.tup []), (.tup []), (.tup []), (.tup []), (.tup []), (.tup []), (.tup []), (.tup []), (.tup []), (.tup []), (.tup []), (.tup []), (.tup []), (.tup []), (.tup []), (.tup []), (.tup []), (.tup []), (.tup []), (.tup []), (.tup []), (.tup []), (.tup []), (.tup []), (.tup []), (.tup []), (.tup []), (.tup []), (.tup []), (.tup []), (.tup []), (.tup []), (.tup []), (.tup []), (.tup []), (.tup []), (.tup []), (.tup []), (.tup []), (.tup []), (.tup []), (.tup []), (.tup []), (.tup []), (.tup []), (.tup []), (.tup []), (.tup []), (.tup []), (.tup []), (.tup [])] H (kk none (fun s H => retK (([4, 5] : List Nat).map fun t => s.getD t (.tup [])) H) [] retK [4, 5]) =
  effK H (boxA H 23 x0) fun x2 H =>
  purK (ldN ρ H 6 x2) fun x14 =>
  resK (call lim 125 [x14, x1] H) fun x16 H =>
  purK (extA 0 x16) fun x17 =>
  purK (extA 1 x16) fun x18 =>
  purK (binA Tryz.prog H .neq 32 x18 (.int .i64 0)) fun x20 =>
  condK x20
  (
    retK [.nilp, x18] H)
  (
    purK (addA 3 x2) fun x23 =>
    purK (ld1 ρ H x23) fun x24 =>
    purK (addA 4 x2) fun x25 =>
    purK (ld1 ρ H x25) fun x26 =>
    resK (call lim 126 [x24, x26] H) fun x27 H =>
    purK (extA 0 x27) fun x28 =>
    purK (extA 1 x27) fun x29 =>
    purK (binA Tryz.prog H .neq 32 x29 (.int .i64 0)) fun x31 =>
    condK x31
    (
      retK [.nilp, x29] H)
    (
      purK (bldA [.nilp, .nilp, .nils, .int .i64 0, .nilp] [(0, 1, x17), (1, 1, x28)]) fun x35 =>
      effK H (boxA H 61 x35) fun x36 H =>
      purK (addA 5 x2) fun x37 =>
      purK (ld1 ρ H x37) fun x38 =>
      J (Code.at [1, 1, 1, 1, 1, 1, 0, 1] c71) (sp 64 [(6, x17), (8, x28), (9, x36), (38, x38), (39, (.int .i64 0))]) H (kk (some [9]) (fun s H => J (Code.at [1, 1, 1, 1, 1, 1, 1] c71) s H (kk none (fun s H => retK (([4, 5] : List Nat).map fun t => s.getD t (.tup [])) H) [] retK [4, 5])) [] retK [4, 5]))) := by
  kernel_rfl
theorem G71 (ρ : Addr → Option Value) (call : CallF) (yc : YieldF) (lim k : Nat) (x0 x1 : AV) (H : Heap) :
    evL (cx ρ) call yc false 71 lim k c71 [x0, x1, (.tup []), (.tup []), (.tup []), (.tup []), (.tup []), (.tup []), (.tup []), (.tup []), (.tup []), (.tup []), (.tup []), (.tup []), (.tup []), (.tup []), (.tup []), (.tup []), (.tup []), (.tup []), (.tup []), (.tup []), (.tup []), (.tup []), (.tup []), (.tup []), (.tup []), (.tup []), (.tup []), (.tup []), (.tup []), (.tup []), (.tup []), (.tup []), (.tup []), (.tup []), (.tup []), (.tup []), (.tup []), (.tup []), (.tup []), (.tup []), (.tup []), (.tup []), (.tup []), (.tup []), (.tup []), (.tup []), (.tup []), (.tup []), (.tup []), (.tup []), (.tup []), (.tup []), (.tup []), (.tup []), (.tup []), (.tup []), (.tup []), (.tup []), (.tup []), (.tup []), (.tup []), (.tup [])] H (kk none (fun s H => retK (([4, 5] : List Nat).map fun t => s.getD t (.tup [])) H) [] retK [4, 5]) = L71 ρ call yc lim k x0 x1 H := by
  rw [evL_X, L71_x]
  simp only [← evL_X, L71, N71_1_eq, N71_2_eq]
theorem E71 (ρ : Addr → Option Value) (k lim : Nat) (x0 x1 : AV) (H : Heap) : evCall (cx ρ) (k + 1) lim 71 [x0, x1] H = L71 ρ (evCall (cx ρ) k) (evCY (cx ρ) k).2 lim k x0 x1 H := by
  rw [evCall_body (cx ρ) k lim 71 _ H Tryz.f71 c71 [4, 5] (by kernel_rfl) (by kernel_rfl) (by kernel_rfl) (by kernel_rfl) (by kernel_rfl)]
  exact G71 ρ (evCall (cx ρ) k) (evCY (cx ρ) k).2 lim k x0 x1 H
-- slices.Sorted[int]
noncomputable def c72 : Code := Code.of Tryz.prog 72
noncomputable def L72 (ρ : Addr → Option Value) (call : CallF) (yc : YieldF) (lim k : Nat) (x0 : AV) (H : Heap) : Res :=
  resK (call lim 97 [x0] H) fun x5 H =>
  resK (call lim 128 [x5] H) fun x7 H =>
  retK [x5] H
theorem G72 (ρ : Addr → Option Value) (call : CallF) (yc : YieldF) (lim k : Nat) (x0 : AV) (H : Heap) :
    evL (cx ρ) call yc false 72 lim k c72 [x0, (.tup []), (.tup []), (.tup []), (.tup []), (.tup []), (.tup []), (.tup []), (.tup [])] H (kk none (fun s H => retK (([2] : List Nat).map fun t => s.getD t (.tup [])) H) [] retK [2]) = L72 ρ call yc lim k x0 H := by
  kernel_rfl
theorem E72 (ρ : Addr → Option Value) (k lim : Nat) (x0 : AV) (H : Heap) : evCall (cx ρ) (k + 1) lim 72 [x0] H = L72 ρ (evCall (cx ρ) k) (evCY (cx ρ) k).2 lim k x0 H := by
  rw [evCall_body (cx ρ) k lim 72 _ H Tryz.f72 c72 [2] (by kernel_rfl) (by kernel_rfl) (by kernel_rfl) (by kernel_rfl) (by kernel_rfl)]
  exact G72 ρ (evCall (cx ρ) k) (evCY (cx ρ) k).2 lim k x0 H
-- maps.Keys[map[int]haycroft/device.job,int,haycroft/device.job]
noncomputable def c73 : Code := Code.of Tryz.prog 73
noncomputable def L73 (ρ : Addr → Option Value) (call : CallF) (yc : YieldF) (lim k : Nat) (x0 : AV) (H : Heap) : Res :=
  effK H (boxA H 70 x0) fun x1 H =>
  retK [(.fn (.func 129) [] [x1])] H
theorem G73 (ρ : Addr → Option Value) (call : CallF) (yc : YieldF) (lim k : Nat) (x0 : AV) (H : Heap) :
    evL (cx ρ) call yc false 73 lim k c73 [x0, (.tup []), (.tup []), (.tup [])] H (kk none (fun s H => retK (([2] : List Nat).map fun t => s.getD t (.tup [])) H) [] retK [2]) = L73 ρ call yc lim k x0 H := by
  kernel_rfl
theorem E73 (ρ : Addr → Option Value) (k lim : Nat) (x0 : AV) (H : Heap) : evCall (cx ρ) (k + 1) lim 73 [x0] H = L73 ρ (evCall (cx ρ) k) (evCY (cx ρ) k).2 lim k x0 H := by
  rw [evCall_body (cx ρ) k lim 73 _ H Tryz.f73 c73 [2] (by kernel_rfl) (by kernel_rfl) (by kernel_rfl) (by kernel_rfl) (by kernel_rfl)]
  exact G73 ρ (evCall (cx ρ) k) (evCY (cx ρ) k).2 lim k x0 H
-- haycroft/task.New
noncomputable def c74 : Code := Code.of Tryz.prog 74
noncomputable def L74 (ρ : Addr → Option Value) (call : CallF) (yc : YieldF) (lim k : Nat) (x0 x1 x2 x3 x4 : AV) (H : Heap) : Res :=
  effK H (boxA H 26 x3) fun x8 H =>
  purK (binA Tryz.prog H .eql 47 x0 .nilp) fun x14 =>
  purK (gPur (wantV x14 false) (some x1)) fun x16 =>
  purK (gPur (wantV x14 false) (binA Tryz.prog H .eql 49 x16 .nilp)) fun x17 =>
  purK (pickA x14 (.bool true) x17) fun x18 =>
  condK x18
  (
    retK [.nilp, (.int .i64 2)] H)
  (
    purK (ldN ρ H 4 x8) fun x19 =>
    resK (call lim 130 [x19] H) fun x20 H =>
    purK (binA Tryz.prog H .neq 32 x20 (.int .i64 0)) fun x22 =>
    condK x22
    (
      retK [.nilp, x20] H)
    (
      purK (ldN ρ H 4 x8) fun x27 =>
      purK (addA 1 x8) fun x28 =>
      purK (ld1 ρ H x28) fun x29 =>
      resK (call lim 131 [x29] H) fun x30 H => bif (agn (ldN ρ H 4 x8) x27 && true) then
        purK (bldA [.nilp, .nilp, .int .i64 0, .int .i64 0, .str ByteArray.empty, .str ByteArray.empty, .int .u64 0, .int .u64 0, .nilf, .int .i64 0, .int .u64 0, .int .i64 0, .int .i64 0, .int .u64 0, .int .u64 0, .int .u64 0, .str ByteArray.empty, .nilp, .nilp, .bool false, .bool false, .int .i64 0, .str ByteArray.empty, .int .i64 0] [(0, 1, x0), (1, 1, x1), (2, 1, x2), (3, 4, x27), (7, 1, x30), (8, 1, (.fn (.func 132) [] [])), (12, 1, x4)]) fun x32 =>
        effK H (boxA H 133 x32) fun x33 H =>
        retK [x33, (.int .i64 0)] H
      else none))
theorem G74 (ρ : Addr → Option Value) (call : CallF) (yc : YieldF) (lim k : Nat) (x0 x1 x2 x3 x4 : AV) (H : Heap) :
    evL (cx ρ) call yc false 74 lim k c74 [x0, x1, x2, x3, x4, (.tup []), (.tup []), (.tup []), (.tup []), (.tup []), (.tup []), (.tup []), (.tup []), (.tup []), (.tup []), (.tup []), (.tup []), (.tup []), (.tup []), (.tup []), (.tup []), (.tup []), (.tup []), (.tup []), (.tup []), (.tup []), (.tup []), (.tup []), (.tup []), (.tup []), (.tup []), (.tup []), (.tup []), (.tup [])] H (kk none (fun s H => retK (([10, 11] : List Nat).map fun t => s.getD t (.tup [])) H) [] retK [10, 11]) = L74 ρ call yc lim k x0 x1 x2 x3 x4 H := by
  kernel_rfl
theorem E74 (ρ : Addr → Option Value) (k lim : Nat) (x0 x1 x2 x3 x4 : AV) (H : Heap) : evCall (cx ρ) (k + 1) lim 74 [x0, x1, x2, x3, x4] H = L74 ρ (evCall (cx ρ) k) (evCY (cx ρ) k).2 lim k x0 x1 x2 x3 x4 H := by
  rw [evCall_body (cx ρ) k lim 74 _ H Tryz.f74 c74 [10, 11] (by kernel_rfl) (by kernel_rfl) (by kernel_rfl) (by kernel_rfl) (by kernel_rfl)]
  exact G74 ρ (evCall (cx ρ) k) (evCY (cx ρ) k).2 lim k x0 x1 x2 x3 x4 H
-- (*haycroft/cell.Row).Load
noncomputable def c79 : Code := Code.of Tryz.prog 79
noncomputable def L79 (ρ : Addr → Option Value) (call : CallF) (yc : YieldF) (lim k : Nat) (x0 x1 : AV) (H : Heap) : Res :=
  resK (call lim 134 [x0, x1] H) fun x7 H =>
  purK (unA .not x7) fun x8 =>
  condK x8
  (
    retK [(.int .u64 0)] H)
  (
    purK (nilChkA x0) fun x10 =>
    purK (addA 0 x10) fun x11 =>
    purK (ld1 ρ H x11) fun x12 =>
    purK (ixS 1 x12 x1) fun x14 =>
    resK (call lim 135 [x14] H) fun x15 H =>
    retK [x15] H)
theorem G79 (ρ : Addr → Option Value) (call : CallF) (yc : YieldF) (lim k : Nat) (x0 x1 : AV) (H : Heap) :
    evL (cx ρ) call yc false 79 lim k c79 [x0, x1, (.tup []), (.tup []), (.tup []), (.tup []), (.tup []), (.tup []), (.tup []), (.tup []), (.tup []), (.tup []), (.tup []), (.tup []), (.tup []), (.tup [])] H (kk none (fun s H => retK (([4] : List Nat).map fun t => s.getD t (.tup [])) H) [] retK [4]) = L79 ρ call yc lim k x0 x1 H := by
  kernel_rfl
theorem E79 (ρ : Addr → Option Value) (k lim : Nat) (x0 x1 : AV) (H : Heap) : evCall (cx ρ) (k + 1) lim 79 [x0, x1] H = L79 ρ (evCall (cx ρ) k) (evCY (cx ρ) k).2 lim k x0 x1 H := by
  rw [evCall_body (cx ρ) k lim 79 _ H Tryz.f79 c79 [4] (by kernel_rfl) (by kernel_rfl) (by kernel_rfl) (by kernel_rfl) (by kernel_rfl)]
  exact G79 ρ (evCall (cx ρ) k) (evCY (cx ρ) k).2 lim k x0 x1 H
-- slices.Collect[int]
noncomputable def c97 : Code := Code.of Tryz.prog 97
noncomputable def L97 (ρ : Addr → Option Value) (call : CallF) (yc : YieldF) (lim k : Nat) (x0 : AV) (H : Heap) : Res :=
  resK (call lim 157 [.nils, x0] H) fun x4 H =>
  retK [x4] H
theorem G97 (ρ : Addr → Option Value) (call : CallF) (yc : YieldF) (lim k : Nat) (x0 : AV) (H : Heap) :
    evL (cx ρ) call yc false 97 lim k c97 [x0, (.tup []), (.tup []), (.tup []), (.tup [])] H (kk none (fun s H => retK (([2] : List Nat).map fun t => s.getD t (.tup [])) H) [] retK [2]) = L97 ρ call yc lim k x0 H := by
  kernel_rfl
theorem E97 (ρ : Addr → Option Value) (k lim : Nat) (x0 : AV) (H : Heap) : evCall (cx ρ) (k + 1) lim 97 [x0] H = L97 ρ (evCall (cx ρ) k) (evCY (cx ρ) k).2 lim k x0 H := by
  rw [evCall_body (cx ρ) k lim 97 _ H Tryz.f97 c97 [2] (by kernel_rfl) (by kernel_rfl) (by kernel_rfl) (by kernel_rfl) (by kernel_rfl)]
  exact G97 ρ (evCall (cx ρ) k) (evCY (cx ρ) k).2 lim k x0 H
-- (*haycroft/pages.Buffer).Has
noncomputable def c99 : Code := Code.of Tryz.prog 99
noncomputable def L99 (ρ : Addr → Option Value) (call : CallF) (yc : YieldF) (lim k : Nat) (x0 x1 : AV) (H : Heap) : Res :=
  purK (binA Tryz.prog H .neq 105 x0 .nilp) fun x6 =>
  boolK (wantV x6 true) fun b1 => purK (bif b1 then some x1 else some (.tup [])) fun x8 =>
  boolK (wantV x6 true) fun b2 => purK (bif b2 then binA Tryz.prog H .geq 3 x8 (.int .i64 0) else some (.tup [])) fun x9 =>
  purK (pickA x6 x9 (.bool false)) fun x10 =>
  boolK (wantV x10 true) fun b3 => purK (bif b3 then some x0 else some (.tup [])) fun x12 =>
  boolK (wantV x10 true) fun b4 => purK (bif b4 then nilChkA x12 else some (.tup [])) fun x13 =>
  boolK (wantV x10 true) fun b5 => purK (bif b5 then addA 2 x13 else some (.tup [])) fun x14 =>
  boolK (wantV x10 true) fun b6 => purK (bif b6 then ld1 ρ H x14 else some (.tup [])) fun x15 =>
  boolK (wantV x10 true) fun b7 => purK (bif b7 then some x0 else some (.tup [])) fun x16 =>
  boolK (wantV x10 true) fun b8 => purK (bif b8 then some x1 else some (.tup [])) fun x17 =>
  boolK (wantV x10 true) fun b9 => purK (bif b9 then some x1 else some (.tup [])) fun x20 =>
  boolK (wantV x10 true) fun b10 => resK (gRes (some b10) H (call lim 102 [x16, x17] H)) fun x18 H => bif !b10 || ((!b6 || agn (ld1 ρ H x14) x15) && ((!b2 || true) && true)) then
    boolK (wantV x10 true) fun b11 => resK (gRes (some b11) H (call lim 79 [x15, x18] H)) fun x19 H => bif !b11 || ((!b6 || true) && ((!b2 || true) && true)) then
      boolK (wantV x10 true) fun b12 => resK (gRes (some b12) H (call lim 159 [x20] H)) fun x21 H => bif !b12 || ((!b6 || true) && ((!b2 || true) && true)) then
        purK (gPur (wantV x10 true) (binA Tryz.prog H .eql 24 x19 x21)) fun x22 =>
        purK (pickA x10 x22 (.bool false)) fun x23 =>
        retK [x23] H
      else none
    else none
  else none
theorem G99 (ρ : Addr → Option Value) (call : CallF) (yc : YieldF) (lim k : Nat) (x0 x1 : AV) (H : Heap) :
    evL (cx ρ) call yc false 99 lim k c99 [x0, x1, (.tup []), (.tup []), (.tup []), (.tup []), (.tup []), (.tup []), (.tup []), (.tup []), (.tup []), (.tup []), (.tup []), (.tup []), (.tup []), (.tup []), (.tup []), (.tup []), (.tup []), (.tup []), (.tup []), (.tup []), (.tup []), (.tup [])] H (kk none (fun s H => retK (([4] : List Nat).map fun t => s.getD t (.tup [])) H) [] retK [4]) = L99 ρ call yc lim k x0 x1 H := by
  kernel_rfl
theorem E99 (ρ : Addr → Option Value) (k lim : Nat) (x0 x1 : AV) (H : Heap) : evCall (cx ρ) (k + 1) lim 99 [x0, x1] H = L99 ρ (evCall (cx ρ) k) (evCY (cx ρ) k).2 lim k x0 x1 H := by
  rw [evCall_body (cx ρ) k lim 99 _ H Tryz.f99 c99 [4] (by kernel_rfl) (by kernel_rfl) (by kernel_rfl) (by kernel_rfl) (by kernel_rfl)]
  exact G99 ρ (evCall (cx ρ) k) (evCY (cx ρ) k).2 lim k x0 x1 H
-- haycroft/place.Size
noncomputable def c100 : Code := Code.of Tryz.prog 100
noncomputable def L100 (ρ : Addr → Option Value) (call : CallF) (yc : YieldF) (lim k : Nat) (x0 : AV) (H : Heap) : Res :=
  resK (call lim 67 [x0] H) fun x4 H =>
  purK (unA .not x4) fun x5 =>
  condK x5
  (
    retK [(.int .i64 0)] H)
  (
    purK (binA Tryz.prog H .shl 3 (.int .i64 1) x0) fun x7 =>
    retK [x7] H)
theorem G100 (ρ : Addr → Option Value) (call : CallF) (yc : YieldF) (lim k : Nat) (x0 : AV) (H : Heap) :
    evL (cx ρ) call yc false 100 lim k c100 [x0, (.tup []), (.tup []), (.tup []), (.tup []), (.tup []), (.tup []), (.tup [])] H (kk none (fun s H => retK (([2] : List Nat).map fun t => s.getD t (.tup [])) H) [] retK [2]) = L100 ρ call yc lim k x0 H := by
  kernel_rfl
theorem E100 (ρ : Addr → Option Value) (k lim : Nat) (x0 : AV) (H : Heap) : evCall (cx ρ) (k + 1) lim 100 [x0] H = L100 ρ (evCall (cx ρ) k) (evCY (cx ρ) k).2 lim k x0 H := by
  rw [evCall_body (cx ρ) k lim 100 _ H Tryz.f100 c100 [2] (by kernel_rfl) (by kernel_rfl) (by kernel_rfl) (by kernel_rfl) (by kernel_rfl)]
  exact G100 ρ (evCall (cx ρ) k) (evCY (cx ρ) k).2 lim k x0 H
-- (*haycroft/pages.Buffer).frame
noncomputable def c102 : Code := Code.of Tryz.prog 102
noncomputable def L102 (ρ : Addr → Option Value) (call : CallF) (yc : YieldF) (lim k : Nat) (x0 x1 : AV) (H : Heap) : Res :=
  purK (nilChkA x0) fun x7 =>
  purK (addA 2 x7) fun x8 =>
  purK (ld1 ρ H x8) fun x9 =>
  resK (call lim 133 [x9] H) fun x10 H =>
  purK (binA Tryz.prog H .rem 3 x1 x10) fun x11 =>
  retK [x11] H
theorem G102 (ρ : Addr → Option Value) (call : CallF) (yc : YieldF) (lim k : Nat) (x0 x1 : AV) (H : Heap) :
    evL (cx ρ) call yc false 102 lim k c102 [x0, x1, (.tup []), (.tup []), (.tup []), (.tup []), (.tup []), (.tup []), (.tup []), (.tup []), (.tup []), (.tup [])] H (kk none (fun s H => retK (([4] : List Nat).map fun t => s.getD t (.tup [])) H) [] retK [4]) = L102 ρ call yc lim k x0 x1 H := by
  kernel_rfl
theorem E102 (ρ : Addr → Option Value) (k lim : Nat) (x0 x1 : AV) (H : Heap) : evCall (cx ρ) (k + 1) lim 102 [x0, x1] H = L102 ρ (evCall (cx ρ) k) (evCY (cx ρ) k).2 lim k x0 x1 H := by
  rw [evCall_body (cx ρ) k lim 102 _ H Tryz.f102 c102 [4] (by kernel_rfl) (by kernel_rfl) (by kernel_rfl) (by kernel_rfl) (by kernel_rfl)]
  exact G102 ρ (evCall (cx ρ) k) (evCY (cx ρ) k).2 lim k x0 x1 H
-- (*haycroft/device.Device).Peek
noncomputable def c117 : Code := Code.of Tryz.prog 117
noncomputable def L117 (ρ : Addr → Option Value) (call : CallF) (yc : YieldF) (lim k : Nat) (x0 x1 : AV) (H : Heap) : Res :=
  effK H (boxA H 77 x1) fun x3 H =>
  purK (binA Tryz.prog H .eql 41 x0 .nilp) fun x9 =>
  condK x9
  (
    retK [(.str (ByteArray.mk #[])), (.bool false)] H)
  (
    purK (nilChkA x0) fun x12 =>
    purK (addA 1 x12) fun x13 =>
    purK (ld1 ρ H x13) fun x14 =>
    purK (ldN ρ H 2 x3) fun x15 =>
    purK (lookupA (cx ρ) H 69 x14 x15 true) fun x16 =>
    purK (extA 0 x16) fun x17 =>
    purK (extA 1 x16) fun x18 =>
    retK [x17, x18] H)
theorem G117 (ρ : Addr → Option Value) (call : CallF) (yc : YieldF) (lim k : Nat) (x0 x1 : AV) (H : Heap) :
    evL (cx ρ) call yc false 117 lim k c117 [x0, x1, (.tup []), (.tup []), (.tup []), (.tup []), (.tup []), (.tup []), (.tup []), (.tup []), (.tup []), (.tup []), (.tup []), (.tup []), (.tup []), (.tup []), (.tup []), (.tup []), (.tup []), (.tup []), (.tup [])] H (kk none (fun s H => retK (([4, 5] : List Nat).map fun t => s.getD t (.tup [])) H) [] retK [4, 5]) = L117 ρ call yc lim k x0 x1 H := by
  kernel_rfl
theorem E117 (ρ : Addr → Option Value) (k lim : Nat) (x0 x1 : AV) (H : Heap) : evCall (cx ρ) (k + 1) lim 117 [x0, x1] H = L117 ρ (evCall (cx ρ) k) (evCY (cx ρ) k).2 lim k x0 x1 H := by
  rw [evCall_body (cx ρ) k lim 117 _ H Tryz.f117 c117 [4, 5] (by kernel_rfl) (by kernel_rfl) (by kernel_rfl) (by kernel_rfl) (by kernel_rfl)]
  exact G117 ρ (evCall (cx ρ) k) (evCY (cx ρ) k).2 lim k x0 x1 H
-- haycroft/image.Heard
noncomputable def c118 : Code := Code.of Tryz.prog 118
noncomputable def L118 (ρ : Addr → Option Value) (call : CallF) (yc : YieldF) (lim k : Nat) (x0 : AV) (H : Heap) : Res :=
  effK H (some (.ptr H.sz 0 0, .new (newCells 176 false [.int .i64 0, .int .i64 0, .int .u64 0]))) fun x2 H =>
  purK (lenT x0) fun x8 =>
  purK (binA Tryz.prog H .neq 3 x8 (.int .i64 32)) fun x9 =>
  condK x9
  (
    purK (bldA [.int .i64 0, .int .i64 0, .int .u64 0] []) fun x10 =>
    effK H (stA lim H 3 x2 x10) fun _ H =>
    (retC (cx ρ) [some 176, none]) [x2, (.int .i64 4)] H)
  (
    resK (call lim 141 [x0] H) fun x12 H =>
    purK (bldA [.nils, .bool false] [(0, 1, x12)]) fun x13 =>
    effK H (boxA H 248 x13) fun x14 H =>
    resK (call lim 182 [x14] H) fun x16 H =>
    resK (call lim 182 [x14] H) fun x18 H =>
    resK (call lim 183 [x14] H) fun x20 H =>
    purK (bldA [.int .i64 0, .int .i64 0, .int .u64 0] [(0, 1, x16), (1, 1, x18), (2, 1, x20)]) fun x21 =>
    effK H (some (.ptr H.sz 0 0, .new (newCells 176 false [.int .i64 0, .int .i64 0, .int .u64 0]))) fun x5 H =>
    effK H (stA lim H 3 x5 x21) fun _ H =>
    resK (call lim 182 [x14] H) fun x23 H =>
    purK (nilChkA x14) fun x25 =>
    purK (addA 1 x25) fun x26 =>
    purK (ld1 ρ H x26) fun x27 =>
    purK (gPur (wantV x27 false) (some x23)) fun x29 =>
    purK (gPur (wantV x27 false) (addA 0 x5)) fun x30 =>
    purK (gPur (wantV x27 false) (ld1 ρ H x30)) fun x31 =>
    purK (gPur (wantV x27 false) (binA Tryz.prog H .neq 3 x29 x31)) fun x32 =>
    purK (pickA x27 (.bool true) x32) fun x33 =>
    purK (gPur (wantV x33 false) (ldN ρ H 3 x5)) fun x35 =>
    resK (gRes (wantV x33 false) H (call lim 184 [x35] H)) fun x36 H =>
    purK (gPur (wantV x33 false) (unA .not x36)) fun x37 =>
    purK (pickA x33 (.bool true) x37) fun x38 =>
    condK x38
    (
      purK (bldA [.int .i64 0, .int .i64 0, .int .u64 0] []) fun x39 =>
      effK H (stA lim H 3 x2 x39) fun _ H =>
      (retC (cx ρ) [some 176, none]) [x2, (.int .i64 4)] H)
    (
      purK (ldN ρ H 3 x5) fun x40 =>
      effK H (stA lim H 3 x2 x40) fun _ H =>
      (retC (cx ρ) [some 176, none]) [x2, (.int .i64 0)] H))
theorem G118 (ρ : Addr → Option Value) (call : CallF) (yc : YieldF) (lim k : Nat) (x0 : AV) (H : Heap) :
    evL (cx ρ) call yc false 118 lim k c118 [x0, (.tup []), (.tup []), (.tup []), (.tup []), (.tup []), (.tup []), (.tup []), (.tup []), (.tup []), (.tup []), (.tup []), (.tup []), (.tup []), (.tup []), (.tup []), (.tup []), (.tup []), (.tup []), (.tup []), (.tup []), (.tup []), (.tup []), (.tup []), (.tup []), (.tup []), (.tup []), (.tup []), (.tup []), (.tup []), (.tup []), (.tup []), (.tup []), (.tup []), (.tup []), (.tup []), (.tup []), (.tup []), (.tup []), (.tup []), (.tup [])] H (kk none (fun s H => (retC (cx ρ) [some 176, none]) (([2, 3] : List Nat).map fun t => s.getD t (.tup [])) H) [] (retC (cx ρ) [some 176, none]) [2, 3]) = L118 ρ call yc lim k x0 H := by
  kernel_rfl
theorem E118 (ρ : Addr → Option Value) (k lim : Nat) (x0 : AV) (H : Heap) : evCall (cx ρ) (k + 1) lim 118 [x0] H = L118 ρ (evCall (cx ρ) k) (evCY (cx ρ) k).2 lim k x0 H := by
  rw [evCall_cells (cx ρ) k lim 118 _ H Tryz.f118 c118 [2, 3] [some 176, none] (by kernel_rfl) (by kernel_rfl) (by kernel_rfl) (by kernel_rfl) (by kernel_rfl) (by kernel_rfl)]
  exact G118 ρ (evCall (cx ρ) k) (evCY (cx ρ) k).2 lim k x0 H
-- slices.SortStableFunc[[]haycroft/api.Commit,haycroft/api.Commit]
noncomputable def c119 : Code := Code.of Tryz.prog 119
noncomputable def L119 (ρ : Addr → Option Value) (call : CallF) (yc : YieldF) (lim k : Nat) (x0 x1 : AV) (H : Heap) : Res :=
  purK (lenS x0) fun x6 =>
  resK (call lim 185 [x0, x6, x1] H) fun x8 H =>
  retK [] H
theorem G119 (ρ : Addr → Option Value) (call : CallF) (yc : YieldF) (lim k : Nat) (x0 x1 : AV) (H : Heap) :
    evL (cx ρ) call yc false 119 lim k c119 [x0, x1, (.tup []), (.tup []), (.tup []), (.tup []), (.tup []), (.tup []), (.tup [])] H (kk none (fun s H => retK (([] : List Nat).map fun t => s.getD t (.tup [])) H) [] retK []) = L119 ρ call yc lim k x0 x1 H := by
  kernel_rfl
theorem E119 (ρ : Addr → Option Value) (k lim : Nat) (x0 x1 : AV) (H : Heap) : evCall (cx ρ) (k + 1) lim 119 [x0, x1] H = L119 ρ (evCall (cx ρ) k) (evCY (cx ρ) k).2 lim k x0 x1 H := by
  rw [evCall_body (cx ρ) k lim 119 _ H Tryz.f119 c119 [] (by kernel_rfl) (by kernel_rfl) (by kernel_rfl) (by kernel_rfl) (by kernel_rfl)]
  exact G119 ρ (evCall (cx ρ) k) (evCY (cx ρ) k).2 lim k x0 x1 H
-- haycroft/hlog.New
noncomputable def c125 : Code := Code.of Tryz.prog 125
noncomputable def L125 (ρ : Addr → Option Value) (call : CallF) (yc : YieldF) (lim k : Nat) (x0 x1 : AV) (H : Heap) : Res :=
  effK H (boxA H 23 x0) fun x2 H =>
  purK (binA Tryz.prog H .eql 41 x1 .nilp) fun x13 =>
  condK x13
  (
    retK [.nilp, (.int .i64 2)] H)
  (
    purK (addA 0 x2) fun x15 =>
    purK (ld1 ρ H x15) fun x16 =>
    purK (addA 2 x2) fun x17 =>
    purK (ld1 ρ H x17) fun x18 =>
    resK (call lim 193 [x16, x18] H) fun x19 H =>
    purK (extA 0 x19) fun x20 =>
    purK (extA 1 x19) fun x21 =>
    purK (addA 0 x2) fun x23 =>
    purK (ld1 ρ H x23) fun x24 =>
    purK (addA 1 x2) fun x25 =>
    purK (ld1 ρ H x25) fun x26 =>
    resK (call lim 194 [x24, x26] H) fun x27 H =>
    purK (extA 0 x27) fun x28 =>
    purK (extA 1 x27) fun x29 =>
    purK (addA 5 x2) fun x31 =>
    purK (ld1 ρ H x31) fun x32 =>
    resK (call lim 195 [x32] H) fun x33 H =>
    purK (extA 0 x33) fun x34 =>
    purK (extA 1 x33) fun x35 =>
    purK (binA Tryz.prog H .neq 32 x21 (.int .i64 0)) fun x37 =>
    purK (gPur (wantV x37 false) (some x29)) fun x39 =>
    purK (gPur (wantV x37 false) (binA Tryz.prog H .neq 32 x39 (.int .i64 0))) fun x40 =>
    purK (pickA x37 (.bool true) x40) fun x41 =>
    purK (gPur (wantV x41 false) (some x35)) fun x43 =>
    purK (gPur (wantV x41 false) (binA Tryz.prog H .neq 32 x43 (.int .i64 0))) fun x44 =>
    purK (pickA x41 (.bool true) x44) fun x45 =>
    condK x45
    (
      retK [.nilp, (.int .i64 1)] H)
    (
      resK (call lim 196 [] H) fun x48 H =>
      resK (call lim 197 [] H) fun x50 H =>
      effK H (some (makeMapA H)) fun x52 H =>
      effK H (some (makeMapA H)) fun x53 H =>
      purK (bldA [.nilp, .nilp, .nilp, .nilp, .nilp, .nilp, .nilm, .nilm] [(0, 1, x20), (1, 1, x28), (2, 1, x48), (3, 1, x34), (4, 1, x50), (5, 1, x1), (6, 1, x52), (7, 1, x53)]) fun x54 =>
      effK H (boxA H 110 x54) fun x55 H =>
      resK (call lim 198 [x28, (.int .i64 0)] H) fun x57 H =>
      retK [x55, x57] H))
theorem G125 (ρ : Addr → Option Value) (call : CallF) (yc : YieldF) (lim k : Nat) (x0 x1 : AV) (H : Heap) :
    evL (cx ρ) call yc false 125 lim k c125 [x0, x1, (.tup []), (.tup []), (.tup []), (.tup []), (.tup []), (.tup []), (.tup []), (.tup []), (.tup []), (.tup []), (.tup []), (.tup []), (.tup []), (.tup []), (.tup []), (.tup []), (.tup []), (.tup []), (.tup []), (.tup []), (.tup []), (.tup []), (.tup []), (.tup []), (.tup []), (.tup []), (.tup []), (.tup []), (.tup []), (.tup []), (.tup []), (.tup []), (.tup []), (.tup []), (.tup []), (.tup []), (.tup []), (.tup []), (.tup []), (.tup []), (.tup []), (.tup []), (.tup []), (.tup []), (.tup []), (.tup []), (.tup []), (.tup []), (.tup []), (.tup []), (.tup []), (.tup []), (.tup []), (.tup []), (.tup []), (.tup [])] H (kk none (fun s H => retK (([4, 5] : List Nat).map fun t => s.getD t (.tup [])) H) [] retK [4, 5]) = L125 ρ call yc lim k x0 x1 H := by
  kernel_rfl
theorem E125 (ρ : Addr → Option Value) (k lim : Nat) (x0 x1 : AV) (H : Heap) : evCall (cx ρ) (k + 1) lim 125 [x0, x1] H = L125 ρ (evCall (cx ρ) k) (evCY (cx ρ) k).2 lim k x0 x1 H := by
  rw [evCall_body (cx ρ) k lim 125 _ H Tryz.f125 c125 [4, 5] (by kernel_rfl) (by kernel_rfl) (by kernel_rfl) (by kernel_rfl) (by kernel_rfl)]
  exact G125 ρ (evCall (cx ρ) k) (evCY (cx ρ) k).2 lim k x0 x1 H
-- haycroft/index.New
noncomputable def c126 : Code := Code.of Tryz.prog 126
noncomputable def L126 (ρ : Addr → Option Value) (call : CallF) (yc : YieldF) (lim k : Nat) (x0 x1 : AV) (H : Heap) : Res :=
  resK (call lim 68 [x0] H) fun x10 H =>
  purK (unA .not x10) fun x11 =>
  purK (gPur (wantV x11 false) (some x1)) fun x13 =>
  purK (gPur (wantV x11 false) (binA Tryz.prog H .lss 3 x13 (.int .i64 0))) fun x14 =>
  purK (pickA x11 (.bool true) x14) fun x15 =>
  purK (gPur (wantV x15 false) (some x1)) fun x17 =>
  purK (gPur (wantV x15 false) (binA Tryz.prog H .gtr 3 x17 (.int .i64 64))) fun x18 =>
  purK (pickA x15 (.bool true) x18) fun x19 =>
  condK x19
  (
    retK [.nilp, (.int .i64 1)] H)
  (
    purK (binA Tryz.prog H .add 3 x0 x1) fun x23 =>
    purK (binA Tryz.prog H .mul 3 x23 (.int .i64 8)) fun x24 =>
    resK (call lim 199 [x24] H) fun x25 H =>
    purK (extA 0 x25) fun x26 =>
    purK (extA 1 x25) fun x27 =>
    purK (binA Tryz.prog H .neq 32 x27 (.int .i64 0)) fun x29 =>
    condK x29
    (
      retK [.nilp, x27] H)
    (
      resK (call lim 199 [(.int .i64 1)] H) fun x32 H =>
      purK (extA 0 x32) fun x33 =>
      purK (extA 1 x32) fun x34 =>
      purK (binA Tryz.prog H .neq 32 x34 (.int .i64 0)) fun x36 =>
      condK x36
      (
        retK [.nilp, x34] H)
      (
        purK (bldA [.int .i64 0, .int .i64 0, .nilp, .nilp] [(0, 1, x0), (1, 1, x1), (2, 1, x26), (3, 1, x33)]) fun x42 =>
        effK H (boxA H 265 x42) fun x43 H =>
        retK [x43, (.int .i64 0)] H)))
theorem G126 (ρ : Addr → Option Value) (call : CallF) (yc : YieldF) (lim k : Nat) (x0 x1 : AV) (H : Heap) :
    evL (cx ρ) call yc false 126 lim k c126 [x0, x1, (.tup []), (.tup []), (.tup []), (.tup []), (.tup []), (.tup []), (.tup []), (.tup []), (.tup []), (.tup []), (.tup []), (.tup []), (.tup []), (.tup []), (.tup []), (.tup []), (.tup []), (.tup []), (.tup []), (.tup []), (.tup []), (.tup []), (.tup []), (.tup []), (.tup []), (.tup []), (.tup []), (.tup []), (.tup []), (.tup []), (.tup []), (.tup []), (.tup []), (.tup []), (.tup []), (.tup []), (.tup []), (.tup []), (.tup []), (.tup []), (.tup []), (.tup [])] H (kk none (fun s H => retK (([4, 5] : List Nat).map fun t => s.getD t (.tup [])) H) [] retK [4, 5]) = L126 ρ call yc lim k x0 x1 H := by
  kernel_rfl
theorem E126 (ρ : Addr → Option Value) (k lim : Nat) (x0 x1 : AV) (H : Heap) : evCall (cx ρ) (k + 1) lim 126 [x0, x1] H = L126 ρ (evCall (cx ρ) k) (evCY (cx ρ) k).2 lim k x0 x1 H := by
  rw [evCall_body (cx ρ) k lim 126 _ H Tryz.f126 c126 [4, 5] (by kernel_rfl) (by kernel_rfl) (by kernel_rfl) (by kernel_rfl) (by kernel_rfl)]
  exact G126 ρ (evCall (cx ρ) k) (evCY (cx ρ) k).2 lim k x0 x1 H
-- haycroft/session.New
noncomputable def c127 : Code := Code.of Tryz.prog 127
noncomputable def L127 (ρ : Addr → Option Value) (call : CallF) (yc : YieldF) (lim k : Nat) (x0 x1 x2 : AV) (H : Heap) : Res :=
  purK (binA Tryz.prog H .eql 47 x0 .nilp) fun x10 =>
  purK (gPur (wantV x10 false) (some x1)) fun x12 =>
  purK (gPur (wantV x10 false) (binA Tryz.prog H .eql 49 x12 .nilp)) fun x13 =>
  purK (pickA x10 (.bool true) x13) fun x14 =>
  condK x14
  (
    retK [.nilp, (.int .i64 2)] H)
  (
    purK (binA Tryz.prog H .lss 3 x2 (.int .i64 0)) fun x17 =>
    purK (gPur (wantV x17 false) (some x2)) fun x19 =>
    purK (gPur (wantV x17 false) (binA Tryz.prog H .geq 3 x19 (.int .i64 8))) fun x20 =>
    purK (pickA x17 (.bool true) x20) fun x21 =>
    condK x21
    (
      retK [.nilp, (.int .i64 1)] H)
    (
      effK H (some (makeMapA H)) fun x25 H =>
      purK (bldA [.nilp, .nilp, .int .i64 0, .int .i64 0, .bool false, .nilp, .nils, .int .i64 0, .nilm, .int .i64 0] [(0, 1, x0), (1, 1, x1), (2, 1, x2), (8, 1, x25)]) fun x26 =>
      effK H (boxA H 89 x26) fun x27 H =>
      retK [x27, (.int .i64 0)] H))
theorem G127 (ρ : Addr → Option Value) (call : CallF) (yc : YieldF) (lim k : Nat) (x0 x1 x2 : AV) (H : Heap) :
    evL (cx ρ) call yc false 127 lim k c127 [x0, x1, x2, (.tup []), (.tup []), (.tup []), (.tup []), (.tup []), (.tup []), (.tup []), (.tup []), (.tup []), (.tup []), (.tup []), (.tup []), (.tup []), (.tup []), (.tup []), (.tup []), (.tup []), (.tup []), (.tup []), (.tup []), (.tup []), (.tup []), (.tup []), (.tup []), (.tup [])] H (kk none (fun s H => retK (([6, 7] : List Nat).map fun t => s.getD t (.tup [])) H) [] retK [6, 7]) = L127 ρ call yc lim k x0 x1 x2 H := by
  kernel_rfl
theorem E127 (ρ : Addr → Option Value) (k lim : Nat) (x0 x1 x2 : AV) (H : Heap) : evCall (cx ρ) (k + 1) lim 127 [x0, x1, x2] H = L127 ρ (evCall (cx ρ) k) (evCY (cx ρ) k).2 lim k x0 x1 x2 H := by
  rw [evCall_body (cx ρ) k lim 127 _ H Tryz.f127 c127 [6, 7] (by kernel_rfl) (by kernel_rfl) (by kernel_rfl) (by kernel_rfl) (by kernel_rfl)]
  exact G127 ρ (evCall (cx ρ) k) (evCY (cx ρ) k).2 lim k x0 x1 x2 H
-- slices.Sort[[]int,int]
noncomputable def c128 : Code := Code.of Tryz.prog 128
noncomputable def L128 (ρ : Addr → Option Value) (call : CallF) (yc : YieldF) (lim k : Nat) (x0 : AV) (H : Heap) : Res :=
  purK (lenS x0) fun x4 =>
  purK (cvI .u64 x4) fun x8 =>
  resK (call lim 201 [x8] H) fun x9 H =>
  resK (call lim 200 [x0, (.int .i64 0), x4, x9] H) fun x10 H =>
  retK [] H
theorem G128 (ρ : Addr → Option Value) (call : CallF) (yc : YieldF) (lim k : Nat) (x0 : AV) (H : Heap) :
    evL (cx ρ) call yc false 128 lim k c128 [x0, (.tup []), (.tup []), (.tup []), (.tup []), (.tup []), (.tup []), (.tup []), (.tup []), (.tup []), (.tup [])] H (kk none (fun s H => retK (([] : List Nat).map fun t => s.getD t (.tup [])) H) [] retK []) = L128 ρ call yc lim k x0 H := by
  kernel_rfl
theorem E128 (ρ : Addr → Option Value) (k lim : Nat) (x0 : AV) (H : Heap) : evCall (cx ρ) (k + 1) lim 128 [x0] H = L128 ρ (evCall (cx ρ) k) (evCY (cx ρ) k).2 lim k x0 H := by
  rw [evCall_body (cx ρ) k lim 128 _ H Tryz.f128 c128 [] (by kernel_rfl) (by kernel_rfl) (by kernel_rfl) (by kernel_rfl) (by kernel_rfl)]
  exact G128 ρ (evCall (cx ρ) k) (evCY (cx ρ) k).2 lim k x0 H
-- maps.Keys[map[int]haycroft/device.job,int,haycroft/device.job]$1
noncomputable def c129 : Code := Code.of Tryz.prog 129
noncomputable def N129_2b (ρ : Addr → Option Value) (call : CallF) (yc : YieldF) (lim k : Nat) (x0 x5 : AV) (H : Heap) (kn : AV → AV → Heap → Res) (R : List AV → Heap → Res) : Res :=
  effK H (nextA lim H x5 false) fun x6_1 H =>
  purK (extA 0 x6_1) fun x7_1 =>
  condK x7_1
  (
    purK (entryA H x5) fun x8_1 =>
    purK (extA 0 x8_1) fun x9_1 =>
    valK call yc lim x0 [x9_1] H fun x12_1 H =>
    purK (unA .not x12_1) fun x13_1 =>
    condK x13_1
    (
      R [] H)
    (
      kn x0 x5 H))
  (
    R [] H)
theorem N129_2b_eq (ρ : Addr → Option Value) (call : CallF) (yc : YieldF) (lim k : Nat) (x0 x5 : AV) (H : Heap) (kn : KS) (R : List AV → Heap → Res) :
    evL (cx ρ) call yc false 129 lim k (Code.at [1, 0, 0] c129) (sp 14 [(0, x0), (5, x5)]) H (kk (some [0, 5]) kn [(0, none, (fun s H => R (([] : List Nat).map fun t => s.getD t (.tup [])) H))] R []) = N129_2b ρ call yc lim k x0 x5 H (fun x0 x5 H => kn (sp 14 [(0, x0), (5, x5)]) H) R := by
  kernel_rfl
noncomputable def N129_2 (ρ : Addr → Option Value) (call : CallF) (yc : YieldF) (lim k : Nat) (x0 x5 : AV) (H : Heap) (R : List AV → Heap → Res) : Res :=
  loopL (fun (x : Unit) H kn => N129_2b ρ call yc lim k x0 x5 H (fun _ _ H => kn () H) R) k () H
theorem N129_2_eq (ρ : Addr → Option Value) (call : CallF) (yc : YieldF) (lim k : Nat) (x0 x5 : AV) (H : Heap) (R : List AV → Heap → Res) :
    evL (cx ρ) call yc false 129 lim k (Code.at [1, 0] c129) (sp 14 [(0, x0), (5, x5)]) H (kk none (fun s H => R (([] : List Nat).map fun t => s.getD t (.tup [])) H) [(0, none, (fun s H => R (([] : List Nat).map fun t => s.getD t (.tup [])) H))] R []) = N129_2 ρ call yc lim k x0 x5 H R := by
  have e : Code.at [1, 0] c129 = .loop (Code.at [1, 0, 0] c129) := by kernel_rfl
  rw [e]
  unfold N129_2
  exact loop_node [0, 5] (fun x : Unit => (sp 14 [(0, x0), (5, x5)])) (fun (x : Unit) H kn => N129_2b ρ call yc lim k x0 x5 H (fun _ _ H => kn () H) R) (by kernel_rfl) (fun x => by kernel_rfl) (fun x H kn => N129_2b_eq ρ call yc lim k x0 x5 H kn R) () (sp 14 [(0, x0), (5, x5)]) H (by kernel_rfl)
noncomputable def N129_1 (ρ : Addr → Option Value) (call : CallF) (yc : YieldF) (lim k : Nat) (x0 x5 : AV) (H : Heap) (R : List AV → Heap → Res) : Res :=
  N129_2 ρ call yc lim k x0 x5 H R
theorem N129_1_x (ρ : Addr → Option Value) (call : CallF) (yc : YieldF) (lim k : Nat) (J : CodeF) (x0 x5 : AV) (H : Heap) (R : List AV → Heap → Res) :
    evX (cx ρ) call yc false 129 lim k J (Code.at [1] c129) (sp 14 [(0, x0), (5, x5)]) H (kk none (fun s H => R (([] : List Nat).map fun t => s.getD t (.tup [])) H) [] R []) =
  J (Code.at [1, 0] c129) (sp 14 [(0, x0), (5, x5)]) H (kk none (fun s H => R (([] : List Nat).map fun t => s.getD t (.tup [])) H) [(0, none, (fun s H => R (([] : List Nat).map fun t => s.getD t (.tup [])) H))] R []) := by
  kernel_rfl
theorem N129_1_eq (ρ : Addr → Option Value) (call : CallF) (yc : YieldF) (lim k : Nat) (x0 x5 : AV) (H : Heap) (R : List AV → Heap → Res) :
    evL (cx ρ) call yc false 129 lim k (Code.at [1] c129) (sp 14 [(0, x0), (5, x5)]) H (kk none (fun s H => R (([] : List Nat).map fun t => s.getD t (.tup [])) H) [] R []) = N129_1 ρ call yc lim k x0 x5 H R := by
  rw [evL_X, N129_1_x]
  simp only [← evL_X, N129_1, N129_2_eq]
noncomputable def L129 (ρ : Addr → Option Value) (call : CallF) (yc : YieldF) (lim k : Nat) (x0 x1 : AV) (H : Heap) : Res :=
  purK (ld1 ρ H x1) fun x4 =>
  effK H (rangeA H Tryz.prog 70 x4) fun x5 H =>
  N129_1 ρ call yc lim k x0 x5 H retK
theorem L129_x (ρ : Addr → Option Value) (call : CallF) (yc : YieldF) (lim k : Nat) (J : CodeF) (x0 x1 : AV) (H : Heap) :
    evX (cx ρ) call yc false 129 lim k J c129 [x0, x1, (.tup []), (.tup []), (.tup []), (.tup []), (.tup []), (.tup []), (.tup []), (.tup []), (.tup []), (.tup []), (.tup []), (.tup [])] H (kk none (fun s H => retK (([] : List Nat).map fun t => s.getD t (.tup [])) H) [] retK []) =
  purK (ld1 ρ H x1) fun x4 =>
  effK H (rangeA H Tryz.prog 70 x4) fun x5 H =>
  J (Code.at [1] c129) (sp 14 [(0, x0), (5, x5)]) H (kk none (fun s H => retK (([] : List Nat).map fun t => s.getD t (.tup [])) H) [] retK []) := by
  kernel_rfl
theorem G129 (ρ : Addr → Option Value) (call : CallF) (yc : YieldF) (lim k : Nat) (x0 x1 : AV) (H : Heap) :
    evL (cx ρ) call yc false 129 lim k c129 [x0, x1, (.tup []), (.tup []), (.tup []), (.tup []), (.tup []), (.tup []), (.tup []), (.tup []), (.tup []), (.tup []), (.tup []), (.tup [])] H (kk none (fun s H => retK (([] : List Nat).map fun t => s.getD t (.tup [])) H) [] retK []) = L129 ρ call yc lim k x0 x1 H := by
  rw [evL_X, L129_x]
  simp only [← evL_X, L129, N129_1_eq]
theorem E129 (ρ : Addr → Option Value) (k lim : Nat) (x0 x1 : AV) (H : Heap) : evCall (cx ρ) (k + 1) lim 129 [x0, x1] H = L129 ρ (evCall (cx ρ) k) (evCY (cx ρ) k).2 lim k x0 x1 H := by
  rw [evCall_body (cx ρ) k lim 129 _ H Tryz.f129 c129 [] (by kernel_rfl) (by kernel_rfl) (by kernel_rfl) (by kernel_rfl) (by kernel_rfl)]
  exact G129 ρ (evCall (cx ρ) k) (evCY (cx ρ) k).2 lim k x0 x1 H
-- haycroft/task.Right
noncomputable def c130 : Code := Code.of Tryz.prog 130
noncomputable def N130_1 (ρ : Addr → Option Value) (call : CallF) (yc : YieldF) (lim k : Nat) (H : Heap) (R : List AV → Heap → Res) : Res :=
  R [(.int .i64 0)] H
theorem N130_1_eq (ρ : Addr → Option Value) (call : CallF) (yc : YieldF) (lim k : Nat) (H : Heap) (R : List AV → Heap → Res) :
    evL (cx ρ) call yc false 130 lim k (Code.at [1, 1] c130) (sp 29 []) H (kk none (fun s H => R (([2] : List Nat).map fun t => s.getD t (.tup [])) H) [] R [2]) = N130_1 ρ call yc lim k H R := by
  kernel_rfl
noncomputable def N130_3 (ρ : Addr → Option Value) (call : CallF) (yc : YieldF) (lim k : Nat) (x15 : AV) (H : Heap) (kn : Heap → Res) (R : List AV → Heap → Res) : Res :=
  condK x15
  (
    R [(.int .i64 5)] H)
  (
    kn H)
theorem N130_3_eq (ρ : Addr → Option Value) (call : CallF) (yc : YieldF) (lim k : Nat) (x15 : AV) (H : Heap) (kn : KS) (k0 : KS) (R : List AV → Heap → Res) :
    evL (cx ρ) call yc false 130 lim k (Code.at [1, 0, 0, 1, 1, 1] c130) (sp 29 [(15, x15)]) H (kk (some []) kn [(0, (some []), k0)] R [2]) = N130_3 ρ call yc lim k x15 H (fun H => kn (sp 29 []) H) R := by
  kernel_rfl
noncomputable def N130_2 (ρ : Addr → Option Value) (call : CallF) (yc : YieldF) (lim k : Nat) (x1 x3 : AV) (H : Heap) (kn : Heap → Res) (R : List AV → Heap → Res) : Res :=
  condK x3
  (
    R [(.int .i64 1)] H)
  (
    purK (addA 1 x1) fun x16_1 =>
    purK (ld1 ρ H x16_1) fun x17_1 =>
    purK (lenT x17_1) fun x18_1 =>
    purK (binA Tryz.prog H .gtr 3 x18_1 (.int .i64 64)) fun x19_1 =>
    condK x19_1
    (
      N130_3 ρ call yc lim k x19_1 H kn R)
    (
      purK (addA 0 x1) fun x20_1 =>
      purK (ld1 ρ H x20_1) fun x21_1 =>
      purK (binA Tryz.prog H .eql 3 x21_1 (.int .i64 2)) fun x22_1 =>
      purK (gPur (wantV x22_1 true) (addA 2 x1)) fun x24_1 =>
      purK (gPur (wantV x22_1 true) (ld1 ρ H x24_1)) fun x25_1 =>
      purK (gPur (wantV x22_1 true) (lenT x25_1)) fun x26_1 =>
      purK (gPur (wantV x22_1 true) (binA Tryz.prog H .gtr 3 x26_1 (.int .i64 128))) fun x27_1 =>
      purK (pickA x22_1 x27_1 (.bool false)) fun x28_1 =>
      N130_3 ρ call yc lim k x28_1 H kn R))
theorem N130_2_x (ρ : Addr → Option Value) (call : CallF) (yc : YieldF) (lim k : Nat) (J : CodeF) (x1 x3 : AV) (H : Heap) (kn : KS) (k0 : KS) (R : List AV → Heap → Res) :
    evX (cx ρ) call yc false 130 lim k J (Code.at [1, 0, 0, 1] c130) (sp 29 [(1, x1), (3, x3)]) H (kk (some []) kn [(0, (some []), k0)] R [2]) =
  condK x3
  (
    R [(.int .i64 1)] H)
  (
    purK (addA 1 x1) fun x16_1 =>
    purK (ld1 ρ H x16_1) fun x17_1 =>
    purK (lenT x17_1) fun x18_1 =>
    purK (binA Tryz.prog H .gtr 3 x18_1 (.int .i64 64)) fun x19_1 =>
    condK x19_1
    (
      J (Code.at [1, 0, 0, 1, 1, 1] c130) (sp 29 [(15, x19_1)]) H (kk (some []) kn [(0, (some []), k0)] R [2]))
    (
      purK (addA 0 x1) fun x20_1 =>
      purK (ld1 ρ H x20_1) fun x21_1 =>
      purK (binA Tryz.prog H .eql 3 x21_1 (.int .i64 2)) fun x22_1 =>
      purK (gPur (wantV x22_1 true) (addA 2 x1)) fun x24_1 =>
      purK (gPur (wantV x22_1 true) (ld1 ρ H x24_1)) fun x25_1 =>
      purK (gPur (wantV x22_1 true) (lenT x25_1)) fun x26_1 =>
      purK (gPur (wantV x22_1 true) (binA Tryz.prog H .gtr 3 x26_1 (.int .i64 128))) fun x27_1 =>
      purK (pickA x22_1 x27_1 (.bool false)) fun x28_1 =>
      J (Code.at [1, 0, 0, 1, 1, 1] c130) (sp 29 [(15, x28_1)]) H (kk (some []) kn [(0, (some []), k0)] R [2]))) := by
  kernel_rfl
theorem N130_2_eq (ρ : Addr → Option Value) (call : CallF) (yc : YieldF) (lim k : Nat) (x1 x3 : AV) (H : Heap) (kn : KS) (k0 : KS) (R : List AV → Heap → Res) :
    evL (cx ρ) call yc false 130 lim k (Code.at [1, 0, 0, 1] c130) (sp 29 [(1, x1), (3, x3)]) H (kk (some []) kn [(0, (some []), k0)] R [2]) = N130_2 ρ call yc lim k x1 x3 H (fun H => kn (sp 29 []) H) R := by
  rw [evL_X, N130_2_x]
  simp only [← evL_X, N130_2, N130_3_eq]
noncomputable def L130 (ρ : Addr → Option Value) (call : CallF) (yc : YieldF) (lim k : Nat) (x0 : AV) (H : Heap) : Res :=
  effK H (boxA H 26 x0) fun x1 H =>
  purK (addA 0 x1) fun x4 =>
  purK (ld1 ρ H x4) fun x5 =>
  purK (binA Tryz.prog H .lss 3 x5 (.int .i64 1)) fun x6 =>
  purK (gPur (wantV x6 false) (addA 0 x1)) fun x8 =>
  purK (gPur (wantV x6 false) (ld1 ρ H x8)) fun x9 =>
  purK (gPur (wantV x6 false) (binA Tryz.prog H .gtr 3 x9 (.int .i64 4))) fun x10 =>
  purK (pickA x6 (.bool true) x10) fun x11 =>
  condK x11
  (
    N130_2 ρ call yc lim k x1 x11 H (fun H =>
      N130_1 ρ call yc lim k H retK) retK)
  (
    purK (addA 1 x1) fun x12 =>
    purK (ld1 ρ H x12) fun x13 =>
    purK (binA Tryz.prog H .eql 9 x13 (.str (ByteArray.mk #[]))) fun x14 =>
    N130_2 ρ call yc lim k x1 x14 H (fun H =>
      N130_1 ρ call yc lim k H retK) retK)
theorem L130_x (ρ : Addr → Option Value) (call : CallF) (yc : YieldF) (lim k : Nat) (J : CodeF) (x0 : AV) (H : Heap) :
    evX (cx ρ) call yc false 130 lim k J c130 [x0, (.tup []), (.tup []), (.tup []), (.tup []), (.tup []), (.tup []), (.tup []), (.tup []), (.tup []), (.tup []), (.tup []), (.tup []), (.tup []), (.tup []), (.tup []), (.tup []), (.tup []), (.tup []), (.tup []), (.tup []), (.tup []), (.tup []), (.tup []), (.tup []), (.tup []), (.tup []), (.tup []), (.tup [])] H (kk none (fun s H => retK (([2] : List Nat).map fun t => s.getD t (.tup [])) H) [] retK [2]) =
  effK H (boxA H 26 x0) fun x1 H =>
  purK (addA 0 x1) fun x4 =>
  purK (ld1 ρ H x4) fun x5 =>
  purK (binA Tryz.prog H .lss 3 x5 (.int .i64 1)) fun x6 =>
  purK (gPur (wantV x6 false) (addA 0 x1)) fun x8 =>
  purK (gPur (wantV x6 false) (ld1 ρ H x8)) fun x9 =>
  purK (gPur (wantV x6 false) (binA Tryz.prog H .gtr 3 x9 (.int .i64 4))) fun x10 =>
  purK (pickA x6 (.bool true) x10) fun x11 =>
  condK x11
  (
    J (Code.at [1, 0, 0, 1] c130) (sp 29 [(1, x1), (3, x11)]) H (kk (some []) (fun s H => J (Code.at [1, 1] c130) s H (kk none (fun s H => retK (([2] : List Nat).map fun t => s.getD t (.tup [])) H) [] retK [2])) [(0, (some []), (fun s H => J (Code.at [1, 1] c130) s H (kk none (fun s H => retK (([2] : List Nat).map fun t => s.getD t (.tup [])) H) [] retK [2])))] retK [2]))
  (
    purK (addA 1 x1) fun x12 =>
    purK (ld1 ρ H x12) fun x13 =>
    purK (binA Tryz.prog H .eql 9 x13 (.str (ByteArray.mk #[]))) fun x14 =>
    J (Code.at [1, 0, 0, 1] c130) (sp 29 [(1, x1), (3, x14)]) H (kk (some []) (fun s H => J (Code.at [1, 1] c130) s H (kk none (fun s H => retK (([2] : List Nat).map fun t => s.getD t (.tup [])) H) [] retK [2])) [(0, (some []), (fun s H => J (Code.at [1, 1] c130) s H (kk none (fun s H => retK (([2] : List Nat).map fun t => s.getD t (.tup [])) H) [] retK [2])))] retK [2])) := by
  kernel_rfl
theorem G130 (ρ : Addr → Option Value) (call : CallF) (yc : YieldF) (lim k : Nat) (x0 : AV) (H : Heap) :
    evL (cx ρ) call yc false 130 lim k c130 [x0, (.tup []), (.tup []), (.tup []), (.tup []), (.tup []), (.tup []), (.tup []), (.tup []), (.tup []), (.tup []), (.tup []), (.tup []), (.tup []), (.tup []), (.tup []), (.tup []), (.tup []), (.tup []), (.tup []), (.tup []), (.tup []), (.tup []), (.tup []), (.tup []), (.tup []), (.tup []), (.tup []), (.tup [])] H (kk none (fun s H => retK (([2] : List Nat).map fun t => s.getD t (.tup [])) H) [] retK [2]) = L130 ρ call yc lim k x0 H := by
  rw [evL_X, L130_x]
  simp only [← evL_X, L130, N130_1_eq, N130_2_eq]
theorem E130 (ρ : Addr → Option Value) (k lim : Nat) (x0 : AV) (H : Heap) : evCall (cx ρ) (k + 1) lim 130 [x0] H = L130 ρ (evCall (cx ρ) k) (evCY (cx ρ) k).2 lim k x0 H := by
  rw [evCall_body (cx ρ) k lim 130 _ H Tryz.f130 c130 [2] (by kernel_rfl) (by kernel_rfl) (by kernel_rfl) (by kernel_rfl) (by kernel_rfl)]
  exact G130 ρ (evCall (cx ρ) k) (evCY (cx ρ) k).2 lim k x0 H
-- haycroft/mix.Key
noncomputable def c131 : Code := Code.of Tryz.prog 131
noncomputable def N131_2 (ρ : Addr → Option Value) (call : CallF) (yc : YieldF) (lim k : Nat) (x3 : AV) (H : Heap) (R : List AV → Heap → Res) : Res :=
  R [x3] H
theorem N131_2_eq (ρ : Addr → Option Value) (call : CallF) (yc : YieldF) (lim k : Nat) (x3 : AV) (H : Heap) (R : List AV → Heap → Res) :
    evL (cx ρ) call yc false 131 lim k (Code.at [1, 1, 1, 1] c131) (sp 32 [(3, x3)]) H (kk none (fun s H => R (([2] : List Nat).map fun t => s.getD t (.tup [])) H) [] R [2]) = N131_2 ρ call yc lim k x3 H R := by
  kernel_rfl
noncomputable def N131_5 (ρ : Addr → Option Value) (call : CallF) (yc : YieldF) (lim k : Nat) (x3 x19 : AV) (H : Heap) (kn : AV → AV → Heap → Res) : Res :=
  purK (binA Tryz.prog H .add 3 x19 (.int .i64 1)) fun x30_1 =>
  kn x3 x30_1 H
theorem N131_5_eq (ρ : Addr → Option Value) (call : CallF) (yc : YieldF) (lim k : Nat) (x3 x19 : AV) (H : Heap) (kn : KS) (k2 : KS) (R : List AV → Heap → Res) :
    evL (cx ρ) call yc false 131 lim k (Code.at [1, 1, 1, 0, 1, 0, 0, 1, 1, 1] c131) (sp 32 [(3, x3), (19, x19)]) H (kk (some [3, 19]) kn [(2, (some [3]), k2)] R [2]) = N131_5 ρ call yc lim k x3 x19 H (fun x3 x19 H => kn (sp 32 [(3, x3), (19, x19)]) H) := by
  kernel_rfl
noncomputable def N131_4b (ρ : Addr → Option Value) (call : CallF) (yc : YieldF) (lim k : Nat) (x3 x19 : AV) (H : Heap) (kn : AV → AV → Heap → Res) (k2 : AV → Heap → Res) : Res :=
  purK (binA Tryz.prog H .lss 3 x19 (.int .i64 3)) fun x20_1 =>
  condK x20_1
  (
    purK (binA Tryz.prog H .shr 24 x3 (.int .u64 32)) fun x24_1 =>
    purK (binA Tryz.prog H .xor 24 x3 x24_1) fun x25_1 =>
    purK (binA Tryz.prog H .lss 3 x19 (.int .i64 2)) fun x27_1 =>
    condK x27_1
    (
      purK (binA Tryz.prog H .mul 24 x25_1 (.int .u64 15480190943371904987)) fun x29_1 =>
      N131_5 ρ call yc lim k x29_1 x19 H kn)
    (
      N131_5 ρ call yc lim k x25_1 x19 H kn))
  (
    k2 x3 H)
theorem N131_4b_x (ρ : Addr → Option Value) (call : CallF) (yc : YieldF) (lim k : Nat) (J : CodeF) (x3 x19 : AV) (H : Heap) (kn : KS) (k2 : KS) (R : List AV → Heap → Res) :
    evX (cx ρ) call yc false 131 lim k J (Code.at [1, 1, 1, 0, 1, 0, 0] c131) (sp 32 [(3, x3), (19, x19)]) H (kk (some [3, 19]) kn [(2, (some [3]), k2)] R [2]) =
  purK (binA Tryz.prog H .lss 3 x19 (.int .i64 3)) fun x20_1 =>
  condK x20_1
  (
    purK (binA Tryz.prog H .shr 24 x3 (.int .u64 32)) fun x24_1 =>
    purK (binA Tryz.prog H .xor 24 x3 x24_1) fun x25_1 =>
    purK (binA Tryz.prog H .lss 3 x19 (.int .i64 2)) fun x27_1 =>
    condK x27_1
    (
      purK (binA Tryz.prog H .mul 24 x25_1 (.int .u64 15480190943371904987)) fun x29_1 =>
      J (Code.at [1, 1, 1, 0, 1, 0, 0, 1, 1, 1] c131) (sp 32 [(3, x29_1), (19, x19)]) H (kk (some [3, 19]) kn [(2, (some [3]), k2)] R [2]))
    (
      J (Code.at [1, 1, 1, 0, 1, 0, 0, 1, 1, 1] c131) (sp 32 [(3, x25_1), (19, x19)]) H (kk (some [3, 19]) kn [(2, (some [3]), k2)] R [2])))
  (
    k2 (sp 32 [(3, x3)]) H) := by
  kernel_rfl
theorem N131_4b_eq (ρ : Addr → Option Value) (call : CallF) (yc : YieldF) (lim k : Nat) (x3 x19 : AV) (H : Heap) (kn : KS) (k2 : KS) (R : List AV → Heap → Res) :
    evL (cx ρ) call yc false 131 lim k (Code.at [1, 1, 1, 0, 1, 0, 0] c131) (sp 32 [(3, x3), (19, x19)]) H (kk (some [3, 19]) kn [(2, (some [3]), k2)] R [2]) = N131_4b ρ call yc lim k x3 x19 H (fun x3 x19 H => kn (sp 32 [(3, x3), (19, x19)]) H) (fun x3 H => k2 (sp 32 [(3, x3)]) H) := by
  rw [evL_X, N131_4b_x]
  simp only [← evL_X, N131_4b, N131_5_eq]
noncomputable def N131_4 (ρ : Addr → Option Value) (call : CallF) (yc : YieldF) (lim k : Nat) (x3 x19 : AV) (H : Heap) (k2 : AV → Heap → Res) : Res :=
  loopL (fun (x : AV × AV) H kn => N131_4b ρ call yc lim k x.1 x.2 H (fun x3 x19 H => kn (x3, x19) H) k2) k (x3, x19) H
theorem N131_4_eq (ρ : Addr → Option Value) (call : CallF) (yc : YieldF) (lim k : Nat) (x3 x19 : AV) (H : Heap) (kn : KS) (k2 : KS) (R : List AV → Heap → Res) :
    evL (cx ρ) call yc false 131 lim k (Code.at [1, 1, 1, 0, 1, 0] c131) (sp 32 [(3, x3), (19, x19)]) H (kk (some [3]) kn [(2, (some [3]), k2)] R [2]) = N131_4 ρ call yc lim k x3 x19 H (fun x3 H => k2 (sp 32 [(3, x3)]) H) := by
  have e : Code.at [1, 1, 1, 0, 1, 0] c131 = .loop (Code.at [1, 1, 1, 0, 1, 0, 0] c131) := by kernel_rfl
  rw [e]
  unfold N131_4
  exact loop_node [3, 19] (fun x : AV × AV => (sp 32 [(3, (x.1)), (19, (x.2))])) (fun (x : AV × AV) H kn => N131_4b ρ call yc lim k x.1 x.2 H (fun x3 x19 H => kn (x3, x19) H) (fun x3 H => k2 (sp 32 [(3, x3)]) H)) (by kernel_rfl) (fun x => by kernel_rfl) (fun x H kn => N131_4b_eq ρ call yc lim k (x.1) (x.2) H kn k2 R) (x3, x19) (sp 32 [(3, x3), (19, x19)]) H (by kernel_rfl)
noncomputable def N131_3 (ρ : Addr → Option Value) (call : CallF) (yc : YieldF) (lim k : Nat) (x3 x19 : AV) (H : Heap) (kn : AV → Heap → Res) : Res :=
  N131_4 ρ call yc lim k x3 x19 H kn
theorem N131_3_x (ρ : Addr → Option Value) (call : CallF) (yc : YieldF) (lim k : Nat) (J : CodeF) (x3 x19 : AV) (H : Heap) (kn : KS) (R : List AV → Heap → Res) :
    evX (cx ρ) call yc false 131 lim k J (Code.at [1, 1, 1, 0, 1] c131) (sp 32 [(3, x3), (19, x19)]) H (kk (some [3]) kn [] R [2]) =
  J (Code.at [1, 1, 1, 0, 1, 0] c131) (sp 32 [(3, x3), (19, x19)]) H (kk (some [3]) kn [(2, (some [3]), kn)] R [2]) := by
  kernel_rfl
theorem N131_3_eq (ρ : Addr → Option Value) (call : CallF) (yc : YieldF) (lim k : Nat) (x3 x19 : AV) (H : Heap) (kn : KS) (R : List AV → Heap → Res) :
    evL (cx ρ) call yc false 131 lim k (Code.at [1, 1, 1, 0, 1] c131) (sp 32 [(3, x3), (19, x19)]) H (kk (some [3]) kn [] R [2]) = N131_3 ρ call yc lim k x3 x19 H (fun x3 H => kn (sp 32 [(3, x3)]) H) := by
  rw [evL_X, N131_3_x]
  simp only [← evL_X, N131_3, N131_4_eq]
noncomputable def N131_1 (ρ : Addr → Option Value) (call : CallF) (yc : YieldF) (lim k : Nat) (x3 : AV) (H : Heap) (R : List AV → Heap → Res) : Res :=
  N131_3 ρ call yc lim k x3 (.int .i64 0) H (fun x3_1 H =>
    N131_2 ρ call yc lim k x3_1 H R)
theorem N131_1_x (ρ : Addr → Option Value) (call : CallF) (yc : YieldF) (lim k : Nat) (J : CodeF) (x3 : AV) (H : Heap) (R : List AV → Heap → Res) :
    evX (cx ρ) call yc false 131 lim k J (Code.at [1, 1, 1] c131) (sp 32 [(3, x3)]) H (kk none (fun s H => R (([2] : List Nat).map fun t => s.getD t (.tup [])) H) [] R [2]) =
  J (Code.at [1, 1, 1, 0, 1] c131) (sp 32 [(3, x3), (19, (.int .i64 0))]) H (kk (some [3]) (fun s H => J (Code.at [1, 1, 1, 1] c131) s H (kk none (fun s H => R (([2] : List Nat).map fun t => s.getD t (.tup [])) H) [] R [2])) [] R [2]) := by
  kernel_rfl
theorem N131_1_eq (ρ : Addr → Option Value) (call : CallF) (yc : YieldF) (lim k : Nat) (x3 : AV) (H : Heap) (R : List AV → Heap → Res) :
    evL (cx ρ) call yc false 131 lim k (Code.at [1, 1, 1] c131) (sp 32 [(3, x3)]) H (kk none (fun s H => R (([2] : List Nat).map fun t => s.getD t (.tup [])) H) [] R [2]) = N131_1 ρ call yc lim k x3 H R := by
  rw [evL_X, N131_1_x]
  simp only [← evL_X, N131_1, N131_2_eq, N131_3_eq]
noncomputable def N131_7b (ρ : Addr → Option Value) (call : CallF) (yc : YieldF) (lim k : Nat) (x0 x3 x7 x8 : AV) (H : Heap) (kn : AV → AV → AV → AV → Heap → Res) (k0 : AV → Heap → Res) : Res :=
  purK (binA Tryz.prog H .lss 3 x8 x7) fun x9_1 =>
  condK x9_1
  (
    purK (ixT x0 x8) fun x14_1 =>
    purK (cvI .u64 x14_1) fun x15_1 =>
    purK (binA Tryz.prog H .xor 24 x3 x15_1) fun x16_1 =>
    purK (binA Tryz.prog H .mul 24 x16_1 (.int .u64 1099511628211)) fun x17_1 =>
    purK (binA Tryz.prog H .add 3 x8 (.int .i64 1)) fun x18_1 =>
    kn x0 x17_1 x7 x18_1 H)
  (
    k0 x3 H)
theorem N131_7b_eq (ρ : Addr → Option Value) (call : CallF) (yc : YieldF) (lim k : Nat) (x0 x3 x7 x8 : AV) (H : Heap) (kn : KS) (k0 : KS) (R : List AV → Heap → Res) :
    evL (cx ρ) call yc false 131 lim k (Code.at [1, 1, 0, 1, 0, 0] c131) (sp 32 [(0, x0), (3, x3), (7, x7), (8, x8)]) H (kk (some [0, 3, 7, 8]) kn [(0, (some [3]), k0)] R [2]) = N131_7b ρ call yc lim k x0 x3 x7 x8 H (fun x0 x3 x7 x8 H => kn (sp 32 [(0, x0), (3, x3), (7, x7), (8, x8)]) H) (fun x3 H => k0 (sp 32 [(3, x3)]) H) := by
  kernel_rfl
noncomputable def N131_7 (ρ : Addr → Option Value) (call : CallF) (yc : YieldF) (lim k : Nat) (x0 x3 x7 x8 : AV) (H : Heap) (k0 : AV → Heap → Res) : Res :=
  loopL (fun (x : AV × AV) H kn => N131_7b ρ call yc lim k x0 x.1 x7 x.2 H (fun _ x3 _ x8 H => kn (x3, x8) H) k0) k (x3, x8) H
theorem N131_7_eq (ρ : Addr → Option Value) (call : CallF) (yc : YieldF) (lim k : Nat) (x0 x3 x7 x8 : AV) (H : Heap) (kn : KS) (k0 : KS) (R : List AV → Heap → Res) :
    evL (cx ρ) call yc false 131 lim k (Code.at [1, 1, 0, 1, 0] c131) (sp 32 [(0, x0), (3, x3), (7, x7), (8, x8)]) H (kk (some [3]) kn [(0, (some [3]), k0)] R [2]) = N131_7 ρ call yc lim k x0 x3 x7 x8 H (fun x3 H => k0 (sp 32 [(3, x3)]) H) := by
  have e : Code.at [1, 1, 0, 1, 0] c131 = .loop (Code.at [1, 1, 0, 1, 0, 0] c131) := by kernel_rfl
  rw [e]
  unfold N131_7
  exact loop_node [0, 3, 7, 8] (fun x : AV × AV => (sp 32 [(0, x0), (3, (x.1)), (7, x7), (8, (x.2))])) (fun (x : AV × AV) H kn => N131_7b ρ call yc lim k x0 x.1 x7 x.2 H (fun _ x3 _ x8 H => kn (x3, x8) H) (fun x3 H => k0 (sp 32 [(3, x3)]) H)) (by kernel_rfl) (fun x => by kernel_rfl) (fun x H kn => N131_7b_eq ρ call yc lim k x0 (x.1) x7 (x.2) H kn k0 R) (x3, x8) (sp 32 [(0, x0), (3, x3), (7, x7), (8, x8)]) H (by kernel_rfl)
noncomputable def N131_6 (ρ : Addr → Option Value) (call : CallF) (yc : YieldF) (lim k : Nat) (x0 x3 x7 x8 : AV) (H : Heap) (kn : AV → Heap → Res) : Res :=
  N131_7 ρ call yc lim k x0 x3 x7 x8 H kn
theorem N131_6_x (ρ : Addr → Option Value) (call : CallF) (yc : YieldF) (lim k : Nat) (J : CodeF) (x0 x3 x7 x8 : AV) (H : Heap) (kn : KS) (R : List AV → Heap → Res) :
    evX (cx ρ) call yc false 131 lim k J (Code.at [1, 1, 0, 1] c131) (sp 32 [(0, x0), (3, x3), (7, x7), (8, x8)]) H (kk (some [3]) kn [] R [2]) =
  J (Code.at [1, 1, 0, 1, 0] c131) (sp 32 [(0, x0), (3, x3), (7, x7), (8, x8)]) H (kk (some [3]) kn [(0, (some [3]), kn)] R [2]) := by
  kernel_rfl
theorem N131_6_eq (ρ : Addr → Option Value) (call : CallF) (yc : YieldF) (lim k : Nat) (x0 x3 x7 x8 : AV) (H : Heap) (kn : KS) (R : List AV → Heap → Res) :
    evL (cx ρ) call yc false 131 lim k (Code.at [1, 1, 0, 1] c131) (sp 32 [(0, x0), (3, x3), (7, x7), (8, x8)]) H (kk (some [3]) kn [] R [2]) = N131_6 ρ call yc lim k x0 x3 x7 x8 H (fun x3 H => kn (sp 32 [(3, x3)]) H) := by
  rw [evL_X, N131_6_x]
  simp only [← evL_X, N131_6, N131_7_eq]
noncomputable def L131 (ρ : Addr → Option Value) (call : CallF) (yc : YieldF) (lim k : Nat) (x0 : AV) (H : Heap) : Res :=
  purK (lenT x0) fun x7 =>
  N131_6 ρ call yc lim k x0 (.int .u64 14695981039346656037) x7 (.int .i64 0) H (fun x3 H =>
    N131_1 ρ call yc lim k x3 H retK)
theorem L131_x (ρ : Addr → Option Value) (call : CallF) (yc : YieldF) (lim k : Nat) (J : CodeF) (x0 : AV) (H : Heap) :
    evX (cx ρ) call yc false 131 lim k J c131 [x0, (.tup []), (.tup []), (.tup []), (.tup []), (.tup []), (.tup []), (.tup []), (.tup []), (.tup []), (.tup []), (.tup []), (.tup []), (.tup []), (.tup []), (.tup []), (.tup []), (.tup []), (.tup []), (.tup []), (.tup []), (.tup []), (.tup []), (.tup []), (.tup []), (.tup []), (.tup []), (.tup []), (.tup []), (.tup []), (.tup []), (.tup [])] H (kk none (fun s H => retK (([2] : List Nat).map fun t => s.getD t (.tup [])) H) [] retK [2]) =
  purK (lenT x0) fun x7 =>
  J (Code.at [1, 1, 0, 1] c131) (sp 32 [(0, x0), (3, (.int .u64 14695981039346656037)), (7, x7), (8, (.int .i64 0))]) H (kk (some [3]) (fun s H => J (Code.at [1, 1, 1] c131) s H (kk none (fun s H => retK (([2] : List Nat).map fun t => s.getD t (.tup [])) H) [] retK [2])) [] retK [2]) := by
  kernel_rfl
theorem G131 (ρ : Addr → Option Value) (call : CallF) (yc : YieldF) (lim k : Nat) (x0 : AV) (H : Heap) :
    evL (cx ρ) call yc false 131 lim k c131 [x0, (.tup []), (.tup []), (.tup []), (.tup []), (.tup []), (.tup []), (.tup []), (.tup []), (.tup []), (.tup []), (.tup []), (.tup []), (.tup []), (.tup []), (.tup []), (.tup []), (.tup []), (.tup []), (.tup []), (.tup []), (.tup []), (.tup []), (.tup []), (.tup []), (.tup []), (.tup []), (.tup []), (.tup []), (.tup []), (.tup []), (.tup [])] H (kk none (fun s H => retK (([2] : List Nat).map fun t => s.getD t (.tup [])) H) [] retK [2]) = L131 ρ call yc lim k x0 H := by
  rw [evL_X, L131_x]
  simp only [← evL_X, L131, N131_1_eq, N131_6_eq]
theorem E131 (ρ : Addr → Option Value) (k lim : Nat) (x0 : AV) (H : Heap) : evCall (cx ρ) (k + 1) lim 131 [x0] H = L131 ρ (evCall (cx ρ) k) (evCY (cx ρ) k).2 lim k x0 H := by
  rw [evCall_body (cx ρ) k lim 131 _ H Tryz.f131 c131 [2] (by kernel_rfl) (by kernel_rfl) (by kernel_rfl) (by kernel_rfl) (by kernel_rfl)]
  exact G131 ρ (evCall (cx ρ) k) (evCY (cx ρ) k).2 lim k x0 H
-- (*haycroft/cell.Row).Len
noncomputable def c133 : Code := Code.of Tryz.prog 133
noncomputable def L133 (ρ : Addr → Option Value) (call : CallF) (yc : YieldF) (lim k : Nat) (x0 : AV) (H : Heap) : Res :=
  purK (binA Tryz.prog H .eql 135 x0 .nilp) fun x4 =>
  condK x4
  (
    retK [(.int .i64 0)] H)
  (
    purK (nilChkA x0) fun x6 =>
    purK (addA 0 x6) fun x7 =>
    purK (ld1 ρ H x7) fun x8 =>
    purK (lenS x8) fun x9 =>
    retK [x9] H)
theorem G133 (ρ : Addr → Option Value) (call : CallF) (yc : YieldF) (lim k : Nat) (x0 : AV) (H : Heap) :
    evL (cx ρ) call yc false 133 lim k c133 [x0, (.tup []), (.tup []), (.tup []), (.tup []), (.tup []), (.tup []), (.tup []), (.tup []), (.tup [])] H (kk none (fun s H => retK (([2] : List Nat).map fun t => s.getD t (.tup [])) H) [] retK [2]) = L133 ρ call yc lim k x0 H := by
  kernel_rfl
theorem E133 (ρ : Addr → Option Value) (k lim : Nat) (x0 : AV) (H : Heap) : evCall (cx ρ) (k + 1) lim 133 [x0] H = L133 ρ (evCall (cx ρ) k) (evCY (cx ρ) k).2 lim k x0 H := by
  rw [evCall_body (cx ρ) k lim 133 _ H Tryz.f133 c133 [2] (by kernel_rfl) (by kernel_rfl) (by kernel_rfl) (by kernel_rfl) (by kernel_rfl)]
  exact G133 ρ (evCall (cx ρ) k) (evCY (cx ρ) k).2 lim k x0 H
-- (*haycroft/cell.Row).there
noncomputable def c134 : Code := Code.of Tryz.prog 134
noncomputable def L134 (ρ : Addr → Option Value) (call : CallF) (yc : YieldF) (lim k : Nat) (x0 x1 : AV) (H : Heap) : Res :=
  purK (binA Tryz.prog H .geq 3 x1 (.int .i64 0)) fun x6 =>
  purK (gPur (wantV x6 true) (some x1)) fun x8 =>
  purK (gPur (wantV x6 true) (some x0)) fun x9 =>
  resK (gRes (wantV x6 true) H (call lim 133 [x9] H)) fun x10 H =>
  purK (gPur (wantV x6 true) (binA Tryz.prog H .lss 3 x8 x10)) fun x11 =>
  purK (pickA x6 x11 (.bool false)) fun x12 =>
  retK [x12] H
theorem G134 (ρ : Addr → Option Value) (call : CallF) (yc : YieldF) (lim k : Nat) (x0 x1 : AV) (H : Heap) :
    evL (cx ρ) call yc false 134 lim k c134 [x0, x1, (.tup []), (.tup []), (.tup []), (.tup []), (.tup []), (.tup []), (.tup []), (.tup []), (.tup []), (.tup []), (.tup [])] H (kk none (fun s H => retK (([4] : List Nat).map fun t => s.getD t (.tup [])) H) [] retK [4]) = L134 ρ call yc lim k x0 x1 H := by
  kernel_rfl
theorem E134 (ρ : Addr → Option Value) (k lim : Nat) (x0 x1 : AV) (H : Heap) : evCall (cx ρ) (k + 1) lim 134 [x0, x1] H = L134 ρ (evCall (cx ρ) k) (evCY (cx ρ) k).2 lim k x0 x1 H := by
  rw [evCall_body (cx ρ) k lim 134 _ H Tryz.f134 c134 [4] (by kernel_rfl) (by kernel_rfl) (by kernel_rfl) (by kernel_rfl) (by kernel_rfl)]
  exact G134 ρ (evCall (cx ρ) k) (evCY (cx ρ) k).2 lim k x0 x1 H
-- (*sync/atomic.Uint64).Load
noncomputable def c135 : Code := Code.of Tryz.prog 135
noncomputable def L135 (ρ : Addr → Option Value) (call : CallF) (yc : YieldF) (lim k : Nat) (x0 : AV) (H : Heap) : Res :=
  purK (nilChkA x0) fun x4 =>
  purK (addA 0 x4) fun x5 =>
  resK (call lim 207 [x5] H) fun x6 H =>
  retK [x6] H
theorem G135 (ρ : Addr → Option Value) (call : CallF) (yc : YieldF) (lim k : Nat) (x0 : AV) (H : Heap) :
    evL (cx ρ) call yc false 135 lim k c135 [x0, (.tup []), (.tup []), (.tup []), (.tup []), (.tup []), (.tup [])] H (kk none (fun s H => retK (([2] : List Nat).map fun t => s.getD t (.tup [])) H) [] retK [2]) = L135 ρ call yc lim k x0 H := by
  kernel_rfl
theorem E135 (ρ : Addr → Option Value) (k lim : Nat) (x0 : AV) (H : Heap) : evCall (cx ρ) (k + 1) lim 135 [x0] H = L135 ρ (evCall (cx ρ) k) (evCY (cx ρ) k).2 lim k x0 H := by
  rw [evCall_body (cx ρ) k lim 135 _ H Tryz.f135 c135 [2] (by kernel_rfl) (by kernel_rfl) (by kernel_rfl) (by kernel_rfl) (by kernel_rfl)]
  exact G135 ρ (evCall (cx ρ) k) (evCY (cx ρ) k).2 lim k x0 H
-- (*haycroft/cell.Row).Store
noncomputable def c136 : Code := Code.of Tryz.prog 136
noncomputable def N136_1 (ρ : Addr → Option Value) (call : CallF) (yc : YieldF) (lim k : Nat) (x7 : AV) (H : Heap) (R : List AV → Heap → Res) : Res :=
  R [x7] H
theorem N136_1_eq (ρ : Addr → Option Value) (call : CallF) (yc : YieldF) (lim k : Nat) (x7 : AV) (H : Heap) (R : List AV → Heap → Res) :
    evL (cx ρ) call yc false 136 lim k (Code.at [1, 1, 1] c136) (sp 22 [(7, x7)]) H (kk none (fun s H => R (([6] : List Nat).map fun t => s.getD t (.tup [])) H) [] R [6]) = N136_1 ρ call yc lim k x7 H R := by
  kernel_rfl
noncomputable def L136 (ρ : Addr → Option Value) (call : CallF) (yc : YieldF) (lim k : Nat) (x0 x1 x2 : AV) (H : Heap) : Res :=
  resK (call lim 208 [x0, x1] H) fun x10 H =>
  purK (binA Tryz.prog H .eql 32 x10 (.int .i64 0)) fun x12 =>
  condK x12
  (
    purK (nilChkA x0) fun x14 =>
    purK (addA 0 x14) fun x15 =>
    purK (ld1 ρ H x15) fun x16 =>
    purK (ixS 1 x16 x1) fun x18 =>
    resK (call lim 209 [x18, x2] H) fun x20 H =>
    N136_1 ρ call yc lim k x10 H retK)
  (
    N136_1 ρ call yc lim k x10 H retK)
theorem L136_x (ρ : Addr → Option Value) (call : CallF) (yc : YieldF) (lim k : Nat) (J : CodeF) (x0 x1 x2 : AV) (H : Heap) :
    evX (cx ρ) call yc false 136 lim k J c136 [x0, x1, x2, (.tup []), (.tup []), (.tup []), (.tup []), (.tup []), (.tup []), (.tup []), (.tup []), (.tup []), (.tup []), (.tup []), (.tup []), (.tup []), (.tup []), (.tup []), (.tup []), (.tup []), (.tup []), (.tup [])] H (kk none (fun s H => retK (([6] : List Nat).map fun t => s.getD t (.tup [])) H) [] retK [6]) =
  resK (call lim 208 [x0, x1] H) fun x10 H =>
  purK (binA Tryz.prog H .eql 32 x10 (.int .i64 0)) fun x12 =>
  condK x12
  (
    purK (nilChkA x0) fun x14 =>
    purK (addA 0 x14) fun x15 =>
    purK (ld1 ρ H x15) fun x16 =>
    purK (ixS 1 x16 x1) fun x18 =>
    resK (call lim 209 [x18, x2] H) fun x20 H =>
    J (Code.at [1, 1, 1] c136) (sp 22 [(7, x10)]) H (kk none (fun s H => retK (([6] : List Nat).map fun t => s.getD t (.tup [])) H) [] retK [6]))
  (
    J (Code.at [1, 1, 1] c136) (sp 22 [(7, x10)]) H (kk none (fun s H => retK (([6] : List Nat).map fun t => s.getD t (.tup [])) H) [] retK [6])) := by
  kernel_rfl
theorem G136 (ρ : Addr → Option Value) (call : CallF) (yc : YieldF) (lim k : Nat) (x0 x1 x2 : AV) (H : Heap) :
    evL (cx ρ) call yc false 136 lim k c136 [x0, x1, x2, (.tup []), (.tup []), (.tup []), (.tup []), (.tup []), (.tup []), (.tup []), (.tup []), (.tup []), (.tup []), (.tup []), (.tup []), (.tup []), (.tup []), (.tup []), (.tup []), (.tup []), (.tup []), (.tup [])] H (kk none (fun s H => retK (([6] : List Nat).map fun t => s.getD t (.tup [])) H) [] retK [6]) = L136 ρ call yc lim k x0 x1 x2 H := by
  rw [evL_X, L136_x]
  simp only [← evL_X, L136, N136_1_eq]
theorem E136 (ρ : Addr → Option Value) (k lim : Nat) (x0 x1 x2 : AV) (H : Heap) : evCall (cx ρ) (k + 1) lim 136 [x0, x1, x2] H = L136 ρ (evCall (cx ρ) k) (evCY (cx ρ) k).2 lim k x0 x1 x2 H := by
  rw [evCall_body (cx ρ) k lim 136 _ H Tryz.f136 c136 [6] (by kernel_rfl) (by kernel_rfl) (by kernel_rfl) (by kernel_rfl) (by kernel_rfl)]
  exact G136 ρ (evCall (cx ρ) k) (evCY (cx ρ) k).2 lim k x0 x1 x2 H
-- haycroft/pages.mark
noncomputable def c159 : Code := Code.of Tryz.prog 159
noncomputable def L159 (ρ : Addr → Option Value) (call : CallF) (yc : YieldF) (lim k : Nat) (x0 : AV) (H : Heap) : Res :=
  purK (cvI .u64 x0) fun x4 =>
  purK (binA Tryz.prog H .add 24 x4 (.int .u64 1)) fun x5 =>
  retK [x5] H
theorem G159 (ρ : Addr → Option Value) (call : CallF) (yc : YieldF) (lim k : Nat) (x0 : AV) (H : Heap) :
    evL (cx ρ) call yc false 159 lim k c159 [x0, (.tup []), (.tup []), (.tup []), (.tup []), (.tup [])] H (kk none (fun s H => retK (([2] : List Nat).map fun t => s.getD t (.tup [])) H) [] retK [2]) = L159 ρ call yc lim k x0 H := by
  kernel_rfl
theorem E159 (ρ : Addr → Option Value) (k lim : Nat) (x0 : AV) (H : Heap) : evCall (cx ρ) (k + 1) lim 159 [x0] H = L159 ρ (evCall (cx ρ) k) (evCY (cx ρ) k).2 lim k x0 H := by
  rw [evCall_body (cx ρ) k lim 159 _ H Tryz.f159 c159 [2] (by kernel_rfl) (by kernel_rfl) (by kernel_rfl) (by kernel_rfl) (by kernel_rfl)]
  exact G159 ρ (evCall (cx ρ) k) (evCY (cx ρ) k).2 lim k x0 H
-- (*haycroft/cell.Row).within
noncomputable def c160 : Code := Code.of Tryz.prog 160
noncomputable def N160_1 (ρ : Addr → Option Value) (call : CallF) (yc : YieldF) (lim k : Nat) (H : Heap) (R : List AV → Heap → Res) : Res :=
  R [(.int .i64 0)] H
theorem N160_1_eq (ρ : Addr → Option Value) (call : CallF) (yc : YieldF) (lim k : Nat) (H : Heap) (R : List AV → Heap → Res) :
    evL (cx ρ) call yc false 160 lim k (Code.at [1, 1] c160) (sp 25 []) H (kk none (fun s H => R (([6] : List Nat).map fun t => s.getD t (.tup [])) H) [] R [6]) = N160_1 ρ call yc lim k H R := by
  kernel_rfl
noncomputable def N160_2 (ρ : Addr → Option Value) (call : CallF) (yc : YieldF) (lim k : Nat) (x10 : AV) (H : Heap) (kn : Heap → Res) (R : List AV → Heap → Res) : Res :=
  condK x10
  (
    R [(.int .i64 1)] H)
  (
    kn H)
theorem N160_2_eq (ρ : Addr → Option Value) (call : CallF) (yc : YieldF) (lim k : Nat) (x10 : AV) (H : Heap) (kn : KS) (k0 : KS) (R : List AV → Heap → Res) :
    evL (cx ρ) call yc false 160 lim k (Code.at [1, 0, 0, 1, 1, 1] c160) (sp 25 [(10, x10)]) H (kk (some []) kn [(0, (some []), k0)] R [6]) = N160_2 ρ call yc lim k x10 H (fun H => kn (sp 25 []) H) R := by
  kernel_rfl
noncomputable def L160 (ρ : Addr → Option Value) (call : CallF) (yc : YieldF) (lim k : Nat) (x0 x1 x2 : AV) (H : Heap) : Res :=
  purK (binA Tryz.prog H .eql 135 x0 .nilp) fun x9 =>
  condK x9
  (
    retK [(.int .i64 2)] H)
  (
    purK (binA Tryz.prog H .lss 3 x2 (.int .i64 0)) fun x12 =>
    condK x12
    (
      N160_2 ρ call yc lim k x12 H (fun H =>
        N160_1 ρ call yc lim k H retK) retK)
    (
      purK (binA Tryz.prog H .lss 3 x1 (.int .i64 0)) fun x14 =>
      condK x14
      (
        N160_2 ρ call yc lim k x14 H (fun H =>
          N160_1 ρ call yc lim k H retK) retK)
      (
        resK (call lim 133 [x0] H) fun x17 H =>
        purK (binA Tryz.prog H .gtr 3 x2 x17) fun x18 =>
        condK x18
        (
          N160_2 ρ call yc lim k x18 H (fun H =>
            N160_1 ρ call yc lim k H retK) retK)
        (
          resK (call lim 133 [x0] H) fun x21 H =>
          purK (binA Tryz.prog H .sub 3 x21 x2) fun x23 =>
          purK (binA Tryz.prog H .gtr 3 x1 x23) fun x24 =>
          N160_2 ρ call yc lim k x24 H (fun H =>
            N160_1 ρ call yc lim k H retK) retK))))
theorem L160_x (ρ : Addr → Option Value) (call : CallF) (yc : YieldF) (lim k : Nat) (J : CodeF) (x0 x1 x2 : AV) (H : Heap) :
    evX (cx ρ) call yc false 160 lim k J c160 [x0, x1, x2, (.tup []), (.tup []), (.tup []), (.tup []), (.tup []), (.tup []), (.tup []), (.tup []), (.tup []), (.tup []), (.tup []), (.tup []), (.tup []), (.tup []), (.tup []), (.tup []), (.tup []), (.tup []), (.tup []), (.tup []), (.tup []), (.tup [])] H (kk none (fun s H => retK (([6] : List Nat).map fun t => s.getD t (.tup [])) H) [] retK [6]) =
  purK (binA Tryz.prog H .eql 135 x0 .nilp) fun x9 =>
  condK x9
  (
    retK [(.int .i64 2)] H)
  (
    purK (binA Tryz.prog H .lss 3 x2 (.int .i64 0)) fun x12 =>
    condK x12
    (
      J (Code.at [1, 0, 0, 1, 1, 1] c160) (sp 25 [(10, x12)]) H (kk (some []) (fun s H => J (Code.at [1, 1] c160) s H (kk none (fun s H => retK (([6] : List Nat).map fun t => s.getD t (.tup [])) H) [] retK [6])) [(0, (some []), (fun s H => J (Code.at [1, 1] c160) s H (kk none (fun s H => retK (([6] : List Nat).map fun t => s.getD t (.tup [])) H) [] retK [6])))] retK [6]))
    (
      purK (binA Tryz.prog H .lss 3 x1 (.int .i64 0)) fun x14 =>
      condK x14
      (
        J (Code.at [1, 0, 0, 1, 1, 1] c160) (sp 25 [(10, x14)]) H (kk (some []) (fun s H => J (Code.at [1, 1] c160) s H (kk none (fun s H => retK (([6] : List Nat).map fun t => s.getD t (.tup [])) H) [] retK [6])) [(0, (some []), (fun s H => J (Code.at [1, 1] c160) s H (kk none (fun s H => retK (([6] : List Nat).map fun t => s.getD t (.tup [])) H) [] retK [6])))] retK [6]))
      (
        resK (call lim 133 [x0] H) fun x17 H =>
        purK (binA Tryz.prog H .gtr 3 x2 x17) fun x18 =>
        condK x18
        (
          J (Code.at [1, 0, 0, 1, 1, 1] c160) (sp 25 [(10, x18)]) H (kk (some []) (fun s H => J (Code.at [1, 1] c160) s H (kk none (fun s H => retK (([6] : List Nat).map fun t => s.getD t (.tup [])) H) [] retK [6])) [(0, (some []), (fun s H => J (Code.at [1, 1] c160) s H (kk none (fun s H => retK (([6] : List Nat).map fun t => s.getD t (.tup [])) H) [] retK [6])))] retK [6]))
        (
          resK (call lim 133 [x0] H) fun x21 H =>
          purK (binA Tryz.prog H .sub 3 x21 x2) fun x23 =>
          purK (binA Tryz.prog H .gtr 3 x1 x23) fun x24 =>
          J (Code.at [1, 0, 0, 1, 1, 1] c160) (sp 25 [(10, x24)]) H (kk (some []) (fun s H => J (Code.at [1, 1] c160) s H (kk none (fun s H => retK (([6] : List Nat).map fun t => s.getD t (.tup [])) H) [] retK [6])) [(0, (some []), (fun s H => J (Code.at [1, 1] c160) s H (kk none (fun s H => retK (([6] : List Nat).map fun t => s.getD t (.tup [])) H) [] retK [6])))] retK [6]))))) := by
  kernel_rfl
theorem G160 (ρ : Addr → Option Value) (call : CallF) (yc : YieldF) (lim k : Nat) (x0 x1 x2 : AV) (H : Heap) :
    evL (cx ρ) call yc false 160 lim k c160 [x0, x1, x2, (.tup []), (.tup []), (.tup []), (.tup []), (.tup []), (.tup []), (.tup []), (.tup []), (.tup []), (.tup []), (.tup []), (.tup []), (.tup []), (.tup []), (.tup []), (.tup []), (.tup []), (.tup []), (.tup []), (.tup []), (.tup []), (.tup [])] H (kk none (fun s H => retK (([6] : List Nat).map fun t => s.getD t (.tup [])) H) [] retK [6]) = L160 ρ call yc lim k x0 x1 x2 H := by
  rw [evL_X, L160_x]
  simp only [← evL_X, L160, N160_1_eq, N160_2_eq]
theorem E160 (ρ : Addr → Option Value) (k lim : Nat) (x0 x1 x2 : AV) (H : Heap) : evCall (cx ρ) (k + 1) lim 160 [x0, x1, x2] H = L160 ρ (evCall (cx ρ) k) (evCY (cx ρ) k).2 lim k x0 x1 x2 H := by
  rw [evCall_body (cx ρ) k lim 160 _ H Tryz.f160 c160 [6] (by kernel_rfl) (by kernel_rfl) (by kernel_rfl) (by kernel_rfl) (by kernel_rfl)]
  exact G160 ρ (evCall (cx ρ) k) (evCY (cx ρ) k).2 lim k x0 x1 x2 H
-- slices.stableCmpFunc[haycroft/api.Commit]
noncomputable def c185 : Code := Code.of Tryz.prog 185
noncomputable def N185_7 (ρ : Addr → Option Value) (call : CallF) (yc : YieldF) (lim k : Nat) (x0 x1 x2 x6 : AV) (H : Heap) (kn : AV → AV → AV → AV → Heap → Res) : Res :=
  purK (binA Tryz.prog H .mul 3 x6 (.int .i64 2)) fun x62_1 =>
  kn x0 x1 x2 x62_1 H
theorem N185_7_eq (ρ : Addr → Option Value) (call : CallF) (yc : YieldF) (lim k : Nat) (x0 x1 x2 x6 : AV) (H : Heap) (kn : KS) (k3 : KS) (R : List AV → Heap → Res) :
    evL (cx ρ) call yc false 185 lim k (Code.at [1, 1, 1, 1, 0, 0, 1, 0, 1, 1, 1] c185) (sp 63 [(0, x0), (1, x1), (2, x2), (6, x6)]) H (kk (some [0, 1, 2, 6]) kn [(3, (some [0, 1, 2, 6]), k3), (2, none, (fun s H => R (([] : List Nat).map fun t => s.getD t (.tup [])) H))] R []) = N185_7 ρ call yc lim k x0 x1 x2 x6 H (fun x0 x1 x2 x6 H => kn (sp 63 [(0, x0), (1, x1), (2, x2), (6, x6)]) H) := by
  kernel_rfl
noncomputable def N185_6 (ρ : Addr → Option Value) (call : CallF) (yc : YieldF) (lim k : Nat) (x0 x1 x2 x6 x7 : AV) (H : Heap) (kn : AV → AV → AV → AV → Heap → Res) : Res :=
  purK (binA Tryz.prog H .add 3 x7 x6) fun x51_1 =>
  purK (binA Tryz.prog H .lss 3 x51_1 x1) fun x54_1 =>
  condK x54_1
  (
    resK (call lim 241 [x0, x7, x51_1, x1, x2] H) fun x60_1 H =>
    N185_7 ρ call yc lim k x0 x1 x2 x6 H kn)
  (
    N185_7 ρ call yc lim k x0 x1 x2 x6 H kn)
theorem N185_6_x (ρ : Addr → Option Value) (call : CallF) (yc : YieldF) (lim k : Nat) (J : CodeF) (x0 x1 x2 x6 x7 : AV) (H : Heap) (kn : KS) (k3 : KS) (R : List AV → Heap → Res) :
    evX (cx ρ) call yc false 185 lim k J (Code.at [1, 1, 1, 1, 0, 0, 1, 0, 1, 1] c185) (sp 63 [(0, x0), (1, x1), (2, x2), (6, x6), (7, x7)]) H (kk (some [0, 1, 2, 6]) kn [(3, (some [0, 1, 2, 6]), k3), (2, none, (fun s H => R (([] : List Nat).map fun t => s.getD t (.tup [])) H))] R []) =
  purK (binA Tryz.prog H .add 3 x7 x6) fun x51_1 =>
  purK (binA Tryz.prog H .lss 3 x51_1 x1) fun x54_1 =>
  condK x54_1
  (
    resK (call lim 241 [x0, x7, x51_1, x1, x2] H) fun x60_1 H =>
    J (Code.at [1, 1, 1, 1, 0, 0, 1, 0, 1, 1, 1] c185) (sp 63 [(0, x0), (1, x1), (2, x2), (6, x6)]) H (kk (some [0, 1, 2, 6]) kn [(3, (some [0, 1, 2, 6]), k3), (2, none, (fun s H => R (([] : List Nat).map fun t => s.getD t (.tup [])) H))] R []))
  (
    J (Code.at [1, 1, 1, 1, 0, 0, 1, 0, 1, 1, 1] c185) (sp 63 [(0, x0), (1, x1), (2, x2), (6, x6)]) H (kk (some [0, 1, 2, 6]) kn [(3, (some [0, 1, 2, 6]), k3), (2, none, (fun s H => R (([] : List Nat).map fun t => s.getD t (.tup [])) H))] R [])) := by
  kernel_rfl
theorem N185_6_eq (ρ : Addr → Option Value) (call : CallF) (yc : YieldF) (lim k : Nat) (x0 x1 x2 x6 x7 : AV) (H : Heap) (kn : KS) (k3 : KS) (R : List AV → Heap → Res) :
    evL (cx ρ) call yc false 185 lim k (Code.at [1, 1, 1, 1, 0, 0, 1, 0, 1, 1] c185) (sp 63 [(0, x0), (1, x1), (2, x2), (6, x6), (7, x7)]) H (kk (some [0, 1, 2, 6]) kn [(3, (some [0, 1, 2, 6]), k3), (2, none, (fun s H => R (([] : List Nat).map fun t => s.getD t (.tup [])) H))] R []) = N185_6 ρ call yc lim k x0 x1 x2 x6 x7 H (fun x0 x1 x2 x6 H => kn (sp 63 [(0, x0), (1, x1), (2, x2), (6, x6)]) H) := by
  rw [evL_X, N185_6_x]
  simp only [← evL_X, N185_6, N185_7_eq]
noncomputable def N185_8b (ρ : Addr → Option Value) (call : CallF) (yc : YieldF) (lim k : Nat) (x0 x1 x2 x6 x7 x8 : AV) (H : Heap) (kn : AV → AV → AV → AV → AV → AV → Heap → Res) (k4 : AV → AV → AV → AV → AV → Heap → Res) : Res :=
  purK (binA Tryz.prog H .leq 3 x8 x1) fun x35_1 =>
  condK x35_1
  (
    purK (binA Tryz.prog H .add 3 x7 x6) fun x40_1 =>
    resK (call lim 241 [x0, x7, x40_1, x8, x2] H) fun x43_1 H =>
    purK (binA Tryz.prog H .mul 3 (.int .i64 2) x6) fun x47_1 =>
    purK (binA Tryz.prog H .add 3 x8 x47_1) fun x48_1 =>
    kn x0 x1 x2 x6 x8 x48_1 H)
  (
    k4 x0 x1 x2 x6 x7 H)
theorem N185_8b_eq (ρ : Addr → Option Value) (call : CallF) (yc : YieldF) (lim k : Nat) (x0 x1 x2 x6 x7 x8 : AV) (H : Heap) (kn : KS) (k4 : KS) (k3 : KS) (R : List AV → Heap → Res) :
    evL (cx ρ) call yc false 185 lim k (Code.at [1, 1, 1, 1, 0, 0, 1, 0, 1, 0, 0, 0] c185) (sp 63 [(0, x0), (1, x1), (2, x2), (6, x6), (7, x7), (8, x8)]) H (kk (some [0, 1, 2, 6, 7, 8]) kn [(4, (some [0, 1, 2, 6, 7]), k4), (3, (some [0, 1, 2, 6]), k3), (2, none, (fun s H => R (([] : List Nat).map fun t => s.getD t (.tup [])) H))] R []) = N185_8b ρ call yc lim k x0 x1 x2 x6 x7 x8 H (fun x0 x1 x2 x6 x7 x8 H => kn (sp 63 [(0, x0), (1, x1), (2, x2), (6, x6), (7, x7), (8, x8)]) H) (fun x0 x1 x2 x6 x7 H => k4 (sp 63 [(0, x0), (1, x1), (2, x2), (6, x6), (7, x7)]) H) := by
  kernel_rfl
noncomputable def N185_8 (ρ : Addr → Option Value) (call : CallF) (yc : YieldF) (lim k : Nat) (x0 x1 x2 x6 x7 x8 : AV) (H : Heap) (k4 : AV → AV → AV → AV → AV → Heap → Res) : Res :=
  loopL (fun (x : AV × AV) H kn => N185_8b ρ call yc lim k x0 x1 x2 x6 x.1 x.2 H (fun _ _ _ _ x7 x8 H => kn (x7, x8) H) k4) k (x7, x8) H
theorem N185_8_eq (ρ : Addr → Option Value) (call : CallF) (yc : YieldF) (lim k : Nat) (x0 x1 x2 x6 x7 x8 : AV) (H : Heap) (kn : KS) (k4 : KS) (k3 : KS) (R : List AV → Heap → Res) :
    evL (cx ρ) call yc false 185 lim k (Code.at [1, 1, 1, 1, 0, 0, 1, 0, 1, 0, 0] c185) (sp 63 [(0, x0), (1, x1), (2, x2), (6, x6), (7, x7), (8, x8)]) H (kk (some [0, 1, 2, 6, 7]) kn [(4, (some [0, 1, 2, 6, 7]), k4), (3, (some [0, 1, 2, 6]), k3), (2, none, (fun s H => R (([] : List Nat).map fun t => s.getD t (.tup [])) H))] R []) = N185_8 ρ call yc lim k x0 x1 x2 x6 x7 x8 H (fun x0 x1 x2 x6 x7 H => k4 (sp 63 [(0, x0), (1, x1), (2, x2), (6, x6), (7, x7)]) H) := by
  have e : Code.at [1, 1, 1, 1, 0, 0, 1, 0, 1, 0, 0] c185 = .loop (Code.at [1, 1, 1, 1, 0, 0, 1, 0, 1, 0, 0, 0] c185) := by kernel_rfl
  rw [e]
  unfold N185_8
  exact loop_node [0, 1, 2, 6, 7, 8] (fun x : AV × AV => (sp 63 [(0, x0), (1, x1), (2, x2), (6, x6), (7, (x.1)), (8, (x.2))])) (fun (x : AV × AV) H kn => N185_8b ρ call yc lim k x0 x1 x2 x6 x.1 x.2 H (fun _ _ _ _ x7 x8 H => kn (x7, x8) H) (fun x0 x1 x2 x6 x7 H => k4 (sp 63 [(0, x0), (1, x1), (2, x2), (6, x6), (7, x7)]) H)) (by kernel_rfl) (fun x => by kernel_rfl) (fun x H kn => N185_8b_eq ρ call yc lim k x0 x1 x2 x6 (x.1) (x.2) H kn k4 k3 R) (x7, x8) (sp 63 [(0, x0), (1, x1), (2, x2), (6, x6), (7, x7), (8, x8)]) H (by kernel_rfl)
noncomputable def N185_5 (ρ : Addr → Option Value) (call : CallF) (yc : YieldF) (lim k : Nat) (x0 x1 x2 x6 x7 x8 : AV) (H : Heap) (kn : AV → AV → AV → AV → Heap → Res) : Res :=
  N185_8 ρ call yc lim k x0 x1 x2 x6 x7 x8 H (fun x0_1 x1_1 x2_1 x6_1 x7_1 H =>
    N185_6 ρ call yc lim k x0_1 x1_1 x2_1 x6_1 x7_1 H kn)
theorem N185_5_x (ρ : Addr → Option Value) (call : CallF) (yc : YieldF) (lim k : Nat) (J : CodeF) (x0 x1 x2 x6 x7 x8 : AV) (H : Heap) (kn : KS) (k3 : KS) (R : List AV → Heap → Res) :
    evX (cx ρ) call yc false 185 lim k J (Code.at [1, 1, 1, 1, 0, 0, 1, 0, 1] c185) (sp 63 [(0, x0), (1, x1), (2, x2), (6, x6), (7, x7), (8, x8)]) H (kk (some [0, 1, 2, 6]) kn [(3, (some [0, 1, 2, 6]), k3), (2, none, (fun s H => R (([] : List Nat).map fun t => s.getD t (.tup [])) H))] R []) =
  J (Code.at [1, 1, 1, 1, 0, 0, 1, 0, 1, 0, 0] c185) (sp 63 [(0, x0), (1, x1), (2, x2), (6, x6), (7, x7), (8, x8)]) H (kk (some [0, 1, 2, 6, 7]) (fun s H => J (Code.at [1, 1, 1, 1, 0, 0, 1, 0, 1, 1] c185) s H (kk (some [0, 1, 2, 6]) kn [(3, (some [0, 1, 2, 6]), k3), (2, none, (fun s H => R (([] : List Nat).map fun t => s.getD t (.tup [])) H))] R [])) [(4, (some [0, 1, 2, 6, 7]), (fun s H => J (Code.at [1, 1, 1, 1, 0, 0, 1, 0, 1, 1] c185) s H (kk (some [0, 1, 2, 6]) kn [(3, (some [0, 1, 2, 6]), k3), (2, none, (fun s H => R (([] : List Nat).map fun t => s.getD t (.tup [])) H))] R []))), (3, (some [0, 1, 2, 6]), k3), (2, none, (fun s H => R (([] : List Nat).map fun t => s.getD t (.tup [])) H))] R []) := by
  kernel_rfl
theorem N185_5_eq (ρ : Addr → Option Value) (call : CallF) (yc : YieldF) (lim k : Nat) (x0 x1 x2 x6 x7 x8 : AV) (H : Heap) (kn : KS) (k3 : KS) (R : List AV → Heap → Res) :
    evL (cx ρ) call yc false 185 lim k (Code.at [1, 1, 1, 1, 0, 0, 1, 0, 1] c185) (sp 63 [(0, x0), (1, x1), (2, x2), (6, x6), (7, x7), (8, x8)]) H (kk (some [0, 1, 2, 6]) kn [(3, (some [0, 1, 2, 6]), k3), (2, none, (fun s H => R (([] : List Nat).map fun t => s.getD t (.tup [])) H))] R []) = N185_5 ρ call yc lim k x0 x1 x2 x6 x7 x8 H (fun x0 x1 x2 x6 H => kn (sp 63 [(0, x0), (1, x1), (2, x2), (6, x6)]) H) := by
  rw [evL_X, N185_5_x]
  simp only [← evL_X, N185_5, N185_6_eq, N185_8_eq]
noncomputable def N185_4b (ρ : Addr → Option Value) (call : CallF) (yc : YieldF) (lim k : Nat) (x0 x1 x2 x6 : AV) (H : Heap) (kn : AV → AV → AV → AV → Heap → Res) (R : List AV → Heap → Res) : Res :=
  purK (binA Tryz.prog H .lss 3 x6 x1) fun x30_1 =>
  condK x30_1
  (
    purK (binA Tryz.prog H .mul 3 (.int .i64 2) x6) fun x32_1 =>
    N185_5 ρ call yc lim k x0 x1 x2 x6 (.int .i64 0) x32_1 H kn)
  (
    R [] H)
theorem N185_4b_x (ρ : Addr → Option Value) (call : CallF) (yc : YieldF) (lim k : Nat) (J : CodeF) (x0 x1 x2 x6 : AV) (H : Heap) (kn : KS) (R : List AV → Heap → Res) :
    evX (cx ρ) call yc false 185 lim k J (Code.at [1, 1, 1, 1, 0, 0] c185) (sp 63 [(0, x0), (1, x1), (2, x2), (6, x6)]) H (kk (some [0, 1, 2, 6]) kn [(2, none, (fun s H => R (([] : List Nat).map fun t => s.getD t (.tup [])) H))] R []) =
  purK (binA Tryz.prog H .lss 3 x6 x1) fun x30_1 =>
  condK x30_1
  (
    purK (binA Tryz.prog H .mul 3 (.int .i64 2) x6) fun x32_1 =>
    J (Code.at [1, 1, 1, 1, 0, 0, 1, 0, 1] c185) (sp 63 [(0, x0), (1, x1), (2, x2), (6, x6), (7, (.int .i64 0)), (8, x32_1)]) H (kk (some [0, 1, 2, 6]) kn [(3, (some [0, 1, 2, 6]), kn), (2, none, (fun s H => R (([] : List Nat).map fun t => s.getD t (.tup [])) H))] R []))
  (
    R [] H) := by
  kernel_rfl
theorem N185_4b_eq (ρ : Addr → Option Value) (call : CallF) (yc : YieldF) (lim k : Nat) (x0 x1 x2 x6 : AV) (H : Heap) (kn : KS) (R : List AV → Heap → Res) :
    evL (cx ρ) call yc false 185 lim k (Code.at [1, 1, 1, 1, 0, 0] c185) (sp 63 [(0, x0), (1, x1), (2, x2), (6, x6)]) H (kk (some [0, 1, 2, 6]) kn [(2, none, (fun s H => R (([] : List Nat).map fun t => s.getD t (.tup [])) H))] R []) = N185_4b ρ call yc lim k x0 x1 x2 x6 H (fun x0 x1 x2 x6 H => kn (sp 63 [(0, x0), (1, x1), (2, x2), (6, x6)]) H) R := by
  rw [evL_X, N185_4b_x]
  simp only [← evL_X, N185_4b, N185_5_eq]
noncomputable def N185_4 (ρ : Addr → Option Value) (call : CallF) (yc : YieldF) (lim k : Nat) (x0 x1 x2 x6 : AV) (H : Heap) (R : List AV → Heap → Res) : Res :=
  loopL (fun (x : AV) H kn => N185_4b ρ call yc lim k x0 x1 x2 x H (fun _ _ _ x6 H => kn x6 H) R) k x6 H
theorem N185_4_eq (ρ : Addr → Option Value) (call : CallF) (yc : YieldF) (lim k : Nat) (x0 x1 x2 x6 : AV) (H : Heap) (R : List AV → Heap → Res) :
    evL (cx ρ) call yc false 185 lim k (Code.at [1, 1, 1, 1, 0] c185) (sp 63 [(0, x0), (1, x1), (2, x2), (6, x6)]) H (kk none (fun s H => R (([] : List Nat).map fun t => s.getD t (.tup [])) H) [(2, none, (fun s H => R (([] : List Nat).map fun t => s.getD t (.tup [])) H))] R []) = N185_4 ρ call yc lim k x0 x1 x2 x6 H R := by
  have e : Code.at [1, 1, 1, 1, 0] c185 = .loop (Code.at [1, 1, 1, 1, 0, 0] c185) := by kernel_rfl
  rw [e]
  unfold N185_4
  exact loop_node [0, 1, 2, 6] (fun x : AV => (sp 63 [(0, x0), (1, x1), (2, x2), (6, (x))])) (fun (x : AV) H kn => N185_4b ρ call yc lim k x0 x1 x2 x H (fun _ _ _ x6 H => kn x6 H) R) (by kernel_rfl) (fun x => by kernel_rfl) (fun x H kn => N185_4b_eq ρ call yc lim k x0 x1 x2 (x) H kn R) x6 (sp 63 [(0, x0), (1, x1), (2, x2), (6, x6)]) H (by kernel_rfl)
noncomputable def N185_3 (ρ : Addr → Option Value) (call : CallF) (yc : YieldF) (lim k : Nat) (x0 x1 x2 x6 : AV) (H : Heap) (R : List AV → Heap → Res) : Res :=
  N185_4 ρ call yc lim k x0 x1 x2 x6 H R
theorem N185_3_x (ρ : Addr → Option Value) (call : CallF) (yc : YieldF) (lim k : Nat) (J : CodeF) (x0 x1 x2 x6 : AV) (H : Heap) (R : List AV → Heap → Res) :
    evX (cx ρ) call yc false 185 lim k J (Code.at [1, 1, 1, 1] c185) (sp 63 [(0, x0), (1, x1), (2, x2), (6, x6)]) H (kk none (fun s H => R (([] : List Nat).map fun t => s.getD t (.tup [])) H) [] R []) =
  J (Code.at [1, 1, 1, 1, 0] c185) (sp 63 [(0, x0), (1, x1), (2, x2), (6, x6)]) H (kk none (fun s H => R (([] : List Nat).map fun t => s.getD t (.tup [])) H) [(2, none, (fun s H => R (([] : List Nat).map fun t => s.getD t (.tup [])) H))] R []) := by
  kernel_rfl
theorem N185_3_eq (ρ : Addr → Option Value) (call : CallF) (yc : YieldF) (lim k : Nat) (x0 x1 x2 x6 : AV) (H : Heap) (R : List AV → Heap → Res) :
    evL (cx ρ) call yc false 185 lim k (Code.at [1, 1, 1, 1] c185) (sp 63 [(0, x0), (1, x1), (2, x2), (6, x6)]) H (kk none (fun s H => R (([] : List Nat).map fun t => s.getD t (.tup [])) H) [] R []) = N185_3 ρ call yc lim k x0 x1 x2 x6 H R := by
  rw [evL_X, N185_3_x]
  simp only [← evL_X, N185_3, N185_4_eq]
noncomputable def N185_2 (ρ : Addr → Option Value) (call : CallF) (yc : YieldF) (lim k : Nat) (x0 x1 x2 x6 x7 : AV) (H : Heap) (R : List AV → Heap → Res) : Res :=
  resK (call lim 240 [x0, x7, x1, x2] H) fun x27_1 H =>
  N185_3 ρ call yc lim k x0 x1 x2 x6 H R
theorem N185_2_x (ρ : Addr → Option Value) (call : CallF) (yc : YieldF) (lim k : Nat) (J : CodeF) (x0 x1 x2 x6 x7 : AV) (H : Heap) (R : List AV → Heap → Res) :
    evX (cx ρ) call yc false 185 lim k J (Code.at [1, 1, 1] c185) (sp 63 [(0, x0), (1, x1), (2, x2), (6, x6), (7, x7)]) H (kk none (fun s H => R (([] : List Nat).map fun t => s.getD t (.tup [])) H) [] R []) =
  resK (call lim 240 [x0, x7, x1, x2] H) fun x27_1 H =>
  J (Code.at [1, 1, 1, 1] c185) (sp 63 [(0, x0), (1, x1), (2, x2), (6, x6)]) H (kk none (fun s H => R (([] : List Nat).map fun t => s.getD t (.tup [])) H) [] R []) := by
  kernel_rfl
theorem N185_2_eq (ρ : Addr → Option Value) (call : CallF) (yc : YieldF) (lim k : Nat) (x0 x1 x2 x6 x7 : AV) (H : Heap) (R : List AV → Heap → Res) :
    evL (cx ρ) call yc false 185 lim k (Code.at [1, 1, 1] c185) (sp 63 [(0, x0), (1, x1), (2, x2), (6, x6), (7, x7)]) H (kk none (fun s H => R (([] : List Nat).map fun t => s.getD t (.tup [])) H) [] R []) = N185_2 ρ call yc lim k x0 x1 x2 x6 x7 H R := by
  rw [evL_X, N185_2_x]
  simp only [← evL_X, N185_2, N185_3_eq]
noncomputable def N185_9b (ρ : Addr → Option Value) (call : CallF) (yc : YieldF) (lim k : Nat) (x0 x1 x2 x6 x7 x8 : AV) (H : Heap) (kn : AV → AV → AV → AV → AV → AV → Heap → Res) (k0 : AV → AV → AV → AV → AV → Heap → Res) : Res :=
  purK (binA Tryz.prog H .leq 3 x8 x1) fun x13_1 =>
  condK x13_1
  (
    resK (call lim 240 [x0, x7, x8, x2] H) fun x18_1 H =>
    purK (binA Tryz.prog H .add 3 x8 x6) fun x22_1 =>
    kn x0 x1 x2 x6 x8 x22_1 H)
  (
    k0 x0 x1 x2 x6 x7 H)
theorem N185_9b_eq (ρ : Addr → Option Value) (call : CallF) (yc : YieldF) (lim k : Nat) (x0 x1 x2 x6 x7 x8 : AV) (H : Heap) (kn : KS) (k0 : KS) (R : List AV → Heap → Res) :
    evL (cx ρ) call yc false 185 lim k (Code.at [1, 1, 0, 0, 0] c185) (sp 63 [(0, x0), (1, x1), (2, x2), (6, x6), (7, x7), (8, x8)]) H (kk (some [0, 1, 2, 6, 7, 8]) kn [(0, (some [0, 1, 2, 6, 7]), k0)] R []) = N185_9b ρ call yc lim k x0 x1 x2 x6 x7 x8 H (fun x0 x1 x2 x6 x7 x8 H => kn (sp 63 [(0, x0), (1, x1), (2, x2), (6, x6), (7, x7), (8, x8)]) H) (fun x0 x1 x2 x6 x7 H => k0 (sp 63 [(0, x0), (1, x1), (2, x2), (6, x6), (7, x7)]) H) := by
  kernel_rfl
noncomputable def N185_9 (ρ : Addr → Option Value) (call : CallF) (yc : YieldF) (lim k : Nat) (x0 x1 x2 x6 x7 x8 : AV) (H : Heap) (k0 : AV → AV → AV → AV → AV → Heap → Res) : Res :=
  loopL (fun (x : AV × AV) H kn => N185_9b ρ call yc lim k x0 x1 x2 x6 x.1 x.2 H (fun _ _ _ _ x7 x8 H => kn (x7, x8) H) k0) k (x7, x8) H
theorem N185_9_eq (ρ : Addr → Option Value) (call : CallF) (yc : YieldF) (lim k : Nat) (x0 x1 x2 x6 x7 x8 : AV) (H : Heap) (kn : KS) (k0 : KS) (R : List AV → Heap → Res) :
    evL (cx ρ) call yc false 185 lim k (Code.at [1, 1, 0, 0] c185) (sp 63 [(0, x0), (1, x1), (2, x2), (6, x6), (7, x7), (8, x8)]) H (kk (some [0, 1, 2, 6, 7]) kn [(0, (some [0, 1, 2, 6, 7]), k0)] R []) = N185_9 ρ call yc lim k x0 x1 x2 x6 x7 x8 H (fun x0 x1 x2 x6 x7 H => k0 (sp 63 [(0, x0), (1, x1), (2, x2), (6, x6), (7, x7)]) H) := by
  have e : Code.at [1, 1, 0, 0] c185 = .loop (Code.at [1, 1, 0, 0, 0] c185) := by kernel_rfl
  rw [e]
  unfold N185_9
  exact loop_node [0, 1, 2, 6, 7, 8] (fun x : AV × AV => (sp 63 [(0, x0), (1, x1), (2, x2), (6, x6), (7, (x.1)), (8, (x.2))])) (fun (x : AV × AV) H kn => N185_9b ρ call yc lim k x0 x1 x2 x6 x.1 x.2 H (fun _ _ _ _ x7 x8 H => kn (x7, x8) H) (fun x0 x1 x2 x6 x7 H => k0 (sp 63 [(0, x0), (1, x1), (2, x2), (6, x6), (7, x7)]) H)) (by kernel_rfl) (fun x => by kernel_rfl) (fun x H kn => N185_9b_eq ρ call yc lim k x0 x1 x2 x6 (x.1) (x.2) H kn k0 R) (x7, x8) (sp 63 [(0, x0), (1, x1), (2, x2), (6, x6), (7, x7), (8, x8)]) H (by kernel_rfl)
noncomputable def N185_1 (ρ : Addr → Option Value) (call : CallF) (yc : YieldF) (lim k : Nat) (x0 x1 x2 x6 x7 x8 : AV) (H : Heap) (R : List AV → Heap → Res) : Res :=
  N185_9 ρ call yc lim k x0 x1 x2 x6 x7 x8 H (fun x0_1 x1_1 x2_1 x6_1 x7_1 H =>
    N185_2 ρ call yc lim k x0_1 x1_1 x2_1 x6_1 x7_1 H R)
theorem N185_1_x (ρ : Addr → Option Value) (call : CallF) (yc : YieldF) (lim k : Nat) (J : CodeF) (x0 x1 x2 x6 x7 x8 : AV) (H : Heap) (R : List AV → Heap → Res) :
    evX (cx ρ) call yc false 185 lim k J (Code.at [1, 1] c185) (sp 63 [(0, x0), (1, x1), (2, x2), (6, x6), (7, x7), (8, x8)]) H (kk none (fun s H => R (([] : List Nat).map fun t => s.getD t (.tup [])) H) [] R []) =
  J (Code.at [1, 1, 0, 0] c185) (sp 63 [(0, x0), (1, x1), (2, x2), (6, x6), (7, x7), (8, x8)]) H (kk (some [0, 1, 2, 6, 7]) (fun s H => J (Code.at [1, 1, 1] c185) s H (kk none (fun s H => R (([] : List Nat).map fun t => s.getD t (.tup [])) H) [] R [])) [(0, (some [0, 1, 2, 6, 7]), (fun s H => J (Code.at [1, 1, 1] c185) s H (kk none (fun s H => R (([] : List Nat).map fun t => s.getD t (.tup [])) H) [] R [])))] R []) := by
  kernel_rfl
theorem N185_1_eq (ρ : Addr → Option Value) (call : CallF) (yc : YieldF) (lim k : Nat) (x0 x1 x2 x6 x7 x8 : AV) (H : Heap) (R : List AV → Heap → Res) :
    evL (cx ρ) call yc false 185 lim k (Code.at [1, 1] c185) (sp 63 [(0, x0), (1, x1), (2, x2), (6, x6), (7, x7), (8, x8)]) H (kk none (fun s H => R (([] : List Nat).map fun t => s.getD t (.tup [])) H) [] R []) = N185_1 ρ call yc lim k x0 x1 x2 x6 x7 x8 H R := by
  rw [evL_X, N185_1_x]
  simp only [← evL_X, N185_1, N185_2_eq, N185_9_eq]
noncomputable def L185 (ρ : Addr → Option Value) (call : CallF) (yc : YieldF) (lim k : Nat) (x0 x1 x2 : AV) (H : Heap) : Res :=
  N185_1 ρ call yc lim k x0 x1 x2 (.int .i64 20) (.int .i64 0) (.int .i64 20) H retK
theorem L185_x (ρ : Addr → Option Value) (call : CallF) (yc : YieldF) (lim k : Nat) (J : CodeF) (x0 x1 x2 : AV) (H : Heap) :
    evX (cx ρ) call yc false 185 lim k J c185 [x0, x1, x2, (.tup []), (.tup []), (.tup []), (.tup []), (.tup []), (.tup []), (.tup []), (.tup []), (.tup []), (.tup []), (.tup []), (.tup []), (.tup []), (.tup []), (.tup []), (.tup []), (.tup []), (.tup []), (.tup []), (.tup []), (.tup []), (.tup []), (.tup []), (.tup []), (.tup []), (.tup []), (.tup []), (.tup []), (.tup []), (.tup []), (.tup []), (.tup []), (.tup []), (.tup []), (.tup []), (.tup []), (.tup []), (.tup []), (.tup []), (.tup []), (.tup []), (.tup []), (.tup []), (.tup []), (.tup []), (.tup []), (.tup []), (.tup []), (.tup []), (.tup []), (.tup []), (.tup []), (.tup []), (.tup []), (.tup []), (.tup []), (.tup []), (.tup []), (.tup []), (.tup [])] H (kk none (fun s H => retK (([] : List Nat).map fun t => s.getD t (.tup [])) H) [] retK []) =
  J (Code.at [1, 1] c185) (sp 63 [(0, x0), (1, x1), (2, x2), (6, (.int .i64 20)), (7, (.int .i64 0)), (8, (.int .i64 20))]) H (kk none (fun s H => retK (([] : List Nat).map fun t => s.getD t (.tup [])) H) [] retK []) := by
  kernel_rfl
theorem G185 (ρ : Addr → Option Value) (call : CallF) (yc : YieldF) (lim k : Nat) (x0 x1 x2 : AV) (H : Heap) :
    evL (cx ρ) call yc false 185 lim k c185 [x0, x1, x2, (.tup []), (.tup []), (.tup []), (.tup []), (.tup []), (.tup []), (.tup []), (.tup []), (.tup []), (.tup []), (.tup []), (.tup []), (.tup []), (.tup []), (.tup []), (.tup []), (.tup []), (.tup []), (.tup []), (.tup []), (.tup []), (.tup []), (.tup []), (.tup []), (.tup []), (.tup []), (.tup []), (.tup []), (.tup []), (.tup []), (.tup []), (.tup []), (.tup []), (.tup []), (.tup []), (.tup []), (.tup []), (.tup []), (.tup []), (.tup []), (.tup []), (.tup []), (.tup []), (.tup []), (.tup []), (.tup []), (.tup []), (.tup []), (.tup []), (.tup []), (.tup []), (.tup []), (.tup []), (.tup []), (.tup []), (.tup []), (.tup []), (.tup []), (.tup []), (.tup [])] H (kk none (fun s H => retK (([] : List Nat).map fun t => s.getD t (.tup [])) H) [] retK []) = L185 ρ call yc lim k x0 x1 x2 H := by
  rw [evL_X, L185_x]
  simp only [← evL_X, L185, N185_1_eq]
theorem E185 (ρ : Addr → Option Value) (k lim : Nat) (x0 x1 x2 : AV) (H : Heap) : evCall (cx ρ) (k + 1) lim 185 [x0, x1, x2] H = L185 ρ (evCall (cx ρ) k) (evCY (cx ρ) k).2 lim k x0 x1 x2 H := by
  rw [evCall_body (cx ρ) k lim 185 _ H Tryz.f185 c185 [] (by kernel_rfl) (by kernel_rfl) (by kernel_rfl) (by kernel_rfl) (by kernel_rfl)]
  exact G185 ρ (evCall (cx ρ) k) (evCY (cx ρ) k).2 lim k x0 x1 x2 H
-- haycroft/tail.New
noncomputable def c193 : Code := Code.of Tryz.prog 193
noncomputable def L193 (ρ : Addr → Option Value) (call : CallF) (yc : YieldF) (lim k : Nat) (x0 x1 : AV) (H : Heap) : Res :=
  resK (call lim 67 [x0] H) fun x10 H =>
  purK (unA .not x10) fun x11 =>
  purK (gPur (wantV x11 false) (some x1)) fun x13 =>
  purK (gPur (wantV x11 false) (binA Tryz.prog H .lss 3 x13 (.int .i64 1))) fun x14 =>
  purK (pickA x11 (.bool true) x14) fun x15 =>
  purK (gPur (wantV x15 false) (some x1)) fun x17 =>
  purK (gPur (wantV x15 false) (binA Tryz.prog H .gtr 3 x17 (.int .i64 64))) fun x18 =>
  purK (pickA x15 (.bool true) x18) fun x19 =>
  condK x19
  (
    retK [.nilp, (.int .i64 1)] H)
  (
    resK (call lim 199 [(.int .i64 1)] H) fun x21 H =>
    purK (extA 0 x21) fun x22 =>
    purK (extA 1 x21) fun x23 =>
    purK (binA Tryz.prog H .neq 32 x23 (.int .i64 0)) fun x25 =>
    condK x25
    (
      retK [.nilp, x23] H)
    (
      purK (bldA [.int .i64 0, .int .i64 0, .nilp] [(0, 1, x0), (1, 1, x1), (2, 1, x22)]) fun x30 =>
      effK H (boxA H 280 x30) fun x31 H =>
      resK (call lim 244 [x31, (.int .i64 0)] H) fun x34 H =>
      retK [x31, x34] H))
theorem G193 (ρ : Addr → Option Value) (call : CallF) (yc : YieldF) (lim k : Nat) (x0 x1 : AV) (H : Heap) :
    evL (cx ρ) call yc false 193 lim k c193 [x0, x1, (.tup []), (.tup []), (.tup []), (.tup []), (.tup []), (.tup []), (.tup []), (.tup []), (.tup []), (.tup []), (.tup []), (.tup []), (.tup []), (.tup []), (.tup []), (.tup []), (.tup []), (.tup []), (.tup []), (.tup []), (.tup []), (.tup []), (.tup []), (.tup []), (.tup []), (.tup []), (.tup []), (.tup []), (.tup []), (.tup []), (.tup []), (.tup []), (.tup [])] H (kk none (fun s H => retK (([4, 5] : List Nat).map fun t => s.getD t (.tup [])) H) [] retK [4, 5]) = L193 ρ call yc lim k x0 x1 H := by
  kernel_rfl
theorem E193 (ρ : Addr → Option Value) (k lim : Nat) (x0 x1 : AV) (H : Heap) : evCall (cx ρ) (k + 1) lim 193 [x0, x1] H = L193 ρ (evCall (cx ρ) k) (evCY (cx ρ) k).2 lim k x0 x1 H := by
  rw [evCall_body (cx ρ) k lim 193 _ H Tryz.f193 c193 [4, 5] (by kernel_rfl) (by kernel_rfl) (by kernel_rfl) (by kernel_rfl) (by kernel_rfl)]
  exact G193 ρ (evCall (cx ρ) k) (evCY (cx ρ) k).2 lim k x0 x1 H
-- haycroft/pages.New
noncomputable def c194 : Code := Code.of Tryz.prog 194
noncomputable def L194 (ρ : Addr → Option Value) (call : CallF) (yc : YieldF) (lim k : Nat) (x0 x1 : AV) (H : Heap) : Res :=
  resK (call lim 67 [x0] H) fun x10 H =>
  purK (unA .not x10) fun x11 =>
  purK (gPur (wantV x11 false) (some x1)) fun x13 =>
  purK (gPur (wantV x11 false) (binA Tryz.prog H .lss 3 x13 (.int .i64 2))) fun x14 =>
  purK (pickA x11 (.bool true) x14) fun x15 =>
  purK (gPur (wantV x15 false) (some x1)) fun x17 =>
  purK (gPur (wantV x15 false) (binA Tryz.prog H .gtr 3 x17 (.int .i64 8))) fun x18 =>
  purK (pickA x15 (.bool true) x18) fun x19 =>
  condK x19
  (
    retK [.nilp, (.int .i64 1)] H)
  (
    resK (call lim 100 [x0] H) fun x23 H =>
    purK (binA Tryz.prog H .mul 3 x1 x23) fun x24 =>
    resK (call lim 199 [x24] H) fun x25 H =>
    purK (extA 0 x25) fun x26 =>
    purK (extA 1 x25) fun x27 =>
    purK (binA Tryz.prog H .neq 32 x27 (.int .i64 0)) fun x29 =>
    condK x29
    (
      retK [.nilp, x27] H)
    (
      resK (call lim 199 [x1] H) fun x33 H =>
      purK (extA 0 x33) fun x34 =>
      purK (extA 1 x33) fun x35 =>
      purK (binA Tryz.prog H .neq 32 x35 (.int .i64 0)) fun x37 =>
      condK x37
      (
        retK [.nilp, x35] H)
      (
        purK (bldA [.int .i64 0, .nilp, .nilp] [(0, 1, x0), (1, 1, x26), (2, 1, x34)]) fun x42 =>
        effK H (boxA H 163 x42) fun x43 H =>
        retK [x43, (.int .i64 0)] H)))
theorem G194 (ρ : Addr → Option Value) (call : CallF) (yc : YieldF) (lim k : Nat) (x0 x1 : AV) (H : Heap) :
    evL (cx ρ) call yc false 194 lim k c194 [x0, x1, (.tup []), (.tup []), (.tup []), (.tup []), (.tup []), (.tup []), (.tup []), (.tup []), (.tup []), (.tup []), (.tup []), (.tup []), (.tup []), (.tup []), (.tup []), (.tup []), (.tup []), (.tup []), (.tup []), (.tup []), (.tup []), (.tup []), (.tup []), (.tup []), (.tup []), (.tup []), (.tup []), (.tup []), (.tup []), (.tup []), (.tup []), (.tup []), (.tup []), (.tup []), (.tup []), (.tup []), (.tup []), (.tup []), (.tup []), (.tup []), (.tup []), (.tup [])] H (kk none (fun s H => retK (([4, 5] : List Nat).map fun t => s.getD t (.tup [])) H) [] retK [4, 5]) = L194 ρ call yc lim k x0 x1 H := by
  kernel_rfl
theorem E194 (ρ : Addr → Option Value) (k lim : Nat) (x0 x1 : AV) (H : Heap) : evCall (cx ρ) (k + 1) lim 194 [x0, x1] H = L194 ρ (evCall (cx ρ) k) (evCY (cx ρ) k).2 lim k x0 x1 H := by
  rw [evCall_body (cx ρ) k lim 194 _ H Tryz.f194 c194 [4, 5] (by kernel_rfl) (by kernel_rfl) (by kernel_rfl) (by kernel_rfl) (by kernel_rfl)]
  exact G194 ρ (evCall (cx ρ) k) (evCY (cx ρ) k).2 lim k x0 x1 H
-- haycroft/epoch.New
noncomputable def c195 : Code := Code.of Tryz.prog 195
noncomputable def L195 (ρ : Addr → Option Value) (call : CallF) (yc : YieldF) (lim k : Nat) (x0 : AV) (H : Heap) : Res :=
  purK (binA Tryz.prog H .lss 3 x0 (.int .i64 1)) fun x7 =>
  purK (gPur (wantV x7 false) (some x0)) fun x9 =>
  purK (gPur (wantV x7 false) (binA Tryz.prog H .gtr 3 x9 (.int .i64 8))) fun x10 =>
  purK (pickA x7 (.bool true) x10) fun x11 =>
  condK x11
  (
    retK [.nilp, (.int .i64 1)] H)
  (
    purK (binA Tryz.prog H .add 3 (.int .i64 1) x0) fun x14 =>
    resK (call lim 199 [x14] H) fun x15 H =>
    purK (extA 0 x15) fun x16 =>
    purK (extA 1 x15) fun x17 =>
    purK (binA Tryz.prog H .neq 32 x17 (.int .i64 0)) fun x19 =>
    condK x19
    (
      retK [.nilp, x17] H)
    (
      resK (call lim 136 [x16, (.int .i64 0), (.int .u64 1)] H) fun x22 H =>
      purK (bldA [.nilp] [(0, 1, x16)]) fun x24 =>
      effK H (boxA H 137 x24) fun x25 H =>
      retK [x25, (.int .i64 0)] H))
theorem G195 (ρ : Addr → Option Value) (call : CallF) (yc : YieldF) (lim k : Nat) (x0 : AV) (H : Heap) :
    evL (cx ρ) call yc false 195 lim k c195 [x0, (.tup []), (.tup []), (.tup []), (.tup []), (.tup []), (.tup []), (.tup []), (.tup []), (.tup []), (.tup []), (.tup []), (.tup []), (.tup []), (.tup []), (.tup []), (.tup []), (.tup []), (.tup []), (.tup []), (.tup []), (.tup []), (.tup []), (.tup []), (.tup []), (.tup [])] H (kk none (fun s H => retK (([2, 3] : List Nat).map fun t => s.getD t (.tup [])) H) [] retK [2, 3]) = L195 ρ call yc lim k x0 H := by
  kernel_rfl
theorem E195 (ρ : Addr → Option Value) (k lim : Nat) (x0 : AV) (H : Heap) : evCall (cx ρ) (k + 1) lim 195 [x0] H = L195 ρ (evCall (cx ρ) k) (evCY (cx ρ) k).2 lim k x0 H := by
  rw [evCall_body (cx ρ) k lim 195 _ H Tryz.f195 c195 [2, 3] (by kernel_rfl) (by kernel_rfl) (by kernel_rfl) (by kernel_rfl) (by kernel_rfl)]
  exact G195 ρ (evCall (cx ρ) k) (evCY (cx ρ) k).2 lim k x0 H
-- haycroft/marks.New
noncomputable def c196 : Code := Code.of Tryz.prog 196
noncomputable def L196 (ρ : Addr → Option Value) (call : CallF) (yc : YieldF) (lim k : Nat) (H : Heap) : Res :=
  resK (call lim 199 [(.int .i64 5)] H) fun x4 H =>
  purK (extA 0 x4) fun x5 =>
  purK (extA 1 x4) fun x6 =>
  purK (bldA [.nilp] [(0, 1, x5)]) fun x8 =>
  effK H (boxA H 160 x8) fun x9 H =>
  retK [x9] H
theorem G196 (ρ : Addr → Option Value) (call : CallF) (yc : YieldF) (lim k : Nat) (H : Heap) :
    evL (cx ρ) call yc false 196 lim k c196 [(.tup []), (.tup []), (.tup []), (.tup []), (.tup []), (.tup []), (.tup []), (.tup []), (.tup []), (.tup [])] H (kk none (fun s H => retK (([0] : List Nat).map fun t => s.getD t (.tup [])) H) [] retK [0]) = L196 ρ call yc lim k H := by
  kernel_rfl
theorem E196 (ρ : Addr → Option Value) (k lim : Nat) (H : Heap) : evCall (cx ρ) (k + 1) lim 196 [] H = L196 ρ (evCall (cx ρ) k) (evCY (cx ρ) k).2 lim k H := by
  rw [evCall_body (cx ρ) k lim 196 _ H Tryz.f196 c196 [0] (by kernel_rfl) (by kernel_rfl) (by kernel_rfl) (by kernel_rfl) (by kernel_rfl)]
  exact G196 ρ (evCall (cx ρ) k) (evCY (cx ρ) k).2 lim k H
-- haycroft/drain.New
noncomputable def c197 : Code := Code.of Tryz.prog 197
noncomputable def L197 (ρ : Addr → Option Value) (call : CallF) (yc : YieldF) (lim k : Nat) (H : Heap) : Res :=
  purK (bldA [.nils] []) fun x1 =>
  effK H (boxA H 205 x1) fun x2 H =>
  retK [x2] H
theorem G197 (ρ : Addr → Option Value) (call : CallF) (yc : YieldF) (lim k : Nat) (H : Heap) :
    evL (cx ρ) call yc false 197 lim k c197 [(.tup []), (.tup []), (.tup [])] H (kk none (fun s H => retK (([0] : List Nat).map fun t => s.getD t (.tup [])) H) [] retK [0]) = L197 ρ call yc lim k H := by
  kernel_rfl
theorem E197 (ρ : Addr → Option Value) (k lim : Nat) (H : Heap) : evCall (cx ρ) (k + 1) lim 197 [] H = L197 ρ (evCall (cx ρ) k) (evCY (cx ρ) k).2 lim k H := by
  rw [evCall_body (cx ρ) k lim 197 _ H Tryz.f197 c197 [0] (by kernel_rfl) (by kernel_rfl) (by kernel_rfl) (by kernel_rfl) (by kernel_rfl)]
  exact G197 ρ (evCall (cx ρ) k) (evCY (cx ρ) k).2 lim k H
-- (*haycroft/pages.Buffer).Open
noncomputable def c198 : Code := Code.of Tryz.prog 198
noncomputable def L198 (ρ : Addr → Option Value) (call : CallF) (yc : YieldF) (lim k : Nat) (x0 x1 : AV) (H : Heap) : Res :=
  purK (binA Tryz.prog H .eql 105 x0 .nilp) fun x11 =>
  condK x11
  (
    retK [(.int .i64 2)] H)
  (
    purK (binA Tryz.prog H .lss 3 x1 (.int .i64 0)) fun x14 =>
    condK x14
    (
      retK [(.int .i64 1)] H)
    (
      resK (call lim 99 [x0, x1] H) fun x18 H =>
      condK x18
      (
        retK [(.int .i64 8)] H)
      (
        resK (call lim 102 [x0, x1] H) fun x21 H =>
        purK (nilChkA x0) fun x24 =>
        purK (addA 2 x24) fun x25 =>
        purK (ld1 ρ H x25) fun x26 =>
        resK (call lim 159 [x1] H) fun x29 H => bif (agn (ld1 ρ H x25) x26 && true) then
          resK (call lim 247 [x26, x21, (.int .u64 0), x29] H) fun x30 H =>
          purK (extA 0 x30) fun x31 =>
          purK (extA 1 x30) fun x32 =>
          purK (unA .not x31) fun x34 =>
          condK x34
          (
            retK [(.int .i64 10)] H)
          (
            purK (nilChkA x0) fun x36 =>
            purK (addA 0 x36) fun x37 =>
            purK (ld1 ρ H x37) fun x38 =>
            resK (call lim 100 [x38] H) fun x39 H =>
            purK (nilChkA x0) fun x41 =>
            purK (addA 1 x41) fun x42 =>
            purK (ld1 ρ H x42) fun x43 =>
            purK (binA Tryz.prog H .mul 3 x21 x39) fun x46 =>
            effK H (mkS H 24 1 8 [.int .u64 0] x39 x39) fun x48 H => bif (agn (binA Tryz.prog H .mul 3 x21 x39) x46 && (agn (ld1 ρ H x42) x43 && true)) then
              resK (call lim 236 [x43, x46, x48] H) fun x49 H =>
              retK [x49] H
            else none)
        else none)))
theorem G198 (ρ : Addr → Option Value) (call : CallF) (yc : YieldF) (lim k : Nat) (x0 x1 : AV) (H : Heap) :
    evL (cx ρ) call yc false 198 lim k c198 [x0, x1, (.tup []), (.tup []), (.tup []), (.tup []), (.tup []), (.tup []), (.tup []), (.tup []), (.tup []), (.tup []), (.tup []), (.tup []), (.tup []), (.tup []), (.tup []), (.tup []), (.tup []), (.tup []), (.tup []), (.tup []), (.tup []), (.tup []), (.tup []), (.tup []), (.tup []), (.tup []), (.tup []), (.tup []), (.tup []), (.tup []), (.tup []), (.tup []), (.tup []), (.tup []), (.tup []), (.tup []), (.tup []), (.tup []), (.tup []), (.tup []), (.tup []), (.tup []), (.tup []), (.tup []), (.tup []), (.tup []), (.tup []), (.tup [])] H (kk none (fun s H => retK (([4] : List Nat).map fun t => s.getD t (.tup [])) H) [] retK [4]) = L198 ρ call yc lim k x0 x1 H := by
  kernel_rfl
theorem E198 (ρ : Addr → Option Value) (k lim : Nat) (x0 x1 : AV) (H : Heap) : evCall (cx ρ) (k + 1) lim 198 [x0, x1] H = L198 ρ (evCall (cx ρ) k) (evCY (cx ρ) k).2 lim k x0 x1 H := by
  rw [evCall_body (cx ρ) k lim 198 _ H Tryz.f198 c198 [4] (by kernel_rfl) (by kernel_rfl) (by kernel_rfl) (by kernel_rfl) (by kernel_rfl)]
  exact G198 ρ (evCall (cx ρ) k) (evCY (cx ρ) k).2 lim k x0 x1 H
-- haycroft/cell.New
noncomputable def c199 : Code := Code.of Tryz.prog 199
noncomputable def L199 (ρ : Addr → Option Value) (call : CallF) (yc : YieldF) (lim k : Nat) (x0 : AV) (H : Heap) : Res :=
  purK (binA Tryz.prog H .lss 3 x0 (.int .i64 1)) fun x5 =>
  purK (gPur (wantV x5 false) (some x0)) fun x7 =>
  purK (gPur (wantV x5 false) (binA Tryz.prog H .gtr 3 x7 (.int .i64 65536))) fun x8 =>
  purK (pickA x5 (.bool true) x8) fun x9 =>
  condK x9
  (
    retK [.nilp, (.int .i64 1)] H)
  (
    effK H (mkS H 197 1 8 [.int .u64 0] x0 x0) fun x11 H =>
    purK (bldA [.nils, .int .i64 0, .int .i64 0] [(0, 1, x11)]) fun x12 =>
    effK H (boxA H 202 x12) fun x13 H =>
    retK [x13, (.int .i64 0)] H)
theorem G199 (ρ : Addr → Option Value) (call : CallF) (yc : YieldF) (lim k : Nat) (x0 : AV) (H : Heap) :
    evL (cx ρ) call yc false 199 lim k c199 [x0, (.tup []), (.tup []), (.tup []), (.tup []), (.tup []), (.tup []), (.tup []), (.tup []), (.tup []), (.tup []), (.tup []), (.tup []), (.tup [])] H (kk none (fun s H => retK (([2, 3] : List Nat).map fun t => s.getD t (.tup [])) H) [] retK [2, 3]) = L199 ρ call yc lim k x0 H := by
  kernel_rfl
theorem E199 (ρ : Addr → Option Value) (k lim : Nat) (x0 : AV) (H : Heap) : evCall (cx ρ) (k + 1) lim 199 [x0] H = L199 ρ (evCall (cx ρ) k) (evCY (cx ρ) k).2 lim k x0 H := by
  rw [evCall_body (cx ρ) k lim 199 _ H Tryz.f199 c199 [2, 3] (by kernel_rfl) (by kernel_rfl) (by kernel_rfl) (by kernel_rfl) (by kernel_rfl)]
  exact G199 ρ (evCall (cx ρ) k) (evCY (cx ρ) k).2 lim k x0 H
end Go.Proofs.YtkolhhmgmakekaaGreat
