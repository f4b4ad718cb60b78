/- Functions, lifted. Printed by a program of this repo. -/
import Derived.Test.YtonakeopionkkaaGreatLfTab
set_option linter.unusedVariables false
set_option linter.unusedSimpArgs false
set_option maxRecDepth 100000
set_option maxHeartbeats 4000000
namespace Go.Proofs.YtonakeopionkkaaGreat
open Go.Ev Go.RowKit
-- (*haycroft/index.Index).link
noncomputable def c46 : Code := Code.of Tryz.prog 46
noncomputable def L46 (ρ : Addr → Option Value) (call : CallF) (yc : YieldF) (lim k : Nat) (x0 x1 : AV) (H : Heap) : Res :=
  purK (nilChkA x0) fun x8 =>
  purK (addA 2 x8) fun x9 =>
  purK (ld1 ρ H x9) fun x10 =>
  purK (binA Tryz.prog H .mul 3 x1 (.int .i64 8)) fun x12 =>
  purK (binA Tryz.prog H .add 3 x12 (.int .i64 7)) fun x13 =>
  resK (call lim 31 [x10, x13] H) fun x14 H =>
  purK (cvI .i64 x14) fun x16 =>
  purK (binA Tryz.prog H .sub 3 x16 (.int .i64 1)) fun x17 =>
  purK (binA Tryz.prog H .gtr 52 x14 (.int .u64 0)) fun x19 =>
  retK [x17, x19] H
theorem G46 (ρ : Addr → Option Value) (call : CallF) (yc : YieldF) (lim k : Nat) (x0 x1 : AV) (H : Heap) :
    evL (cx ρ) call yc false 46 lim k c46 [x0, x1, (.tup []), (.tup []), (.tup []), (.tup []), (.tup []), (.tup []), (.tup []), (.tup []), (.tup []), (.tup []), (.tup []), (.tup []), (.tup []), (.tup []), (.tup []), (.tup []), (.tup []), (.tup [])] H (kk none (fun s H => retK (([4, 5] : List Nat).map fun t => s.getD t (.tup [])) H) [] retK [4, 5]) = L46 ρ call yc lim k x0 x1 H := by
  kernel_rfl
theorem E46 (ρ : Addr → Option Value) (k lim : Nat) (x0 x1 : AV) (H : Heap) : evCall (cx ρ) (k + 1) lim 46 [x0, x1] H = L46 ρ (evCall (cx ρ) k) (evCY (cx ρ) k).2 lim k x0 x1 H := by
  rw [evCall_body (cx ρ) k lim 46 _ H Tryz.f46 c46 [4, 5] (by kernel_rfl) (by kernel_rfl) (by kernel_rfl) (by kernel_rfl) (by kernel_rfl)]
  exact G46 ρ (evCall (cx ρ) k) (evCY (cx ρ) k).2 lim k x0 x1 H
-- (*haycroft/cell.Row).there
noncomputable def c47 : Code := Code.of Tryz.prog 47
noncomputable def L47 (ρ : Addr → Option Value) (call : CallF) (yc : YieldF) (lim k : Nat) (x0 x1 : AV) (H : Heap) : Res :=
  purK (binA Tryz.prog H .geq 3 x1 (.int .i64 0)) fun x6 =>
  purK (gPur (wantV x6 true) (some x1)) fun x8 =>
  purK (gPur (wantV x6 true) (some x0)) fun x9 =>
  resK (gRes (wantV x6 true) H (call lim 67 [x9] H)) fun x10 H =>
  purK (gPur (wantV x6 true) (binA Tryz.prog H .lss 3 x8 x10)) fun x11 =>
  purK (pickA x6 x11 (.bool false)) fun x12 =>
  retK [x12] H
theorem G47 (ρ : Addr → Option Value) (call : CallF) (yc : YieldF) (lim k : Nat) (x0 x1 : AV) (H : Heap) :
    evL (cx ρ) call yc false 47 lim k c47 [x0, x1, (.tup []), (.tup []), (.tup []), (.tup []), (.tup []), (.tup []), (.tup []), (.tup []), (.tup []), (.tup []), (.tup [])] H (kk none (fun s H => retK (([4] : List Nat).map fun t => s.getD t (.tup [])) H) [] retK [4]) = L47 ρ call yc lim k x0 x1 H := by
  kernel_rfl
theorem E47 (ρ : Addr → Option Value) (k lim : Nat) (x0 x1 : AV) (H : Heap) : evCall (cx ρ) (k + 1) lim 47 [x0, x1] H = L47 ρ (evCall (cx ρ) k) (evCY (cx ρ) k).2 lim k x0 x1 H := by
  rw [evCall_body (cx ρ) k lim 47 _ H Tryz.f47 c47 [4] (by kernel_rfl) (by kernel_rfl) (by kernel_rfl) (by kernel_rfl) (by kernel_rfl)]
  exact G47 ρ (evCall (cx ρ) k) (evCY (cx ρ) k).2 lim k x0 x1 H
-- (*sync/atomic.Uint64).Load
noncomputable def c48 : Code := Code.of Tryz.prog 48
noncomputable def L48 (ρ : Addr → Option Value) (call : CallF) (yc : YieldF) (lim k : Nat) (x0 : AV) (H : Heap) : Res :=
  purK (nilChkA x0) fun x4 =>
  purK (addA 0 x4) fun x5 =>
  resK (call lim 68 [x5] H) fun x6 H =>
  retK [x6] H
theorem G48 (ρ : Addr → Option Value) (call : CallF) (yc : YieldF) (lim k : Nat) (x0 : AV) (H : Heap) :
    evL (cx ρ) call yc false 48 lim k c48 [x0, (.tup []), (.tup []), (.tup []), (.tup []), (.tup []), (.tup [])] H (kk none (fun s H => retK (([2] : List Nat).map fun t => s.getD t (.tup [])) H) [] retK [2]) = L48 ρ call yc lim k x0 H := by
  kernel_rfl
theorem E48 (ρ : Addr → Option Value) (k lim : Nat) (x0 : AV) (H : Heap) : evCall (cx ρ) (k + 1) lim 48 [x0] H = L48 ρ (evCall (cx ρ) k) (evCY (cx ρ) k).2 lim k x0 H := by
  rw [evCall_body (cx ρ) k lim 48 _ H Tryz.f48 c48 [2] (by kernel_rfl) (by kernel_rfl) (by kernel_rfl) (by kernel_rfl) (by kernel_rfl)]
  exact G48 ρ (evCall (cx ρ) k) (evCY (cx ρ) k).2 lim k x0 H
-- haycroft/field.Most
noncomputable def c50 : Code := Code.of Tryz.prog 50
noncomputable def L50 (ρ : Addr → Option Value) (call : CallF) (yc : YieldF) (lim k : Nat) (x0 : AV) (H : Heap) : Res :=
  purK (binA Tryz.prog H .lss 3 x0 (.int .i64 1)) fun x5 =>
  condK x5
  (
    retK [(.int .u64 0)] H)
  (
    purK (binA Tryz.prog H .geq 3 x0 (.int .i64 64)) fun x8 =>
    condK x8
    (
      retK [(.int .u64 18446744073709551615)] H)
    (
      purK (binA Tryz.prog H .shl 52 (.int .u64 1) x0) fun x10 =>
      purK (binA Tryz.prog H .sub 52 x10 (.int .u64 1)) fun x11 =>
      retK [x11] H))
theorem G50 (ρ : Addr → Option Value) (call : CallF) (yc : YieldF) (lim k : Nat) (x0 : AV) (H : Heap) :
    evL (cx ρ) call yc false 50 lim k c50 [x0, (.tup []), (.tup []), (.tup []), (.tup []), (.tup []), (.tup []), (.tup []), (.tup []), (.tup []), (.tup []), (.tup [])] H (kk none (fun s H => retK (([2] : List Nat).map fun t => s.getD t (.tup [])) H) [] retK [2]) = L50 ρ call yc lim k x0 H := by
  kernel_rfl
theorem E50 (ρ : Addr → Option Value) (k lim : Nat) (x0 : AV) (H : Heap) : evCall (cx ρ) (k + 1) lim 50 [x0] H = L50 ρ (evCall (cx ρ) k) (evCY (cx ρ) k).2 lim k x0 H := by
  rw [evCall_body (cx ρ) k lim 50 _ H Tryz.f50 c50 [2] (by kernel_rfl) (by kernel_rfl) (by kernel_rfl) (by kernel_rfl) (by kernel_rfl)]
  exact G50 ρ (evCall (cx ρ) k) (evCY (cx ρ) k).2 lim k x0 H
-- (*haycroft/device.Device).Peek
noncomputable def c56 : Code := Code.of Tryz.prog 56
noncomputable def L56 (ρ : Addr → Option Value) (call : CallF) (yc : YieldF) (lim k : Nat) (x0 x1 : AV) (H : Heap) : Res :=
  effK H (boxA H 143 x1) fun x3 H =>
  purK (binA Tryz.prog H .eql 44 x0 .nilp) fun x9 =>
  condK x9
  (
    retK [(.str (ByteArray.mk #[])), (.bool false)] H)
  (
    purK (nilChkA x0) fun x12 =>
    purK (addA 1 x12) fun x13 =>
    purK (ld1 ρ H x13) fun x14 =>
    purK (ldN ρ H 2 x3) fun x15 =>
    purK (lookupA (cx ρ) H 67 x14 x15 true) fun x16 =>
    purK (extA 0 x16) fun x17 =>
    purK (extA 1 x16) fun x18 =>
    retK [x17, x18] H)
theorem G56 (ρ : Addr → Option Value) (call : CallF) (yc : YieldF) (lim k : Nat) (x0 x1 : AV) (H : Heap) :
    evL (cx ρ) call yc false 56 lim k c56 [x0, x1, (.tup []), (.tup []), (.tup []), (.tup []), (.tup []), (.tup []), (.tup []), (.tup []), (.tup []), (.tup []), (.tup []), (.tup []), (.tup []), (.tup []), (.tup []), (.tup []), (.tup []), (.tup []), (.tup [])] H (kk none (fun s H => retK (([4, 5] : List Nat).map fun t => s.getD t (.tup [])) H) [] retK [4, 5]) = L56 ρ call yc lim k x0 x1 H := by
  kernel_rfl
theorem E56 (ρ : Addr → Option Value) (k lim : Nat) (x0 x1 : AV) (H : Heap) : evCall (cx ρ) (k + 1) lim 56 [x0, x1] H = L56 ρ (evCall (cx ρ) k) (evCY (cx ρ) k).2 lim k x0 x1 H := by
  rw [evCall_body (cx ρ) k lim 56 _ H Tryz.f56 c56 [4, 5] (by kernel_rfl) (by kernel_rfl) (by kernel_rfl) (by kernel_rfl) (by kernel_rfl)]
  exact G56 ρ (evCall (cx ρ) k) (evCY (cx ρ) k).2 lim k x0 x1 H
-- haycroft/image.Heard
noncomputable def c57 : Code := Code.of Tryz.prog 57
noncomputable def N57_1 (ρ : Addr → Option Value) (call : CallF) (yc : YieldF) (lim k : Nat) (x2 x4 x5 x6 : AV) (H : Heap) (R : List AV → Heap → Res) : Res :=
  purK (nilChkA x4) fun x25_1 =>
  purK (addA 1 x25_1) fun x26_1 =>
  purK (ld1 ρ H x26_1) fun x27_1 =>
  purK (gPur (wantV x27_1 false) (some x6)) fun x29_1 =>
  purK (gPur (wantV x27_1 false) (addA 0 x5)) fun x30_1 =>
  purK (gPur (wantV x27_1 false) (ld1 ρ H x30_1)) fun x31_1 =>
  purK (gPur (wantV x27_1 false) (binA Tryz.prog H .neq 3 x29_1 x31_1)) fun x32_1 =>
  purK (pickA x27_1 (.bool true) x32_1) fun x33_1 =>
  purK (gPur (wantV x33_1 false) (ldN ρ H 3 x5)) fun x35_1 =>
  resK (gRes (wantV x33_1 false) H (call lim 80 [x35_1] H)) fun x36_1 H =>
  purK (gPur (wantV x33_1 false) (unA .not x36_1)) fun x37_1 =>
  purK (pickA x33_1 (.bool true) x37_1) fun x38_1 =>
  condK x38_1
  (
    purK (bldA [.int .i64 0, .int .i64 0, .int .u64 0] []) fun x39_1 =>
    effK H (stA lim H 3 x2 x39_1) fun _ H =>
    R [x2, (.int .i64 4)] H)
  (
    purK (ldN ρ H 3 x5) fun x40_1 =>
    effK H (stA lim H 3 x2 x40_1) fun _ H =>
    R [x2, (.int .i64 0)] H)
theorem N57_1_eq (ρ : Addr → Option Value) (call : CallF) (yc : YieldF) (lim k : Nat) (x2 x4 x5 x6 : AV) (H : Heap) (R : List AV → Heap → Res) :
    evL (cx ρ) call yc false 57 lim k (Code.at [1, 1, 1, 1, 1] c57) (sp 41 [(2, x2), (4, x4), (5, x5), (6, x6)]) H (kk none (fun s H => R (([2, 3] : List Nat).map fun t => s.getD t (.tup [])) H) [] R [2, 3]) = N57_1 ρ call yc lim k x2 x4 x5 x6 H R := by
  kernel_rfl
noncomputable def L57 (ρ : Addr → Option Value) (call : CallF) (yc : YieldF) (lim k : Nat) (x0 : AV) (H : Heap) : Res :=
  effK H (some (.ptr H.sz 0 0, .new (newCells 145 false [.int .i64 0, .int .i64 0, .int .u64 0]))) fun x2 H =>
  purK (lenT x0) fun x8 =>
  purK (binA Tryz.prog H .neq 3 x8 (.int .i64 32)) fun x9 =>
  condK x9
  (
    purK (bldA [.int .i64 0, .int .i64 0, .int .u64 0] []) fun x10 =>
    effK H (stA lim H 3 x2 x10) fun _ H =>
    (retC (cx ρ) [some 145, none]) [x2, (.int .i64 4)] H)
  (
    resK (call lim 77 [x0] H) fun x12 H =>
    purK (bldA [.nils, .bool false] [(0, 1, x12)]) fun x13 =>
    effK H (boxA H 176 x13) fun x14 H =>
    resK (call lim 78 [x14] H) fun x16 H =>
    resK (call lim 78 [x14] H) fun x18 H =>
    resK (call lim 79 [x14] H) fun x20 H =>
    purK (bldA [.int .i64 0, .int .i64 0, .int .u64 0] [(0, 1, x16), (1, 1, x18), (2, 1, x20)]) fun x21 =>
    effK H (some (.ptr H.sz 0 0, .new (newCells 145 false [.int .i64 0, .int .i64 0, .int .u64 0]))) fun x5 H =>
    effK H (stA lim H 3 x5 x21) fun _ H =>
    resK (call lim 78 [x14] H) fun x23 H =>
    N57_1 ρ call yc lim k x2 x14 x5 x23 H (retC (cx ρ) [some 145, none]))
theorem L57_x (ρ : Addr → Option Value) (call : CallF) (yc : YieldF) (lim k : Nat) (J : CodeF) (x0 : AV) (H : Heap) :
    evX (cx ρ) call yc false 57 lim k J c57 [x0, (.tup []), (.tup []), (.tup []), (.tup []), (.tup []), (.tup []), (.tup []), (.tup []), (.tup []), (.tup []), (.tup []), (.tup []), (.tup []), (.tup []), (.tup []), (.tup []), (.tup []), (.tup []), (.tup []), (.tup []), (.tup []), (.tup []), (.tup []), (.tup []), (.tup []), (.tup []), (.tup []), (.tup []), (.tup []), (.tup []), (.tup []), (.tup []), (.tup []), (.tup []), (.tup []), (.tup []), (.tup []), (.tup []), (.tup []), (.tup [])] H (kk none (fun s H => (retC (cx ρ) [some 145, none]) (([2, 3] : List Nat).map fun t => s.getD t (.tup [])) H) [] (retC (cx ρ) [some 145, none]) [2, 3]) =
  effK H (some (.ptr H.sz 0 0, .new (newCells 145 false [.int .i64 0, .int .i64 0, .int .u64 0]))) fun x2 H =>
  purK (lenT x0) fun x8 =>
  purK (binA Tryz.prog H .neq 3 x8 (.int .i64 32)) fun x9 =>
  condK x9
  (
    purK (bldA [.int .i64 0, .int .i64 0, .int .u64 0] []) fun x10 =>
    effK H (stA lim H 3 x2 x10) fun _ H =>
    (retC (cx ρ) [some 145, none]) [x2, (.int .i64 4)] H)
  (
    resK (call lim 77 [x0] H) fun x12 H =>
    purK (bldA [.nils, .bool false] [(0, 1, x12)]) fun x13 =>
    effK H (boxA H 176 x13) fun x14 H =>
    resK (call lim 78 [x14] H) fun x16 H =>
    resK (call lim 78 [x14] H) fun x18 H =>
    resK (call lim 79 [x14] H) fun x20 H =>
    purK (bldA [.int .i64 0, .int .i64 0, .int .u64 0] [(0, 1, x16), (1, 1, x18), (2, 1, x20)]) fun x21 =>
    effK H (some (.ptr H.sz 0 0, .new (newCells 145 false [.int .i64 0, .int .i64 0, .int .u64 0]))) fun x5 H =>
    effK H (stA lim H 3 x5 x21) fun _ H =>
    resK (call lim 78 [x14] H) fun x23 H =>
    J (Code.at [1, 1, 1, 1, 1] c57) (sp 41 [(2, x2), (4, x14), (5, x5), (6, x23)]) H (kk none (fun s H => (retC (cx ρ) [some 145, none]) (([2, 3] : List Nat).map fun t => s.getD t (.tup [])) H) [] (retC (cx ρ) [some 145, none]) [2, 3])) := by
  kernel_rfl
theorem G57 (ρ : Addr → Option Value) (call : CallF) (yc : YieldF) (lim k : Nat) (x0 : AV) (H : Heap) :
    evL (cx ρ) call yc false 57 lim k c57 [x0, (.tup []), (.tup []), (.tup []), (.tup []), (.tup []), (.tup []), (.tup []), (.tup []), (.tup []), (.tup []), (.tup []), (.tup []), (.tup []), (.tup []), (.tup []), (.tup []), (.tup []), (.tup []), (.tup []), (.tup []), (.tup []), (.tup []), (.tup []), (.tup []), (.tup []), (.tup []), (.tup []), (.tup []), (.tup []), (.tup []), (.tup []), (.tup []), (.tup []), (.tup []), (.tup []), (.tup []), (.tup []), (.tup []), (.tup []), (.tup [])] H (kk none (fun s H => (retC (cx ρ) [some 145, none]) (([2, 3] : List Nat).map fun t => s.getD t (.tup [])) H) [] (retC (cx ρ) [some 145, none]) [2, 3]) = L57 ρ call yc lim k x0 H := by
  rw [evL_X, L57_x]
  simp only [← evL_X, L57, N57_1_eq]
theorem E57 (ρ : Addr → Option Value) (k lim : Nat) (x0 : AV) (H : Heap) : evCall (cx ρ) (k + 1) lim 57 [x0] H = L57 ρ (evCall (cx ρ) k) (evCY (cx ρ) k).2 lim k x0 H := by
  rw [evCall_cells (cx ρ) k lim 57 _ H Tryz.f57 c57 [2, 3] [some 145, none] (by kernel_rfl) (by kernel_rfl) (by kernel_rfl) (by kernel_rfl) (by kernel_rfl) (by kernel_rfl)]
  exact G57 ρ (evCall (cx ρ) k) (evCY (cx ρ) k).2 lim k x0 H
-- slices.SortStableFunc[[]haycroft/api.Commit,haycroft/api.Commit]
noncomputable def c58 : Code := Code.of Tryz.prog 58
noncomputable def L58 (ρ : Addr → Option Value) (call : CallF) (yc : YieldF) (lim k : Nat) (x0 x1 : AV) (H : Heap) : Res :=
  purK (lenS x0) fun x6 =>
  resK (call lim 81 [x0, x6, x1] H) fun x8 H =>
  retK [] H
theorem G58 (ρ : Addr → Option Value) (call : CallF) (yc : YieldF) (lim k : Nat) (x0 x1 : AV) (H : Heap) :
    evL (cx ρ) call yc false 58 lim k c58 [x0, x1, (.tup []), (.tup []), (.tup []), (.tup []), (.tup []), (.tup []), (.tup [])] H (kk none (fun s H => retK (([] : List Nat).map fun t => s.getD t (.tup [])) H) [] retK []) = L58 ρ call yc lim k x0 x1 H := by
  kernel_rfl
theorem E58 (ρ : Addr → Option Value) (k lim : Nat) (x0 x1 : AV) (H : Heap) : evCall (cx ρ) (k + 1) lim 58 [x0, x1] H = L58 ρ (evCall (cx ρ) k) (evCY (cx ρ) k).2 lim k x0 x1 H := by
  rw [evCall_body (cx ρ) k lim 58 _ H Tryz.f58 c58 [] (by kernel_rfl) (by kernel_rfl) (by kernel_rfl) (by kernel_rfl) (by kernel_rfl)]
  exact G58 ρ (evCall (cx ρ) k) (evCY (cx ρ) k).2 lim k x0 x1 H
-- haycroft/hlog.New
noncomputable def c64 : Code := Code.of Tryz.prog 64
noncomputable def N64_1 (ρ : Addr → Option Value) (call : CallF) (yc : YieldF) (lim k : Nat) (x1 x2 x6 x7 x8 x9 : AV) (H : Heap) (R : List AV → Heap → Res) : Res :=
  purK (addA 5 x2) fun x31_1 =>
  purK (ld1 ρ H x31_1) fun x32_1 =>
  resK (call lim 91 [x32_1] H) fun x33_1 H =>
  purK (extA 0 x33_1) fun x34_1 =>
  purK (extA 1 x33_1) fun x35_1 =>
  purK (binA Tryz.prog H .neq 24 x7 (.int .i64 0)) fun x37_1 =>
  purK (gPur (wantV x37_1 false) (some x9)) fun x39_1 =>
  purK (gPur (wantV x37_1 false) (binA Tryz.prog H .neq 24 x39_1 (.int .i64 0))) fun x40_1 =>
  purK (pickA x37_1 (.bool true) x40_1) fun x41_1 =>
  purK (gPur (wantV x41_1 false) (some x35_1)) fun x43_1 =>
  purK (gPur (wantV x41_1 false) (binA Tryz.prog H .neq 24 x43_1 (.int .i64 0))) fun x44_1 =>
  purK (pickA x41_1 (.bool true) x44_1) fun x45_1 =>
  condK x45_1
  (
    R [.nilp, (.int .i64 1)] H)
  (
    resK (call lim 92 [] H) fun x48_1 H =>
    resK (call lim 93 [] H) fun x50_1 H =>
    effK H (some (makeMapA H)) fun x52_1 H =>
    effK H (some (makeMapA H)) fun x53_1 H =>
    purK (bldA [.nilp, .nilp, .nilp, .nilp, .nilp, .nilp, .nilm, .nilm] [(0, 1, x6), (1, 1, x8), (2, 1, x48_1), (3, 1, x34_1), (4, 1, x50_1), (5, 1, x1), (6, 1, x52_1), (7, 1, x53_1)]) fun x54_1 =>
    effK H (boxA H 107 x54_1) fun x55_1 H =>
    resK (call lim 94 [x8, (.int .i64 0)] H) fun x57_1 H =>
    R [x55_1, x57_1] H)
theorem N64_1_eq (ρ : Addr → Option Value) (call : CallF) (yc : YieldF) (lim k : Nat) (x1 x2 x6 x7 x8 x9 : AV) (H : Heap) (R : List AV → Heap → Res) :
    evL (cx ρ) call yc false 64 lim k (Code.at [1, 1, 1, 1] c64) (sp 58 [(1, x1), (2, x2), (6, x6), (7, x7), (8, x8), (9, x9)]) H (kk none (fun s H => R (([4, 5] : List Nat).map fun t => s.getD t (.tup [])) H) [] R [4, 5]) = N64_1 ρ call yc lim k x1 x2 x6 x7 x8 x9 H R := by
  kernel_rfl
noncomputable def L64 (ρ : Addr → Option Value) (call : CallF) (yc : YieldF) (lim k : Nat) (x0 x1 : AV) (H : Heap) : Res :=
  effK H (boxA H 42 x0) fun x2 H =>
  purK (binA Tryz.prog H .eql 44 x1 .nilp) fun x13 =>
  condK x13
  (
    retK [.nilp, (.int .i64 2)] H)
  (
    purK (addA 0 x2) fun x15 =>
    purK (ld1 ρ H x15) fun x16 =>
    purK (addA 2 x2) fun x17 =>
    purK (ld1 ρ H x17) fun x18 =>
    resK (call lim 89 [x16, x18] H) fun x19 H =>
    purK (extA 0 x19) fun x20 =>
    purK (extA 1 x19) fun x21 =>
    purK (addA 0 x2) fun x23 =>
    purK (ld1 ρ H x23) fun x24 =>
    purK (addA 1 x2) fun x25 =>
    purK (ld1 ρ H x25) fun x26 =>
    resK (call lim 90 [x24, x26] H) fun x27 H =>
    purK (extA 0 x27) fun x28 =>
    purK (extA 1 x27) fun x29 =>
    N64_1 ρ call yc lim k x1 x2 x20 x21 x28 x29 H retK)
theorem L64_x (ρ : Addr → Option Value) (call : CallF) (yc : YieldF) (lim k : Nat) (J : CodeF) (x0 x1 : AV) (H : Heap) :
    evX (cx ρ) call yc false 64 lim k J c64 [x0, x1, (.tup []), (.tup []), (.tup []), (.tup []), (.tup []), (.tup []), (.tup []), (.tup []), (.tup []), (.tup []), (.tup []), (.tup []), (.tup []), (.tup []), (.tup []), (.tup []), (.tup []), (.tup []), (.tup []), (.tup []), (.tup []), (.tup []), (.tup []), (.tup []), (.tup []), (.tup []), (.tup []), (.tup []), (.tup []), (.tup []), (.tup []), (.tup []), (.tup []), (.tup []), (.tup []), (.tup []), (.tup []), (.tup []), (.tup []), (.tup []), (.tup []), (.tup []), (.tup []), (.tup []), (.tup []), (.tup []), (.tup []), (.tup []), (.tup []), (.tup []), (.tup []), (.tup []), (.tup []), (.tup []), (.tup []), (.tup [])] H (kk none (fun s H => retK (([4, 5] : List Nat).map fun t => s.getD t (.tup [])) H) [] retK [4, 5]) =
  effK H (boxA H 42 x0) fun x2 H =>
  purK (binA Tryz.prog H .eql 44 x1 .nilp) fun x13 =>
  condK x13
  (
    retK [.nilp, (.int .i64 2)] H)
  (
    purK (addA 0 x2) fun x15 =>
    purK (ld1 ρ H x15) fun x16 =>
    purK (addA 2 x2) fun x17 =>
    purK (ld1 ρ H x17) fun x18 =>
    resK (call lim 89 [x16, x18] H) fun x19 H =>
    purK (extA 0 x19) fun x20 =>
    purK (extA 1 x19) fun x21 =>
    purK (addA 0 x2) fun x23 =>
    purK (ld1 ρ H x23) fun x24 =>
    purK (addA 1 x2) fun x25 =>
    purK (ld1 ρ H x25) fun x26 =>
    resK (call lim 90 [x24, x26] H) fun x27 H =>
    purK (extA 0 x27) fun x28 =>
    purK (extA 1 x27) fun x29 =>
    J (Code.at [1, 1, 1, 1] c64) (sp 58 [(1, x1), (2, x2), (6, x20), (7, x21), (8, x28), (9, x29)]) H (kk none (fun s H => retK (([4, 5] : List Nat).map fun t => s.getD t (.tup [])) H) [] retK [4, 5])) := by
  kernel_rfl
theorem G64 (ρ : Addr → Option Value) (call : CallF) (yc : YieldF) (lim k : Nat) (x0 x1 : AV) (H : Heap) :
    evL (cx ρ) call yc false 64 lim k c64 [x0, x1, (.tup []), (.tup []), (.tup []), (.tup []), (.tup []), (.tup []), (.tup []), (.tup []), (.tup []), (.tup []), (.tup []), (.tup []), (.tup []), (.tup []), (.tup []), (.tup []), (.tup []), (.tup []), (.tup []), (.tup []), (.tup []), (.tup []), (.tup []), (.tup []), (.tup []), (.tup []), (.tup []), (.tup []), (.tup []), (.tup []), (.tup []), (.tup []), (.tup []), (.tup []), (.tup []), (.tup []), (.tup []), (.tup []), (.tup []), (.tup []), (.tup []), (.tup []), (.tup []), (.tup []), (.tup []), (.tup []), (.tup []), (.tup []), (.tup []), (.tup []), (.tup []), (.tup []), (.tup []), (.tup []), (.tup []), (.tup [])] H (kk none (fun s H => retK (([4, 5] : List Nat).map fun t => s.getD t (.tup [])) H) [] retK [4, 5]) = L64 ρ call yc lim k x0 x1 H := by
  rw [evL_X, L64_x]
  simp only [← evL_X, L64, N64_1_eq]
theorem E64 (ρ : Addr → Option Value) (k lim : Nat) (x0 x1 : AV) (H : Heap) : evCall (cx ρ) (k + 1) lim 64 [x0, x1] H = L64 ρ (evCall (cx ρ) k) (evCY (cx ρ) k).2 lim k x0 x1 H := by
  rw [evCall_body (cx ρ) k lim 64 _ H Tryz.f64 c64 [4, 5] (by kernel_rfl) (by kernel_rfl) (by kernel_rfl) (by kernel_rfl) (by kernel_rfl)]
  exact G64 ρ (evCall (cx ρ) k) (evCY (cx ρ) k).2 lim k x0 x1 H
-- haycroft/index.New
noncomputable def c65 : Code := Code.of Tryz.prog 65
noncomputable def N65_1 (ρ : Addr → Option Value) (call : CallF) (yc : YieldF) (lim k : Nat) (x0 x1 x6 x7 : AV) (H : Heap) (R : List AV → Heap → Res) : Res :=
  purK (binA Tryz.prog H .neq 24 x7 (.int .i64 0)) fun x29_1 =>
  condK x29_1
  (
    R [.nilp, x7] H)
  (
    resK (call lim 95 [(.int .i64 1)] H) fun x32_1 H =>
    purK (extA 0 x32_1) fun x33_1 =>
    purK (extA 1 x32_1) fun x34_1 =>
    purK (binA Tryz.prog H .neq 24 x34_1 (.int .i64 0)) fun x36_1 =>
    condK x36_1
    (
      R [.nilp, x34_1] H)
    (
      purK (bldA [.int .i64 0, .int .i64 0, .nilp, .nilp] [(0, 1, x0), (1, 1, x1), (2, 1, x6), (3, 1, x33_1)]) fun x42_1 =>
      effK H (boxA H 84 x42_1) fun x43_1 H =>
      R [x43_1, (.int .i64 0)] H))
theorem N65_1_eq (ρ : Addr → Option Value) (call : CallF) (yc : YieldF) (lim k : Nat) (x0 x1 x6 x7 : AV) (H : Heap) (R : List AV → Heap → Res) :
    evL (cx ρ) call yc false 65 lim k (Code.at [1, 1, 1] c65) (sp 44 [(0, x0), (1, x1), (6, x6), (7, x7)]) H (kk none (fun s H => R (([4, 5] : List Nat).map fun t => s.getD t (.tup [])) H) [] R [4, 5]) = N65_1 ρ call yc lim k x0 x1 x6 x7 H R := by
  kernel_rfl
noncomputable def L65 (ρ : Addr → Option Value) (call : CallF) (yc : YieldF) (lim k : Nat) (x0 x1 : AV) (H : Heap) : Res :=
  resK (call lim 39 [x0] H) fun x10 H =>
  purK (unA .not x10) fun x11 =>
  purK (gPur (wantV x11 false) (some x1)) fun x13 =>
  purK (gPur (wantV x11 false) (binA Tryz.prog H .lss 3 x13 (.int .i64 0))) fun x14 =>
  purK (pickA x11 (.bool true) x14) fun x15 =>
  purK (gPur (wantV x15 false) (some x1)) fun x17 =>
  purK (gPur (wantV x15 false) (binA Tryz.prog H .gtr 3 x17 (.int .i64 64))) fun x18 =>
  purK (pickA x15 (.bool true) x18) fun x19 =>
  condK x19
  (
    retK [.nilp, (.int .i64 1)] H)
  (
    purK (binA Tryz.prog H .add 3 x0 x1) fun x23 =>
    purK (binA Tryz.prog H .mul 3 x23 (.int .i64 8)) fun x24 =>
    resK (call lim 95 [x24] H) fun x25 H =>
    purK (extA 0 x25) fun x26 =>
    purK (extA 1 x25) fun x27 =>
    N65_1 ρ call yc lim k x0 x1 x26 x27 H retK)
theorem L65_x (ρ : Addr → Option Value) (call : CallF) (yc : YieldF) (lim k : Nat) (J : CodeF) (x0 x1 : AV) (H : Heap) :
    evX (cx ρ) call yc false 65 lim k J c65 [x0, x1, (.tup []), (.tup []), (.tup []), (.tup []), (.tup []), (.tup []), (.tup []), (.tup []), (.tup []), (.tup []), (.tup []), (.tup []), (.tup []), (.tup []), (.tup []), (.tup []), (.tup []), (.tup []), (.tup []), (.tup []), (.tup []), (.tup []), (.tup []), (.tup []), (.tup []), (.tup []), (.tup []), (.tup []), (.tup []), (.tup []), (.tup []), (.tup []), (.tup []), (.tup []), (.tup []), (.tup []), (.tup []), (.tup []), (.tup []), (.tup []), (.tup []), (.tup [])] H (kk none (fun s H => retK (([4, 5] : List Nat).map fun t => s.getD t (.tup [])) H) [] retK [4, 5]) =
  resK (call lim 39 [x0] H) fun x10 H =>
  purK (unA .not x10) fun x11 =>
  purK (gPur (wantV x11 false) (some x1)) fun x13 =>
  purK (gPur (wantV x11 false) (binA Tryz.prog H .lss 3 x13 (.int .i64 0))) fun x14 =>
  purK (pickA x11 (.bool true) x14) fun x15 =>
  purK (gPur (wantV x15 false) (some x1)) fun x17 =>
  purK (gPur (wantV x15 false) (binA Tryz.prog H .gtr 3 x17 (.int .i64 64))) fun x18 =>
  purK (pickA x15 (.bool true) x18) fun x19 =>
  condK x19
  (
    retK [.nilp, (.int .i64 1)] H)
  (
    purK (binA Tryz.prog H .add 3 x0 x1) fun x23 =>
    purK (binA Tryz.prog H .mul 3 x23 (.int .i64 8)) fun x24 =>
    resK (call lim 95 [x24] H) fun x25 H =>
    purK (extA 0 x25) fun x26 =>
    purK (extA 1 x25) fun x27 =>
    J (Code.at [1, 1, 1] c65) (sp 44 [(0, x0), (1, x1), (6, x26), (7, x27)]) H (kk none (fun s H => retK (([4, 5] : List Nat).map fun t => s.getD t (.tup [])) H) [] retK [4, 5])) := by
  kernel_rfl
theorem G65 (ρ : Addr → Option Value) (call : CallF) (yc : YieldF) (lim k : Nat) (x0 x1 : AV) (H : Heap) :
    evL (cx ρ) call yc false 65 lim k c65 [x0, x1, (.tup []), (.tup []), (.tup []), (.tup []), (.tup []), (.tup []), (.tup []), (.tup []), (.tup []), (.tup []), (.tup []), (.tup []), (.tup []), (.tup []), (.tup []), (.tup []), (.tup []), (.tup []), (.tup []), (.tup []), (.tup []), (.tup []), (.tup []), (.tup []), (.tup []), (.tup []), (.tup []), (.tup []), (.tup []), (.tup []), (.tup []), (.tup []), (.tup []), (.tup []), (.tup []), (.tup []), (.tup []), (.tup []), (.tup []), (.tup []), (.tup []), (.tup [])] H (kk none (fun s H => retK (([4, 5] : List Nat).map fun t => s.getD t (.tup [])) H) [] retK [4, 5]) = L65 ρ call yc lim k x0 x1 H := by
  rw [evL_X, L65_x]
  simp only [← evL_X, L65, N65_1_eq]
theorem E65 (ρ : Addr → Option Value) (k lim : Nat) (x0 x1 : AV) (H : Heap) : evCall (cx ρ) (k + 1) lim 65 [x0, x1] H = L65 ρ (evCall (cx ρ) k) (evCY (cx ρ) k).2 lim k x0 x1 H := by
  rw [evCall_body (cx ρ) k lim 65 _ H Tryz.f65 c65 [4, 5] (by kernel_rfl) (by kernel_rfl) (by kernel_rfl) (by kernel_rfl) (by kernel_rfl)]
  exact G65 ρ (evCall (cx ρ) k) (evCY (cx ρ) k).2 lim k x0 x1 H
-- haycroft/session.New
noncomputable def c66 : Code := Code.of Tryz.prog 66
noncomputable def L66 (ρ : Addr → Option Value) (call : CallF) (yc : YieldF) (lim k : Nat) (x0 x1 x2 : AV) (H : Heap) : Res :=
  purK (binA Tryz.prog H .eql 73 x0 .nilp) fun x10 =>
  purK (gPur (wantV x10 false) (some x1)) fun x12 =>
  purK (gPur (wantV x10 false) (binA Tryz.prog H .eql 49 x12 .nilp)) fun x13 =>
  purK (pickA x10 (.bool true) x13) fun x14 =>
  condK x14
  (
    retK [.nilp, (.int .i64 2)] H)
  (
    purK (binA Tryz.prog H .lss 3 x2 (.int .i64 0)) fun x17 =>
    purK (gPur (wantV x17 false) (some x2)) fun x19 =>
    purK (gPur (wantV x17 false) (binA Tryz.prog H .geq 3 x19 (.int .i64 8))) fun x20 =>
    purK (pickA x17 (.bool true) x20) fun x21 =>
    condK x21
    (
      retK [.nilp, (.int .i64 1)] H)
    (
      effK H (some (makeMapA H)) fun x25 H =>
      purK (bldA [.nilp, .nilp, .int .i64 0, .int .i64 0, .bool false, .nilp, .nils, .int .i64 0, .nilm, .int .i64 0] [(0, 1, x0), (1, 1, x1), (2, 1, x2), (8, 1, x25)]) fun x26 =>
      effK H (boxA H 188 x26) fun x27 H =>
      retK [x27, (.int .i64 0)] H))
theorem G66 (ρ : Addr → Option Value) (call : CallF) (yc : YieldF) (lim k : Nat) (x0 x1 x2 : AV) (H : Heap) :
    evL (cx ρ) call yc false 66 lim k c66 [x0, x1, x2, (.tup []), (.tup []), (.tup []), (.tup []), (.tup []), (.tup []), (.tup []), (.tup []), (.tup []), (.tup []), (.tup []), (.tup []), (.tup []), (.tup []), (.tup []), (.tup []), (.tup []), (.tup []), (.tup []), (.tup []), (.tup []), (.tup []), (.tup []), (.tup []), (.tup [])] H (kk none (fun s H => retK (([6, 7] : List Nat).map fun t => s.getD t (.tup [])) H) [] retK [6, 7]) = L66 ρ call yc lim k x0 x1 x2 H := by
  kernel_rfl
theorem E66 (ρ : Addr → Option Value) (k lim : Nat) (x0 x1 x2 : AV) (H : Heap) : evCall (cx ρ) (k + 1) lim 66 [x0, x1, x2] H = L66 ρ (evCall (cx ρ) k) (evCY (cx ρ) k).2 lim k x0 x1 x2 H := by
  rw [evCall_body (cx ρ) k lim 66 _ H Tryz.f66 c66 [6, 7] (by kernel_rfl) (by kernel_rfl) (by kernel_rfl) (by kernel_rfl) (by kernel_rfl)]
  exact G66 ρ (evCall (cx ρ) k) (evCY (cx ρ) k).2 lim k x0 x1 x2 H
-- (*haycroft/cell.Row).Len
noncomputable def c67 : Code := Code.of Tryz.prog 67
noncomputable def L67 (ρ : Addr → Option Value) (call : CallF) (yc : YieldF) (lim k : Nat) (x0 : AV) (H : Heap) : Res :=
  purK (binA Tryz.prog H .eql 82 x0 .nilp) fun x4 =>
  condK x4
  (
    retK [(.int .i64 0)] H)
  (
    purK (nilChkA x0) fun x6 =>
    purK (addA 0 x6) fun x7 =>
    purK (ld1 ρ H x7) fun x8 =>
    purK (lenS x8) fun x9 =>
    retK [x9] H)
theorem G67 (ρ : Addr → Option Value) (call : CallF) (yc : YieldF) (lim k : Nat) (x0 : AV) (H : Heap) :
    evL (cx ρ) call yc false 67 lim k c67 [x0, (.tup []), (.tup []), (.tup []), (.tup []), (.tup []), (.tup []), (.tup []), (.tup []), (.tup [])] H (kk none (fun s H => retK (([2] : List Nat).map fun t => s.getD t (.tup [])) H) [] retK [2]) = L67 ρ call yc lim k x0 H := by
  kernel_rfl
theorem E67 (ρ : Addr → Option Value) (k lim : Nat) (x0 : AV) (H : Heap) : evCall (cx ρ) (k + 1) lim 67 [x0] H = L67 ρ (evCall (cx ρ) k) (evCY (cx ρ) k).2 lim k x0 H := by
  rw [evCall_body (cx ρ) k lim 67 _ H Tryz.f67 c67 [2] (by kernel_rfl) (by kernel_rfl) (by kernel_rfl) (by kernel_rfl) (by kernel_rfl)]
  exact G67 ρ (evCall (cx ρ) k) (evCY (cx ρ) k).2 lim k x0 H
-- slices.stableCmpFunc[haycroft/api.Commit]
noncomputable def c81 : Code := Code.of Tryz.prog 81
noncomputable def N81_7 (ρ : Addr → Option Value) (call : CallF) (yc : YieldF) (lim k : Nat) (x0 x1 x2 x6 : AV) (H : Heap) (kn : AV → Heap → Res) : Res :=
  purK (binA Tryz.prog H .mul 3 x6 (.int .i64 2)) fun x62_1 =>
  kn x62_1 H
theorem N81_7_eq (ρ : Addr → Option Value) (call : CallF) (yc : YieldF) (lim k : Nat) (x0 x1 x2 x6 : AV) (H : Heap) (kn : KS) (k3 : KS) (R : List AV → Heap → Res) :
    evL (cx ρ) call yc false 81 lim k (Code.at [1, 1, 1, 1, 0, 0, 1, 0, 1, 1, 1] c81) (sp 63 [(0, x0), (1, x1), (2, x2), (6, x6)]) H (kk (some [0, 1, 2, 6]) kn [(3, (some [0, 1, 2, 6]), k3), (2, none, (fun s H => R (([] : List Nat).map fun t => s.getD t (.tup [])) H))] R []) = N81_7 ρ call yc lim k x0 x1 x2 x6 H (fun x6 H => kn (sp 63 [(0, x0), (1, x1), (2, x2), (6, x6)]) H) := by
  kernel_rfl
noncomputable def N81_6 (ρ : Addr → Option Value) (call : CallF) (yc : YieldF) (lim k : Nat) (x0 x1 x2 x6 x7 : AV) (H : Heap) (kn : AV → Heap → Res) : Res :=
  purK (binA Tryz.prog H .add 3 x7 x6) fun x51_1 =>
  purK (binA Tryz.prog H .lss 3 x51_1 x1) fun x54_1 =>
  condK x54_1
  (
    resK (call lim 110 [x0, x7, x51_1, x1, x2] H) fun x60_1 H =>
    N81_7 ρ call yc lim k x0 x1 x2 x6 H kn)
  (
    N81_7 ρ call yc lim k x0 x1 x2 x6 H kn)
theorem N81_6_x (ρ : Addr → Option Value) (call : CallF) (yc : YieldF) (lim k : Nat) (J : CodeF) (x0 x1 x2 x6 x7 : AV) (H : Heap) (kn : KS) (k3 : KS) (R : List AV → Heap → Res) :
    evX (cx ρ) call yc false 81 lim k J (Code.at [1, 1, 1, 1, 0, 0, 1, 0, 1, 1] c81) (sp 63 [(0, x0), (1, x1), (2, x2), (6, x6), (7, x7)]) H (kk (some [0, 1, 2, 6]) kn [(3, (some [0, 1, 2, 6]), k3), (2, none, (fun s H => R (([] : List Nat).map fun t => s.getD t (.tup [])) H))] R []) =
  purK (binA Tryz.prog H .add 3 x7 x6) fun x51_1 =>
  purK (binA Tryz.prog H .lss 3 x51_1 x1) fun x54_1 =>
  condK x54_1
  (
    resK (call lim 110 [x0, x7, x51_1, x1, x2] H) fun x60_1 H =>
    J (Code.at [1, 1, 1, 1, 0, 0, 1, 0, 1, 1, 1] c81) (sp 63 [(0, x0), (1, x1), (2, x2), (6, x6)]) H (kk (some [0, 1, 2, 6]) kn [(3, (some [0, 1, 2, 6]), k3), (2, none, (fun s H => R (([] : List Nat).map fun t => s.getD t (.tup [])) H))] R []))
  (
    J (Code.at [1, 1, 1, 1, 0, 0, 1, 0, 1, 1, 1] c81) (sp 63 [(0, x0), (1, x1), (2, x2), (6, x6)]) H (kk (some [0, 1, 2, 6]) kn [(3, (some [0, 1, 2, 6]), k3), (2, none, (fun s H => R (([] : List Nat).map fun t => s.getD t (.tup [])) H))] R [])) := by
  kernel_rfl
theorem N81_6_eq (ρ : Addr → Option Value) (call : CallF) (yc : YieldF) (lim k : Nat) (x0 x1 x2 x6 x7 : AV) (H : Heap) (kn : KS) (k3 : KS) (R : List AV → Heap → Res) :
    evL (cx ρ) call yc false 81 lim k (Code.at [1, 1, 1, 1, 0, 0, 1, 0, 1, 1] c81) (sp 63 [(0, x0), (1, x1), (2, x2), (6, x6), (7, x7)]) H (kk (some [0, 1, 2, 6]) kn [(3, (some [0, 1, 2, 6]), k3), (2, none, (fun s H => R (([] : List Nat).map fun t => s.getD t (.tup [])) H))] R []) = N81_6 ρ call yc lim k x0 x1 x2 x6 x7 H (fun x6 H => kn (sp 63 [(0, x0), (1, x1), (2, x2), (6, x6)]) H) := by
  rw [evL_X, N81_6_x]
  simp only [← evL_X, N81_6, N81_7_eq]
noncomputable def N81_8b (ρ : Addr → Option Value) (call : CallF) (yc : YieldF) (lim k : Nat) (x0 x1 x2 x6 x7 x8 : AV) (H : Heap) (kn : AV → AV → Heap → Res) (k4 : AV → AV → Heap → Res) : Res :=
  purK (binA Tryz.prog H .leq 3 x8 x1) fun x35_1 =>
  condK x35_1
  (
    purK (binA Tryz.prog H .add 3 x7 x6) fun x40_1 =>
    resK (call lim 110 [x0, x7, x40_1, x8, x2] H) fun x43_1 H =>
    purK (binA Tryz.prog H .mul 3 (.int .i64 2) x6) fun x47_1 =>
    purK (binA Tryz.prog H .add 3 x8 x47_1) fun x48_1 =>
    kn x8 x48_1 H)
  (
    k4 x6 x7 H)
theorem N81_8b_eq (ρ : Addr → Option Value) (call : CallF) (yc : YieldF) (lim k : Nat) (x0 x1 x2 x6 x7 x8 : AV) (H : Heap) (kn : KS) (k4 : KS) (k3 : KS) (R : List AV → Heap → Res) :
    evL (cx ρ) call yc false 81 lim k (Code.at [1, 1, 1, 1, 0, 0, 1, 0, 1, 0, 0, 0] c81) (sp 63 [(0, x0), (1, x1), (2, x2), (6, x6), (7, x7), (8, x8)]) H (kk (some [0, 1, 2, 6, 7, 8]) kn [(4, (some [0, 1, 2, 6, 7]), k4), (3, (some [0, 1, 2, 6]), k3), (2, none, (fun s H => R (([] : List Nat).map fun t => s.getD t (.tup [])) H))] R []) = N81_8b ρ call yc lim k x0 x1 x2 x6 x7 x8 H (fun x7 x8 H => kn (sp 63 [(0, x0), (1, x1), (2, x2), (6, x6), (7, x7), (8, x8)]) H) (fun x6 x7 H => k4 (sp 63 [(0, x0), (1, x1), (2, x2), (6, x6), (7, x7)]) H) := by
  kernel_rfl
noncomputable def N81_8 (ρ : Addr → Option Value) (call : CallF) (yc : YieldF) (lim k : Nat) (x0 x1 x2 x6 x7 x8 : AV) (H : Heap) (k4 : AV → AV → Heap → Res) : Res :=
  loopL (fun (x : AV × AV) H kn => N81_8b ρ call yc lim k x0 x1 x2 x6 x.1 x.2 H (fun x7 x8 H => kn (x7, x8) H) k4) k (x7, x8) H
theorem N81_8_eq (ρ : Addr → Option Value) (call : CallF) (yc : YieldF) (lim k : Nat) (x0 x1 x2 x6 x7 x8 : AV) (H : Heap) (kn : KS) (k4 : KS) (k3 : KS) (R : List AV → Heap → Res) :
    evL (cx ρ) call yc false 81 lim k (Code.at [1, 1, 1, 1, 0, 0, 1, 0, 1, 0, 0] c81) (sp 63 [(0, x0), (1, x1), (2, x2), (6, x6), (7, x7), (8, x8)]) H (kk (some [0, 1, 2, 6, 7]) kn [(4, (some [0, 1, 2, 6, 7]), k4), (3, (some [0, 1, 2, 6]), k3), (2, none, (fun s H => R (([] : List Nat).map fun t => s.getD t (.tup [])) H))] R []) = N81_8 ρ call yc lim k x0 x1 x2 x6 x7 x8 H (fun x6 x7 H => k4 (sp 63 [(0, x0), (1, x1), (2, x2), (6, x6), (7, x7)]) H) := by
  have e : Code.at [1, 1, 1, 1, 0, 0, 1, 0, 1, 0, 0] c81 = .loop (Code.at [1, 1, 1, 1, 0, 0, 1, 0, 1, 0, 0, 0] c81) := by kernel_rfl
  rw [e]
  unfold N81_8
  exact loop_node [0, 1, 2, 6, 7, 8] (fun x : AV × AV => (sp 63 [(0, x0), (1, x1), (2, x2), (6, x6), (7, (x.1)), (8, (x.2))])) (fun (x : AV × AV) H kn => N81_8b ρ call yc lim k x0 x1 x2 x6 x.1 x.2 H (fun x7 x8 H => kn (x7, x8) H) (fun x6 x7 H => k4 (sp 63 [(0, x0), (1, x1), (2, x2), (6, x6), (7, x7)]) H)) (by kernel_rfl) (fun x => by kernel_rfl) (fun x H kn => N81_8b_eq ρ call yc lim k x0 x1 x2 x6 (x.1) (x.2) H kn k4 k3 R) (x7, x8) (sp 63 [(0, x0), (1, x1), (2, x2), (6, x6), (7, x7), (8, x8)]) H (by kernel_rfl)
noncomputable def N81_5 (ρ : Addr → Option Value) (call : CallF) (yc : YieldF) (lim k : Nat) (x0 x1 x2 x6 x7 x8 : AV) (H : Heap) (kn : AV → Heap → Res) : Res :=
  N81_8 ρ call yc lim k x0 x1 x2 x6 x7 x8 H (fun x6_1 x7_1 H =>
    N81_6 ρ call yc lim k x0 x1 x2 x6_1 x7_1 H kn)
theorem N81_5_x (ρ : Addr → Option Value) (call : CallF) (yc : YieldF) (lim k : Nat) (J : CodeF) (x0 x1 x2 x6 x7 x8 : AV) (H : Heap) (kn : KS) (k3 : KS) (R : List AV → Heap → Res) :
    evX (cx ρ) call yc false 81 lim k J (Code.at [1, 1, 1, 1, 0, 0, 1, 0, 1] c81) (sp 63 [(0, x0), (1, x1), (2, x2), (6, x6), (7, x7), (8, x8)]) H (kk (some [0, 1, 2, 6]) kn [(3, (some [0, 1, 2, 6]), k3), (2, none, (fun s H => R (([] : List Nat).map fun t => s.getD t (.tup [])) H))] R []) =
  J (Code.at [1, 1, 1, 1, 0, 0, 1, 0, 1, 0, 0] c81) (sp 63 [(0, x0), (1, x1), (2, x2), (6, x6), (7, x7), (8, x8)]) H (kk (some [0, 1, 2, 6, 7]) (fun s H => J (Code.at [1, 1, 1, 1, 0, 0, 1, 0, 1, 1] c81) s H (kk (some [0, 1, 2, 6]) kn [(3, (some [0, 1, 2, 6]), k3), (2, none, (fun s H => R (([] : List Nat).map fun t => s.getD t (.tup [])) H))] R [])) [(4, (some [0, 1, 2, 6, 7]), (fun s H => J (Code.at [1, 1, 1, 1, 0, 0, 1, 0, 1, 1] c81) s H (kk (some [0, 1, 2, 6]) kn [(3, (some [0, 1, 2, 6]), k3), (2, none, (fun s H => R (([] : List Nat).map fun t => s.getD t (.tup [])) H))] R []))), (3, (some [0, 1, 2, 6]), k3), (2, none, (fun s H => R (([] : List Nat).map fun t => s.getD t (.tup [])) H))] R []) := by
  kernel_rfl
theorem N81_5_eq (ρ : Addr → Option Value) (call : CallF) (yc : YieldF) (lim k : Nat) (x0 x1 x2 x6 x7 x8 : AV) (H : Heap) (kn : KS) (k3 : KS) (R : List AV → Heap → Res) :
    evL (cx ρ) call yc false 81 lim k (Code.at [1, 1, 1, 1, 0, 0, 1, 0, 1] c81) (sp 63 [(0, x0), (1, x1), (2, x2), (6, x6), (7, x7), (8, x8)]) H (kk (some [0, 1, 2, 6]) kn [(3, (some [0, 1, 2, 6]), k3), (2, none, (fun s H => R (([] : List Nat).map fun t => s.getD t (.tup [])) H))] R []) = N81_5 ρ call yc lim k x0 x1 x2 x6 x7 x8 H (fun x6 H => kn (sp 63 [(0, x0), (1, x1), (2, x2), (6, x6)]) H) := by
  rw [evL_X, N81_5_x]
  simp only [← evL_X, N81_5, N81_6_eq, N81_8_eq]
noncomputable def N81_4b (ρ : Addr → Option Value) (call : CallF) (yc : YieldF) (lim k : Nat) (x0 x1 x2 x6 : AV) (H : Heap) (kn : AV → Heap → Res) (R : List AV → Heap → Res) : Res :=
  purK (binA Tryz.prog H .lss 3 x6 x1) fun x30_1 =>
  condK x30_1
  (
    purK (binA Tryz.prog H .mul 3 (.int .i64 2) x6) fun x32_1 =>
    N81_5 ρ call yc lim k x0 x1 x2 x6 (.int .i64 0) x32_1 H kn)
  (
    R [] H)
theorem N81_4b_x (ρ : Addr → Option Value) (call : CallF) (yc : YieldF) (lim k : Nat) (J : CodeF) (x0 x1 x2 x6 : AV) (H : Heap) (kn : KS) (R : List AV → Heap → Res) :
    evX (cx ρ) call yc false 81 lim k J (Code.at [1, 1, 1, 1, 0, 0] c81) (sp 63 [(0, x0), (1, x1), (2, x2), (6, x6)]) H (kk (some [0, 1, 2, 6]) kn [(2, none, (fun s H => R (([] : List Nat).map fun t => s.getD t (.tup [])) H))] R []) =
  purK (binA Tryz.prog H .lss 3 x6 x1) fun x30_1 =>
  condK x30_1
  (
    purK (binA Tryz.prog H .mul 3 (.int .i64 2) x6) fun x32_1 =>
    J (Code.at [1, 1, 1, 1, 0, 0, 1, 0, 1] c81) (sp 63 [(0, x0), (1, x1), (2, x2), (6, x6), (7, (.int .i64 0)), (8, x32_1)]) H (kk (some [0, 1, 2, 6]) kn [(3, (some [0, 1, 2, 6]), kn), (2, none, (fun s H => R (([] : List Nat).map fun t => s.getD t (.tup [])) H))] R []))
  (
    R [] H) := by
  kernel_rfl
theorem N81_4b_eq (ρ : Addr → Option Value) (call : CallF) (yc : YieldF) (lim k : Nat) (x0 x1 x2 x6 : AV) (H : Heap) (kn : KS) (R : List AV → Heap → Res) :
    evL (cx ρ) call yc false 81 lim k (Code.at [1, 1, 1, 1, 0, 0] c81) (sp 63 [(0, x0), (1, x1), (2, x2), (6, x6)]) H (kk (some [0, 1, 2, 6]) kn [(2, none, (fun s H => R (([] : List Nat).map fun t => s.getD t (.tup [])) H))] R []) = N81_4b ρ call yc lim k x0 x1 x2 x6 H (fun x6 H => kn (sp 63 [(0, x0), (1, x1), (2, x2), (6, x6)]) H) R := by
  rw [evL_X, N81_4b_x]
  simp only [← evL_X, N81_4b, N81_5_eq]
noncomputable def N81_4 (ρ : Addr → Option Value) (call : CallF) (yc : YieldF) (lim k : Nat) (x0 x1 x2 x6 : AV) (H : Heap) (R : List AV → Heap → Res) : Res :=
  loopL (fun (x : AV) H kn => N81_4b ρ call yc lim k x0 x1 x2 x H (fun x6 H => kn x6 H) R) k x6 H
theorem N81_4_eq (ρ : Addr → Option Value) (call : CallF) (yc : YieldF) (lim k : Nat) (x0 x1 x2 x6 : AV) (H : Heap) (R : List AV → Heap → Res) :
    evL (cx ρ) call yc false 81 lim k (Code.at [1, 1, 1, 1, 0] c81) (sp 63 [(0, x0), (1, x1), (2, x2), (6, x6)]) H (kk none (fun s H => R (([] : List Nat).map fun t => s.getD t (.tup [])) H) [(2, none, (fun s H => R (([] : List Nat).map fun t => s.getD t (.tup [])) H))] R []) = N81_4 ρ call yc lim k x0 x1 x2 x6 H R := by
  have e : Code.at [1, 1, 1, 1, 0] c81 = .loop (Code.at [1, 1, 1, 1, 0, 0] c81) := by kernel_rfl
  rw [e]
  unfold N81_4
  exact loop_node [0, 1, 2, 6] (fun x : AV => (sp 63 [(0, x0), (1, x1), (2, x2), (6, (x))])) (fun (x : AV) H kn => N81_4b ρ call yc lim k x0 x1 x2 x H (fun x6 H => kn x6 H) R) (by kernel_rfl) (fun x => by kernel_rfl) (fun x H kn => N81_4b_eq ρ call yc lim k x0 x1 x2 (x) H kn R) x6 (sp 63 [(0, x0), (1, x1), (2, x2), (6, x6)]) H (by kernel_rfl)
noncomputable def N81_3 (ρ : Addr → Option Value) (call : CallF) (yc : YieldF) (lim k : Nat) (x0 x1 x2 x6 : AV) (H : Heap) (R : List AV → Heap → Res) : Res :=
  N81_4 ρ call yc lim k x0 x1 x2 x6 H R
theorem N81_3_x (ρ : Addr → Option Value) (call : CallF) (yc : YieldF) (lim k : Nat) (J : CodeF) (x0 x1 x2 x6 : AV) (H : Heap) (R : List AV → Heap → Res) :
    evX (cx ρ) call yc false 81 lim k J (Code.at [1, 1, 1, 1] c81) (sp 63 [(0, x0), (1, x1), (2, x2), (6, x6)]) H (kk none (fun s H => R (([] : List Nat).map fun t => s.getD t (.tup [])) H) [] R []) =
  J (Code.at [1, 1, 1, 1, 0] c81) (sp 63 [(0, x0), (1, x1), (2, x2), (6, x6)]) H (kk none (fun s H => R (([] : List Nat).map fun t => s.getD t (.tup [])) H) [(2, none, (fun s H => R (([] : List Nat).map fun t => s.getD t (.tup [])) H))] R []) := by
  kernel_rfl
theorem N81_3_eq (ρ : Addr → Option Value) (call : CallF) (yc : YieldF) (lim k : Nat) (x0 x1 x2 x6 : AV) (H : Heap) (R : List AV → Heap → Res) :
    evL (cx ρ) call yc false 81 lim k (Code.at [1, 1, 1, 1] c81) (sp 63 [(0, x0), (1, x1), (2, x2), (6, x6)]) H (kk none (fun s H => R (([] : List Nat).map fun t => s.getD t (.tup [])) H) [] R []) = N81_3 ρ call yc lim k x0 x1 x2 x6 H R := by
  rw [evL_X, N81_3_x]
  simp only [← evL_X, N81_3, N81_4_eq]
noncomputable def N81_2 (ρ : Addr → Option Value) (call : CallF) (yc : YieldF) (lim k : Nat) (x0 x1 x2 x6 x7 : AV) (H : Heap) (R : List AV → Heap → Res) : Res :=
  resK (call lim 109 [x0, x7, x1, x2] H) fun x27_1 H =>
  N81_3 ρ call yc lim k x0 x1 x2 x6 H R
theorem N81_2_x (ρ : Addr → Option Value) (call : CallF) (yc : YieldF) (lim k : Nat) (J : CodeF) (x0 x1 x2 x6 x7 : AV) (H : Heap) (R : List AV → Heap → Res) :
    evX (cx ρ) call yc false 81 lim k J (Code.at [1, 1, 1] c81) (sp 63 [(0, x0), (1, x1), (2, x2), (6, x6), (7, x7)]) H (kk none (fun s H => R (([] : List Nat).map fun t => s.getD t (.tup [])) H) [] R []) =
  resK (call lim 109 [x0, x7, x1, x2] H) fun x27_1 H =>
  J (Code.at [1, 1, 1, 1] c81) (sp 63 [(0, x0), (1, x1), (2, x2), (6, x6)]) H (kk none (fun s H => R (([] : List Nat).map fun t => s.getD t (.tup [])) H) [] R []) := by
  kernel_rfl
theorem N81_2_eq (ρ : Addr → Option Value) (call : CallF) (yc : YieldF) (lim k : Nat) (x0 x1 x2 x6 x7 : AV) (H : Heap) (R : List AV → Heap → Res) :
    evL (cx ρ) call yc false 81 lim k (Code.at [1, 1, 1] c81) (sp 63 [(0, x0), (1, x1), (2, x2), (6, x6), (7, x7)]) H (kk none (fun s H => R (([] : List Nat).map fun t => s.getD t (.tup [])) H) [] R []) = N81_2 ρ call yc lim k x0 x1 x2 x6 x7 H R := by
  rw [evL_X, N81_2_x]
  simp only [← evL_X, N81_2, N81_3_eq]
noncomputable def N81_9b (ρ : Addr → Option Value) (call : CallF) (yc : YieldF) (lim k : Nat) (x0 x1 x2 x6 x7 x8 : AV) (H : Heap) (kn : AV → AV → Heap → Res) (k0 : AV → AV → AV → AV → AV → Heap → Res) : Res :=
  purK (binA Tryz.prog H .leq 3 x8 x1) fun x13_1 =>
  condK x13_1
  (
    resK (call lim 109 [x0, x7, x8, x2] H) fun x18_1 H =>
    purK (binA Tryz.prog H .add 3 x8 x6) fun x22_1 =>
    kn x8 x22_1 H)
  (
    k0 x0 x1 x2 x6 x7 H)
theorem N81_9b_eq (ρ : Addr → Option Value) (call : CallF) (yc : YieldF) (lim k : Nat) (x0 x1 x2 x6 x7 x8 : AV) (H : Heap) (kn : KS) (k0 : KS) (R : List AV → Heap → Res) :
    evL (cx ρ) call yc false 81 lim k (Code.at [1, 1, 0, 0, 0] c81) (sp 63 [(0, x0), (1, x1), (2, x2), (6, x6), (7, x7), (8, x8)]) H (kk (some [0, 1, 2, 6, 7, 8]) kn [(0, (some [0, 1, 2, 6, 7]), k0)] R []) = N81_9b ρ call yc lim k x0 x1 x2 x6 x7 x8 H (fun x7 x8 H => kn (sp 63 [(0, x0), (1, x1), (2, x2), (6, x6), (7, x7), (8, x8)]) H) (fun x0 x1 x2 x6 x7 H => k0 (sp 63 [(0, x0), (1, x1), (2, x2), (6, x6), (7, x7)]) H) := by
  kernel_rfl
noncomputable def N81_9 (ρ : Addr → Option Value) (call : CallF) (yc : YieldF) (lim k : Nat) (x0 x1 x2 x6 x7 x8 : AV) (H : Heap) (k0 : AV → AV → AV → AV → AV → Heap → Res) : Res :=
  loopL (fun (x : AV × AV) H kn => N81_9b ρ call yc lim k x0 x1 x2 x6 x.1 x.2 H (fun x7 x8 H => kn (x7, x8) H) k0) k (x7, x8) H
theorem N81_9_eq (ρ : Addr → Option Value) (call : CallF) (yc : YieldF) (lim k : Nat) (x0 x1 x2 x6 x7 x8 : AV) (H : Heap) (kn : KS) (k0 : KS) (R : List AV → Heap → Res) :
    evL (cx ρ) call yc false 81 lim k (Code.at [1, 1, 0, 0] c81) (sp 63 [(0, x0), (1, x1), (2, x2), (6, x6), (7, x7), (8, x8)]) H (kk (some [0, 1, 2, 6, 7]) kn [(0, (some [0, 1, 2, 6, 7]), k0)] R []) = N81_9 ρ call yc lim k x0 x1 x2 x6 x7 x8 H (fun x0 x1 x2 x6 x7 H => k0 (sp 63 [(0, x0), (1, x1), (2, x2), (6, x6), (7, x7)]) H) := by
  have e : Code.at [1, 1, 0, 0] c81 = .loop (Code.at [1, 1, 0, 0, 0] c81) := by kernel_rfl
  rw [e]
  unfold N81_9
  exact loop_node [0, 1, 2, 6, 7, 8] (fun x : AV × AV => (sp 63 [(0, x0), (1, x1), (2, x2), (6, x6), (7, (x.1)), (8, (x.2))])) (fun (x : AV × AV) H kn => N81_9b ρ call yc lim k x0 x1 x2 x6 x.1 x.2 H (fun x7 x8 H => kn (x7, x8) H) (fun x0 x1 x2 x6 x7 H => k0 (sp 63 [(0, x0), (1, x1), (2, x2), (6, x6), (7, x7)]) H)) (by kernel_rfl) (fun x => by kernel_rfl) (fun x H kn => N81_9b_eq ρ call yc lim k x0 x1 x2 x6 (x.1) (x.2) H kn k0 R) (x7, x8) (sp 63 [(0, x0), (1, x1), (2, x2), (6, x6), (7, x7), (8, x8)]) H (by kernel_rfl)
noncomputable def N81_1 (ρ : Addr → Option Value) (call : CallF) (yc : YieldF) (lim k : Nat) (x0 x1 x2 x6 x7 x8 : AV) (H : Heap) (R : List AV → Heap → Res) : Res :=
  N81_9 ρ call yc lim k x0 x1 x2 x6 x7 x8 H (fun x0_1 x1_1 x2_1 x6_1 x7_1 H =>
    N81_2 ρ call yc lim k x0_1 x1_1 x2_1 x6_1 x7_1 H R)
theorem N81_1_x (ρ : Addr → Option Value) (call : CallF) (yc : YieldF) (lim k : Nat) (J : CodeF) (x0 x1 x2 x6 x7 x8 : AV) (H : Heap) (R : List AV → Heap → Res) :
    evX (cx ρ) call yc false 81 lim k J (Code.at [1, 1] c81) (sp 63 [(0, x0), (1, x1), (2, x2), (6, x6), (7, x7), (8, x8)]) H (kk none (fun s H => R (([] : List Nat).map fun t => s.getD t (.tup [])) H) [] R []) =
  J (Code.at [1, 1, 0, 0] c81) (sp 63 [(0, x0), (1, x1), (2, x2), (6, x6), (7, x7), (8, x8)]) H (kk (some [0, 1, 2, 6, 7]) (fun s H => J (Code.at [1, 1, 1] c81) s H (kk none (fun s H => R (([] : List Nat).map fun t => s.getD t (.tup [])) H) [] R [])) [(0, (some [0, 1, 2, 6, 7]), (fun s H => J (Code.at [1, 1, 1] c81) s H (kk none (fun s H => R (([] : List Nat).map fun t => s.getD t (.tup [])) H) [] R [])))] R []) := by
  kernel_rfl
theorem N81_1_eq (ρ : Addr → Option Value) (call : CallF) (yc : YieldF) (lim k : Nat) (x0 x1 x2 x6 x7 x8 : AV) (H : Heap) (R : List AV → Heap → Res) :
    evL (cx ρ) call yc false 81 lim k (Code.at [1, 1] c81) (sp 63 [(0, x0), (1, x1), (2, x2), (6, x6), (7, x7), (8, x8)]) H (kk none (fun s H => R (([] : List Nat).map fun t => s.getD t (.tup [])) H) [] R []) = N81_1 ρ call yc lim k x0 x1 x2 x6 x7 x8 H R := by
  rw [evL_X, N81_1_x]
  simp only [← evL_X, N81_1, N81_2_eq, N81_9_eq]
noncomputable def L81 (ρ : Addr → Option Value) (call : CallF) (yc : YieldF) (lim k : Nat) (x0 x1 x2 : AV) (H : Heap) : Res :=
  N81_1 ρ call yc lim k x0 x1 x2 (.int .i64 20) (.int .i64 0) (.int .i64 20) H retK
theorem L81_x (ρ : Addr → Option Value) (call : CallF) (yc : YieldF) (lim k : Nat) (J : CodeF) (x0 x1 x2 : AV) (H : Heap) :
    evX (cx ρ) call yc false 81 lim k J c81 [x0, x1, x2, (.tup []), (.tup []), (.tup []), (.tup []), (.tup []), (.tup []), (.tup []), (.tup []), (.tup []), (.tup []), (.tup []), (.tup []), (.tup []), (.tup []), (.tup []), (.tup []), (.tup []), (.tup []), (.tup []), (.tup []), (.tup []), (.tup []), (.tup []), (.tup []), (.tup []), (.tup []), (.tup []), (.tup []), (.tup []), (.tup []), (.tup []), (.tup []), (.tup []), (.tup []), (.tup []), (.tup []), (.tup []), (.tup []), (.tup []), (.tup []), (.tup []), (.tup []), (.tup []), (.tup []), (.tup []), (.tup []), (.tup []), (.tup []), (.tup []), (.tup []), (.tup []), (.tup []), (.tup []), (.tup []), (.tup []), (.tup []), (.tup []), (.tup []), (.tup []), (.tup [])] H (kk none (fun s H => retK (([] : List Nat).map fun t => s.getD t (.tup [])) H) [] retK []) =
  J (Code.at [1, 1] c81) (sp 63 [(0, x0), (1, x1), (2, x2), (6, (.int .i64 20)), (7, (.int .i64 0)), (8, (.int .i64 20))]) H (kk none (fun s H => retK (([] : List Nat).map fun t => s.getD t (.tup [])) H) [] retK []) := by
  kernel_rfl
theorem G81 (ρ : Addr → Option Value) (call : CallF) (yc : YieldF) (lim k : Nat) (x0 x1 x2 : AV) (H : Heap) :
    evL (cx ρ) call yc false 81 lim k c81 [x0, x1, x2, (.tup []), (.tup []), (.tup []), (.tup []), (.tup []), (.tup []), (.tup []), (.tup []), (.tup []), (.tup []), (.tup []), (.tup []), (.tup []), (.tup []), (.tup []), (.tup []), (.tup []), (.tup []), (.tup []), (.tup []), (.tup []), (.tup []), (.tup []), (.tup []), (.tup []), (.tup []), (.tup []), (.tup []), (.tup []), (.tup []), (.tup []), (.tup []), (.tup []), (.tup []), (.tup []), (.tup []), (.tup []), (.tup []), (.tup []), (.tup []), (.tup []), (.tup []), (.tup []), (.tup []), (.tup []), (.tup []), (.tup []), (.tup []), (.tup []), (.tup []), (.tup []), (.tup []), (.tup []), (.tup []), (.tup []), (.tup []), (.tup []), (.tup []), (.tup []), (.tup [])] H (kk none (fun s H => retK (([] : List Nat).map fun t => s.getD t (.tup [])) H) [] retK []) = L81 ρ call yc lim k x0 x1 x2 H := by
  rw [evL_X, L81_x]
  simp only [← evL_X, L81, N81_1_eq]
theorem E81 (ρ : Addr → Option Value) (k lim : Nat) (x0 x1 x2 : AV) (H : Heap) : evCall (cx ρ) (k + 1) lim 81 [x0, x1, x2] H = L81 ρ (evCall (cx ρ) k) (evCY (cx ρ) k).2 lim k x0 x1 x2 H := by
  rw [evCall_body (cx ρ) k lim 81 _ H Tryz.f81 c81 [] (by kernel_rfl) (by kernel_rfl) (by kernel_rfl) (by kernel_rfl) (by kernel_rfl)]
  exact G81 ρ (evCall (cx ρ) k) (evCY (cx ρ) k).2 lim k x0 x1 x2 H
-- haycroft/tail.New
noncomputable def c89 : Code := Code.of Tryz.prog 89
noncomputable def N89_1 (ρ : Addr → Option Value) (call : CallF) (yc : YieldF) (lim k : Nat) (x0 x1 x6 : AV) (H : Heap) (R : List AV → Heap → Res) : Res :=
  purK (bldA [.int .i64 0, .int .i64 0, .nilp] [(0, 1, x0), (1, 1, x1), (2, 1, x6)]) fun x30_1 =>
  effK H (boxA H 161 x30_1) fun x31_1 H =>
  resK (call lim 119 [x31_1, (.int .i64 0)] H) fun x34_1 H =>
  R [x31_1, x34_1] H
theorem N89_1_eq (ρ : Addr → Option Value) (call : CallF) (yc : YieldF) (lim k : Nat) (x0 x1 x6 : AV) (H : Heap) (R : List AV → Heap → Res) :
    evL (cx ρ) call yc false 89 lim k (Code.at [1, 1, 1, 1] c89) (sp 35 [(0, x0), (1, x1), (6, x6)]) H (kk none (fun s H => R (([4, 5] : List Nat).map fun t => s.getD t (.tup [])) H) [] R [4, 5]) = N89_1 ρ call yc lim k x0 x1 x6 H R := by
  kernel_rfl
noncomputable def L89 (ρ : Addr → Option Value) (call : CallF) (yc : YieldF) (lim k : Nat) (x0 x1 : AV) (H : Heap) : Res :=
  resK (call lim 37 [x0] H) fun x10 H =>
  purK (unA .not x10) fun x11 =>
  purK (gPur (wantV x11 false) (some x1)) fun x13 =>
  purK (gPur (wantV x11 false) (binA Tryz.prog H .lss 3 x13 (.int .i64 1))) fun x14 =>
  purK (pickA x11 (.bool true) x14) fun x15 =>
  purK (gPur (wantV x15 false) (some x1)) fun x17 =>
  purK (gPur (wantV x15 false) (binA Tryz.prog H .gtr 3 x17 (.int .i64 64))) fun x18 =>
  purK (pickA x15 (.bool true) x18) fun x19 =>
  condK x19
  (
    retK [.nilp, (.int .i64 1)] H)
  (
    resK (call lim 95 [(.int .i64 1)] H) fun x21 H =>
    purK (extA 0 x21) fun x22 =>
    purK (extA 1 x21) fun x23 =>
    purK (binA Tryz.prog H .neq 24 x23 (.int .i64 0)) fun x25 =>
    condK x25
    (
      retK [.nilp, x23] H)
    (
      N89_1 ρ call yc lim k x0 x1 x22 H retK))
theorem L89_x (ρ : Addr → Option Value) (call : CallF) (yc : YieldF) (lim k : Nat) (J : CodeF) (x0 x1 : AV) (H : Heap) :
    evX (cx ρ) call yc false 89 lim k J c89 [x0, x1, (.tup []), (.tup []), (.tup []), (.tup []), (.tup []), (.tup []), (.tup []), (.tup []), (.tup []), (.tup []), (.tup []), (.tup []), (.tup []), (.tup []), (.tup []), (.tup []), (.tup []), (.tup []), (.tup []), (.tup []), (.tup []), (.tup []), (.tup []), (.tup []), (.tup []), (.tup []), (.tup []), (.tup []), (.tup []), (.tup []), (.tup []), (.tup []), (.tup [])] H (kk none (fun s H => retK (([4, 5] : List Nat).map fun t => s.getD t (.tup [])) H) [] retK [4, 5]) =
  resK (call lim 37 [x0] H) fun x10 H =>
  purK (unA .not x10) fun x11 =>
  purK (gPur (wantV x11 false) (some x1)) fun x13 =>
  purK (gPur (wantV x11 false) (binA Tryz.prog H .lss 3 x13 (.int .i64 1))) fun x14 =>
  purK (pickA x11 (.bool true) x14) fun x15 =>
  purK (gPur (wantV x15 false) (some x1)) fun x17 =>
  purK (gPur (wantV x15 false) (binA Tryz.prog H .gtr 3 x17 (.int .i64 64))) fun x18 =>
  purK (pickA x15 (.bool true) x18) fun x19 =>
  condK x19
  (
    retK [.nilp, (.int .i64 1)] H)
  (
    resK (call lim 95 [(.int .i64 1)] H) fun x21 H =>
    purK (extA 0 x21) fun x22 =>
    purK (extA 1 x21) fun x23 =>
    purK (binA Tryz.prog H .neq 24 x23 (.int .i64 0)) fun x25 =>
    condK x25
    (
      retK [.nilp, x23] H)
    (
      J (Code.at [1, 1, 1, 1] c89) (sp 35 [(0, x0), (1, x1), (6, x22)]) H (kk none (fun s H => retK (([4, 5] : List Nat).map fun t => s.getD t (.tup [])) H) [] retK [4, 5]))) := by
  kernel_rfl
theorem G89 (ρ : Addr → Option Value) (call : CallF) (yc : YieldF) (lim k : Nat) (x0 x1 : AV) (H : Heap) :
    evL (cx ρ) call yc false 89 lim k c89 [x0, x1, (.tup []), (.tup []), (.tup []), (.tup []), (.tup []), (.tup []), (.tup []), (.tup []), (.tup []), (.tup []), (.tup []), (.tup []), (.tup []), (.tup []), (.tup []), (.tup []), (.tup []), (.tup []), (.tup []), (.tup []), (.tup []), (.tup []), (.tup []), (.tup []), (.tup []), (.tup []), (.tup []), (.tup []), (.tup []), (.tup []), (.tup []), (.tup []), (.tup [])] H (kk none (fun s H => retK (([4, 5] : List Nat).map fun t => s.getD t (.tup [])) H) [] retK [4, 5]) = L89 ρ call yc lim k x0 x1 H := by
  rw [evL_X, L89_x]
  simp only [← evL_X, L89, N89_1_eq]
theorem E89 (ρ : Addr → Option Value) (k lim : Nat) (x0 x1 : AV) (H : Heap) : evCall (cx ρ) (k + 1) lim 89 [x0, x1] H = L89 ρ (evCall (cx ρ) k) (evCY (cx ρ) k).2 lim k x0 x1 H := by
  rw [evCall_body (cx ρ) k lim 89 _ H Tryz.f89 c89 [4, 5] (by kernel_rfl) (by kernel_rfl) (by kernel_rfl) (by kernel_rfl) (by kernel_rfl)]
  exact G89 ρ (evCall (cx ρ) k) (evCY (cx ρ) k).2 lim k x0 x1 H
-- haycroft/pages.New
noncomputable def c90 : Code := Code.of Tryz.prog 90
noncomputable def N90_1 (ρ : Addr → Option Value) (call : CallF) (yc : YieldF) (lim k : Nat) (x0 x1 x6 x7 : AV) (H : Heap) (R : List AV → Heap → Res) : Res :=
  purK (binA Tryz.prog H .neq 24 x7 (.int .i64 0)) fun x29_1 =>
  condK x29_1
  (
    R [.nilp, x7] H)
  (
    resK (call lim 95 [x1] H) fun x33_1 H =>
    purK (extA 0 x33_1) fun x34_1 =>
    purK (extA 1 x33_1) fun x35_1 =>
    purK (binA Tryz.prog H .neq 24 x35_1 (.int .i64 0)) fun x37_1 =>
    condK x37_1
    (
      R [.nilp, x35_1] H)
    (
      purK (bldA [.int .i64 0, .nilp, .nilp] [(0, 1, x0), (1, 1, x6), (2, 1, x34_1)]) fun x42_1 =>
      effK H (boxA H 222 x42_1) fun x43_1 H =>
      R [x43_1, (.int .i64 0)] H))
theorem N90_1_eq (ρ : Addr → Option Value) (call : CallF) (yc : YieldF) (lim k : Nat) (x0 x1 x6 x7 : AV) (H : Heap) (R : List AV → Heap → Res) :
    evL (cx ρ) call yc false 90 lim k (Code.at [1, 1, 1] c90) (sp 44 [(0, x0), (1, x1), (6, x6), (7, x7)]) H (kk none (fun s H => R (([4, 5] : List Nat).map fun t => s.getD t (.tup [])) H) [] R [4, 5]) = N90_1 ρ call yc lim k x0 x1 x6 x7 H R := by
  kernel_rfl
noncomputable def L90 (ρ : Addr → Option Value) (call : CallF) (yc : YieldF) (lim k : Nat) (x0 x1 : AV) (H : Heap) : Res :=
  resK (call lim 37 [x0] H) fun x10 H =>
  purK (unA .not x10) fun x11 =>
  purK (gPur (wantV x11 false) (some x1)) fun x13 =>
  purK (gPur (wantV x11 false) (binA Tryz.prog H .lss 3 x13 (.int .i64 2))) fun x14 =>
  purK (pickA x11 (.bool true) x14) fun x15 =>
  purK (gPur (wantV x15 false) (some x1)) fun x17 =>
  purK (gPur (wantV x15 false) (binA Tryz.prog H .gtr 3 x17 (.int .i64 8))) fun x18 =>
  purK (pickA x15 (.bool true) x18) fun x19 =>
  condK x19
  (
    retK [.nilp, (.int .i64 1)] H)
  (
    resK (call lim 27 [x0] H) fun x23 H =>
    purK (binA Tryz.prog H .mul 3 x1 x23) fun x24 =>
    resK (call lim 95 [x24] H) fun x25 H =>
    purK (extA 0 x25) fun x26 =>
    purK (extA 1 x25) fun x27 =>
    N90_1 ρ call yc lim k x0 x1 x26 x27 H retK)
theorem L90_x (ρ : Addr → Option Value) (call : CallF) (yc : YieldF) (lim k : Nat) (J : CodeF) (x0 x1 : AV) (H : Heap) :
    evX (cx ρ) call yc false 90 lim k J c90 [x0, x1, (.tup []), (.tup []), (.tup []), (.tup []), (.tup []), (.tup []), (.tup []), (.tup []), (.tup []), (.tup []), (.tup []), (.tup []), (.tup []), (.tup []), (.tup []), (.tup []), (.tup []), (.tup []), (.tup []), (.tup []), (.tup []), (.tup []), (.tup []), (.tup []), (.tup []), (.tup []), (.tup []), (.tup []), (.tup []), (.tup []), (.tup []), (.tup []), (.tup []), (.tup []), (.tup []), (.tup []), (.tup []), (.tup []), (.tup []), (.tup []), (.tup []), (.tup [])] H (kk none (fun s H => retK (([4, 5] : List Nat).map fun t => s.getD t (.tup [])) H) [] retK [4, 5]) =
  resK (call lim 37 [x0] H) fun x10 H =>
  purK (unA .not x10) fun x11 =>
  purK (gPur (wantV x11 false) (some x1)) fun x13 =>
  purK (gPur (wantV x11 false) (binA Tryz.prog H .lss 3 x13 (.int .i64 2))) fun x14 =>
  purK (pickA x11 (.bool true) x14) fun x15 =>
  purK (gPur (wantV x15 false) (some x1)) fun x17 =>
  purK (gPur (wantV x15 false) (binA Tryz.prog H .gtr 3 x17 (.int .i64 8))) fun x18 =>
  purK (pickA x15 (.bool true) x18) fun x19 =>
  condK x19
  (
    retK [.nilp, (.int .i64 1)] H)
  (
    resK (call lim 27 [x0] H) fun x23 H =>
    purK (binA Tryz.prog H .mul 3 x1 x23) fun x24 =>
    resK (call lim 95 [x24] H) fun x25 H =>
    purK (extA 0 x25) fun x26 =>
    purK (extA 1 x25) fun x27 =>
    J (Code.at [1, 1, 1] c90) (sp 44 [(0, x0), (1, x1), (6, x26), (7, x27)]) H (kk none (fun s H => retK (([4, 5] : List Nat).map fun t => s.getD t (.tup [])) H) [] retK [4, 5])) := by
  kernel_rfl
theorem G90 (ρ : Addr → Option Value) (call : CallF) (yc : YieldF) (lim k : Nat) (x0 x1 : AV) (H : Heap) :
    evL (cx ρ) call yc false 90 lim k c90 [x0, x1, (.tup []), (.tup []), (.tup []), (.tup []), (.tup []), (.tup []), (.tup []), (.tup []), (.tup []), (.tup []), (.tup []), (.tup []), (.tup []), (.tup []), (.tup []), (.tup []), (.tup []), (.tup []), (.tup []), (.tup []), (.tup []), (.tup []), (.tup []), (.tup []), (.tup []), (.tup []), (.tup []), (.tup []), (.tup []), (.tup []), (.tup []), (.tup []), (.tup []), (.tup []), (.tup []), (.tup []), (.tup []), (.tup []), (.tup []), (.tup []), (.tup []), (.tup [])] H (kk none (fun s H => retK (([4, 5] : List Nat).map fun t => s.getD t (.tup [])) H) [] retK [4, 5]) = L90 ρ call yc lim k x0 x1 H := by
  rw [evL_X, L90_x]
  simp only [← evL_X, L90, N90_1_eq]
theorem E90 (ρ : Addr → Option Value) (k lim : Nat) (x0 x1 : AV) (H : Heap) : evCall (cx ρ) (k + 1) lim 90 [x0, x1] H = L90 ρ (evCall (cx ρ) k) (evCY (cx ρ) k).2 lim k x0 x1 H := by
  rw [evCall_body (cx ρ) k lim 90 _ H Tryz.f90 c90 [4, 5] (by kernel_rfl) (by kernel_rfl) (by kernel_rfl) (by kernel_rfl) (by kernel_rfl)]
  exact G90 ρ (evCall (cx ρ) k) (evCY (cx ρ) k).2 lim k x0 x1 H
-- haycroft/epoch.New
noncomputable def c91 : Code := Code.of Tryz.prog 91
noncomputable def N91_1 (ρ : Addr → Option Value) (call : CallF) (yc : YieldF) (lim k : Nat) (x4 : AV) (H : Heap) (R : List AV → Heap → Res) : Res :=
  purK (bldA [.nilp] [(0, 1, x4)]) fun x24_1 =>
  effK H (boxA H 224 x24_1) fun x25_1 H =>
  R [x25_1, (.int .i64 0)] H
theorem N91_1_eq (ρ : Addr → Option Value) (call : CallF) (yc : YieldF) (lim k : Nat) (x4 : AV) (H : Heap) (R : List AV → Heap → Res) :
    evL (cx ρ) call yc false 91 lim k (Code.at [1, 1, 1, 1, 1] c91) (sp 26 [(4, x4)]) H (kk none (fun s H => R (([2, 3] : List Nat).map fun t => s.getD t (.tup [])) H) [] R [2, 3]) = N91_1 ρ call yc lim k x4 H R := by
  kernel_rfl
noncomputable def L91 (ρ : Addr → Option Value) (call : CallF) (yc : YieldF) (lim k : Nat) (x0 : AV) (H : Heap) : Res :=
  purK (binA Tryz.prog H .lss 3 x0 (.int .i64 1)) fun x7 =>
  purK (gPur (wantV x7 false) (some x0)) fun x9 =>
  purK (gPur (wantV x7 false) (binA Tryz.prog H .gtr 3 x9 (.int .i64 8))) fun x10 =>
  purK (pickA x7 (.bool true) x10) fun x11 =>
  condK x11
  (
    retK [.nilp, (.int .i64 1)] H)
  (
    purK (binA Tryz.prog H .add 3 (.int .i64 1) x0) fun x14 =>
    resK (call lim 95 [x14] H) fun x15 H =>
    purK (extA 0 x15) fun x16 =>
    purK (extA 1 x15) fun x17 =>
    purK (binA Tryz.prog H .neq 24 x17 (.int .i64 0)) fun x19 =>
    condK x19
    (
      retK [.nilp, x17] H)
    (
      resK (call lim 122 [x16, (.int .i64 0), (.int .u64 1)] H) fun x22 H =>
      N91_1 ρ call yc lim k x16 H retK))
theorem L91_x (ρ : Addr → Option Value) (call : CallF) (yc : YieldF) (lim k : Nat) (J : CodeF) (x0 : AV) (H : Heap) :
    evX (cx ρ) call yc false 91 lim k J c91 [x0, (.tup []), (.tup []), (.tup []), (.tup []), (.tup []), (.tup []), (.tup []), (.tup []), (.tup []), (.tup []), (.tup []), (.tup []), (.tup []), (.tup []), (.tup []), (.tup []), (.tup []), (.tup []), (.tup []), (.tup []), (.tup []), (.tup []), (.tup []), (.tup []), (.tup [])] H (kk none (fun s H => retK (([2, 3] : List Nat).map fun t => s.getD t (.tup [])) H) [] retK [2, 3]) =
  purK (binA Tryz.prog H .lss 3 x0 (.int .i64 1)) fun x7 =>
  purK (gPur (wantV x7 false) (some x0)) fun x9 =>
  purK (gPur (wantV x7 false) (binA Tryz.prog H .gtr 3 x9 (.int .i64 8))) fun x10 =>
  purK (pickA x7 (.bool true) x10) fun x11 =>
  condK x11
  (
    retK [.nilp, (.int .i64 1)] H)
  (
    purK (binA Tryz.prog H .add 3 (.int .i64 1) x0) fun x14 =>
    resK (call lim 95 [x14] H) fun x15 H =>
    purK (extA 0 x15) fun x16 =>
    purK (extA 1 x15) fun x17 =>
    purK (binA Tryz.prog H .neq 24 x17 (.int .i64 0)) fun x19 =>
    condK x19
    (
      retK [.nilp, x17] H)
    (
      resK (call lim 122 [x16, (.int .i64 0), (.int .u64 1)] H) fun x22 H =>
      J (Code.at [1, 1, 1, 1, 1] c91) (sp 26 [(4, x16)]) H (kk none (fun s H => retK (([2, 3] : List Nat).map fun t => s.getD t (.tup [])) H) [] retK [2, 3]))) := by
  kernel_rfl
theorem G91 (ρ : Addr → Option Value) (call : CallF) (yc : YieldF) (lim k : Nat) (x0 : AV) (H : Heap) :
    evL (cx ρ) call yc false 91 lim k c91 [x0, (.tup []), (.tup []), (.tup []), (.tup []), (.tup []), (.tup []), (.tup []), (.tup []), (.tup []), (.tup []), (.tup []), (.tup []), (.tup []), (.tup []), (.tup []), (.tup []), (.tup []), (.tup []), (.tup []), (.tup []), (.tup []), (.tup []), (.tup []), (.tup []), (.tup [])] H (kk none (fun s H => retK (([2, 3] : List Nat).map fun t => s.getD t (.tup [])) H) [] retK [2, 3]) = L91 ρ call yc lim k x0 H := by
  rw [evL_X, L91_x]
  simp only [← evL_X, L91, N91_1_eq]
theorem E91 (ρ : Addr → Option Value) (k lim : Nat) (x0 : AV) (H : Heap) : evCall (cx ρ) (k + 1) lim 91 [x0] H = L91 ρ (evCall (cx ρ) k) (evCY (cx ρ) k).2 lim k x0 H := by
  rw [evCall_body (cx ρ) k lim 91 _ H Tryz.f91 c91 [2, 3] (by kernel_rfl) (by kernel_rfl) (by kernel_rfl) (by kernel_rfl) (by kernel_rfl)]
  exact G91 ρ (evCall (cx ρ) k) (evCY (cx ρ) k).2 lim k x0 H
-- haycroft/marks.New
noncomputable def c92 : Code := Code.of Tryz.prog 92
noncomputable def L92 (ρ : Addr → Option Value) (call : CallF) (yc : YieldF) (lim k : Nat) (H : Heap) : Res :=
  resK (call lim 95 [(.int .i64 5)] H) fun x4 H =>
  purK (extA 0 x4) fun x5 =>
  purK (extA 1 x4) fun x6 =>
  purK (bldA [.nilp] [(0, 1, x5)]) fun x8 =>
  effK H (boxA H 226 x8) fun x9 H =>
  retK [x9] H
theorem G92 (ρ : Addr → Option Value) (call : CallF) (yc : YieldF) (lim k : Nat) (H : Heap) :
    evL (cx ρ) call yc false 92 lim k c92 [(.tup []), (.tup []), (.tup []), (.tup []), (.tup []), (.tup []), (.tup []), (.tup []), (.tup []), (.tup [])] H (kk none (fun s H => retK (([0] : List Nat).map fun t => s.getD t (.tup [])) H) [] retK [0]) = L92 ρ call yc lim k H := by
  kernel_rfl
theorem E92 (ρ : Addr → Option Value) (k lim : Nat) (H : Heap) : evCall (cx ρ) (k + 1) lim 92 [] H = L92 ρ (evCall (cx ρ) k) (evCY (cx ρ) k).2 lim k H := by
  rw [evCall_body (cx ρ) k lim 92 _ H Tryz.f92 c92 [0] (by kernel_rfl) (by kernel_rfl) (by kernel_rfl) (by kernel_rfl) (by kernel_rfl)]
  exact G92 ρ (evCall (cx ρ) k) (evCY (cx ρ) k).2 lim k H
-- haycroft/drain.New
noncomputable def c93 : Code := Code.of Tryz.prog 93
noncomputable def L93 (ρ : Addr → Option Value) (call : CallF) (yc : YieldF) (lim k : Nat) (H : Heap) : Res :=
  purK (bldA [.nils] []) fun x1 =>
  effK H (boxA H 229 x1) fun x2 H =>
  retK [x2] H
theorem G93 (ρ : Addr → Option Value) (call : CallF) (yc : YieldF) (lim k : Nat) (H : Heap) :
    evL (cx ρ) call yc false 93 lim k c93 [(.tup []), (.tup []), (.tup [])] H (kk none (fun s H => retK (([0] : List Nat).map fun t => s.getD t (.tup [])) H) [] retK [0]) = L93 ρ call yc lim k H := by
  kernel_rfl
theorem E93 (ρ : Addr → Option Value) (k lim : Nat) (H : Heap) : evCall (cx ρ) (k + 1) lim 93 [] H = L93 ρ (evCall (cx ρ) k) (evCY (cx ρ) k).2 lim k H := by
  rw [evCall_body (cx ρ) k lim 93 _ H Tryz.f93 c93 [0] (by kernel_rfl) (by kernel_rfl) (by kernel_rfl) (by kernel_rfl) (by kernel_rfl)]
  exact G93 ρ (evCall (cx ρ) k) (evCY (cx ρ) k).2 lim k H
-- (*haycroft/pages.Buffer).Open
noncomputable def c94 : Code := Code.of Tryz.prog 94
noncomputable def N94_1 (ρ : Addr → Option Value) (call : CallF) (yc : YieldF) (lim k : Nat) (x0 x5 x6 : AV) (H : Heap) (R : List AV → Heap → Res) : Res :=
  purK (unA .not x6) fun x34_1 =>
  condK x34_1
  (
    R [(.int .i64 10)] H)
  (
    purK (nilChkA x0) fun x36_1 =>
    purK (addA 0 x36_1) fun x37_1 =>
    purK (ld1 ρ H x37_1) fun x38_1 =>
    resK (call lim 27 [x38_1] H) fun x39_1 H =>
    purK (nilChkA x0) fun x41_1 =>
    purK (addA 1 x41_1) fun x42_1 =>
    purK (ld1 ρ H x42_1) fun x43_1 =>
    purK (binA Tryz.prog H .mul 3 x5 x39_1) fun x46_1 =>
    effK H (mkS H 52 1 8 [.int .u64 0] x39_1 x39_1) fun x48_1 H => bif (agn (binA Tryz.prog H .mul 3 x5 x39_1) x46_1 && (agn (ld1 ρ H x42_1) x43_1 && true)) then
      resK (call lim 123 [x43_1, x46_1, x48_1] H) fun x49_1 H =>
      R [x49_1] H
    else none)
theorem N94_1_eq (ρ : Addr → Option Value) (call : CallF) (yc : YieldF) (lim k : Nat) (x0 x5 x6 : AV) (H : Heap) (R : List AV → Heap → Res) :
    evL (cx ρ) call yc false 94 lim k (Code.at [1, 1, 1, 1] c94) (sp 50 [(0, x0), (5, x5), (6, x6)]) H (kk none (fun s H => R (([4] : List Nat).map fun t => s.getD t (.tup [])) H) [] R [4]) = N94_1 ρ call yc lim k x0 x5 x6 H R := by
  kernel_rfl
noncomputable def L94 (ρ : Addr → Option Value) (call : CallF) (yc : YieldF) (lim k : Nat) (x0 x1 : AV) (H : Heap) : Res :=
  purK (binA Tryz.prog H .eql 101 x0 .nilp) fun x11 =>
  condK x11
  (
    retK [(.int .i64 2)] H)
  (
    purK (binA Tryz.prog H .lss 3 x1 (.int .i64 0)) fun x14 =>
    condK x14
    (
      retK [(.int .i64 1)] H)
    (
      resK (call lim 124 [x0, x1] H) fun x18 H =>
      condK x18
      (
        retK [(.int .i64 8)] H)
      (
        resK (call lim 125 [x0, x1] H) fun x21 H =>
        purK (nilChkA x0) fun x24 =>
        purK (addA 2 x24) fun x25 =>
        purK (ld1 ρ H x25) fun x26 =>
        resK (call lim 127 [x1] H) fun x29 H => bif (agn (ld1 ρ H x25) x26 && true) then
          resK (call lim 126 [x26, x21, (.int .u64 0), x29] H) fun x30 H =>
          purK (extA 0 x30) fun x31 =>
          purK (extA 1 x30) fun x32 =>
          N94_1 ρ call yc lim k x0 x21 x31 H retK
        else none)))
theorem L94_x (ρ : Addr → Option Value) (call : CallF) (yc : YieldF) (lim k : Nat) (J : CodeF) (x0 x1 : AV) (H : Heap) :
    evX (cx ρ) call yc false 94 lim k J c94 [x0, x1, (.tup []), (.tup []), (.tup []), (.tup []), (.tup []), (.tup []), (.tup []), (.tup []), (.tup []), (.tup []), (.tup []), (.tup []), (.tup []), (.tup []), (.tup []), (.tup []), (.tup []), (.tup []), (.tup []), (.tup []), (.tup []), (.tup []), (.tup []), (.tup []), (.tup []), (.tup []), (.tup []), (.tup []), (.tup []), (.tup []), (.tup []), (.tup []), (.tup []), (.tup []), (.tup []), (.tup []), (.tup []), (.tup []), (.tup []), (.tup []), (.tup []), (.tup []), (.tup []), (.tup []), (.tup []), (.tup []), (.tup []), (.tup [])] H (kk none (fun s H => retK (([4] : List Nat).map fun t => s.getD t (.tup [])) H) [] retK [4]) =
  purK (binA Tryz.prog H .eql 101 x0 .nilp) fun x11 =>
  condK x11
  (
    retK [(.int .i64 2)] H)
  (
    purK (binA Tryz.prog H .lss 3 x1 (.int .i64 0)) fun x14 =>
    condK x14
    (
      retK [(.int .i64 1)] H)
    (
      resK (call lim 124 [x0, x1] H) fun x18 H =>
      condK x18
      (
        retK [(.int .i64 8)] H)
      (
        resK (call lim 125 [x0, x1] H) fun x21 H =>
        purK (nilChkA x0) fun x24 =>
        purK (addA 2 x24) fun x25 =>
        purK (ld1 ρ H x25) fun x26 =>
        resK (call lim 127 [x1] H) fun x29 H => bif (agn (ld1 ρ H x25) x26 && true) then
          resK (call lim 126 [x26, x21, (.int .u64 0), x29] H) fun x30 H =>
          purK (extA 0 x30) fun x31 =>
          purK (extA 1 x30) fun x32 =>
          J (Code.at [1, 1, 1, 1] c94) (sp 50 [(0, x0), (5, x21), (6, x31)]) H (kk none (fun s H => retK (([4] : List Nat).map fun t => s.getD t (.tup [])) H) [] retK [4])
        else none))) := by
  kernel_rfl
theorem G94 (ρ : Addr → Option Value) (call : CallF) (yc : YieldF) (lim k : Nat) (x0 x1 : AV) (H : Heap) :
    evL (cx ρ) call yc false 94 lim k c94 [x0, x1, (.tup []), (.tup []), (.tup []), (.tup []), (.tup []), (.tup []), (.tup []), (.tup []), (.tup []), (.tup []), (.tup []), (.tup []), (.tup []), (.tup []), (.tup []), (.tup []), (.tup []), (.tup []), (.tup []), (.tup []), (.tup []), (.tup []), (.tup []), (.tup []), (.tup []), (.tup []), (.tup []), (.tup []), (.tup []), (.tup []), (.tup []), (.tup []), (.tup []), (.tup []), (.tup []), (.tup []), (.tup []), (.tup []), (.tup []), (.tup []), (.tup []), (.tup []), (.tup []), (.tup []), (.tup []), (.tup []), (.tup []), (.tup [])] H (kk none (fun s H => retK (([4] : List Nat).map fun t => s.getD t (.tup [])) H) [] retK [4]) = L94 ρ call yc lim k x0 x1 H := by
  rw [evL_X, L94_x]
  simp only [← evL_X, L94, N94_1_eq]
theorem E94 (ρ : Addr → Option Value) (k lim : Nat) (x0 x1 : AV) (H : Heap) : evCall (cx ρ) (k + 1) lim 94 [x0, x1] H = L94 ρ (evCall (cx ρ) k) (evCY (cx ρ) k).2 lim k x0 x1 H := by
  rw [evCall_body (cx ρ) k lim 94 _ H Tryz.f94 c94 [4] (by kernel_rfl) (by kernel_rfl) (by kernel_rfl) (by kernel_rfl) (by kernel_rfl)]
  exact G94 ρ (evCall (cx ρ) k) (evCY (cx ρ) k).2 lim k x0 x1 H
-- haycroft/cell.New
noncomputable def c95 : Code := Code.of Tryz.prog 95
noncomputable def L95 (ρ : Addr → Option Value) (call : CallF) (yc : YieldF) (lim k : Nat) (x0 : AV) (H : Heap) : Res :=
  purK (binA Tryz.prog H .lss 3 x0 (.int .i64 1)) fun x5 =>
  purK (gPur (wantV x5 false) (some x0)) fun x7 =>
  purK (gPur (wantV x5 false) (binA Tryz.prog H .gtr 3 x7 (.int .i64 65536))) fun x8 =>
  purK (pickA x5 (.bool true) x8) fun x9 =>
  condK x9
  (
    retK [.nilp, (.int .i64 1)] H)
  (
    effK H (mkS H 115 1 8 [.int .u64 0] x0 x0) fun x11 H =>
    purK (bldA [.nils, .int .i64 0, .int .i64 0] [(0, 1, x11)]) fun x12 =>
    effK H (boxA H 120 x12) fun x13 H =>
    retK [x13, (.int .i64 0)] H)
theorem G95 (ρ : Addr → Option Value) (call : CallF) (yc : YieldF) (lim k : Nat) (x0 : AV) (H : Heap) :
    evL (cx ρ) call yc false 95 lim k c95 [x0, (.tup []), (.tup []), (.tup []), (.tup []), (.tup []), (.tup []), (.tup []), (.tup []), (.tup []), (.tup []), (.tup []), (.tup []), (.tup [])] H (kk none (fun s H => retK (([2, 3] : List Nat).map fun t => s.getD t (.tup [])) H) [] retK [2, 3]) = L95 ρ call yc lim k x0 H := by
  kernel_rfl
theorem E95 (ρ : Addr → Option Value) (k lim : Nat) (x0 : AV) (H : Heap) : evCall (cx ρ) (k + 1) lim 95 [x0] H = L95 ρ (evCall (cx ρ) k) (evCY (cx ρ) k).2 lim k x0 H := by
  rw [evCall_body (cx ρ) k lim 95 _ H Tryz.f95 c95 [2, 3] (by kernel_rfl) (by kernel_rfl) (by kernel_rfl) (by kernel_rfl) (by kernel_rfl)]
  exact G95 ρ (evCall (cx ρ) k) (evCY (cx ρ) k).2 lim k x0 H
-- slices.insertionSortCmpFunc[haycroft/api.Commit]
noncomputable def c109 : Code := Code.of Tryz.prog 109
noncomputable def N109_3 (ρ : Addr → Option Value) (call : CallF) (yc : YieldF) (lim k : Nat) (x0 x1 x2 x3 x8 : AV) (H : Heap) (kn : AV → Heap → Res) : Res :=
  purK (binA Tryz.prog H .add 3 x8 (.int .i64 1)) fun x16_1 =>
  kn x16_1 H
theorem N109_3_eq (ρ : Addr → Option Value) (call : CallF) (yc : YieldF) (lim k : Nat) (x0 x1 x2 x3 x8 : AV) (H : Heap) (kn : KS) (R : List AV → Heap → Res) :
    evL (cx ρ) call yc false 109 lim k (Code.at [1, 0, 0, 1, 1] c109) (sp 53 [(0, x0), (1, x1), (2, x2), (3, x3), (8, x8)]) H (kk (some [0, 1, 2, 3, 8]) kn [(0, none, (fun s H => R (([] : List Nat).map fun t => s.getD t (.tup [])) H))] R []) = N109_3 ρ call yc lim k x0 x1 x2 x3 x8 H (fun x8 H => kn (sp 53 [(0, x0), (1, x1), (2, x2), (3, x3), (8, x8)]) H) := by
  kernel_rfl
noncomputable def N109_6 (ρ : Addr → Option Value) (call : CallF) (yc : YieldF) (lim k : Nat) (x0 x1 x2 x3 x8 x9 : AV) (H : Heap) (kn : AV → Heap → Res) : Res :=
  purK (binA Tryz.prog H .sub 3 x9 (.int .i64 1)) fun x36_1 =>
  kn x36_1 H
theorem N109_6_eq (ρ : Addr → Option Value) (call : CallF) (yc : YieldF) (lim k : Nat) (x0 x1 x2 x3 x8 x9 : AV) (H : Heap) (kn : KS) (k2 : KS) (k1 : KS) (R : List AV → Heap → Res) :
    evL (cx ρ) call yc false 109 lim k (Code.at [1, 0, 0, 1, 0, 0, 1, 0, 0, 1, 1] c109) (sp 53 [(0, x0), (1, x1), (2, x2), (3, x3), (8, x8), (9, x9)]) H (kk (some [0, 1, 2, 3, 8, 9]) kn [(2, (some [0, 1, 2, 3, 8]), k2), (1, (some [0, 1, 2, 3, 8]), k1), (0, none, (fun s H => R (([] : List Nat).map fun t => s.getD t (.tup [])) H))] R []) = N109_6 ρ call yc lim k x0 x1 x2 x3 x8 x9 H (fun x9 H => kn (sp 53 [(0, x0), (1, x1), (2, x2), (3, x3), (8, x8), (9, x9)]) H) := by
  kernel_rfl
noncomputable def N109_5b (ρ : Addr → Option Value) (call : CallF) (yc : YieldF) (lim k : Nat) (x0 x1 x2 x3 x8 x9 : AV) (H : Heap) (kn : AV → Heap → Res) (k2 : AV → Heap → Res) : Res :=
  purK (binA Tryz.prog H .gtr 3 x9 x1) fun x20_1 =>
  boolK (wantV x20_1 true) fun b1 => purK (bif b1 then some x3 else some (.tup [])) fun x22_1 =>
  boolK (wantV x20_1 true) fun b2 => purK (bif b2 then some x0 else some (.tup [])) fun x23_1 =>
  boolK (wantV x20_1 true) fun b3 => purK (bif b3 then some x9 else some (.tup [])) fun x24_1 =>
  boolK (wantV x20_1 true) fun b4 => purK (bif b4 then ixS 3 x23_1 x24_1 else some (.tup [])) fun x25_1 =>
  boolK (wantV x20_1 true) fun b5 => purK (bif b5 then ldN ρ H 3 x25_1 else some (.tup [])) fun x26_1 =>
  boolK (wantV x20_1 true) fun b6 => purK (bif b6 then some x0 else some (.tup [])) fun x27_1 =>
  boolK (wantV x20_1 true) fun b7 => purK (bif b7 then some x9 else some (.tup [])) fun x28_1 =>
  boolK (wantV x20_1 true) fun b8 => purK (bif b8 then binA Tryz.prog H .sub 3 x28_1 (.int .i64 1) else some (.tup [])) fun x29_1 =>
  boolK (wantV x20_1 true) fun b9 => purK (bif b9 then ixS 3 x27_1 x29_1 else some (.tup [])) fun x30_1 =>
  boolK (wantV x20_1 true) fun b10 => purK (bif b10 then ldN ρ H 3 x30_1 else some (.tup [])) fun x31_1 =>
  boolK (wantV x20_1 true) fun b11 => resK (gRes (some b11) H (valR call noY lim x22_1 [x26_1, x31_1] H)) fun x32_1 H => bif !b11 || ((!b10 || true) && ((!b8 || true) && ((!b5 || true) && true))) then
    purK (gPur (wantV x20_1 true) (binA Tryz.prog H .lss 3 x32_1 (.int .i64 0))) fun x33_1 =>
    purK (pickA x20_1 x33_1 (.bool false)) fun x34_1 =>
    condK x34_1
    (
      purK (binA Tryz.prog H .sub 3 x9 (.int .i64 1)) fun x41_1 =>
      purK (binA Tryz.prog H .sub 3 x9 (.int .i64 1)) fun x44_1 =>
      purK (ixS 3 x0 x44_1) fun x45_1 =>
      purK (ldN ρ H 3 x45_1) fun x46_1 =>
      purK (ixS 3 x0 x9) fun x49_1 =>
      purK (ldN ρ H 3 x49_1) fun x50_1 =>
      purK (ixS 3 x0 x9) fun x51_1 =>
      effK H (stA lim H 3 x51_1 x46_1) fun _ H => bif (agn (binA Tryz.prog H .sub 3 x9 (.int .i64 1)) x41_1 && true) then
        purK (ixS 3 x0 x41_1) fun x52_1 =>
        effK H (stA lim H 3 x52_1 x50_1) fun _ H =>
        N109_6 ρ call yc lim k x0 x1 x2 x3 x8 x9 H kn
      else none)
    (
      k2 x8 H)
  else none
theorem N109_5b_x (ρ : Addr → Option Value) (call : CallF) (yc : YieldF) (lim k : Nat) (J : CodeF) (x0 x1 x2 x3 x8 x9 : AV) (H : Heap) (kn : KS) (k2 : KS) (k1 : KS) (R : List AV → Heap → Res) :
    evX (cx ρ) call yc false 109 lim k J (Code.at [1, 0, 0, 1, 0, 0, 1, 0, 0] c109) (sp 53 [(0, x0), (1, x1), (2, x2), (3, x3), (8, x8), (9, x9)]) H (kk (some [0, 1, 2, 3, 8, 9]) kn [(2, (some [0, 1, 2, 3, 8]), k2), (1, (some [0, 1, 2, 3, 8]), k1), (0, none, (fun s H => R (([] : List Nat).map fun t => s.getD t (.tup [])) H))] R []) =
  purK (binA Tryz.prog H .gtr 3 x9 x1) fun x20_1 =>
  boolK (wantV x20_1 true) fun b1 => purK (bif b1 then some x3 else some (.tup [])) fun x22_1 =>
  boolK (wantV x20_1 true) fun b2 => purK (bif b2 then some x0 else some (.tup [])) fun x23_1 =>
  boolK (wantV x20_1 true) fun b3 => purK (bif b3 then some x9 else some (.tup [])) fun x24_1 =>
  boolK (wantV x20_1 true) fun b4 => purK (bif b4 then ixS 3 x23_1 x24_1 else some (.tup [])) fun x25_1 =>
  boolK (wantV x20_1 true) fun b5 => purK (bif b5 then ldN ρ H 3 x25_1 else some (.tup [])) fun x26_1 =>
  boolK (wantV x20_1 true) fun b6 => purK (bif b6 then some x0 else some (.tup [])) fun x27_1 =>
  boolK (wantV x20_1 true) fun b7 => purK (bif b7 then some x9 else some (.tup [])) fun x28_1 =>
  boolK (wantV x20_1 true) fun b8 => purK (bif b8 then binA Tryz.prog H .sub 3 x28_1 (.int .i64 1) else some (.tup [])) fun x29_1 =>
  boolK (wantV x20_1 true) fun b9 => purK (bif b9 then ixS 3 x27_1 x29_1 else some (.tup [])) fun x30_1 =>
  boolK (wantV x20_1 true) fun b10 => purK (bif b10 then ldN ρ H 3 x30_1 else some (.tup [])) fun x31_1 =>
  boolK (wantV x20_1 true) fun b11 => resK (gRes (some b11) H (valR call noY lim x22_1 [x26_1, x31_1] H)) fun x32_1 H => bif !b11 || ((!b10 || true) && ((!b8 || true) && ((!b5 || true) && true))) then
    purK (gPur (wantV x20_1 true) (binA Tryz.prog H .lss 3 x32_1 (.int .i64 0))) fun x33_1 =>
    purK (pickA x20_1 x33_1 (.bool false)) fun x34_1 =>
    condK x34_1
    (
      purK (binA Tryz.prog H .sub 3 x9 (.int .i64 1)) fun x41_1 =>
      purK (binA Tryz.prog H .sub 3 x9 (.int .i64 1)) fun x44_1 =>
      purK (ixS 3 x0 x44_1) fun x45_1 =>
      purK (ldN ρ H 3 x45_1) fun x46_1 =>
      purK (ixS 3 x0 x9) fun x49_1 =>
      purK (ldN ρ H 3 x49_1) fun x50_1 =>
      purK (ixS 3 x0 x9) fun x51_1 =>
      effK H (stA lim H 3 x51_1 x46_1) fun _ H => bif (agn (binA Tryz.prog H .sub 3 x9 (.int .i64 1)) x41_1 && true) then
        purK (ixS 3 x0 x41_1) fun x52_1 =>
        effK H (stA lim H 3 x52_1 x50_1) fun _ H =>
        J (Code.at [1, 0, 0, 1, 0, 0, 1, 0, 0, 1, 1] c109) (sp 53 [(0, x0), (1, x1), (2, x2), (3, x3), (8, x8), (9, x9)]) H (kk (some [0, 1, 2, 3, 8, 9]) kn [(2, (some [0, 1, 2, 3, 8]), k2), (1, (some [0, 1, 2, 3, 8]), k1), (0, none, (fun s H => R (([] : List Nat).map fun t => s.getD t (.tup [])) H))] R [])
      else none)
    (
      k2 (sp 53 [(0, x0), (1, x1), (2, x2), (3, x3), (8, x8)]) H)
  else none := by
  kernel_rfl
theorem N109_5b_eq (ρ : Addr → Option Value) (call : CallF) (yc : YieldF) (lim k : Nat) (x0 x1 x2 x3 x8 x9 : AV) (H : Heap) (kn : KS) (k2 : KS) (k1 : KS) (R : List AV → Heap → Res) :
    evL (cx ρ) call yc false 109 lim k (Code.at [1, 0, 0, 1, 0, 0, 1, 0, 0] c109) (sp 53 [(0, x0), (1, x1), (2, x2), (3, x3), (8, x8), (9, x9)]) H (kk (some [0, 1, 2, 3, 8, 9]) kn [(2, (some [0, 1, 2, 3, 8]), k2), (1, (some [0, 1, 2, 3, 8]), k1), (0, none, (fun s H => R (([] : List Nat).map fun t => s.getD t (.tup [])) H))] R []) = N109_5b ρ call yc lim k x0 x1 x2 x3 x8 x9 H (fun x9 H => kn (sp 53 [(0, x0), (1, x1), (2, x2), (3, x3), (8, x8), (9, x9)]) H) (fun x8 H => k2 (sp 53 [(0, x0), (1, x1), (2, x2), (3, x3), (8, x8)]) H) := by
  rw [evL_X, N109_5b_x]
  simp only [← evL_X, N109_5b, N109_6_eq]
noncomputable def N109_5 (ρ : Addr → Option Value) (call : CallF) (yc : YieldF) (lim k : Nat) (x0 x1 x2 x3 x8 x9 : AV) (H : Heap) (k2 : AV → Heap → Res) : Res :=
  loopL (fun (x : AV) H kn => N109_5b ρ call yc lim k x0 x1 x2 x3 x8 x H (fun x9 H => kn x9 H) k2) k x9 H
theorem N109_5_eq (ρ : Addr → Option Value) (call : CallF) (yc : YieldF) (lim k : Nat) (x0 x1 x2 x3 x8 x9 : AV) (H : Heap) (kn : KS) (k2 : KS) (k1 : KS) (R : List AV → Heap → Res) :
    evL (cx ρ) call yc false 109 lim k (Code.at [1, 0, 0, 1, 0, 0, 1, 0] c109) (sp 53 [(0, x0), (1, x1), (2, x2), (3, x3), (8, x8), (9, x9)]) H (kk (some [0, 1, 2, 3, 8]) kn [(2, (some [0, 1, 2, 3, 8]), k2), (1, (some [0, 1, 2, 3, 8]), k1), (0, none, (fun s H => R (([] : List Nat).map fun t => s.getD t (.tup [])) H))] R []) = N109_5 ρ call yc lim k x0 x1 x2 x3 x8 x9 H (fun x8 H => k2 (sp 53 [(0, x0), (1, x1), (2, x2), (3, x3), (8, x8)]) H) := by
  have e : Code.at [1, 0, 0, 1, 0, 0, 1, 0] c109 = .loop (Code.at [1, 0, 0, 1, 0, 0, 1, 0, 0] c109) := by kernel_rfl
  rw [e]
  unfold N109_5
  exact loop_node [0, 1, 2, 3, 8, 9] (fun x : AV => (sp 53 [(0, x0), (1, x1), (2, x2), (3, x3), (8, x8), (9, (x))])) (fun (x : AV) H kn => N109_5b ρ call yc lim k x0 x1 x2 x3 x8 x H (fun x9 H => kn x9 H) (fun x8 H => k2 (sp 53 [(0, x0), (1, x1), (2, x2), (3, x3), (8, x8)]) H)) (by kernel_rfl) (fun x => by kernel_rfl) (fun x H kn => N109_5b_eq ρ call yc lim k x0 x1 x2 x3 x8 (x) H kn k2 k1 R) x9 (sp 53 [(0, x0), (1, x1), (2, x2), (3, x3), (8, x8), (9, x9)]) H (by kernel_rfl)
noncomputable def N109_4 (ρ : Addr → Option Value) (call : CallF) (yc : YieldF) (lim k : Nat) (x0 x1 x2 x3 x8 x9 : AV) (H : Heap) (kn : AV → Heap → Res) : Res :=
  N109_5 ρ call yc lim k x0 x1 x2 x3 x8 x9 H kn
theorem N109_4_x (ρ : Addr → Option Value) (call : CallF) (yc : YieldF) (lim k : Nat) (J : CodeF) (x0 x1 x2 x3 x8 x9 : AV) (H : Heap) (kn : KS) (k1 : KS) (R : List AV → Heap → Res) :
    evX (cx ρ) call yc false 109 lim k J (Code.at [1, 0, 0, 1, 0, 0, 1] c109) (sp 53 [(0, x0), (1, x1), (2, x2), (3, x3), (8, x8), (9, x9)]) H (kk (some [0, 1, 2, 3, 8]) kn [(1, (some [0, 1, 2, 3, 8]), k1), (0, none, (fun s H => R (([] : List Nat).map fun t => s.getD t (.tup [])) H))] R []) =
  J (Code.at [1, 0, 0, 1, 0, 0, 1, 0] c109) (sp 53 [(0, x0), (1, x1), (2, x2), (3, x3), (8, x8), (9, x9)]) H (kk (some [0, 1, 2, 3, 8]) kn [(2, (some [0, 1, 2, 3, 8]), kn), (1, (some [0, 1, 2, 3, 8]), k1), (0, none, (fun s H => R (([] : List Nat).map fun t => s.getD t (.tup [])) H))] R []) := by
  kernel_rfl
theorem N109_4_eq (ρ : Addr → Option Value) (call : CallF) (yc : YieldF) (lim k : Nat) (x0 x1 x2 x3 x8 x9 : AV) (H : Heap) (kn : KS) (k1 : KS) (R : List AV → Heap → Res) :
    evL (cx ρ) call yc false 109 lim k (Code.at [1, 0, 0, 1, 0, 0, 1] c109) (sp 53 [(0, x0), (1, x1), (2, x2), (3, x3), (8, x8), (9, x9)]) H (kk (some [0, 1, 2, 3, 8]) kn [(1, (some [0, 1, 2, 3, 8]), k1), (0, none, (fun s H => R (([] : List Nat).map fun t => s.getD t (.tup [])) H))] R []) = N109_4 ρ call yc lim k x0 x1 x2 x3 x8 x9 H (fun x8 H => kn (sp 53 [(0, x0), (1, x1), (2, x2), (3, x3), (8, x8)]) H) := by
  rw [evL_X, N109_4_x]
  simp only [← evL_X, N109_4, N109_5_eq]
noncomputable def N109_2b (ρ : Addr → Option Value) (call : CallF) (yc : YieldF) (lim k : Nat) (x0 x1 x2 x3 x8 : AV) (H : Heap) (kn : AV → Heap → Res) (R : List AV → Heap → Res) : Res :=
  purK (binA Tryz.prog H .lss 3 x8 x2) fun x14_1 =>
  condK x14_1
  (
    N109_4 ρ call yc lim k x0 x1 x2 x3 x8 x8 H (fun x8_1 H =>
      N109_3 ρ call yc lim k x0 x1 x2 x3 x8_1 H kn))
  (
    R [] H)
theorem N109_2b_x (ρ : Addr → Option Value) (call : CallF) (yc : YieldF) (lim k : Nat) (J : CodeF) (x0 x1 x2 x3 x8 : AV) (H : Heap) (kn : KS) (R : List AV → Heap → Res) :
    evX (cx ρ) call yc false 109 lim k J (Code.at [1, 0, 0] c109) (sp 53 [(0, x0), (1, x1), (2, x2), (3, x3), (8, x8)]) H (kk (some [0, 1, 2, 3, 8]) kn [(0, none, (fun s H => R (([] : List Nat).map fun t => s.getD t (.tup [])) H))] R []) =
  purK (binA Tryz.prog H .lss 3 x8 x2) fun x14_1 =>
  condK x14_1
  (
    J (Code.at [1, 0, 0, 1, 0, 0, 1] c109) (sp 53 [(0, x0), (1, x1), (2, x2), (3, x3), (8, x8), (9, x8)]) H (kk (some [0, 1, 2, 3, 8]) (fun s H => J (Code.at [1, 0, 0, 1, 1] c109) s H (kk (some [0, 1, 2, 3, 8]) kn [(0, none, (fun s H => R (([] : List Nat).map fun t => s.getD t (.tup [])) H))] R [])) [(1, (some [0, 1, 2, 3, 8]), (fun s H => J (Code.at [1, 0, 0, 1, 1] c109) s H (kk (some [0, 1, 2, 3, 8]) kn [(0, none, (fun s H => R (([] : List Nat).map fun t => s.getD t (.tup [])) H))] R []))), (0, none, (fun s H => R (([] : List Nat).map fun t => s.getD t (.tup [])) H))] R []))
  (
    R [] H) := by
  kernel_rfl
theorem N109_2b_eq (ρ : Addr → Option Value) (call : CallF) (yc : YieldF) (lim k : Nat) (x0 x1 x2 x3 x8 : AV) (H : Heap) (kn : KS) (R : List AV → Heap → Res) :
    evL (cx ρ) call yc false 109 lim k (Code.at [1, 0, 0] c109) (sp 53 [(0, x0), (1, x1), (2, x2), (3, x3), (8, x8)]) H (kk (some [0, 1, 2, 3, 8]) kn [(0, none, (fun s H => R (([] : List Nat).map fun t => s.getD t (.tup [])) H))] R []) = N109_2b ρ call yc lim k x0 x1 x2 x3 x8 H (fun x8 H => kn (sp 53 [(0, x0), (1, x1), (2, x2), (3, x3), (8, x8)]) H) R := by
  rw [evL_X, N109_2b_x]
  simp only [← evL_X, N109_2b, N109_3_eq, N109_4_eq]
noncomputable def N109_2 (ρ : Addr → Option Value) (call : CallF) (yc : YieldF) (lim k : Nat) (x0 x1 x2 x3 x8 : AV) (H : Heap) (R : List AV → Heap → Res) : Res :=
  loopL (fun (x : AV) H kn => N109_2b ρ call yc lim k x0 x1 x2 x3 x H (fun x8 H => kn x8 H) R) k x8 H
theorem N109_2_eq (ρ : Addr → Option Value) (call : CallF) (yc : YieldF) (lim k : Nat) (x0 x1 x2 x3 x8 : AV) (H : Heap) (R : List AV → Heap → Res) :
    evL (cx ρ) call yc false 109 lim k (Code.at [1, 0] c109) (sp 53 [(0, x0), (1, x1), (2, x2), (3, x3), (8, x8)]) H (kk none (fun s H => R (([] : List Nat).map fun t => s.getD t (.tup [])) H) [(0, none, (fun s H => R (([] : List Nat).map fun t => s.getD t (.tup [])) H))] R []) = N109_2 ρ call yc lim k x0 x1 x2 x3 x8 H R := by
  have e : Code.at [1, 0] c109 = .loop (Code.at [1, 0, 0] c109) := by kernel_rfl
  rw [e]
  unfold N109_2
  exact loop_node [0, 1, 2, 3, 8] (fun x : AV => (sp 53 [(0, x0), (1, x1), (2, x2), (3, x3), (8, (x))])) (fun (x : AV) H kn => N109_2b ρ call yc lim k x0 x1 x2 x3 x H (fun x8 H => kn x8 H) R) (by kernel_rfl) (fun x => by kernel_rfl) (fun x H kn => N109_2b_eq ρ call yc lim k x0 x1 x2 x3 (x) H kn R) x8 (sp 53 [(0, x0), (1, x1), (2, x2), (3, x3), (8, x8)]) H (by kernel_rfl)
noncomputable def N109_1 (ρ : Addr → Option Value) (call : CallF) (yc : YieldF) (lim k : Nat) (x0 x1 x2 x3 x8 : AV) (H : Heap) (R : List AV → Heap → Res) : Res :=
  N109_2 ρ call yc lim k x0 x1 x2 x3 x8 H R
theorem N109_1_x (ρ : Addr → Option Value) (call : CallF) (yc : YieldF) (lim k : Nat) (J : CodeF) (x0 x1 x2 x3 x8 : AV) (H : Heap) (R : List AV → Heap → Res) :
    evX (cx ρ) call yc false 109 lim k J (Code.at [1] c109) (sp 53 [(0, x0), (1, x1), (2, x2), (3, x3), (8, x8)]) H (kk none (fun s H => R (([] : List Nat).map fun t => s.getD t (.tup [])) H) [] R []) =
  J (Code.at [1, 0] c109) (sp 53 [(0, x0), (1, x1), (2, x2), (3, x3), (8, x8)]) H (kk none (fun s H => R (([] : List Nat).map fun t => s.getD t (.tup [])) H) [(0, none, (fun s H => R (([] : List Nat).map fun t => s.getD t (.tup [])) H))] R []) := by
  kernel_rfl
theorem N109_1_eq (ρ : Addr → Option Value) (call : CallF) (yc : YieldF) (lim k : Nat) (x0 x1 x2 x3 x8 : AV) (H : Heap) (R : List AV → Heap → Res) :
    evL (cx ρ) call yc false 109 lim k (Code.at [1] c109) (sp 53 [(0, x0), (1, x1), (2, x2), (3, x3), (8, x8)]) H (kk none (fun s H => R (([] : List Nat).map fun t => s.getD t (.tup [])) H) [] R []) = N109_1 ρ call yc lim k x0 x1 x2 x3 x8 H R := by
  rw [evL_X, N109_1_x]
  simp only [← evL_X, N109_1, N109_2_eq]
noncomputable def L109 (ρ : Addr → Option Value) (call : CallF) (yc : YieldF) (lim k : Nat) (x0 x1 x2 x3 : AV) (H : Heap) : Res :=
  purK (binA Tryz.prog H .add 3 x1 (.int .i64 1)) fun x11 =>
  N109_1 ρ call yc lim k x0 x1 x2 x3 x11 H retK
theorem L109_x (ρ : Addr → Option Value) (call : CallF) (yc : YieldF) (lim k : Nat) (J : CodeF) (x0 x1 x2 x3 : AV) (H : Heap) :
    evX (cx ρ) call yc false 109 lim k J c109 [x0, x1, x2, x3, (.tup []), (.tup []), (.tup []), (.tup []), (.tup []), (.tup []), (.tup []), (.tup []), (.tup []), (.tup []), (.tup []), (.tup []), (.tup []), (.tup []), (.tup []), (.tup []), (.tup []), (.tup []), (.tup []), (.tup []), (.tup []), (.tup []), (.tup []), (.tup []), (.tup []), (.tup []), (.tup []), (.tup []), (.tup []), (.tup []), (.tup []), (.tup []), (.tup []), (.tup []), (.tup []), (.tup []), (.tup []), (.tup []), (.tup []), (.tup []), (.tup []), (.tup []), (.tup []), (.tup []), (.tup []), (.tup []), (.tup []), (.tup []), (.tup [])] H (kk none (fun s H => retK (([] : List Nat).map fun t => s.getD t (.tup [])) H) [] retK []) =
  purK (binA Tryz.prog H .add 3 x1 (.int .i64 1)) fun x11 =>
  J (Code.at [1] c109) (sp 53 [(0, x0), (1, x1), (2, x2), (3, x3), (8, x11)]) H (kk none (fun s H => retK (([] : List Nat).map fun t => s.getD t (.tup [])) H) [] retK []) := by
  kernel_rfl
theorem G109 (ρ : Addr → Option Value) (call : CallF) (yc : YieldF) (lim k : Nat) (x0 x1 x2 x3 : AV) (H : Heap) :
    evL (cx ρ) call yc false 109 lim k c109 [x0, x1, x2, x3, (.tup []), (.tup []), (.tup []), (.tup []), (.tup []), (.tup []), (.tup []), (.tup []), (.tup []), (.tup []), (.tup []), (.tup []), (.tup []), (.tup []), (.tup []), (.tup []), (.tup []), (.tup []), (.tup []), (.tup []), (.tup []), (.tup []), (.tup []), (.tup []), (.tup []), (.tup []), (.tup []), (.tup []), (.tup []), (.tup []), (.tup []), (.tup []), (.tup []), (.tup []), (.tup []), (.tup []), (.tup []), (.tup []), (.tup []), (.tup []), (.tup []), (.tup []), (.tup []), (.tup []), (.tup []), (.tup []), (.tup []), (.tup []), (.tup [])] H (kk none (fun s H => retK (([] : List Nat).map fun t => s.getD t (.tup [])) H) [] retK []) = L109 ρ call yc lim k x0 x1 x2 x3 H := by
  rw [evL_X, L109_x]
  simp only [← evL_X, L109, N109_1_eq]
theorem E109 (ρ : Addr → Option Value) (k lim : Nat) (x0 x1 x2 x3 : AV) (H : Heap) : evCall (cx ρ) (k + 1) lim 109 [x0, x1, x2, x3] H = L109 ρ (evCall (cx ρ) k) (evCY (cx ρ) k).2 lim k x0 x1 x2 x3 H := by
  rw [evCall_body (cx ρ) k lim 109 _ H Tryz.f109 c109 [] (by kernel_rfl) (by kernel_rfl) (by kernel_rfl) (by kernel_rfl) (by kernel_rfl)]
  exact G109 ρ (evCall (cx ρ) k) (evCY (cx ρ) k).2 lim k x0 x1 x2 x3 H
-- (*haycroft/tail.Tail).Begin
noncomputable def c119 : Code := Code.of Tryz.prog 119
noncomputable def L119 (ρ : Addr → Option Value) (call : CallF) (yc : YieldF) (lim k : Nat) (x0 x1 : AV) (H : Heap) : Res :=
  purK (binA Tryz.prog H .eql 72 x0 .nilp) fun x7 =>
  condK x7
  (
    retK [(.int .i64 2)] H)
  (
    purK (binA Tryz.prog H .lss 3 x1 (.int .i64 0)) fun x10 =>
    purK (gPur (wantV x10 false) (some x1)) fun x12 =>
    purK (gPur (wantV x10 false) (some x0)) fun x13 =>
    purK (gPur (wantV x10 false) (nilChkA x13)) fun x14 =>
    purK (gPur (wantV x10 false) (addA 1 x14)) fun x15 =>
    purK (gPur (wantV x10 false) (ld1 ρ H x15)) fun x16 =>
    purK (gPur (wantV x10 false) (binA Tryz.prog H .geq 3 x12 x16)) fun x17 =>
    purK (pickA x10 (.bool true) x17) fun x18 =>
    condK x18
    (
      retK [(.int .i64 1)] H)
    (
      purK (nilChkA x0) fun x20 =>
      purK (addA 2 x20) fun x21 =>
      purK (ld1 ρ H x21) fun x22 =>
      resK (call lim 146 [x1] H) fun x25 H => bif (agn (ld1 ρ H x21) x22 && true) then
        resK (call lim 145 [x1, x25] H) fun x26 H => bif (agn (ld1 ρ H x21) x22 && true) then
          resK (call lim 122 [x22, (.int .i64 0), x26] H) fun x27 H =>
          retK [x27] H
        else none
      else none))
theorem G119 (ρ : Addr → Option Value) (call : CallF) (yc : YieldF) (lim k : Nat) (x0 x1 : AV) (H : Heap) :
    evL (cx ρ) call yc false 119 lim k c119 [x0, x1, (.tup []), (.tup []), (.tup []), (.tup []), (.tup []), (.tup []), (.tup []), (.tup []), (.tup []), (.tup []), (.tup []), (.tup []), (.tup []), (.tup []), (.tup []), (.tup []), (.tup []), (.tup []), (.tup []), (.tup []), (.tup []), (.tup []), (.tup []), (.tup []), (.tup []), (.tup [])] H (kk none (fun s H => retK (([4] : List Nat).map fun t => s.getD t (.tup [])) H) [] retK [4]) = L119 ρ call yc lim k x0 x1 H := by
  kernel_rfl
theorem E119 (ρ : Addr → Option Value) (k lim : Nat) (x0 x1 : AV) (H : Heap) : evCall (cx ρ) (k + 1) lim 119 [x0, x1] H = L119 ρ (evCall (cx ρ) k) (evCY (cx ρ) k).2 lim k x0 x1 H := by
  rw [evCall_body (cx ρ) k lim 119 _ H Tryz.f119 c119 [4] (by kernel_rfl) (by kernel_rfl) (by kernel_rfl) (by kernel_rfl) (by kernel_rfl)]
  exact G119 ρ (evCall (cx ρ) k) (evCY (cx ρ) k).2 lim k x0 x1 H
-- (*haycroft/cell.Row).Store
noncomputable def c122 : Code := Code.of Tryz.prog 122
noncomputable def N122_1 (ρ : Addr → Option Value) (call : CallF) (yc : YieldF) (lim k : Nat) (x7 : AV) (H : Heap) (R : List AV → Heap → Res) : Res :=
  R [x7] H
theorem N122_1_eq (ρ : Addr → Option Value) (call : CallF) (yc : YieldF) (lim k : Nat) (x7 : AV) (H : Heap) (R : List AV → Heap → Res) :
    evL (cx ρ) call yc false 122 lim k (Code.at [1, 1, 1] c122) (sp 22 [(7, x7)]) H (kk none (fun s H => R (([6] : List Nat).map fun t => s.getD t (.tup [])) H) [] R [6]) = N122_1 ρ call yc lim k x7 H R := by
  kernel_rfl
noncomputable def L122 (ρ : Addr → Option Value) (call : CallF) (yc : YieldF) (lim k : Nat) (x0 x1 x2 : AV) (H : Heap) : Res :=
  resK (call lim 148 [x0, x1] H) fun x10 H =>
  purK (binA Tryz.prog H .eql 24 x10 (.int .i64 0)) fun x12 =>
  condK x12
  (
    purK (nilChkA x0) fun x14 =>
    purK (addA 0 x14) fun x15 =>
    purK (ld1 ρ H x15) fun x16 =>
    purK (ixS 1 x16 x1) fun x18 =>
    resK (call lim 149 [x18, x2] H) fun x20 H =>
    N122_1 ρ call yc lim k x10 H retK)
  (
    N122_1 ρ call yc lim k x10 H retK)
theorem L122_x (ρ : Addr → Option Value) (call : CallF) (yc : YieldF) (lim k : Nat) (J : CodeF) (x0 x1 x2 : AV) (H : Heap) :
    evX (cx ρ) call yc false 122 lim k J c122 [x0, x1, x2, (.tup []), (.tup []), (.tup []), (.tup []), (.tup []), (.tup []), (.tup []), (.tup []), (.tup []), (.tup []), (.tup []), (.tup []), (.tup []), (.tup []), (.tup []), (.tup []), (.tup []), (.tup []), (.tup [])] H (kk none (fun s H => retK (([6] : List Nat).map fun t => s.getD t (.tup [])) H) [] retK [6]) =
  resK (call lim 148 [x0, x1] H) fun x10 H =>
  purK (binA Tryz.prog H .eql 24 x10 (.int .i64 0)) fun x12 =>
  condK x12
  (
    purK (nilChkA x0) fun x14 =>
    purK (addA 0 x14) fun x15 =>
    purK (ld1 ρ H x15) fun x16 =>
    purK (ixS 1 x16 x1) fun x18 =>
    resK (call lim 149 [x18, x2] H) fun x20 H =>
    J (Code.at [1, 1, 1] c122) (sp 22 [(7, x10)]) H (kk none (fun s H => retK (([6] : List Nat).map fun t => s.getD t (.tup [])) H) [] retK [6]))
  (
    J (Code.at [1, 1, 1] c122) (sp 22 [(7, x10)]) H (kk none (fun s H => retK (([6] : List Nat).map fun t => s.getD t (.tup [])) H) [] retK [6])) := by
  kernel_rfl
theorem G122 (ρ : Addr → Option Value) (call : CallF) (yc : YieldF) (lim k : Nat) (x0 x1 x2 : AV) (H : Heap) :
    evL (cx ρ) call yc false 122 lim k c122 [x0, x1, x2, (.tup []), (.tup []), (.tup []), (.tup []), (.tup []), (.tup []), (.tup []), (.tup []), (.tup []), (.tup []), (.tup []), (.tup []), (.tup []), (.tup []), (.tup []), (.tup []), (.tup []), (.tup []), (.tup [])] H (kk none (fun s H => retK (([6] : List Nat).map fun t => s.getD t (.tup [])) H) [] retK [6]) = L122 ρ call yc lim k x0 x1 x2 H := by
  rw [evL_X, L122_x]
  simp only [← evL_X, L122, N122_1_eq]
theorem E122 (ρ : Addr → Option Value) (k lim : Nat) (x0 x1 x2 : AV) (H : Heap) : evCall (cx ρ) (k + 1) lim 122 [x0, x1, x2] H = L122 ρ (evCall (cx ρ) k) (evCY (cx ρ) k).2 lim k x0 x1 x2 H := by
  rw [evCall_body (cx ρ) k lim 122 _ H Tryz.f122 c122 [6] (by kernel_rfl) (by kernel_rfl) (by kernel_rfl) (by kernel_rfl) (by kernel_rfl)]
  exact G122 ρ (evCall (cx ρ) k) (evCY (cx ρ) k).2 lim k x0 x1 x2 H
end Go.Proofs.YtonakeopionkkaaGreat
