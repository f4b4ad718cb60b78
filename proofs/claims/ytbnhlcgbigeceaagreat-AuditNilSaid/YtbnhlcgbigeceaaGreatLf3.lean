/- Functions, lifted. Printed by a program of this repo. -/
import Derived.Test.YtbnhlcgbigeceaaGreatLfTab
set_option linter.unusedVariables false
set_option linter.unusedSimpArgs false
set_option maxRecDepth 100000
set_option maxHeartbeats 4000000
namespace Go.Proofs.YtbnhlcgbigeceaaGreat
open Go.Ev Go.RowKit
-- haycroft/entry.Fresh
noncomputable def c367 : Code := Code.of Tryz.prog 367
noncomputable def L367 (ρ : Addr → Option Value) (call : CallF) (yc : YieldF) (lim k : Nat) (x0 : AV) (H : Heap) : Res :=
  purK (buildA Tryz.prog 90 [(1, x0), (2, (.bool true))]) fun x5 =>
  resK (call lim 377 [x5] H) fun x6 H =>
  purK (extA 0 x6) fun x7 =>
  purK (extA 1 x6) fun x8 =>
  retK [x7, x8] H
theorem G367 (ρ : Addr → Option Value) (call : CallF) (yc : YieldF) (lim k : Nat) (x0 : AV) (H : Heap) :
    evL (cx ρ) call yc false 367 lim k c367 [x0, (.tup []), (.tup []), (.tup []), (.tup []), (.tup []), (.tup []), (.tup []), (.tup [])] H (kk none (fun s H => retK (([2, 3] : List Nat).map fun t => s.getD t (.tup [])) H) [] retK [2, 3]) = L367 ρ call yc lim k x0 H := by
  kernel_rfl
theorem E367 (ρ : Addr → Option Value) (k lim : Nat) (x0 : AV) (H : Heap) : evCall (cx ρ) (k + 1) lim 367 [x0] H = L367 ρ (evCall (cx ρ) k) (evCY (cx ρ) k).2 lim k x0 H := by
  rw [evCall_body (cx ρ) k lim 367 _ H Tryz.f367 c367 [2, 3] (by kernel_rfl) (by kernel_rfl) (by kernel_rfl) (by kernel_rfl) (by kernel_rfl)]
  exact G367 ρ (evCall (cx ρ) k) (evCY (cx ρ) k).2 lim k x0 H
-- (*haycroft/pages.Buffer).at
noncomputable def c369 : Code := Code.of Tryz.prog 369
noncomputable def N369_1 (ρ : Addr → Option Value) (call : CallF) (yc : YieldF) (lim k : Nat) (x0 x1 : AV) (H : Heap) (R : List AV → Heap → Res) : Res :=
  purK (nilChkA x0) fun x23_1 =>
  purK (fieldAddrA Tryz.prog 199 x23_1 0) fun x24_1 =>
  purK (loadA (cx ρ) H 3 x24_1) fun x25_1 =>
  purK (nilChkA x0) fun x30_1 =>
  purK (fieldAddrA Tryz.prog 199 x30_1 0) fun x31_1 =>
  purK (loadA (cx ρ) H 3 x31_1) fun x32_1 =>
  purK (nilChkA x0) fun x36_1 =>
  purK (fieldAddrA Tryz.prog 199 x36_1 0) fun x37_1 =>
  purK (loadA (cx ρ) H 3 x37_1) fun x38_1 =>
  resK (call lim 52 [x25_1, x1] H) fun x27_1 H => bif (agn (loadA (cx ρ) H 3 x37_1) x38_1 && (agn (loadA (cx ρ) H 3 x31_1) x32_1 && true)) then
    resK (call lim 124 [x0, x27_1] H) fun x28_1 H => bif (agn (loadA (cx ρ) H 3 x37_1) x38_1 && (agn (loadA (cx ρ) H 3 x31_1) x32_1 && true)) then
      resK (call lim 58 [x32_1] H) fun x33_1 H => bif (agn (loadA (cx ρ) H 3 x37_1) x38_1 && true) then
        purK (binA Tryz.prog H .mul 3 x28_1 x33_1) fun x34_1 =>
        resK (call lim 20 [x38_1, x1] H) fun x40_1 H => bif (agn (binA Tryz.prog H .mul 3 x28_1 x33_1) x34_1 && true) then
          purK (binA Tryz.prog H .add 3 x34_1 x40_1) fun x41_1 =>
          R [x41_1, (.int .i64 0)] H
        else none
      else none
    else none
  else none
theorem N369_1_eq (ρ : Addr → Option Value) (call : CallF) (yc : YieldF) (lim k : Nat) (x0 x1 : AV) (H : Heap) (R : List AV → Heap → Res) :
    evL (cx ρ) call yc false 369 lim k (Code.at [1, 1] c369) (sp 42 [(0, x0), (1, x1)]) H (kk none (fun s H => R (([4, 5] : List Nat).map fun t => s.getD t (.tup [])) H) [] R [4, 5]) = N369_1 ρ call yc lim k x0 x1 H R := by
  kernel_rfl
noncomputable def N369_2 (ρ : Addr → Option Value) (call : CallF) (yc : YieldF) (lim k : Nat) (x0 x1 x9 : AV) (H : Heap) (kn : AV → AV → Heap → Res) (R : List AV → Heap → Res) : Res :=
  condK x9
  (
    R [(.int .i64 0), (.int .i64 7)] H)
  (
    kn x0 x1 H)
theorem N369_2_eq (ρ : Addr → Option Value) (call : CallF) (yc : YieldF) (lim k : Nat) (x0 x1 x9 : AV) (H : Heap) (kn : KS) (k0 : KS) (R : List AV → Heap → Res) :
    evL (cx ρ) call yc false 369 lim k (Code.at [1, 0, 0, 1, 1, 1] c369) (sp 42 [(0, x0), (1, x1), (9, x9)]) H (kk (some [0, 1]) kn [(0, (some [0, 1]), k0)] R [4, 5]) = N369_2 ρ call yc lim k x0 x1 x9 H (fun x0 x1 H => kn (sp 42 [(0, x0), (1, x1)]) H) R := by
  kernel_rfl
noncomputable def L369 (ρ : Addr → Option Value) (call : CallF) (yc : YieldF) (lim k : Nat) (x0 x1 : AV) (H : Heap) : Res :=
  purK (binA Tryz.prog H .eql 122 x0 .nilp) fun x8 =>
  condK x8
  (
    retK [(.int .i64 0), (.int .i64 2)] H)
  (
    purK (binA Tryz.prog H .gtr 22 x1 (.int .u64 281474976710655)) fun x11 =>
    condK x11
    (
      N369_2 ρ call yc lim k x0 x1 x11 H (fun x0_1 x1_1 H =>
        N369_1 ρ call yc lim k x0_1 x1_1 H retK) retK)
    (
      purK (nilChkA x0) fun x14 =>
      purK (fieldAddrA Tryz.prog 199 x14 0) fun x15 =>
      purK (loadA (cx ρ) H 3 x15) fun x16 =>
      resK (call lim 52 [x16, x1] H) fun x18 H =>
      resK (call lim 122 [x0, x18] H) fun x19 H =>
      purK (unA .not x19) fun x20 =>
      N369_2 ρ call yc lim k x0 x1 x20 H (fun x0_2 x1_2 H =>
        N369_1 ρ call yc lim k x0_2 x1_2 H retK) retK))
theorem L369_x (ρ : Addr → Option Value) (call : CallF) (yc : YieldF) (lim k : Nat) (J : CodeF) (x0 x1 : AV) (H : Heap) :
    evX (cx ρ) call yc false 369 lim k J c369 [x0, x1, (.tup []), (.tup []), (.tup []), (.tup []), (.tup []), (.tup []), (.tup []), (.tup []), (.tup []), (.tup []), (.tup []), (.tup []), (.tup []), (.tup []), (.tup []), (.tup []), (.tup []), (.tup []), (.tup []), (.tup []), (.tup []), (.tup []), (.tup []), (.tup []), (.tup []), (.tup []), (.tup []), (.tup []), (.tup []), (.tup []), (.tup []), (.tup []), (.tup []), (.tup []), (.tup []), (.tup []), (.tup []), (.tup []), (.tup []), (.tup [])] H (kk none (fun s H => retK (([4, 5] : List Nat).map fun t => s.getD t (.tup [])) H) [] retK [4, 5]) =
  purK (binA Tryz.prog H .eql 122 x0 .nilp) fun x8 =>
  condK x8
  (
    retK [(.int .i64 0), (.int .i64 2)] H)
  (
    purK (binA Tryz.prog H .gtr 22 x1 (.int .u64 281474976710655)) fun x11 =>
    condK x11
    (
      J (Code.at [1, 0, 0, 1, 1, 1] c369) (sp 42 [(0, x0), (1, x1), (9, x11)]) H (kk (some [0, 1]) (fun s H => J (Code.at [1, 1] c369) s H (kk none (fun s H => retK (([4, 5] : List Nat).map fun t => s.getD t (.tup [])) H) [] retK [4, 5])) [(0, (some [0, 1]), (fun s H => J (Code.at [1, 1] c369) s H (kk none (fun s H => retK (([4, 5] : List Nat).map fun t => s.getD t (.tup [])) H) [] retK [4, 5])))] retK [4, 5]))
    (
      purK (nilChkA x0) fun x14 =>
      purK (fieldAddrA Tryz.prog 199 x14 0) fun x15 =>
      purK (loadA (cx ρ) H 3 x15) fun x16 =>
      resK (call lim 52 [x16, x1] H) fun x18 H =>
      resK (call lim 122 [x0, x18] H) fun x19 H =>
      purK (unA .not x19) fun x20 =>
      J (Code.at [1, 0, 0, 1, 1, 1] c369) (sp 42 [(0, x0), (1, x1), (9, x20)]) H (kk (some [0, 1]) (fun s H => J (Code.at [1, 1] c369) s H (kk none (fun s H => retK (([4, 5] : List Nat).map fun t => s.getD t (.tup [])) H) [] retK [4, 5])) [(0, (some [0, 1]), (fun s H => J (Code.at [1, 1] c369) s H (kk none (fun s H => retK (([4, 5] : List Nat).map fun t => s.getD t (.tup [])) H) [] retK [4, 5])))] retK [4, 5]))) := by
  kernel_rfl
theorem G369 (ρ : Addr → Option Value) (call : CallF) (yc : YieldF) (lim k : Nat) (x0 x1 : AV) (H : Heap) :
    evL (cx ρ) call yc false 369 lim k c369 [x0, x1, (.tup []), (.tup []), (.tup []), (.tup []), (.tup []), (.tup []), (.tup []), (.tup []), (.tup []), (.tup []), (.tup []), (.tup []), (.tup []), (.tup []), (.tup []), (.tup []), (.tup []), (.tup []), (.tup []), (.tup []), (.tup []), (.tup []), (.tup []), (.tup []), (.tup []), (.tup []), (.tup []), (.tup []), (.tup []), (.tup []), (.tup []), (.tup []), (.tup []), (.tup []), (.tup []), (.tup []), (.tup []), (.tup []), (.tup []), (.tup [])] H (kk none (fun s H => retK (([4, 5] : List Nat).map fun t => s.getD t (.tup [])) H) [] retK [4, 5]) = L369 ρ call yc lim k x0 x1 H := by
  rw [evL_X, L369_x]
  simp only [← evL_X, L369, N369_1_eq, N369_2_eq]
theorem E369 (ρ : Addr → Option Value) (k lim : Nat) (x0 x1 : AV) (H : Heap) : evCall (cx ρ) (k + 1) lim 369 [x0, x1] H = L369 ρ (evCall (cx ρ) k) (evCY (cx ρ) k).2 lim k x0 x1 H := by
  rw [evCall_body (cx ρ) k lim 369 _ H Tryz.f369 c369 [4, 5] (by kernel_rfl) (by kernel_rfl) (by kernel_rfl) (by kernel_rfl) (by kernel_rfl)]
  exact G369 ρ (evCall (cx ρ) k) (evCY (cx ρ) k).2 lim k x0 x1 H
-- haycroft/place.Fits
noncomputable def c370 : Code := Code.of Tryz.prog 370
noncomputable def L370 (ρ : Addr → Option Value) (call : CallF) (yc : YieldF) (lim k : Nat) (x0 x1 x2 : AV) (H : Heap) : Res :=
  purK (binA Tryz.prog H .geq 3 x2 (.int .i64 1)) fun x8 =>
  purK (gPur (wantV x8 true) (some x2)) fun x10 =>
  purK (gPur (wantV x8 true) (some x0)) fun x11 =>
  purK (gPur (wantV x8 true) (some x1)) fun x12 =>
  resK (gRes (wantV x8 true) H (call lim 378 [x11, x12] H)) fun x13 H =>
  purK (gPur (wantV x8 true) (binA Tryz.prog H .leq 3 x10 x13)) fun x14 =>
  purK (pickA x8 x14 (.bool false)) fun x15 =>
  retK [x15] H
theorem G370 (ρ : Addr → Option Value) (call : CallF) (yc : YieldF) (lim k : Nat) (x0 x1 x2 : AV) (H : Heap) :
    evL (cx ρ) call yc false 370 lim k c370 [x0, x1, x2, (.tup []), (.tup []), (.tup []), (.tup []), (.tup []), (.tup []), (.tup []), (.tup []), (.tup []), (.tup []), (.tup []), (.tup []), (.tup [])] H (kk none (fun s H => retK (([6] : List Nat).map fun t => s.getD t (.tup [])) H) [] retK [6]) = L370 ρ call yc lim k x0 x1 x2 H := by
  kernel_rfl
theorem E370 (ρ : Addr → Option Value) (k lim : Nat) (x0 x1 x2 : AV) (H : Heap) : evCall (cx ρ) (k + 1) lim 370 [x0, x1, x2] H = L370 ρ (evCall (cx ρ) k) (evCY (cx ρ) k).2 lim k x0 x1 x2 H := by
  rw [evCall_body (cx ρ) k lim 370 _ H Tryz.f370 c370 [6] (by kernel_rfl) (by kernel_rfl) (by kernel_rfl) (by kernel_rfl) (by kernel_rfl)]
  exact G370 ρ (evCall (cx ρ) k) (evCY (cx ρ) k).2 lim k x0 x1 x2 H
-- haycroft/entry.To
noncomputable def c375 : Code := Code.of Tryz.prog 375
noncomputable def L375 (ρ : Addr → Option Value) (call : CallF) (yc : YieldF) (lim k : Nat) (x0 x1 : AV) (H : Heap) : Res :=
  resK (call lim 36 [x0] H) fun x10 H =>
  purK (extA 0 x10) fun x11 =>
  purK (extA 1 x10) fun x12 =>
  effK H (allocA (cx ρ) H 90) fun x6 H =>
  effK H ((storeA (cx ρ) lim H 90 x6 x11).map skips) fun _ H =>
  purK (binA Tryz.prog H .neq 28 x12 (.int .i64 0)) fun x14 =>
  condK x14
  (
    retK [(.int .u64 0), x12] H)
  (
    purK (fieldAddrA Tryz.prog 90 x6 0) fun x17 =>
    effK H ((storeA (cx ρ) lim H 22 x17 x1).map skips) fun _ H =>
    purK (fieldAddrA Tryz.prog 90 x6 2) fun x18 =>
    effK H ((storeA (cx ρ) lim H 4 x18 (.bool false)).map skips) fun _ H =>
    purK (loadA (cx ρ) H 90 x6) fun x19 =>
    resK (call lim 377 [x19] H) fun x20 H =>
    purK (extA 0 x20) fun x21 =>
    purK (extA 1 x20) fun x22 =>
    retK [x21, x22] H)
theorem G375 (ρ : Addr → Option Value) (call : CallF) (yc : YieldF) (lim k : Nat) (x0 x1 : AV) (H : Heap) :
    evL (cx ρ) call yc false 375 lim k c375 [x0, x1, (.tup []), (.tup []), (.tup []), (.tup []), (.tup []), (.tup []), (.tup []), (.tup []), (.tup []), (.tup []), (.tup []), (.tup []), (.tup []), (.tup []), (.tup []), (.tup []), (.tup []), (.tup []), (.tup []), (.tup []), (.tup [])] H (kk none (fun s H => retK (([4, 5] : List Nat).map fun t => s.getD t (.tup [])) H) [] retK [4, 5]) = L375 ρ call yc lim k x0 x1 H := by
  kernel_rfl
theorem E375 (ρ : Addr → Option Value) (k lim : Nat) (x0 x1 : AV) (H : Heap) : evCall (cx ρ) (k + 1) lim 375 [x0, x1] H = L375 ρ (evCall (cx ρ) k) (evCY (cx ρ) k).2 lim k x0 x1 H := by
  rw [evCall_body (cx ρ) k lim 375 _ H Tryz.f375 c375 [4, 5] (by kernel_rfl) (by kernel_rfl) (by kernel_rfl) (by kernel_rfl) (by kernel_rfl)]
  exact G375 ρ (evCall (cx ρ) k) (evCY (cx ρ) k).2 lim k x0 x1 H
-- haycroft/entry.Pack
noncomputable def c377 : Code := Code.of Tryz.prog 377
noncomputable def L377 (ρ : Addr → Option Value) (call : CallF) (yc : YieldF) (lim k : Nat) (x0 : AV) (H : Heap) : Res :=
  effK H (boxA H 90 x0) fun x1 H =>
  purK (loadA (cx ρ) H 90 x1) fun x6 =>
  resK (call lim 88 [x6] H) fun x7 H =>
  purK (unA .not x7) fun x8 =>
  condK x8
  (
    retK [(.int .u64 0), (.int .i64 1)] H)
  (
    purK (fieldAddrA Tryz.prog 90 x1 0) fun x10 =>
    purK (loadA (cx ρ) H 22 x10) fun x11 =>
    purK (fieldAddrA Tryz.prog 90 x1 1) fun x12 =>
    purK (loadA (cx ρ) H 22 x12) fun x13 =>
    effK H (buildSliceA (cx ρ) H 31 2 [(0, x11), (1, x13)]) fun x14 H =>
    effK H (buildSliceA (cx ρ) H 60 2 [(0, (.int .i64 48)), (1, (.int .i64 14))]) fun x15 H =>
    resK (call lim 206 [x14, x15] H) fun x16 H =>
    purK (extA 0 x16) fun x17 =>
    purK (extA 1 x16) fun x18 =>
    purK (fieldAddrA Tryz.prog 90 x1 2) fun x20 =>
    purK (loadA (cx ρ) H 4 x20) fun x21 =>
    resK (call lim 386 [x17, (.int .i64 62), x21] H) fun x22 H =>
    resK (call lim 386 [x22, (.int .i64 63), (.bool true)] H) fun x23 H =>
    retK [x23, x18] H)
theorem G377 (ρ : Addr → Option Value) (call : CallF) (yc : YieldF) (lim k : Nat) (x0 : AV) (H : Heap) :
    evL (cx ρ) call yc false 377 lim k c377 [x0, (.tup []), (.tup []), (.tup []), (.tup []), (.tup []), (.tup []), (.tup []), (.tup []), (.tup []), (.tup []), (.tup []), (.tup []), (.tup []), (.tup []), (.tup []), (.tup []), (.tup []), (.tup []), (.tup []), (.tup []), (.tup []), (.tup []), (.tup []), (.tup [])] H (kk none (fun s H => retK (([2, 3] : List Nat).map fun t => s.getD t (.tup [])) H) [] retK [2, 3]) = L377 ρ call yc lim k x0 H := by
  kernel_rfl
theorem E377 (ρ : Addr → Option Value) (k lim : Nat) (x0 : AV) (H : Heap) : evCall (cx ρ) (k + 1) lim 377 [x0] H = L377 ρ (evCall (cx ρ) k) (evCY (cx ρ) k).2 lim k x0 H := by
  rw [evCall_body (cx ρ) k lim 377 _ H Tryz.f377 c377 [2, 3] (by kernel_rfl) (by kernel_rfl) (by kernel_rfl) (by kernel_rfl) (by kernel_rfl)]
  exact G377 ρ (evCall (cx ρ) k) (evCY (cx ρ) k).2 lim k x0 H
-- haycroft/place.Room
noncomputable def c378 : Code := Code.of Tryz.prog 378
noncomputable def L378 (ρ : Addr → Option Value) (call : CallF) (yc : YieldF) (lim k : Nat) (x0 x1 : AV) (H : Heap) : Res :=
  resK (call lim 89 [x0] H) fun x6 H =>
  purK (unA .not x6) fun x7 =>
  purK (gPur (wantV x7 false) (some x1)) fun x9 =>
  purK (gPur (wantV x7 false) (binA Tryz.prog H .gtr 22 x9 (.int .u64 281474976710655))) fun x10 =>
  purK (pickA x7 (.bool true) x10) fun x11 =>
  condK x11
  (
    retK [(.int .i64 0)] H)
  (
    resK (call lim 58 [x0] H) fun x13 H =>
    resK (call lim 20 [x0, x1] H) fun x16 H =>
    purK (binA Tryz.prog H .sub 3 x13 x16) fun x17 =>
    retK [x17] H)
theorem G378 (ρ : Addr → Option Value) (call : CallF) (yc : YieldF) (lim k : Nat) (x0 x1 : AV) (H : Heap) :
    evL (cx ρ) call yc false 378 lim k c378 [x0, x1, (.tup []), (.tup []), (.tup []), (.tup []), (.tup []), (.tup []), (.tup []), (.tup []), (.tup []), (.tup []), (.tup []), (.tup []), (.tup []), (.tup []), (.tup []), (.tup [])] H (kk none (fun s H => retK (([4] : List Nat).map fun t => s.getD t (.tup [])) H) [] retK [4]) = L378 ρ call yc lim k x0 x1 H := by
  kernel_rfl
theorem E378 (ρ : Addr → Option Value) (k lim : Nat) (x0 x1 : AV) (H : Heap) : evCall (cx ρ) (k + 1) lim 378 [x0, x1] H = L378 ρ (evCall (cx ρ) k) (evCY (cx ρ) k).2 lim k x0 x1 H := by
  rw [evCall_body (cx ρ) k lim 378 _ H Tryz.f378 c378 [4] (by kernel_rfl) (by kernel_rfl) (by kernel_rfl) (by kernel_rfl) (by kernel_rfl)]
  exact G378 ρ (evCall (cx ρ) k) (evCY (cx ρ) k).2 lim k x0 x1 H
-- haycroft/field.Set
noncomputable def c386 : Code := Code.of Tryz.prog 386
noncomputable def N386_1 (ρ : Addr → Option Value) (call : CallF) (yc : YieldF) (lim k : Nat) (x0 x1 x7 : AV) (H : Heap) (R : List AV → Heap → Res) : Res :=
  resK (call lim 271 [x0, x1, (.int .i64 1), x7] H) fun x15_1 H =>
  purK (extA 0 x15_1) fun x16_1 =>
  purK (extA 1 x15_1) fun x17_1 =>
  purK (binA Tryz.prog H .neq 28 x17_1 (.int .i64 0)) fun x19_1 =>
  condK x19_1
  (
    R [x0] H)
  (
    R [x16_1] H)
theorem N386_1_eq (ρ : Addr → Option Value) (call : CallF) (yc : YieldF) (lim k : Nat) (x0 x1 x7 : AV) (H : Heap) (R : List AV → Heap → Res) :
    evL (cx ρ) call yc false 386 lim k (Code.at [1, 1, 1] c386) (sp 22 [(0, x0), (1, x1), (7, x7)]) H (kk none (fun s H => R (([6] : List Nat).map fun t => s.getD t (.tup [])) H) [] R [6]) = N386_1 ρ call yc lim k x0 x1 x7 H R := by
  kernel_rfl
noncomputable def L386 (ρ : Addr → Option Value) (call : CallF) (yc : YieldF) (lim k : Nat) (x0 x1 x2 : AV) (H : Heap) : Res :=
  condK x2
  (
    N386_1 ρ call yc lim k x0 x1 (.int .u64 1) H retK)
  (
    N386_1 ρ call yc lim k x0 x1 (.int .u64 0) H retK)
theorem L386_x (ρ : Addr → Option Value) (call : CallF) (yc : YieldF) (lim k : Nat) (J : CodeF) (x0 x1 x2 : AV) (H : Heap) :
    evX (cx ρ) call yc false 386 lim k J c386 [x0, x1, x2, (.tup []), (.tup []), (.tup []), (.tup []), (.tup []), (.tup []), (.tup []), (.tup []), (.tup []), (.tup []), (.tup []), (.tup []), (.tup []), (.tup []), (.tup []), (.tup []), (.tup []), (.tup []), (.tup [])] H (kk none (fun s H => retK (([6] : List Nat).map fun t => s.getD t (.tup [])) H) [] retK [6]) =
  condK x2
  (
    J (Code.at [1, 1, 1] c386) (sp 22 [(0, x0), (1, x1), (7, (.int .u64 1))]) H (kk none (fun s H => retK (([6] : List Nat).map fun t => s.getD t (.tup [])) H) [] retK [6]))
  (
    J (Code.at [1, 1, 1] c386) (sp 22 [(0, x0), (1, x1), (7, (.int .u64 0))]) H (kk none (fun s H => retK (([6] : List Nat).map fun t => s.getD t (.tup [])) H) [] retK [6])) := by
  kernel_rfl
theorem G386 (ρ : Addr → Option Value) (call : CallF) (yc : YieldF) (lim k : Nat) (x0 x1 x2 : AV) (H : Heap) :
    evL (cx ρ) call yc false 386 lim k c386 [x0, x1, x2, (.tup []), (.tup []), (.tup []), (.tup []), (.tup []), (.tup []), (.tup []), (.tup []), (.tup []), (.tup []), (.tup []), (.tup []), (.tup []), (.tup []), (.tup []), (.tup []), (.tup []), (.tup []), (.tup [])] H (kk none (fun s H => retK (([6] : List Nat).map fun t => s.getD t (.tup [])) H) [] retK [6]) = L386 ρ call yc lim k x0 x1 x2 H := by
  rw [evL_X, L386_x]
  simp only [← evL_X, L386, N386_1_eq]
theorem E386 (ρ : Addr → Option Value) (k lim : Nat) (x0 x1 x2 : AV) (H : Heap) : evCall (cx ρ) (k + 1) lim 386 [x0, x1, x2] H = L386 ρ (evCall (cx ρ) k) (evCY (cx ρ) k).2 lim k x0 x1 x2 H := by
  rw [evCall_body (cx ρ) k lim 386 _ H Tryz.f386 c386 [6] (by kernel_rfl) (by kernel_rfl) (by kernel_rfl) (by kernel_rfl) (by kernel_rfl)]
  exact G386 ρ (evCall (cx ρ) k) (evCY (cx ρ) k).2 lim k x0 x1 x2 H
end Go.Proofs.YtbnhlcgbigeceaaGreat
