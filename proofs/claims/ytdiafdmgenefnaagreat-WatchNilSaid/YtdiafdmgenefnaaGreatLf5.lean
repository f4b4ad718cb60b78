/- Functions, lifted. Printed by a program of this repo. -/
import Derived.Test.YtdiafdmgenefnaaGreatLfTab
set_option linter.unusedVariables false
set_option linter.unusedSimpArgs false
set_option maxRecDepth 100000
set_option maxHeartbeats 4000000
namespace Go.Proofs.YtdiafdmgenefnaaGreat
open Go.Ev Go.RowKit
-- haycroft/mix.Tag
noncomputable def c305 : Code := Code.of Tryz.prog 305
noncomputable def L305 (ρ : Addr → Option Value) (call : CallF) (yc : YieldF) (lim k : Nat) (x0 : AV) (H : Heap) : Res :=
  resK (call lim 242 [x0, (.int .i64 50), (.int .i64 14)] H) fun x4 H =>
  retK [x4] H
theorem G305 (ρ : Addr → Option Value) (call : CallF) (yc : YieldF) (lim k : Nat) (x0 : AV) (H : Heap) :
    evL (cx ρ) call yc false 305 lim k c305 [x0, (.tup []), (.tup []), (.tup []), (.tup [])] H (kk none (fun s H => retK (([2] : List Nat).map fun t => s.getD t (.tup [])) H) [] retK [2]) = L305 ρ call yc lim k x0 H := by
  kernel_rfl
theorem E305 (ρ : Addr → Option Value) (k lim : Nat) (x0 : AV) (H : Heap) : evCall (cx ρ) (k + 1) lim 305 [x0] H = L305 ρ (evCall (cx ρ) k) (evCY (cx ρ) k).2 lim k x0 H := by
  rw [evCall_body (cx ρ) k lim 305 _ H Tryz.f305 c305 [2] (by kernel_rfl) (by kernel_rfl) (by kernel_rfl) (by kernel_rfl) (by kernel_rfl)]
  exact G305 ρ (evCall (cx ρ) k) (evCY (cx ρ) k).2 lim k x0 H
-- (*haycroft/index.Index).Look$2
noncomputable def c306 : Code := Code.of Tryz.prog 306
noncomputable def L306 (ρ : Addr → Option Value) (call : CallF) (yc : YieldF) (lim k : Nat) (x0 x1 : AV) (H : Heap) : Res :=
  purK (ld1 ρ H x1) fun x4 =>
  purK (nilChkA x4) fun x5 =>
  purK (addA 2 x5) fun x6 =>
  purK (ld1 ρ H x6) fun x7 =>
  resK (call lim 97 [x7, x0] H) fun x9 H =>
  purK (binA Tryz.prog H .eql 22 x9 (.int .u64 0)) fun x10 =>
  retK [x10] H
theorem G306 (ρ : Addr → Option Value) (call : CallF) (yc : YieldF) (lim k : Nat) (x0 x1 : AV) (H : Heap) :
    evL (cx ρ) call yc false 306 lim k c306 [x0, x1, (.tup []), (.tup []), (.tup []), (.tup []), (.tup []), (.tup []), (.tup []), (.tup []), (.tup [])] H (kk none (fun s H => retK (([3] : List Nat).map fun t => s.getD t (.tup [])) H) [] retK [3]) = L306 ρ call yc lim k x0 x1 H := by
  kernel_rfl
theorem E306 (ρ : Addr → Option Value) (k lim : Nat) (x0 x1 : AV) (H : Heap) : evCall (cx ρ) (k + 1) lim 306 [x0, x1] H = L306 ρ (evCall (cx ρ) k) (evCY (cx ρ) k).2 lim k x0 x1 H := by
  rw [evCall_body (cx ρ) k lim 306 _ H Tryz.f306 c306 [3] (by kernel_rfl) (by kernel_rfl) (by kernel_rfl) (by kernel_rfl) (by kernel_rfl)]
  exact G306 ρ (evCall (cx ρ) k) (evCY (cx ρ) k).2 lim k x0 x1 H
-- (*haycroft/task.Task).claim
noncomputable def c307 : Code := Code.of Tryz.prog 307
noncomputable def L307 (ρ : Addr → Option Value) (call : CallF) (yc : YieldF) (lim k : Nat) (x0 : AV) (H : Heap) : Res :=
  purK (nilChkA x0) fun x8 =>
  purK (addA 1 x8) fun x9 =>
  purK (ld1 ρ H x9) fun x10 =>
  purK (nilChkA x0) fun x12 =>
  purK (addA 9 x12) fun x13 =>
  purK (ld1 ρ H x13) fun x14 =>
  purK (nilChkA x0) fun x16 =>
  purK (addA 7 x16) fun x17 =>
  purK (ld1 ρ H x17) fun x18 =>
  resK (call lim 348 [x10, x14, x18] H) fun x19 H =>
  purK (extA 0 x19) fun x20 =>
  purK (extA 1 x19) fun x21 =>
  purK (binA Tryz.prog H .neq 30 x21 (.int .i64 0)) fun x23 =>
  condK x23
  (
    resK (call lim 100 [x21] H) fun x25 H =>
    purK (extA 0 x25) fun x26 =>
    purK (extA 1 x25) fun x27 =>
    retK [x26, x27] H)
  (
    resK (call lim 177 [x0, (.fn (.func 158) [] [])] H) fun x29 H =>
    purK (extA 0 x29) fun x30 =>
    purK (extA 1 x29) fun x31 =>
    retK [x30, x31] H)
theorem G307 (ρ : Addr → Option Value) (call : CallF) (yc : YieldF) (lim k : Nat) (x0 : AV) (H : Heap) :
    evL (cx ρ) call yc false 307 lim k c307 [x0, (.tup []), (.tup []), (.tup []), (.tup []), (.tup []), (.tup []), (.tup []), (.tup []), (.tup []), (.tup []), (.tup []), (.tup []), (.tup []), (.tup []), (.tup []), (.tup []), (.tup []), (.tup []), (.tup []), (.tup []), (.tup []), (.tup []), (.tup []), (.tup []), (.tup []), (.tup []), (.tup []), (.tup []), (.tup []), (.tup []), (.tup [])] H (kk none (fun s H => retK (([2, 3] : List Nat).map fun t => s.getD t (.tup [])) H) [] retK [2, 3]) = L307 ρ call yc lim k x0 H := by
  kernel_rfl
theorem E307 (ρ : Addr → Option Value) (k lim : Nat) (x0 : AV) (H : Heap) : evCall (cx ρ) (k + 1) lim 307 [x0] H = L307 ρ (evCall (cx ρ) k) (evCY (cx ρ) k).2 lim k x0 H := by
  rw [evCall_body (cx ρ) k lim 307 _ H Tryz.f307 c307 [2, 3] (by kernel_rfl) (by kernel_rfl) (by kernel_rfl) (by kernel_rfl) (by kernel_rfl)]
  exact G307 ρ (evCall (cx ρ) k) (evCY (cx ρ) k).2 lim k x0 H
-- haycroft/field.Right
noncomputable def c310 : Code := Code.of Tryz.prog 310
noncomputable def L310 (ρ : Addr → Option Value) (call : CallF) (yc : YieldF) (lim k : Nat) (x0 x1 : AV) (H : Heap) : Res :=
  purK (binA Tryz.prog H .geq 3 x0 (.int .i64 0)) fun x6 =>
  purK (gPur (wantV x6 true) (some x0)) fun x8 =>
  purK (gPur (wantV x6 true) (binA Tryz.prog H .lss 3 x8 (.int .i64 64))) fun x9 =>
  purK (pickA x6 x9 (.bool false)) fun x10 =>
  purK (gPur (wantV x10 true) (some x1)) fun x12 =>
  purK (gPur (wantV x10 true) (binA Tryz.prog H .geq 3 x12 (.int .i64 1))) fun x13 =>
  purK (pickA x10 x13 (.bool false)) fun x14 =>
  purK (gPur (wantV x14 true) (some x1)) fun x16 =>
  purK (gPur (wantV x14 true) (some x0)) fun x17 =>
  purK (gPur (wantV x14 true) (binA Tryz.prog H .sub 3 (.int .i64 64) x17)) fun x18 =>
  purK (gPur (wantV x14 true) (binA Tryz.prog H .leq 3 x16 x18)) fun x19 =>
  purK (pickA x14 x19 (.bool false)) fun x20 =>
  retK [x20] H
theorem G310 (ρ : Addr → Option Value) (call : CallF) (yc : YieldF) (lim k : Nat) (x0 x1 : AV) (H : Heap) :
    evL (cx ρ) call yc false 310 lim k c310 [x0, x1, (.tup []), (.tup []), (.tup []), (.tup []), (.tup []), (.tup []), (.tup []), (.tup []), (.tup []), (.tup []), (.tup []), (.tup []), (.tup []), (.tup []), (.tup []), (.tup []), (.tup []), (.tup []), (.tup [])] H (kk none (fun s H => retK (([4] : List Nat).map fun t => s.getD t (.tup [])) H) [] retK [4]) = L310 ρ call yc lim k x0 x1 H := by
  kernel_rfl
theorem E310 (ρ : Addr → Option Value) (k lim : Nat) (x0 x1 : AV) (H : Heap) : evCall (cx ρ) (k + 1) lim 310 [x0, x1] H = L310 ρ (evCall (cx ρ) k) (evCY (cx ρ) k).2 lim k x0 x1 H := by
  rw [evCall_body (cx ρ) k lim 310 _ H Tryz.f310 c310 [4] (by kernel_rfl) (by kernel_rfl) (by kernel_rfl) (by kernel_rfl) (by kernel_rfl)]
  exact G310 ρ (evCall (cx ρ) k) (evCY (cx ρ) k).2 lim k x0 x1 H
-- haycroft/header.Lengths
noncomputable def c316 : Code := Code.of Tryz.prog 316
noncomputable def L316 (ρ : Addr → Option Value) (call : CallF) (yc : YieldF) (lim k : Nat) (x0 x1 : AV) (H : Heap) : Res :=
  purK (binA Tryz.prog H .lss 3 x0 (.int .i64 0)) fun x8 =>
  purK (gPur (wantV x8 false) (some x1)) fun x10 =>
  purK (gPur (wantV x8 false) (binA Tryz.prog H .lss 3 x10 (.int .i64 0))) fun x11 =>
  purK (pickA x8 (.bool true) x11) fun x12 =>
  condK x12
  (
    retK [(.int .u64 0), (.int .i64 1)] H)
  (
    purK (binA Tryz.prog H .gtr 3 x0 (.int .i64 64)) fun x15 =>
    purK (gPur (wantV x15 false) (some x1)) fun x17 =>
    purK (gPur (wantV x15 false) (binA Tryz.prog H .gtr 3 x17 (.int .i64 128))) fun x18 =>
    purK (pickA x15 (.bool true) x18) fun x19 =>
    condK x19
    (
      retK [(.int .u64 0), (.int .i64 5)] H)
    (
      purK (cvI .u64 x0) fun x21 =>
      purK (cvI .u64 x1) fun x23 =>
      effK H (bldS H 22 1 [.int .u64 0] 3 [(0, 1, x21), (1, 1, x23), (2, 1, (.int .u64 44203))]) fun x24 H =>
      effK H (bldS H 3 1 [.int .i64 0] 3 [(0, 1, (.int .i64 16)), (1, 1, (.int .i64 16)), (2, 1, (.int .i64 16))]) fun x25 H =>
      resK (call lim 360 [x24, x25] H) fun x26 H =>
      purK (extA 0 x26) fun x27 =>
      purK (extA 1 x26) fun x28 =>
      retK [x27, x28] H))
theorem G316 (ρ : Addr → Option Value) (call : CallF) (yc : YieldF) (lim k : Nat) (x0 x1 : AV) (H : Heap) :
    evL (cx ρ) call yc false 316 lim k c316 [x0, x1, (.tup []), (.tup []), (.tup []), (.tup []), (.tup []), (.tup []), (.tup []), (.tup []), (.tup []), (.tup []), (.tup []), (.tup []), (.tup []), (.tup []), (.tup []), (.tup []), (.tup []), (.tup []), (.tup []), (.tup []), (.tup []), (.tup []), (.tup []), (.tup []), (.tup []), (.tup []), (.tup [])] H (kk none (fun s H => retK (([4, 5] : List Nat).map fun t => s.getD t (.tup [])) H) [] retK [4, 5]) = L316 ρ call yc lim k x0 x1 H := by
  kernel_rfl
theorem E316 (ρ : Addr → Option Value) (k lim : Nat) (x0 x1 : AV) (H : Heap) : evCall (cx ρ) (k + 1) lim 316 [x0, x1] H = L316 ρ (evCall (cx ρ) k) (evCY (cx ρ) k).2 lim k x0 x1 H := by
  rw [evCall_body (cx ρ) k lim 316 _ H Tryz.f316 c316 [4, 5] (by kernel_rfl) (by kernel_rfl) (by kernel_rfl) (by kernel_rfl) (by kernel_rfl)]
  exact G316 ρ (evCall (cx ρ) k) (evCY (cx ρ) k).2 lim k x0 x1 H
-- haycroft/record.words
noncomputable def c317 : Code := Code.of Tryz.prog 317
noncomputable def L317 (ρ : Addr → Option Value) (call : CallF) (yc : YieldF) (lim k : Nat) (x0 : AV) (H : Heap) : Res :=
  purK (binA Tryz.prog H .add 3 x0 (.int .i64 8)) fun x4 =>
  purK (binA Tryz.prog H .sub 3 x4 (.int .i64 1)) fun x5 =>
  purK (binA Tryz.prog H .quo 3 x5 (.int .i64 8)) fun x6 =>
  retK [x6] H
theorem G317 (ρ : Addr → Option Value) (call : CallF) (yc : YieldF) (lim k : Nat) (x0 : AV) (H : Heap) :
    evL (cx ρ) call yc false 317 lim k c317 [x0, (.tup []), (.tup []), (.tup []), (.tup []), (.tup []), (.tup [])] H (kk none (fun s H => retK (([2] : List Nat).map fun t => s.getD t (.tup [])) H) [] retK [2]) = L317 ρ call yc lim k x0 H := by
  kernel_rfl
theorem E317 (ρ : Addr → Option Value) (k lim : Nat) (x0 : AV) (H : Heap) : evCall (cx ρ) (k + 1) lim 317 [x0] H = L317 ρ (evCall (cx ρ) k) (evCY (cx ρ) k).2 lim k x0 H := by
  rw [evCall_body (cx ρ) k lim 317 _ H Tryz.f317 c317 [2] (by kernel_rfl) (by kernel_rfl) (by kernel_rfl) (by kernel_rfl) (by kernel_rfl)]
  exact G317 ρ (evCall (cx ρ) k) (evCY (cx ρ) k).2 lim k x0 H
-- haycroft/field.Flag
noncomputable def c318 : Code := Code.of Tryz.prog 318
noncomputable def L318 (ρ : Addr → Option Value) (call : CallF) (yc : YieldF) (lim k : Nat) (x0 x1 : AV) (H : Heap) : Res :=
  resK (call lim 242 [x0, x1, (.int .i64 1)] H) fun x7 H =>
  purK (binA Tryz.prog H .eql 22 x7 (.int .u64 1)) fun x8 =>
  retK [x8] H
theorem G318 (ρ : Addr → Option Value) (call : CallF) (yc : YieldF) (lim k : Nat) (x0 x1 : AV) (H : Heap) :
    evL (cx ρ) call yc false 318 lim k c318 [x0, x1, (.tup []), (.tup []), (.tup []), (.tup []), (.tup []), (.tup []), (.tup [])] H (kk none (fun s H => retK (([4] : List Nat).map fun t => s.getD t (.tup [])) H) [] retK [4]) = L318 ρ call yc lim k x0 x1 H := by
  kernel_rfl
theorem E318 (ρ : Addr → Option Value) (k lim : Nat) (x0 x1 : AV) (H : Heap) : evCall (cx ρ) (k + 1) lim 318 [x0, x1] H = L318 ρ (evCall (cx ρ) k) (evCY (cx ρ) k).2 lim k x0 x1 H := by
  rw [evCall_body (cx ρ) k lim 318 _ H Tryz.f318 c318 [4] (by kernel_rfl) (by kernel_rfl) (by kernel_rfl) (by kernel_rfl) (by kernel_rfl)]
  exact G318 ρ (evCall (cx ρ) k) (evCY (cx ρ) k).2 lim k x0 x1 H
-- haycroft/header.Pack
noncomputable def c319 : Code := Code.of Tryz.prog 319
noncomputable def L319 (ρ : Addr → Option Value) (call : CallF) (yc : YieldF) (lim k : Nat) (x0 : AV) (H : Heap) : Res :=
  effK H (boxA H 265 x0) fun x1 H =>
  purK (addA 0 x1) fun x4 =>
  purK (ld1 ρ H x4) fun x5 =>
  purK (binA Tryz.prog H .gtr 22 x5 (.int .u64 281474976710655)) fun x6 =>
  condK x6
  (
    retK [(.int .u64 0), (.int .i64 1)] H)
  (
    mkK H (bldS H 3 1 [.int .i64 0] 3 [(0, 1, (.int .i64 48)), (1, 1, (.int .i64 1)), (2, 1, (.int .i64 1))]) true fun x16 H =>
    purK (addA 0 x1) fun x7 =>
    purK (ld1 ρ H x7) fun x8 =>
    purK (addA 1 x1) fun x9 =>
    purK (ld1 ρ H x9) fun x10 =>
    purK (addA 2 x1) fun x12 =>
    purK (ld1 ρ H x12) fun x13 =>
    resK (call lim 361 [x10] H) fun x11 H => bif (agn (ld1 ρ H x12) x13 && (agn (ld1 ρ H x7) x8 && true)) then
      resK (call lim 361 [x13] H) fun x14 H => bif (agn (ld1 ρ H x7) x8 && true) then
        mkK H (bldS H 22 1 [.int .u64 0] 3 [(0, 1, x8), (1, 1, x11), (2, 1, x14)]) true fun x15 H => bif (agn (ld1 ρ H x12) x13 && (agn (ld1 ρ H x9) x10 && (agn (ld1 ρ H x7) x8 && true))) then
          resK (call lim 360 [x15, x16] H) fun x17 H =>
          purK (extA 0 x17) fun x18 =>
          purK (extA 1 x17) fun x19 =>
          retK [x18, x19] H
        else none
      else none
    else none)
theorem G319 (ρ : Addr → Option Value) (call : CallF) (yc : YieldF) (lim k : Nat) (x0 : AV) (H : Heap) :
    evL (cx ρ) call yc false 319 lim k c319 [x0, (.tup []), (.tup []), (.tup []), (.tup []), (.tup []), (.tup []), (.tup []), (.tup []), (.tup []), (.tup []), (.tup []), (.tup []), (.tup []), (.tup []), (.tup []), (.tup []), (.tup []), (.tup []), (.tup [])] H (kk none (fun s H => retK (([2, 3] : List Nat).map fun t => s.getD t (.tup [])) H) [] retK [2, 3]) = L319 ρ call yc lim k x0 H := by
  kernel_rfl
theorem E319 (ρ : Addr → Option Value) (k lim : Nat) (x0 : AV) (H : Heap) : evCall (cx ρ) (k + 1) lim 319 [x0] H = L319 ρ (evCall (cx ρ) k) (evCY (cx ρ) k).2 lim k x0 H := by
  rw [evCall_body (cx ρ) k lim 319 _ H Tryz.f319 c319 [2, 3] (by kernel_rfl) (by kernel_rfl) (by kernel_rfl) (by kernel_rfl) (by kernel_rfl)]
  exact G319 ρ (evCall (cx ρ) k) (evCY (cx ρ) k).2 lim k x0 H
-- haycroft/record.Adds
noncomputable def c320 : Code := Code.of Tryz.prog 320
noncomputable def L320 (ρ : Addr → Option Value) (call : CallF) (yc : YieldF) (lim k : Nat) (x0 x1 : AV) (H : Heap) : Res :=
  resK (call lim 362 [x0] H) fun x6 H =>
  purK (binA Tryz.prog H .add 22 x6 x1) fun x8 =>
  resK (call lim 355 [x8] H) fun x9 H =>
  retK [x9] H
theorem G320 (ρ : Addr → Option Value) (call : CallF) (yc : YieldF) (lim k : Nat) (x0 x1 : AV) (H : Heap) :
    evL (cx ρ) call yc false 320 lim k c320 [x0, x1, (.tup []), (.tup []), (.tup []), (.tup []), (.tup []), (.tup []), (.tup []), (.tup [])] H (kk none (fun s H => retK (([4] : List Nat).map fun t => s.getD t (.tup [])) H) [] retK [4]) = L320 ρ call yc lim k x0 x1 H := by
  kernel_rfl
theorem E320 (ρ : Addr → Option Value) (k lim : Nat) (x0 x1 : AV) (H : Heap) : evCall (cx ρ) (k + 1) lim 320 [x0, x1] H = L320 ρ (evCall (cx ρ) k) (evCY (cx ρ) k).2 lim k x0 x1 H := by
  rw [evCall_body (cx ρ) k lim 320 _ H Tryz.f320 c320 [4] (by kernel_rfl) (by kernel_rfl) (by kernel_rfl) (by kernel_rfl) (by kernel_rfl)]
  exact G320 ρ (evCall (cx ρ) k) (evCY (cx ρ) k).2 lim k x0 x1 H
-- (*haycroft/tail.Tail).Take
noncomputable def c321 : Code := Code.of Tryz.prog 321
noncomputable def L321 (ρ : Addr → Option Value) (call : CallF) (yc : YieldF) (lim k : Nat) (x0 x1 : AV) (H : Heap) : Res :=
  purK (binA Tryz.prog H .eql 119 x0 .nilp) fun x12 =>
  condK x12
  (
    retK [(.int .u64 0), (.int .i64 0), (.int .i64 2)] H)
  (
    purK (binA Tryz.prog H .lss 3 x1 (.int .i64 1)) fun x15 =>
    condK x15
    (
      retK [(.int .u64 0), (.int .i64 0), (.int .i64 1)] H)
    (
      resK (call lim 328 [x0] H) fun x19 H =>
      purK (binA Tryz.prog H .gtr 3 x1 x19) fun x20 =>
      condK x20
      (
        retK [(.int .u64 0), (.int .i64 0), (.int .i64 5)] H)
      (
        resK (call lim 363 [x0] H) fun x23 H =>
        condK x23
        (
          resK (call lim 364 [x0, (.int .i64 3)] H) fun x25 H =>
          retK [(.int .u64 0), x25, (.int .i64 0)] H)
        (
          purK (nilChkA x0) fun x28 =>
          purK (addA 2 x28) fun x29 =>
          purK (ld1 ρ H x29) fun x30 =>
          purK (cvI .u64 x1) fun x32 =>
          resK (call lim 181 [x30, (.int .i64 0), x32] H) fun x33 H =>
          purK (extA 0 x33) fun x34 =>
          purK (extA 1 x33) fun x35 =>
          purK (binA Tryz.prog H .neq 30 x35 (.int .i64 0)) fun x37 =>
          condK x37
          (
            retK [(.int .u64 0), (.int .i64 0), x35] H)
          (
            resK (call lim 248 [(.int .i64 32)] H) fun x40 H =>
            purK (binA Tryz.prog H .and 22 x34 x40) fun x41 =>
            purK (cvI .i64 x41) fun x42 =>
            purK (binA Tryz.prog H .add 3 x42 x1) fun x45 =>
            resK (call lim 328 [x0] H) fun x47 H =>
            purK (binA Tryz.prog H .gtr 3 x45 x47) fun x48 =>
            condK x48
            (
              resK (call lim 364 [x0, (.int .i64 2)] H) fun x50 H =>
              retK [(.int .u64 0), x50, (.int .i64 0)] H)
            (
              purK (nilChkA x0) fun x52 =>
              purK (addA 0 x52) fun x53 =>
              purK (ld1 ρ H x53) fun x54 =>
              purK (binA Tryz.prog H .shr 22 x34 (.int .u64 32)) fun x56 =>
              purK (cvI .i64 x56) fun x57 =>
              resK (call lim 342 [x54, x57] H) fun x58 H =>
              purK (cvI .u64 x42) fun x60 =>
              purK (binA Tryz.prog H .add 22 x58 x60) fun x61 =>
              retK [x61, (.int .i64 1), (.int .i64 0)] H))))))
theorem G321 (ρ : Addr → Option Value) (call : CallF) (yc : YieldF) (lim k : Nat) (x0 x1 : AV) (H : Heap) :
    evL (cx ρ) call yc false 321 lim k c321 [x0, x1, (.tup []), (.tup []), (.tup []), (.tup []), (.tup []), (.tup []), (.tup []), (.tup []), (.tup []), (.tup []), (.tup []), (.tup []), (.tup []), (.tup []), (.tup []), (.tup []), (.tup []), (.tup []), (.tup []), (.tup []), (.tup []), (.tup []), (.tup []), (.tup []), (.tup []), (.tup []), (.tup []), (.tup []), (.tup []), (.tup []), (.tup []), (.tup []), (.tup []), (.tup []), (.tup []), (.tup []), (.tup []), (.tup []), (.tup []), (.tup []), (.tup []), (.tup []), (.tup []), (.tup []), (.tup []), (.tup []), (.tup []), (.tup []), (.tup []), (.tup []), (.tup []), (.tup []), (.tup []), (.tup []), (.tup []), (.tup []), (.tup []), (.tup []), (.tup []), (.tup [])] H (kk none (fun s H => retK (([4, 5, 6] : List Nat).map fun t => s.getD t (.tup [])) H) [] retK [4, 5, 6]) = L321 ρ call yc lim k x0 x1 H := by
  kernel_rfl
theorem E321 (ρ : Addr → Option Value) (k lim : Nat) (x0 x1 : AV) (H : Heap) : evCall (cx ρ) (k + 1) lim 321 [x0, x1] H = L321 ρ (evCall (cx ρ) k) (evCY (cx ρ) k).2 lim k x0 x1 H := by
  rw [evCall_body (cx ρ) k lim 321 _ H Tryz.f321 c321 [4, 5, 6] (by kernel_rfl) (by kernel_rfl) (by kernel_rfl) (by kernel_rfl) (by kernel_rfl)]
  exact G321 ρ (evCall (cx ρ) k) (evCY (cx ρ) k).2 lim k x0 x1 H
-- haycroft/record.Words
noncomputable def c322 : Code := Code.of Tryz.prog 322
noncomputable def L322 (ρ : Addr → Option Value) (call : CallF) (yc : YieldF) (lim k : Nat) (x0 : AV) (H : Heap) : Res :=
  effK H (boxA H 267 x0) fun x1 H =>
  purK (ldN ρ H 5 x1) fun x10 =>
  resK (call lim 255 [x10] H) fun x11 H =>
  purK (binA Tryz.prog H .neq 30 x11 (.int .i64 0)) fun x13 =>
  condK x13
  (
    retK [.nils, x11] H)
  (
    purK (addA 0 x1) fun x16 =>
    purK (ldN ρ H 3 x16) fun x17 =>
    resK (call lim 319 [x17] H) fun x18 H =>
    purK (extA 0 x18) fun x19 =>
    purK (extA 1 x18) fun x20 =>
    purK (addA 3 x1) fun x22 =>
    purK (ld1 ρ H x22) fun x23 =>
    purK (lenT x23) fun x24 =>
    purK (addA 4 x1) fun x25 =>
    purK (ld1 ρ H x25) fun x26 =>
    purK (lenT x26) fun x27 =>
    resK (call lim 316 [x24, x27] H) fun x28 H =>
    purK (extA 0 x28) fun x29 =>
    purK (extA 1 x28) fun x30 =>
    effK H (bldS H 22 1 [.int .u64 0] 3 [(0, 1, x19), (1, 1, (.int .u64 0)), (2, 1, x29)]) fun x33 H =>
    purK (addA 3 x1) fun x34 =>
    purK (ld1 ρ H x34) fun x35 =>
    resK (call lim 167 [x35] H) fun x36 H =>
    effK H (apA ρ lim H 22 1 8 x33 x36) fun x37 H =>
    purK (addA 4 x1) fun x39 =>
    purK (ld1 ρ H x39) fun x40 =>
    resK (call lim 167 [x40] H) fun x41 H =>
    effK H (apA ρ lim H 22 1 8 x37 x41) fun x42 H =>
    retK [x42, (.int .i64 0)] H)
theorem G322 (ρ : Addr → Option Value) (call : CallF) (yc : YieldF) (lim k : Nat) (x0 : AV) (H : Heap) :
    evL (cx ρ) call yc false 322 lim k c322 [x0, (.tup []), (.tup []), (.tup []), (.tup []), (.tup []), (.tup []), (.tup []), (.tup []), (.tup []), (.tup []), (.tup []), (.tup []), (.tup []), (.tup []), (.tup []), (.tup []), (.tup []), (.tup []), (.tup []), (.tup []), (.tup []), (.tup []), (.tup []), (.tup []), (.tup []), (.tup []), (.tup []), (.tup []), (.tup []), (.tup []), (.tup []), (.tup []), (.tup []), (.tup []), (.tup []), (.tup []), (.tup []), (.tup []), (.tup []), (.tup []), (.tup []), (.tup [])] H (kk none (fun s H => retK (([2, 3] : List Nat).map fun t => s.getD t (.tup [])) H) [] retK [2, 3]) = L322 ρ call yc lim k x0 H := by
  kernel_rfl
theorem E322 (ρ : Addr → Option Value) (k lim : Nat) (x0 : AV) (H : Heap) : evCall (cx ρ) (k + 1) lim 322 [x0] H = L322 ρ (evCall (cx ρ) k) (evCY (cx ρ) k).2 lim k x0 H := by
  rw [evCall_body (cx ρ) k lim 322 _ H Tryz.f322 c322 [2, 3] (by kernel_rfl) (by kernel_rfl) (by kernel_rfl) (by kernel_rfl) (by kernel_rfl)]
  exact G322 ρ (evCall (cx ρ) k) (evCY (cx ρ) k).2 lim k x0 H
-- (*haycroft/pages.Buffer).Fill
noncomputable def c323 : Code := Code.of Tryz.prog 323
noncomputable def L323 (ρ : Addr → Option Value) (call : CallF) (yc : YieldF) (lim k : Nat) (x0 x1 x2 : AV) (H : Heap) : Res :=
  purK (lenS x2) fun x13 =>
  resK (call lim 351 [x0, x1, x13] H) fun x14 H =>
  purK (extA 0 x14) fun x15 =>
  purK (extA 1 x14) fun x16 =>
  purK (binA Tryz.prog H .neq 30 x16 (.int .i64 0)) fun x18 =>
  condK x18
  (
    retK [x16] H)
  (
    purK (nilChkA x0) fun x21 =>
    purK (addA 1 x21) fun x22 =>
    purK (ld1 ρ H x22) fun x23 =>
    resK (call lim 274 [x23, x15, x2] H) fun x26 H =>
    retK [x26] H)
theorem G323 (ρ : Addr → Option Value) (call : CallF) (yc : YieldF) (lim k : Nat) (x0 x1 x2 : AV) (H : Heap) :
    evL (cx ρ) call yc false 323 lim k c323 [x0, x1, x2, (.tup []), (.tup []), (.tup []), (.tup []), (.tup []), (.tup []), (.tup []), (.tup []), (.tup []), (.tup []), (.tup []), (.tup []), (.tup []), (.tup []), (.tup []), (.tup []), (.tup []), (.tup []), (.tup []), (.tup []), (.tup []), (.tup []), (.tup []), (.tup [])] H (kk none (fun s H => retK (([6] : List Nat).map fun t => s.getD t (.tup [])) H) [] retK [6]) = L323 ρ call yc lim k x0 x1 x2 H := by
  kernel_rfl
theorem E323 (ρ : Addr → Option Value) (k lim : Nat) (x0 x1 x2 : AV) (H : Heap) : evCall (cx ρ) (k + 1) lim 323 [x0, x1, x2] H = L323 ρ (evCall (cx ρ) k) (evCY (cx ρ) k).2 lim k x0 x1 x2 H := by
  rw [evCall_body (cx ρ) k lim 323 _ H Tryz.f323 c323 [6] (by kernel_rfl) (by kernel_rfl) (by kernel_rfl) (by kernel_rfl) (by kernel_rfl)]
  exact G323 ρ (evCall (cx ρ) k) (evCY (cx ρ) k).2 lim k x0 x1 x2 H
-- (*haycroft/task.Task).publish
noncomputable def c324 : Code := Code.of Tryz.prog 324
noncomputable def L324 (ρ : Addr → Option Value) (call : CallF) (yc : YieldF) (lim k : Nat) (x0 : AV) (H : Heap) : Res :=
  purK (nilChkA x0) fun x11 =>
  purK (addA 1 x11) fun x12 =>
  purK (ld1 ρ H x12) fun x13 =>
  purK (nilChkA x0) fun x15 =>
  purK (addA 9 x15) fun x16 =>
  purK (ld1 ρ H x16) fun x17 =>
  purK (nilChkA x0) fun x19 =>
  purK (addA 10 x19) fun x20 =>
  purK (ld1 ρ H x20) fun x21 =>
  purK (nilChkA x0) fun x23 =>
  purK (addA 15 x23) fun x24 =>
  purK (ld1 ρ H x24) fun x25 =>
  resK (call lim 365 [x13, x17, x21, x25] H) fun x26 H =>
  purK (extA 0 x26) fun x27 =>
  purK (extA 1 x26) fun x28 =>
  purK (binA Tryz.prog H .neq 30 x28 (.int .i64 0)) fun x30 =>
  condK x30
  (
    resK (call lim 100 [x28] H) fun x32 H =>
    purK (extA 0 x32) fun x33 =>
    purK (extA 1 x32) fun x34 =>
    retK [x33, x34] H)
  (
    condK x27
    (
      resK (call lim 176 [x0, (.int .i64 0), (.str (ByteArray.mk #[]))] H) fun x37 H =>
      purK (extA 0 x37) fun x38 =>
      purK (extA 1 x37) fun x39 =>
      retK [x38, x39] H)
    (
      resK (call lim 256 [x0] H) fun x41 H =>
      effK H (some (.ptr H.sz 0 0, .new (newCells 267 false [.int .u64 0, .bool false, .bool false, .str ByteArray.empty, .str ByteArray.empty]))) fun x6 H =>
      effK H (stA lim H 5 x6 x41) fun _ H =>
      purK (addA 0 x6) fun x42 =>
      purK (addA 2 x42) fun x43 =>
      effK H (stA lim H 1 x43 (.bool true)) fun _ H =>
      purK (addA 0 x6) fun x45 =>
      purK (ldN ρ H 3 x45) fun x46 =>
      resK (call lim 319 [x46] H) fun x47 H =>
      purK (extA 0 x47) fun x48 =>
      purK (extA 1 x47) fun x49 =>
      purK (binA Tryz.prog H .neq 30 x49 (.int .i64 0)) fun x51 =>
      condK x51
      (
        resK (call lim 100 [x49] H) fun x53 H =>
        purK (extA 0 x53) fun x54 =>
        purK (extA 1 x53) fun x55 =>
        retK [x54, x55] H)
      (
        purK (nilChkA x0) fun x57 =>
        purK (addA 0 x57) fun x58 =>
        purK (ld1 ρ H x58) fun x59 =>
        purK (nilChkA x0) fun x62 =>
        purK (addA 15 x62) fun x63 =>
        purK (ld1 ρ H x63) fun x64 =>
        resK (call lim 169 [x59] H) fun x60 H => bif (agn (ld1 ρ H x63) x64 && true) then
          resK (call lim 366 [x60, x64, x48] H) fun x66 H =>
          purK (binA Tryz.prog H .neq 30 x66 (.int .i64 0)) fun x68 =>
          condK x68
          (
            resK (call lim 100 [x66] H) fun x70 H =>
            purK (extA 0 x70) fun x71 =>
            purK (extA 1 x70) fun x72 =>
            retK [x71, x72] H)
          (
            purK (nilChkA x0) fun x74 =>
            purK (addA 23 x74) fun x75 =>
            purK (ld1 ρ H x75) fun x76 =>
            purK (binA Tryz.prog H .add 3 x76 (.int .i64 1)) fun x77 =>
            purK (nilChkA x0) fun x78 =>
            purK (addA 23 x78) fun x79 =>
            effK H (stA lim H 1 x79 x77) fun _ H =>
            resK (call lim 326 [x0] H) fun x81 H =>
            resK (call lim 177 [x0, (.fn (.func 158) [] [])] H) fun x83 H =>
            purK (extA 0 x83) fun x84 =>
            purK (extA 1 x83) fun x85 =>
            retK [x84, x85] H)
        else none)))
theorem G324 (ρ : Addr → Option Value) (call : CallF) (yc : YieldF) (lim k : Nat) (x0 : AV) (H : Heap) :
    evL (cx ρ) call yc false 324 lim k c324 [x0, (.tup []), (.tup []), (.tup []), (.tup []), (.tup []), (.tup []), (.tup []), (.tup []), (.tup []), (.tup []), (.tup []), (.tup []), (.tup []), (.tup []), (.tup []), (.tup []), (.tup []), (.tup []), (.tup []), (.tup []), (.tup []), (.tup []), (.tup []), (.tup []), (.tup []), (.tup []), (.tup []), (.tup []), (.tup []), (.tup []), (.tup []), (.tup []), (.tup []), (.tup []), (.tup []), (.tup []), (.tup []), (.tup []), (.tup []), (.tup []), (.tup []), (.tup []), (.tup []), (.tup []), (.tup []), (.tup []), (.tup []), (.tup []), (.tup []), (.tup []), (.tup []), (.tup []), (.tup []), (.tup []), (.tup []), (.tup []), (.tup []), (.tup []), (.tup []), (.tup []), (.tup []), (.tup []), (.tup []), (.tup []), (.tup []), (.tup []), (.tup []), (.tup []), (.tup []), (.tup []), (.tup []), (.tup []), (.tup []), (.tup []), (.tup []), (.tup []), (.tup []), (.tup []), (.tup []), (.tup []), (.tup []), (.tup []), (.tup []), (.tup []), (.tup [])] H (kk none (fun s H => retK (([2, 3] : List Nat).map fun t => s.getD t (.tup [])) H) [] retK [2, 3]) = L324 ρ call yc lim k x0 H := by
  kernel_rfl
theorem E324 (ρ : Addr → Option Value) (k lim : Nat) (x0 : AV) (H : Heap) : evCall (cx ρ) (k + 1) lim 324 [x0] H = L324 ρ (evCall (cx ρ) k) (evCY (cx ρ) k).2 lim k x0 H := by
  rw [evCall_body (cx ρ) k lim 324 _ H Tryz.f324 c324 [2, 3] (by kernel_rfl) (by kernel_rfl) (by kernel_rfl) (by kernel_rfl) (by kernel_rfl)]
  exact G324 ρ (evCall (cx ρ) k) (evCY (cx ρ) k).2 lim k x0 H
-- (*haycroft/tail.Tail).size
noncomputable def c328 : Code := Code.of Tryz.prog 328
noncomputable def L328 (ρ : Addr → Option Value) (call : CallF) (yc : YieldF) (lim k : Nat) (x0 : AV) (H : Heap) : Res :=
  purK (nilChkA x0) fun x4 =>
  purK (addA 0 x4) fun x5 =>
  purK (ld1 ρ H x5) fun x6 =>
  resK (call lim 118 [x6] H) fun x7 H =>
  retK [x7] H
theorem G328 (ρ : Addr → Option Value) (call : CallF) (yc : YieldF) (lim k : Nat) (x0 : AV) (H : Heap) :
    evL (cx ρ) call yc false 328 lim k c328 [x0, (.tup []), (.tup []), (.tup []), (.tup []), (.tup []), (.tup []), (.tup [])] H (kk none (fun s H => retK (([2] : List Nat).map fun t => s.getD t (.tup [])) H) [] retK [2]) = L328 ρ call yc lim k x0 H := by
  kernel_rfl
theorem E328 (ρ : Addr → Option Value) (k lim : Nat) (x0 : AV) (H : Heap) : evCall (cx ρ) (k + 1) lim 328 [x0] H = L328 ρ (evCall (cx ρ) k) (evCY (cx ρ) k).2 lim k x0 H := by
  rw [evCall_body (cx ρ) k lim 328 _ H Tryz.f328 c328 [2] (by kernel_rfl) (by kernel_rfl) (by kernel_rfl) (by kernel_rfl) (by kernel_rfl)]
  exact G328 ρ (evCall (cx ρ) k) (evCY (cx ρ) k).2 lim k x0 H
-- (*haycroft/index.Index).all
noncomputable def c334 : Code := Code.of Tryz.prog 334
noncomputable def L334 (ρ : Addr → Option Value) (call : CallF) (yc : YieldF) (lim k : Nat) (x0 : AV) (H : Heap) : Res :=
  purK (binA Tryz.prog H .eql 72 x0 .nilp) fun x4 =>
  condK x4
  (
    retK [(.int .i64 0)] H)
  (
    purK (nilChkA x0) fun x6 =>
    purK (addA 0 x6) fun x7 =>
    purK (ld1 ρ H x7) fun x8 =>
    purK (nilChkA x0) fun x10 =>
    purK (addA 1 x10) fun x11 =>
    purK (ld1 ρ H x11) fun x12 =>
    purK (binA Tryz.prog H .add 3 x8 x12) fun x13 =>
    retK [x13] H)
theorem G334 (ρ : Addr → Option Value) (call : CallF) (yc : YieldF) (lim k : Nat) (x0 : AV) (H : Heap) :
    evL (cx ρ) call yc false 334 lim k c334 [x0, (.tup []), (.tup []), (.tup []), (.tup []), (.tup []), (.tup []), (.tup []), (.tup []), (.tup []), (.tup []), (.tup []), (.tup []), (.tup [])] H (kk none (fun s H => retK (([2] : List Nat).map fun t => s.getD t (.tup [])) H) [] retK [2]) = L334 ρ call yc lim k x0 H := by
  kernel_rfl
theorem E334 (ρ : Addr → Option Value) (k lim : Nat) (x0 : AV) (H : Heap) : evCall (cx ρ) (k + 1) lim 334 [x0] H = L334 ρ (evCall (cx ρ) k) (evCY (cx ρ) k).2 lim k x0 H := by
  rw [evCall_body (cx ρ) k lim 334 _ H Tryz.f334 c334 [2] (by kernel_rfl) (by kernel_rfl) (by kernel_rfl) (by kernel_rfl) (by kernel_rfl)]
  exact G334 ρ (evCall (cx ρ) k) (evCY (cx ρ) k).2 lim k x0 H
-- (*haycroft/index.Index).link
noncomputable def c335 : Code := Code.of Tryz.prog 335
noncomputable def L335 (ρ : Addr → Option Value) (call : CallF) (yc : YieldF) (lim k : Nat) (x0 x1 : AV) (H : Heap) : Res :=
  purK (nilChkA x0) fun x8 =>
  purK (addA 2 x8) fun x9 =>
  purK (ld1 ρ H x9) fun x10 =>
  purK (binA Tryz.prog H .mul 3 x1 (.int .i64 8)) fun x12 =>
  purK (binA Tryz.prog H .add 3 x12 (.int .i64 7)) fun x13 =>
  resK (call lim 97 [x10, x13] H) fun x14 H =>
  purK (cvI .i64 x14) fun x16 =>
  purK (binA Tryz.prog H .sub 3 x16 (.int .i64 1)) fun x17 =>
  purK (binA Tryz.prog H .gtr 22 x14 (.int .u64 0)) fun x19 =>
  retK [x17, x19] H
theorem G335 (ρ : Addr → Option Value) (call : CallF) (yc : YieldF) (lim k : Nat) (x0 x1 : AV) (H : Heap) :
    evL (cx ρ) call yc false 335 lim k c335 [x0, x1, (.tup []), (.tup []), (.tup []), (.tup []), (.tup []), (.tup []), (.tup []), (.tup []), (.tup []), (.tup []), (.tup []), (.tup []), (.tup []), (.tup []), (.tup []), (.tup []), (.tup []), (.tup [])] H (kk none (fun s H => retK (([4, 5] : List Nat).map fun t => s.getD t (.tup [])) H) [] retK [4, 5]) = L335 ρ call yc lim k x0 x1 H := by
  kernel_rfl
theorem E335 (ρ : Addr → Option Value) (k lim : Nat) (x0 x1 : AV) (H : Heap) : evCall (cx ρ) (k + 1) lim 335 [x0, x1] H = L335 ρ (evCall (cx ρ) k) (evCY (cx ρ) k).2 lim k x0 x1 H := by
  rw [evCall_body (cx ρ) k lim 335 _ H Tryz.f335 c335 [4, 5] (by kernel_rfl) (by kernel_rfl) (by kernel_rfl) (by kernel_rfl) (by kernel_rfl)]
  exact G335 ρ (evCall (cx ρ) k) (evCY (cx ρ) k).2 lim k x0 x1 H
-- haycroft/entry.Right
noncomputable def c336 : Code := Code.of Tryz.prog 336
noncomputable def L336 (ρ : Addr → Option Value) (call : CallF) (yc : YieldF) (lim k : Nat) (x0 : AV) (H : Heap) : Res :=
  effK H (boxA H 366 x0) fun x1 H =>
  purK (addA 0 x1) fun x3 =>
  purK (ld1 ρ H x3) fun x4 =>
  purK (binA Tryz.prog H .leq 22 x4 (.int .u64 281474976710655)) fun x5 =>
  boolK (wantV x5 true) fun b1 => purK (bif b1 then addA 1 x1 else some (.tup [])) fun x7 =>
  boolK (wantV x5 true) fun b2 => purK (bif b2 then ld1 ρ H x7 else some (.tup [])) fun x8 =>
  boolK (wantV x5 true) fun b3 => resK (gRes (some b3) H (call lim 248 [(.int .i64 14)] H)) fun x9 H => bif !b3 || ((!b2 || agn (ld1 ρ H x7) x8) && true) then
    purK (gPur (wantV x5 true) (binA Tryz.prog H .leq 22 x8 x9)) fun x10 =>
    purK (pickA x5 x10 (.bool false)) fun x11 =>
    purK (gPur (wantV x11 true) (addA 2 x1)) fun x13 =>
    purK (gPur (wantV x11 true) (ld1 ρ H x13)) fun x14 =>
    purK (gPur (wantV x11 true) (addA 0 x1)) fun x15 =>
    purK (gPur (wantV x11 true) (ld1 ρ H x15)) fun x16 =>
    purK (gPur (wantV x11 true) (binA Tryz.prog H .eql 22 x16 (.int .u64 0))) fun x17 =>
    purK (gPur (wantV x11 true) (binA Tryz.prog H .eql 4 x14 x17)) fun x18 =>
    purK (pickA x11 x18 (.bool false)) fun x19 =>
    retK [x19] H
  else none
theorem G336 (ρ : Addr → Option Value) (call : CallF) (yc : YieldF) (lim k : Nat) (x0 : AV) (H : Heap) :
    evL (cx ρ) call yc false 336 lim k c336 [x0, (.tup []), (.tup []), (.tup []), (.tup []), (.tup []), (.tup []), (.tup []), (.tup []), (.tup []), (.tup []), (.tup []), (.tup []), (.tup []), (.tup []), (.tup []), (.tup []), (.tup []), (.tup []), (.tup [])] H (kk none (fun s H => retK (([2] : List Nat).map fun t => s.getD t (.tup [])) H) [] retK [2]) = L336 ρ call yc lim k x0 H := by
  kernel_rfl
theorem E336 (ρ : Addr → Option Value) (k lim : Nat) (x0 : AV) (H : Heap) : evCall (cx ρ) (k + 1) lim 336 [x0] H = L336 ρ (evCall (cx ρ) k) (evCY (cx ρ) k).2 lim k x0 H := by
  rw [evCall_body (cx ρ) k lim 336 _ H Tryz.f336 c336 [2] (by kernel_rfl) (by kernel_rfl) (by kernel_rfl) (by kernel_rfl) (by kernel_rfl)]
  exact G336 ρ (evCall (cx ρ) k) (evCY (cx ρ) k).2 lim k x0 H
-- haycroft/place.First
noncomputable def c342 : Code := Code.of Tryz.prog 342
noncomputable def L342 (ρ : Addr → Option Value) (call : CallF) (yc : YieldF) (lim k : Nat) (x0 x1 : AV) (H : Heap) : Res :=
  resK (call lim 372 [x0, x1, (.int .i64 0)] H) fun x10 H =>
  purK (extA 0 x10) fun x11 =>
  purK (extA 1 x10) fun x12 =>
  retK [x11] H
theorem G342 (ρ : Addr → Option Value) (call : CallF) (yc : YieldF) (lim k : Nat) (x0 x1 : AV) (H : Heap) :
    evL (cx ρ) call yc false 342 lim k c342 [x0, x1, (.tup []), (.tup []), (.tup []), (.tup []), (.tup []), (.tup []), (.tup []), (.tup []), (.tup []), (.tup []), (.tup []), (.tup [])] H (kk none (fun s H => retK (([4] : List Nat).map fun t => s.getD t (.tup [])) H) [] retK [4]) = L342 ρ call yc lim k x0 x1 H := by
  kernel_rfl
theorem E342 (ρ : Addr → Option Value) (k lim : Nat) (x0 x1 : AV) (H : Heap) : evCall (cx ρ) (k + 1) lim 342 [x0, x1] H = L342 ρ (evCall (cx ρ) k) (evCY (cx ρ) k).2 lim k x0 x1 H := by
  rw [evCall_body (cx ρ) k lim 342 _ H Tryz.f342 c342 [4] (by kernel_rfl) (by kernel_rfl) (by kernel_rfl) (by kernel_rfl) (by kernel_rfl)]
  exact G342 ρ (evCall (cx ρ) k) (evCY (cx ρ) k).2 lim k x0 x1 H
-- haycroft/tail.pack
noncomputable def c343 : Code := Code.of Tryz.prog 343
noncomputable def L343 (ρ : Addr → Option Value) (call : CallF) (yc : YieldF) (lim k : Nat) (x0 x1 : AV) (H : Heap) : Res :=
  purK (cvI .u64 x0) fun x6 =>
  purK (binA Tryz.prog H .shl 22 x6 (.int .u64 32)) fun x7 =>
  purK (cvI .u64 x1) fun x9 =>
  purK (binA Tryz.prog H .or 22 x7 x9) fun x10 =>
  retK [x10] H
theorem G343 (ρ : Addr → Option Value) (call : CallF) (yc : YieldF) (lim k : Nat) (x0 x1 : AV) (H : Heap) :
    evL (cx ρ) call yc false 343 lim k c343 [x0, x1, (.tup []), (.tup []), (.tup []), (.tup []), (.tup []), (.tup []), (.tup []), (.tup []), (.tup [])] H (kk none (fun s H => retK (([4] : List Nat).map fun t => s.getD t (.tup [])) H) [] retK [4]) = L343 ρ call yc lim k x0 x1 H := by
  kernel_rfl
theorem E343 (ρ : Addr → Option Value) (k lim : Nat) (x0 x1 : AV) (H : Heap) : evCall (cx ρ) (k + 1) lim 343 [x0, x1] H = L343 ρ (evCall (cx ρ) k) (evCY (cx ρ) k).2 lim k x0 x1 H := by
  rw [evCall_body (cx ρ) k lim 343 _ H Tryz.f343 c343 [4] (by kernel_rfl) (by kernel_rfl) (by kernel_rfl) (by kernel_rfl) (by kernel_rfl)]
  exact G343 ρ (evCall (cx ρ) k) (evCY (cx ρ) k).2 lim k x0 x1 H
-- haycroft/tail.first
noncomputable def c344 : Code := Code.of Tryz.prog 344
noncomputable def L344 (ρ : Addr → Option Value) (call : CallF) (yc : YieldF) (lim k : Nat) (x0 : AV) (H : Heap) : Res :=
  purK (binA Tryz.prog H .eql 3 x0 (.int .i64 0)) fun x4 =>
  condK x4
  (
    retK [(.int .i64 1)] H)
  (
    retK [(.int .i64 0)] H)
theorem G344 (ρ : Addr → Option Value) (call : CallF) (yc : YieldF) (lim k : Nat) (x0 : AV) (H : Heap) :
    evL (cx ρ) call yc false 344 lim k c344 [x0, (.tup []), (.tup []), (.tup []), (.tup [])] H (kk none (fun s H => retK (([2] : List Nat).map fun t => s.getD t (.tup [])) H) [] retK [2]) = L344 ρ call yc lim k x0 H := by
  kernel_rfl
theorem E344 (ρ : Addr → Option Value) (k lim : Nat) (x0 : AV) (H : Heap) : evCall (cx ρ) (k + 1) lim 344 [x0] H = L344 ρ (evCall (cx ρ) k) (evCY (cx ρ) k).2 lim k x0 H := by
  rw [evCall_body (cx ρ) k lim 344 _ H Tryz.f344 c344 [2] (by kernel_rfl) (by kernel_rfl) (by kernel_rfl) (by kernel_rfl) (by kernel_rfl)]
  exact G344 ρ (evCall (cx ρ) k) (evCY (cx ρ) k).2 lim k x0 H
-- (*sync/atomic.Uint64).CompareAndSwap
noncomputable def c346 : Code := Code.of Tryz.prog 346
noncomputable def L346 (ρ : Addr → Option Value) (call : CallF) (yc : YieldF) (lim k : Nat) (x0 x1 x2 : AV) (H : Heap) : Res :=
  purK (nilChkA x0) fun x8 =>
  purK (addA 0 x8) fun x9 =>
  resK (call lim 373 [x9, x1, x2] H) fun x12 H =>
  retK [x12] H
theorem G346 (ρ : Addr → Option Value) (call : CallF) (yc : YieldF) (lim k : Nat) (x0 x1 x2 : AV) (H : Heap) :
    evL (cx ρ) call yc false 346 lim k c346 [x0, x1, x2, (.tup []), (.tup []), (.tup []), (.tup []), (.tup []), (.tup []), (.tup []), (.tup []), (.tup []), (.tup [])] H (kk none (fun s H => retK (([6] : List Nat).map fun t => s.getD t (.tup [])) H) [] retK [6]) = L346 ρ call yc lim k x0 x1 x2 H := by
  kernel_rfl
theorem E346 (ρ : Addr → Option Value) (k lim : Nat) (x0 x1 x2 : AV) (H : Heap) : evCall (cx ρ) (k + 1) lim 346 [x0, x1, x2] H = L346 ρ (evCall (cx ρ) k) (evCY (cx ρ) k).2 lim k x0 x1 x2 H := by
  rw [evCall_body (cx ρ) k lim 346 _ H Tryz.f346 c346 [6] (by kernel_rfl) (by kernel_rfl) (by kernel_rfl) (by kernel_rfl) (by kernel_rfl)]
  exact G346 ρ (evCall (cx ρ) k) (evCY (cx ρ) k).2 lim k x0 x1 x2 H
-- (*sync/atomic.Int64).Add
noncomputable def c347 : Code := Code.of Tryz.prog 347
noncomputable def L347 (ρ : Addr → Option Value) (call : CallF) (yc : YieldF) (lim k : Nat) (x0 x1 : AV) (H : Heap) : Res :=
  purK (nilChkA x0) fun x6 =>
  purK (addA 0 x6) fun x7 =>
  resK (call lim 374 [x7, x1] H) fun x9 H =>
  retK [x9] H
theorem G347 (ρ : Addr → Option Value) (call : CallF) (yc : YieldF) (lim k : Nat) (x0 x1 : AV) (H : Heap) :
    evL (cx ρ) call yc false 347 lim k c347 [x0, x1, (.tup []), (.tup []), (.tup []), (.tup []), (.tup []), (.tup []), (.tup []), (.tup [])] H (kk none (fun s H => retK (([4] : List Nat).map fun t => s.getD t (.tup [])) H) [] retK [4]) = L347 ρ call yc lim k x0 x1 H := by
  kernel_rfl
theorem E347 (ρ : Addr → Option Value) (k lim : Nat) (x0 x1 : AV) (H : Heap) : evCall (cx ρ) (k + 1) lim 347 [x0, x1] H = L347 ρ (evCall (cx ρ) k) (evCY (cx ρ) k).2 lim k x0 x1 H := by
  rw [evCall_body (cx ρ) k lim 347 _ H Tryz.f347 c347 [4] (by kernel_rfl) (by kernel_rfl) (by kernel_rfl) (by kernel_rfl) (by kernel_rfl)]
  exact G347 ρ (evCall (cx ρ) k) (evCY (cx ρ) k).2 lim k x0 x1 H
-- (*haycroft/index.Index).Claim
noncomputable def c348 : Code := Code.of Tryz.prog 348
noncomputable def L348 (ρ : Addr → Option Value) (call : CallF) (yc : YieldF) (lim k : Nat) (x0 x1 x2 : AV) (H : Heap) : Res :=
  resK (call lim 375 [x0, x1] H) fun x13 H =>
  purK (binA Tryz.prog H .neq 30 x13 (.int .i64 0)) fun x15 =>
  condK x15
  (
    retK [(.bool false), x13] H)
  (
    resK (call lim 305 [x2] H) fun x19 H =>
    resK (call lim 376 [x19] H) fun x20 H =>
    purK (extA 0 x20) fun x21 =>
    purK (extA 1 x20) fun x22 =>
    purK (binA Tryz.prog H .neq 30 x22 (.int .i64 0)) fun x24 =>
    condK x24
    (
      retK [(.bool false), x22] H)
    (
      purK (nilChkA x0) fun x27 =>
      purK (addA 2 x27) fun x28 =>
      purK (ld1 ρ H x28) fun x29 =>
      resK (call lim 301 [x29, x1, (.int .u64 0), x21] H) fun x32 H =>
      purK (extA 0 x32) fun x33 =>
      purK (extA 1 x32) fun x34 =>
      retK [x33, x34] H))
theorem G348 (ρ : Addr → Option Value) (call : CallF) (yc : YieldF) (lim k : Nat) (x0 x1 x2 : AV) (H : Heap) :
    evL (cx ρ) call yc false 348 lim k c348 [x0, x1, x2, (.tup []), (.tup []), (.tup []), (.tup []), (.tup []), (.tup []), (.tup []), (.tup []), (.tup []), (.tup []), (.tup []), (.tup []), (.tup []), (.tup []), (.tup []), (.tup []), (.tup []), (.tup []), (.tup []), (.tup []), (.tup []), (.tup []), (.tup []), (.tup []), (.tup []), (.tup []), (.tup []), (.tup []), (.tup []), (.tup []), (.tup []), (.tup [])] H (kk none (fun s H => retK (([6, 7] : List Nat).map fun t => s.getD t (.tup [])) H) [] retK [6, 7]) = L348 ρ call yc lim k x0 x1 x2 H := by
  kernel_rfl
theorem E348 (ρ : Addr → Option Value) (k lim : Nat) (x0 x1 x2 : AV) (H : Heap) : evCall (cx ρ) (k + 1) lim 348 [x0, x1, x2] H = L348 ρ (evCall (cx ρ) k) (evCY (cx ρ) k).2 lim k x0 x1 x2 H := by
  rw [evCall_body (cx ρ) k lim 348 _ H Tryz.f348 c348 [6, 7] (by kernel_rfl) (by kernel_rfl) (by kernel_rfl) (by kernel_rfl) (by kernel_rfl)]
  exact G348 ρ (evCall (cx ρ) k) (evCY (cx ρ) k).2 lim k x0 x1 x2 H
-- (*haycroft/pages.Buffer).run
noncomputable def c351 : Code := Code.of Tryz.prog 351
noncomputable def L351 (ρ : Addr → Option Value) (call : CallF) (yc : YieldF) (lim k : Nat) (x0 x1 x2 : AV) (H : Heap) : Res :=
  resK (call lim 378 [x0, x1] H) fun x13 H =>
  purK (extA 0 x13) fun x14 =>
  purK (extA 1 x13) fun x15 =>
  purK (binA Tryz.prog H .neq 30 x15 (.int .i64 0)) fun x18 =>
  condK x18
  (
    retK [(.int .i64 0), x15] H)
  (
    purK (nilChkA x0) fun x22 =>
    purK (addA 0 x22) fun x23 =>
    purK (ld1 ρ H x23) fun x24 =>
    resK (call lim 379 [x24, x1, x2] H) fun x27 H =>
    purK (unA .not x27) fun x28 =>
    condK x28
    (
      retK [(.int .i64 0), (.int .i64 1)] H)
    (
      retK [x14, (.int .i64 0)] H))
theorem G351 (ρ : Addr → Option Value) (call : CallF) (yc : YieldF) (lim k : Nat) (x0 x1 x2 : AV) (H : Heap) :
    evL (cx ρ) call yc false 351 lim k c351 [x0, x1, x2, (.tup []), (.tup []), (.tup []), (.tup []), (.tup []), (.tup []), (.tup []), (.tup []), (.tup []), (.tup []), (.tup []), (.tup []), (.tup []), (.tup []), (.tup []), (.tup []), (.tup []), (.tup []), (.tup []), (.tup []), (.tup []), (.tup []), (.tup []), (.tup []), (.tup []), (.tup []), (.tup [])] H (kk none (fun s H => retK (([6, 7] : List Nat).map fun t => s.getD t (.tup [])) H) [] retK [6, 7]) = L351 ρ call yc lim k x0 x1 x2 H := by
  kernel_rfl
theorem E351 (ρ : Addr → Option Value) (k lim : Nat) (x0 x1 x2 : AV) (H : Heap) : evCall (cx ρ) (k + 1) lim 351 [x0, x1, x2] H = L351 ρ (evCall (cx ρ) k) (evCY (cx ρ) k).2 lim k x0 x1 x2 H := by
  rw [evCall_body (cx ρ) k lim 351 _ H Tryz.f351 c351 [6, 7] (by kernel_rfl) (by kernel_rfl) (by kernel_rfl) (by kernel_rfl) (by kernel_rfl)]
  exact G351 ρ (evCall (cx ρ) k) (evCY (cx ρ) k).2 lim k x0 x1 x2 H
-- haycroft/record.Value
noncomputable def c355 : Code := Code.of Tryz.prog 355
noncomputable def L355 (ρ : Addr → Option Value) (call : CallF) (yc : YieldF) (lim k : Nat) (x0 : AV) (H : Heap) : Res :=
  effK H (bldS H 22 1 [.int .u64 0] 1 [(0, 1, x0)]) fun x7 H =>
  resK (call lim 189 [x7, (.int .i64 8)] H) fun x8 H =>
  purK (extA 0 x8) fun x9 =>
  purK (extA 1 x8) fun x10 =>
  retK [x9] H
theorem G355 (ρ : Addr → Option Value) (call : CallF) (yc : YieldF) (lim k : Nat) (x0 : AV) (H : Heap) :
    evL (cx ρ) call yc false 355 lim k c355 [x0, (.tup []), (.tup []), (.tup []), (.tup []), (.tup []), (.tup []), (.tup []), (.tup []), (.tup []), (.tup []), (.tup [])] H (kk none (fun s H => retK (([2] : List Nat).map fun t => s.getD t (.tup [])) H) [] retK [2]) = L355 ρ call yc lim k x0 H := by
  kernel_rfl
theorem E355 (ρ : Addr → Option Value) (k lim : Nat) (x0 : AV) (H : Heap) : evCall (cx ρ) (k + 1) lim 355 [x0] H = L355 ρ (evCall (cx ρ) k) (evCY (cx ρ) k).2 lim k x0 H := by
  rw [evCall_body (cx ρ) k lim 355 _ H Tryz.f355 c355 [2] (by kernel_rfl) (by kernel_rfl) (by kernel_rfl) (by kernel_rfl) (by kernel_rfl)]
  exact G355 ρ (evCall (cx ρ) k) (evCY (cx ρ) k).2 lim k x0 H
-- haycroft/field.Join
noncomputable def c360 : Code := Code.of Tryz.prog 360
noncomputable def N360_1 (ρ : Addr → Option Value) (call : CallF) (yc : YieldF) (lim k : Nat) (x6 : AV) (H : Heap) (R : List AV → Heap → Res) : Res :=
  R [x6, (.int .i64 0)] H
theorem N360_1_eq (ρ : Addr → Option Value) (call : CallF) (yc : YieldF) (lim k : Nat) (x6 : AV) (H : Heap) (R : List AV → Heap → Res) :
    evL (cx ρ) call yc false 360 lim k (Code.at [1, 1, 1, 1, 1] c360) (sp 49 [(6, x6)]) H (kk none (fun s H => R (([4, 5] : List Nat).map fun t => s.getD t (.tup [])) H) [] R [4, 5]) = N360_1 ρ call yc lim k x6 H R := by
  kernel_rfl
noncomputable def N360_3b (ρ : Addr → Option Value) (call : CallF) (yc : YieldF) (lim k : Nat) (x0 x6 x7 x22 x23 x24 : AV) (H : Heap) (kn : AV → AV → AV → AV → AV → AV → Heap → Res) (k0 : AV → Heap → Res) (R : List AV → Heap → Res) : Res :=
  purK (binA Tryz.prog H .lss 3 x24 x23) fun x25_1 =>
  condK x25_1
  (
    purK (ixS 1 x22 x24) fun x27_1 =>
    purK (ld1 ρ H x27_1) fun x28_1 =>
    purK (ixS 1 x0 x24) fun x35_1 =>
    purK (ld1 ρ H x35_1) fun x36_1 =>
    resK (call lim 385 [x6, x7, x28_1, x36_1] H) fun x37_1 H =>
    purK (extA 0 x37_1) fun x38_1 =>
    purK (extA 1 x37_1) fun x39_1 =>
    purK (binA Tryz.prog H .neq 30 x39_1 (.int .i64 0)) fun x41_1 =>
    condK x41_1
    (
      R [(.int .u64 0), x39_1] H)
    (
      purK (binA Tryz.prog H .add 3 x7 x28_1) fun x46_1 =>
      purK (binA Tryz.prog H .add 3 x24 (.int .i64 1)) fun x47_1 =>
      kn x0 x38_1 x46_1 x22 x23 x47_1 H))
  (
    k0 x6 H)
theorem N360_3b_eq (ρ : Addr → Option Value) (call : CallF) (yc : YieldF) (lim k : Nat) (x0 x6 x7 x22 x23 x24 : AV) (H : Heap) (kn : KS) (k0 : KS) (R : List AV → Heap → Res) :
    evL (cx ρ) call yc false 360 lim k (Code.at [1, 1, 1, 1, 0, 1, 0, 0] c360) (sp 49 [(0, x0), (6, x6), (7, x7), (22, x22), (23, x23), (24, x24)]) H (kk (some [0, 6, 7, 22, 23, 24]) kn [(0, (some [6]), k0)] R [4, 5]) = N360_3b ρ call yc lim k x0 x6 x7 x22 x23 x24 H (fun x0 x6 x7 x22 x23 x24 H => kn (sp 49 [(0, x0), (6, x6), (7, x7), (22, x22), (23, x23), (24, x24)]) H) (fun x6 H => k0 (sp 49 [(6, x6)]) H) R := by
  kernel_rfl
noncomputable def N360_3 (ρ : Addr → Option Value) (call : CallF) (yc : YieldF) (lim k : Nat) (x0 x6 x7 x22 x23 x24 : AV) (H : Heap) (k0 : AV → Heap → Res) (R : List AV → Heap → Res) : Res :=
  loopL (fun (x : AV × AV × AV) H kn => N360_3b ρ call yc lim k x0 x.1 x.2.1 x22 x23 x.2.2 H (fun _ x6 x7 _ _ x24 H => kn (x6, x7, x24) H) k0 R) k (x6, x7, x24) H
theorem N360_3_eq (ρ : Addr → Option Value) (call : CallF) (yc : YieldF) (lim k : Nat) (x0 x6 x7 x22 x23 x24 : AV) (H : Heap) (kn : KS) (k0 : KS) (R : List AV → Heap → Res) :
    evL (cx ρ) call yc false 360 lim k (Code.at [1, 1, 1, 1, 0, 1, 0] c360) (sp 49 [(0, x0), (6, x6), (7, x7), (22, x22), (23, x23), (24, x24)]) H (kk (some [6]) kn [(0, (some [6]), k0)] R [4, 5]) = N360_3 ρ call yc lim k x0 x6 x7 x22 x23 x24 H (fun x6 H => k0 (sp 49 [(6, x6)]) H) R := by
  have e : Code.at [1, 1, 1, 1, 0, 1, 0] c360 = .loop (Code.at [1, 1, 1, 1, 0, 1, 0, 0] c360) := by kernel_rfl
  rw [e]
  unfold N360_3
  exact loop_node [0, 6, 7, 22, 23, 24] (fun x : AV × AV × AV => (sp 49 [(0, x0), (6, (x.1)), (7, (x.2.1)), (22, x22), (23, x23), (24, (x.2.2))])) (fun (x : AV × AV × AV) H kn => N360_3b ρ call yc lim k x0 x.1 x.2.1 x22 x23 x.2.2 H (fun _ x6 x7 _ _ x24 H => kn (x6, x7, x24) H) (fun x6 H => k0 (sp 49 [(6, x6)]) H) R) (by kernel_rfl) (fun x => by kernel_rfl) (fun x H kn => N360_3b_eq ρ call yc lim k x0 (x.1) (x.2.1) x22 x23 (x.2.2) H kn k0 R) (x6, x7, x24) (sp 49 [(0, x0), (6, x6), (7, x7), (22, x22), (23, x23), (24, x24)]) H (by kernel_rfl)
noncomputable def N360_2 (ρ : Addr → Option Value) (call : CallF) (yc : YieldF) (lim k : Nat) (x0 x6 x7 x22 x23 x24 : AV) (H : Heap) (kn : AV → Heap → Res) (R : List AV → Heap → Res) : Res :=
  N360_3 ρ call yc lim k x0 x6 x7 x22 x23 x24 H kn R
theorem N360_2_x (ρ : Addr → Option Value) (call : CallF) (yc : YieldF) (lim k : Nat) (J : CodeF) (x0 x6 x7 x22 x23 x24 : AV) (H : Heap) (kn : KS) (R : List AV → Heap → Res) :
    evX (cx ρ) call yc false 360 lim k J (Code.at [1, 1, 1, 1, 0, 1] c360) (sp 49 [(0, x0), (6, x6), (7, x7), (22, x22), (23, x23), (24, x24)]) H (kk (some [6]) kn [] R [4, 5]) =
  J (Code.at [1, 1, 1, 1, 0, 1, 0] c360) (sp 49 [(0, x0), (6, x6), (7, x7), (22, x22), (23, x23), (24, x24)]) H (kk (some [6]) kn [(0, (some [6]), kn)] R [4, 5]) := by
  kernel_rfl
theorem N360_2_eq (ρ : Addr → Option Value) (call : CallF) (yc : YieldF) (lim k : Nat) (x0 x6 x7 x22 x23 x24 : AV) (H : Heap) (kn : KS) (R : List AV → Heap → Res) :
    evL (cx ρ) call yc false 360 lim k (Code.at [1, 1, 1, 1, 0, 1] c360) (sp 49 [(0, x0), (6, x6), (7, x7), (22, x22), (23, x23), (24, x24)]) H (kk (some [6]) kn [] R [4, 5]) = N360_2 ρ call yc lim k x0 x6 x7 x22 x23 x24 H (fun x6 H => kn (sp 49 [(6, x6)]) H) R := by
  rw [evL_X, N360_2_x]
  simp only [← evL_X, N360_2, N360_3_eq]
noncomputable def L360 (ρ : Addr → Option Value) (call : CallF) (yc : YieldF) (lim k : Nat) (x0 x1 : AV) (H : Heap) : Res :=
  purK (lenS x0) fun x13 =>
  purK (lenS x1) fun x15 =>
  purK (binA Tryz.prog H .neq 3 x13 x15) fun x16 =>
  purK (gPur (wantV x16 false) (some x1)) fun x18 =>
  resK (gRes (wantV x16 false) H (call lim 384 [x18] H)) fun x19 H =>
  purK (gPur (wantV x16 false) (unA .not x19)) fun x20 =>
  purK (pickA x16 (.bool true) x20) fun x21 =>
  condK x21
  (
    retK [(.int .u64 0), (.int .i64 1)] H)
  (
    purK (lenS x1) fun x23 =>
    N360_2 ρ call yc lim k x0 (.int .u64 0) (.int .i64 0) x1 x23 (.int .i64 0) H (fun x6 H =>
      N360_1 ρ call yc lim k x6 H retK) retK)
theorem L360_x (ρ : Addr → Option Value) (call : CallF) (yc : YieldF) (lim k : Nat) (J : CodeF) (x0 x1 : AV) (H : Heap) :
    evX (cx ρ) call yc false 360 lim k J c360 [x0, x1, (.tup []), (.tup []), (.tup []), (.tup []), (.tup []), (.tup []), (.tup []), (.tup []), (.tup []), (.tup []), (.tup []), (.tup []), (.tup []), (.tup []), (.tup []), (.tup []), (.tup []), (.tup []), (.tup []), (.tup []), (.tup []), (.tup []), (.tup []), (.tup []), (.tup []), (.tup []), (.tup []), (.tup []), (.tup []), (.tup []), (.tup []), (.tup []), (.tup []), (.tup []), (.tup []), (.tup []), (.tup []), (.tup []), (.tup []), (.tup []), (.tup []), (.tup []), (.tup []), (.tup []), (.tup []), (.tup []), (.tup [])] H (kk none (fun s H => retK (([4, 5] : List Nat).map fun t => s.getD t (.tup [])) H) [] retK [4, 5]) =
  purK (lenS x0) fun x13 =>
  purK (lenS x1) fun x15 =>
  purK (binA Tryz.prog H .neq 3 x13 x15) fun x16 =>
  purK (gPur (wantV x16 false) (some x1)) fun x18 =>
  resK (gRes (wantV x16 false) H (call lim 384 [x18] H)) fun x19 H =>
  purK (gPur (wantV x16 false) (unA .not x19)) fun x20 =>
  purK (pickA x16 (.bool true) x20) fun x21 =>
  condK x21
  (
    retK [(.int .u64 0), (.int .i64 1)] H)
  (
    purK (lenS x1) fun x23 =>
    J (Code.at [1, 1, 1, 1, 0, 1] c360) (sp 49 [(0, x0), (6, (.int .u64 0)), (7, (.int .i64 0)), (22, x1), (23, x23), (24, (.int .i64 0))]) H (kk (some [6]) (fun s H => J (Code.at [1, 1, 1, 1, 1] c360) s H (kk none (fun s H => retK (([4, 5] : List Nat).map fun t => s.getD t (.tup [])) H) [] retK [4, 5])) [] retK [4, 5])) := by
  kernel_rfl
theorem G360 (ρ : Addr → Option Value) (call : CallF) (yc : YieldF) (lim k : Nat) (x0 x1 : AV) (H : Heap) :
    evL (cx ρ) call yc false 360 lim k c360 [x0, x1, (.tup []), (.tup []), (.tup []), (.tup []), (.tup []), (.tup []), (.tup []), (.tup []), (.tup []), (.tup []), (.tup []), (.tup []), (.tup []), (.tup []), (.tup []), (.tup []), (.tup []), (.tup []), (.tup []), (.tup []), (.tup []), (.tup []), (.tup []), (.tup []), (.tup []), (.tup []), (.tup []), (.tup []), (.tup []), (.tup []), (.tup []), (.tup []), (.tup []), (.tup []), (.tup []), (.tup []), (.tup []), (.tup []), (.tup []), (.tup []), (.tup []), (.tup []), (.tup []), (.tup []), (.tup []), (.tup []), (.tup [])] H (kk none (fun s H => retK (([4, 5] : List Nat).map fun t => s.getD t (.tup [])) H) [] retK [4, 5]) = L360 ρ call yc lim k x0 x1 H := by
  rw [evL_X, L360_x]
  simp only [← evL_X, L360, N360_1_eq, N360_2_eq]
theorem E360 (ρ : Addr → Option Value) (k lim : Nat) (x0 x1 : AV) (H : Heap) : evCall (cx ρ) (k + 1) lim 360 [x0, x1] H = L360 ρ (evCall (cx ρ) k) (evCY (cx ρ) k).2 lim k x0 x1 H := by
  rw [evCall_body (cx ρ) k lim 360 _ H Tryz.f360 c360 [4, 5] (by kernel_rfl) (by kernel_rfl) (by kernel_rfl) (by kernel_rfl) (by kernel_rfl)]
  exact G360 ρ (evCall (cx ρ) k) (evCY (cx ρ) k).2 lim k x0 x1 H
-- haycroft/header.bit
noncomputable def c361 : Code := Code.of Tryz.prog 361
noncomputable def L361 (ρ : Addr → Option Value) (call : CallF) (yc : YieldF) (lim k : Nat) (x0 : AV) (H : Heap) : Res :=
  condK x0
  (
    retK [(.int .u64 1)] H)
  (
    retK [(.int .u64 0)] H)
theorem G361 (ρ : Addr → Option Value) (call : CallF) (yc : YieldF) (lim k : Nat) (x0 : AV) (H : Heap) :
    evL (cx ρ) call yc false 361 lim k c361 [x0, (.tup []), (.tup []), (.tup [])] H (kk none (fun s H => retK (([2] : List Nat).map fun t => s.getD t (.tup [])) H) [] retK [2]) = L361 ρ call yc lim k x0 H := by
  kernel_rfl
theorem E361 (ρ : Addr → Option Value) (k lim : Nat) (x0 : AV) (H : Heap) : evCall (cx ρ) (k + 1) lim 361 [x0] H = L361 ρ (evCall (cx ρ) k) (evCY (cx ρ) k).2 lim k x0 H := by
  rw [evCall_body (cx ρ) k lim 361 _ H Tryz.f361 c361 [2] (by kernel_rfl) (by kernel_rfl) (by kernel_rfl) (by kernel_rfl) (by kernel_rfl)]
  exact G361 ρ (evCall (cx ρ) k) (evCY (cx ρ) k).2 lim k x0 H
-- haycroft/record.Number
noncomputable def c362 : Code := Code.of Tryz.prog 362
noncomputable def L362 (ρ : Addr → Option Value) (call : CallF) (yc : YieldF) (lim k : Nat) (x0 : AV) (H : Heap) : Res :=
  purK (lenT x0) fun x4 =>
  purK (binA Tryz.prog H .neq 3 x4 (.int .i64 8)) fun x5 =>
  condK x5
  (
    retK [(.int .u64 0)] H)
  (
    resK (call lim 167 [x0] H) fun x7 H =>
    purK (ixS 1 x7 (.int .i64 0)) fun x8 =>
    purK (ld1 ρ H x8) fun x9 =>
    retK [x9] H)
theorem G362 (ρ : Addr → Option Value) (call : CallF) (yc : YieldF) (lim k : Nat) (x0 : AV) (H : Heap) :
    evL (cx ρ) call yc false 362 lim k c362 [x0, (.tup []), (.tup []), (.tup []), (.tup []), (.tup []), (.tup []), (.tup []), (.tup []), (.tup [])] H (kk none (fun s H => retK (([2] : List Nat).map fun t => s.getD t (.tup [])) H) [] retK [2]) = L362 ρ call yc lim k x0 H := by
  kernel_rfl
theorem E362 (ρ : Addr → Option Value) (k lim : Nat) (x0 : AV) (H : Heap) : evCall (cx ρ) (k + 1) lim 362 [x0] H = L362 ρ (evCall (cx ρ) k) (evCY (cx ρ) k).2 lim k x0 H := by
  rw [evCall_body (cx ρ) k lim 362 _ H Tryz.f362 c362 [2] (by kernel_rfl) (by kernel_rfl) (by kernel_rfl) (by kernel_rfl) (by kernel_rfl)]
  exact G362 ρ (evCall (cx ρ) k) (evCY (cx ρ) k).2 lim k x0 H
-- (*haycroft/tail.Tail).Over
noncomputable def c363 : Code := Code.of Tryz.prog 363
noncomputable def L363 (ρ : Addr → Option Value) (call : CallF) (yc : YieldF) (lim k : Nat) (x0 : AV) (H : Heap) : Res :=
  purK (binA Tryz.prog H .eql 119 x0 .nilp) fun x6 =>
  condK x6
  (
    retK [(.bool false)] H)
  (
    resK (call lim 165 [x0] H) fun x9 H =>
    purK (extA 0 x9) fun x10 =>
    purK (extA 1 x9) fun x11 =>
    resK (call lim 328 [x0] H) fun x14 H =>
    purK (binA Tryz.prog H .gtr 3 x11 x14) fun x15 =>
    retK [x15] H)
theorem G363 (ρ : Addr → Option Value) (call : CallF) (yc : YieldF) (lim k : Nat) (x0 : AV) (H : Heap) :
    evL (cx ρ) call yc false 363 lim k c363 [x0, (.tup []), (.tup []), (.tup []), (.tup []), (.tup []), (.tup []), (.tup []), (.tup []), (.tup []), (.tup []), (.tup []), (.tup []), (.tup []), (.tup []), (.tup [])] H (kk none (fun s H => retK (([2] : List Nat).map fun t => s.getD t (.tup [])) H) [] retK [2]) = L363 ρ call yc lim k x0 H := by
  kernel_rfl
theorem E363 (ρ : Addr → Option Value) (k lim : Nat) (x0 : AV) (H : Heap) : evCall (cx ρ) (k + 1) lim 363 [x0] H = L363 ρ (evCall (cx ρ) k) (evCY (cx ρ) k).2 lim k x0 H := by
  rw [evCall_body (cx ρ) k lim 363 _ H Tryz.f363 c363 [2] (by kernel_rfl) (by kernel_rfl) (by kernel_rfl) (by kernel_rfl) (by kernel_rfl)]
  exact G363 ρ (evCall (cx ρ) k) (evCY (cx ρ) k).2 lim k x0 H
-- (*haycroft/index.Index).Turn
noncomputable def c365 : Code := Code.of Tryz.prog 365
noncomputable def L365 (ρ : Addr → Option Value) (call : CallF) (yc : YieldF) (lim k : Nat) (x0 x1 x2 x3 : AV) (H : Heap) : Res :=
  resK (call lim 375 [x0, x1] H) fun x15 H =>
  purK (binA Tryz.prog H .neq 30 x15 (.int .i64 0)) fun x17 =>
  condK x17
  (
    retK [(.bool false), x15] H)
  (
    resK (call lim 386 [x2, x3] H) fun x22 H =>
    purK (extA 0 x22) fun x23 =>
    purK (extA 1 x22) fun x24 =>
    purK (binA Tryz.prog H .neq 30 x24 (.int .i64 0)) fun x26 =>
    condK x26
    (
      retK [(.bool false), x24] H)
    (
      purK (nilChkA x0) fun x29 =>
      purK (addA 2 x29) fun x30 =>
      purK (ld1 ρ H x30) fun x31 =>
      resK (call lim 301 [x31, x1, x2, x23] H) fun x35 H =>
      purK (extA 0 x35) fun x36 =>
      purK (extA 1 x35) fun x37 =>
      retK [x36, x37] H))
theorem G365 (ρ : Addr → Option Value) (call : CallF) (yc : YieldF) (lim k : Nat) (x0 x1 x2 x3 : AV) (H : Heap) :
    evL (cx ρ) call yc false 365 lim k c365 [x0, x1, x2, x3, (.tup []), (.tup []), (.tup []), (.tup []), (.tup []), (.tup []), (.tup []), (.tup []), (.tup []), (.tup []), (.tup []), (.tup []), (.tup []), (.tup []), (.tup []), (.tup []), (.tup []), (.tup []), (.tup []), (.tup []), (.tup []), (.tup []), (.tup []), (.tup []), (.tup []), (.tup []), (.tup []), (.tup []), (.tup []), (.tup []), (.tup []), (.tup []), (.tup []), (.tup [])] H (kk none (fun s H => retK (([8, 9] : List Nat).map fun t => s.getD t (.tup [])) H) [] retK [8, 9]) = L365 ρ call yc lim k x0 x1 x2 x3 H := by
  kernel_rfl
theorem E365 (ρ : Addr → Option Value) (k lim : Nat) (x0 x1 x2 x3 : AV) (H : Heap) : evCall (cx ρ) (k + 1) lim 365 [x0, x1, x2, x3] H = L365 ρ (evCall (cx ρ) k) (evCY (cx ρ) k).2 lim k x0 x1 x2 x3 H := by
  rw [evCall_body (cx ρ) k lim 365 _ H Tryz.f365 c365 [8, 9] (by kernel_rfl) (by kernel_rfl) (by kernel_rfl) (by kernel_rfl) (by kernel_rfl)]
  exact G365 ρ (evCall (cx ρ) k) (evCY (cx ρ) k).2 lim k x0 x1 x2 x3 H
-- haycroft/place.Of
noncomputable def c372 : Code := Code.of Tryz.prog 372
noncomputable def N372_1 (ρ : Addr → Option Value) (call : CallF) (yc : YieldF) (lim k : Nat) (x0 x1 x2 : AV) (H : Heap) (R : List AV → Heap → Res) : Res :=
  purK (cvI .u64 x1) fun x27_1 =>
  purK (binA Tryz.prog H .shl 22 x27_1 x0) fun x29_1 =>
  purK (cvI .u64 x2) fun x31_1 =>
  purK (binA Tryz.prog H .or 22 x29_1 x31_1) fun x32_1 =>
  R [x32_1, (.int .i64 0)] H
theorem N372_1_eq (ρ : Addr → Option Value) (call : CallF) (yc : YieldF) (lim k : Nat) (x0 x1 x2 : AV) (H : Heap) (R : List AV → Heap → Res) :
    evL (cx ρ) call yc false 372 lim k (Code.at [1, 1] c372) (sp 33 [(0, x0), (1, x1), (2, x2)]) H (kk none (fun s H => R (([6, 7] : List Nat).map fun t => s.getD t (.tup [])) H) [] R [6, 7]) = N372_1 ρ call yc lim k x0 x1 x2 H R := by
  kernel_rfl
noncomputable def N372_2 (ρ : Addr → Option Value) (call : CallF) (yc : YieldF) (lim k : Nat) (x0 x1 x2 x8 : AV) (H : Heap) (kn : AV → AV → AV → Heap → Res) (R : List AV → Heap → Res) : Res :=
  condK x8
  (
    R [(.int .u64 0), (.int .i64 1)] H)
  (
    purK (cvI .u64 x1) fun x22_1 =>
    purK (binA Tryz.prog H .shr 22 (.int .u64 281474976710655) x0) fun x24_1 =>
    purK (binA Tryz.prog H .gtr 22 x22_1 x24_1) fun x25_1 =>
    condK x25_1
    (
      R [(.int .u64 0), (.int .i64 13)] H)
    (
      kn x0 x1 x2 H))
theorem N372_2_eq (ρ : Addr → Option Value) (call : CallF) (yc : YieldF) (lim k : Nat) (x0 x1 x2 x8 : AV) (H : Heap) (kn : KS) (k0 : KS) (R : List AV → Heap → Res) :
    evL (cx ρ) call yc false 372 lim k (Code.at [1, 0, 0, 1] c372) (sp 33 [(0, x0), (1, x1), (2, x2), (8, x8)]) H (kk (some [0, 1, 2]) kn [(0, (some [0, 1, 2]), k0)] R [6, 7]) = N372_2 ρ call yc lim k x0 x1 x2 x8 H (fun x0 x1 x2 H => kn (sp 33 [(0, x0), (1, x1), (2, x2)]) H) R := by
  kernel_rfl
noncomputable def L372 (ρ : Addr → Option Value) (call : CallF) (yc : YieldF) (lim k : Nat) (x0 x1 x2 : AV) (H : Heap) : Res :=
  resK (call lim 86 [x0] H) fun x10 H =>
  purK (unA .not x10) fun x11 =>
  condK x11
  (
    N372_2 ρ call yc lim k x0 x1 x2 x11 H (fun x0_1 x1_1 x2_1 H =>
      N372_1 ρ call yc lim k x0_1 x1_1 x2_1 H retK) retK)
  (
    purK (binA Tryz.prog H .lss 3 x1 (.int .i64 0)) fun x13 =>
    condK x13
    (
      N372_2 ρ call yc lim k x0 x1 x2 x13 H (fun x0_2 x1_2 x2_2 H =>
        N372_1 ρ call yc lim k x0_2 x1_2 x2_2 H retK) retK)
    (
      purK (binA Tryz.prog H .lss 3 x2 (.int .i64 0)) fun x15 =>
      condK x15
      (
        N372_2 ρ call yc lim k x0 x1 x2 x15 H (fun x0_3 x1_3 x2_3 H =>
          N372_1 ρ call yc lim k x0_3 x1_3 x2_3 H retK) retK)
      (
        resK (call lim 118 [x0] H) fun x18 H =>
        purK (binA Tryz.prog H .geq 3 x2 x18) fun x19 =>
        N372_2 ρ call yc lim k x0 x1 x2 x19 H (fun x0_4 x1_4 x2_4 H =>
          N372_1 ρ call yc lim k x0_4 x1_4 x2_4 H retK) retK)))
theorem L372_x (ρ : Addr → Option Value) (call : CallF) (yc : YieldF) (lim k : Nat) (J : CodeF) (x0 x1 x2 : AV) (H : Heap) :
    evX (cx ρ) call yc false 372 lim k J c372 [x0, x1, x2, (.tup []), (.tup []), (.tup []), (.tup []), (.tup []), (.tup []), (.tup []), (.tup []), (.tup []), (.tup []), (.tup []), (.tup []), (.tup []), (.tup []), (.tup []), (.tup []), (.tup []), (.tup []), (.tup []), (.tup []), (.tup []), (.tup []), (.tup []), (.tup []), (.tup []), (.tup []), (.tup []), (.tup []), (.tup []), (.tup [])] H (kk none (fun s H => retK (([6, 7] : List Nat).map fun t => s.getD t (.tup [])) H) [] retK [6, 7]) =
  resK (call lim 86 [x0] H) fun x10 H =>
  purK (unA .not x10) fun x11 =>
  condK x11
  (
    J (Code.at [1, 0, 0, 1] c372) (sp 33 [(0, x0), (1, x1), (2, x2), (8, x11)]) H (kk (some [0, 1, 2]) (fun s H => J (Code.at [1, 1] c372) s H (kk none (fun s H => retK (([6, 7] : List Nat).map fun t => s.getD t (.tup [])) H) [] retK [6, 7])) [(0, (some [0, 1, 2]), (fun s H => J (Code.at [1, 1] c372) s H (kk none (fun s H => retK (([6, 7] : List Nat).map fun t => s.getD t (.tup [])) H) [] retK [6, 7])))] retK [6, 7]))
  (
    purK (binA Tryz.prog H .lss 3 x1 (.int .i64 0)) fun x13 =>
    condK x13
    (
      J (Code.at [1, 0, 0, 1] c372) (sp 33 [(0, x0), (1, x1), (2, x2), (8, x13)]) H (kk (some [0, 1, 2]) (fun s H => J (Code.at [1, 1] c372) s H (kk none (fun s H => retK (([6, 7] : List Nat).map fun t => s.getD t (.tup [])) H) [] retK [6, 7])) [(0, (some [0, 1, 2]), (fun s H => J (Code.at [1, 1] c372) s H (kk none (fun s H => retK (([6, 7] : List Nat).map fun t => s.getD t (.tup [])) H) [] retK [6, 7])))] retK [6, 7]))
    (
      purK (binA Tryz.prog H .lss 3 x2 (.int .i64 0)) fun x15 =>
      condK x15
      (
        J (Code.at [1, 0, 0, 1] c372) (sp 33 [(0, x0), (1, x1), (2, x2), (8, x15)]) H (kk (some [0, 1, 2]) (fun s H => J (Code.at [1, 1] c372) s H (kk none (fun s H => retK (([6, 7] : List Nat).map fun t => s.getD t (.tup [])) H) [] retK [6, 7])) [(0, (some [0, 1, 2]), (fun s H => J (Code.at [1, 1] c372) s H (kk none (fun s H => retK (([6, 7] : List Nat).map fun t => s.getD t (.tup [])) H) [] retK [6, 7])))] retK [6, 7]))
      (
        resK (call lim 118 [x0] H) fun x18 H =>
        purK (binA Tryz.prog H .geq 3 x2 x18) fun x19 =>
        J (Code.at [1, 0, 0, 1] c372) (sp 33 [(0, x0), (1, x1), (2, x2), (8, x19)]) H (kk (some [0, 1, 2]) (fun s H => J (Code.at [1, 1] c372) s H (kk none (fun s H => retK (([6, 7] : List Nat).map fun t => s.getD t (.tup [])) H) [] retK [6, 7])) [(0, (some [0, 1, 2]), (fun s H => J (Code.at [1, 1] c372) s H (kk none (fun s H => retK (([6, 7] : List Nat).map fun t => s.getD t (.tup [])) H) [] retK [6, 7])))] retK [6, 7])))) := by
  kernel_rfl
theorem G372 (ρ : Addr → Option Value) (call : CallF) (yc : YieldF) (lim k : Nat) (x0 x1 x2 : AV) (H : Heap) :
    evL (cx ρ) call yc false 372 lim k c372 [x0, x1, x2, (.tup []), (.tup []), (.tup []), (.tup []), (.tup []), (.tup []), (.tup []), (.tup []), (.tup []), (.tup []), (.tup []), (.tup []), (.tup []), (.tup []), (.tup []), (.tup []), (.tup []), (.tup []), (.tup []), (.tup []), (.tup []), (.tup []), (.tup []), (.tup []), (.tup []), (.tup []), (.tup []), (.tup []), (.tup []), (.tup [])] H (kk none (fun s H => retK (([6, 7] : List Nat).map fun t => s.getD t (.tup [])) H) [] retK [6, 7]) = L372 ρ call yc lim k x0 x1 x2 H := by
  rw [evL_X, L372_x]
  simp only [← evL_X, L372, N372_1_eq, N372_2_eq]
theorem E372 (ρ : Addr → Option Value) (k lim : Nat) (x0 x1 x2 : AV) (H : Heap) : evCall (cx ρ) (k + 1) lim 372 [x0, x1, x2] H = L372 ρ (evCall (cx ρ) k) (evCY (cx ρ) k).2 lim k x0 x1 x2 H := by
  rw [evCall_body (cx ρ) k lim 372 _ H Tryz.f372 c372 [6, 7] (by kernel_rfl) (by kernel_rfl) (by kernel_rfl) (by kernel_rfl) (by kernel_rfl)]
  exact G372 ρ (evCall (cx ρ) k) (evCY (cx ρ) k).2 lim k x0 x1 x2 H
-- (*haycroft/index.Index).may
noncomputable def c375 : Code := Code.of Tryz.prog 375
noncomputable def L375 (ρ : Addr → Option Value) (call : CallF) (yc : YieldF) (lim k : Nat) (x0 x1 : AV) (H : Heap) : Res :=
  purK (binA Tryz.prog H .eql 72 x0 .nilp) fun x7 =>
  condK x7
  (
    retK [(.int .i64 2)] H)
  (
    resK (call lim 387 [x0, x1] H) fun x11 H =>
    purK (unA .not x11) fun x12 =>
    condK x12
    (
      retK [(.int .i64 1)] H)
    (
      retK [(.int .i64 0)] H))
theorem G375 (ρ : Addr → Option Value) (call : CallF) (yc : YieldF) (lim k : Nat) (x0 x1 : AV) (H : Heap) :
    evL (cx ρ) call yc false 375 lim k c375 [x0, x1, (.tup []), (.tup []), (.tup []), (.tup []), (.tup []), (.tup []), (.tup []), (.tup []), (.tup []), (.tup []), (.tup [])] H (kk none (fun s H => retK (([4] : List Nat).map fun t => s.getD t (.tup [])) H) [] retK [4]) = L375 ρ call yc lim k x0 x1 H := by
  kernel_rfl
theorem E375 (ρ : Addr → Option Value) (k lim : Nat) (x0 x1 : AV) (H : Heap) : evCall (cx ρ) (k + 1) lim 375 [x0, x1] H = L375 ρ (evCall (cx ρ) k) (evCY (cx ρ) k).2 lim k x0 x1 H := by
  rw [evCall_body (cx ρ) k lim 375 _ H Tryz.f375 c375 [4] (by kernel_rfl) (by kernel_rfl) (by kernel_rfl) (by kernel_rfl) (by kernel_rfl)]
  exact G375 ρ (evCall (cx ρ) k) (evCY (cx ρ) k).2 lim k x0 x1 H
-- haycroft/entry.Fresh
noncomputable def c376 : Code := Code.of Tryz.prog 376
noncomputable def L376 (ρ : Addr → Option Value) (call : CallF) (yc : YieldF) (lim k : Nat) (x0 : AV) (H : Heap) : Res :=
  purK (bldA [.int .u64 0, .int .u64 0, .bool false] [(1, 1, x0), (2, 1, (.bool true))]) fun x5 =>
  resK (call lim 388 [x5] H) fun x6 H =>
  purK (extA 0 x6) fun x7 =>
  purK (extA 1 x6) fun x8 =>
  retK [x7, x8] H
theorem G376 (ρ : Addr → Option Value) (call : CallF) (yc : YieldF) (lim k : Nat) (x0 : AV) (H : Heap) :
    evL (cx ρ) call yc false 376 lim k c376 [x0, (.tup []), (.tup []), (.tup []), (.tup []), (.tup []), (.tup []), (.tup []), (.tup [])] H (kk none (fun s H => retK (([2, 3] : List Nat).map fun t => s.getD t (.tup [])) H) [] retK [2, 3]) = L376 ρ call yc lim k x0 H := by
  kernel_rfl
theorem E376 (ρ : Addr → Option Value) (k lim : Nat) (x0 : AV) (H : Heap) : evCall (cx ρ) (k + 1) lim 376 [x0] H = L376 ρ (evCall (cx ρ) k) (evCY (cx ρ) k).2 lim k x0 H := by
  rw [evCall_body (cx ρ) k lim 376 _ H Tryz.f376 c376 [2, 3] (by kernel_rfl) (by kernel_rfl) (by kernel_rfl) (by kernel_rfl) (by kernel_rfl)]
  exact G376 ρ (evCall (cx ρ) k) (evCY (cx ρ) k).2 lim k x0 H
-- (*haycroft/pages.Buffer).at
noncomputable def c378 : Code := Code.of Tryz.prog 378
noncomputable def N378_1 (ρ : Addr → Option Value) (call : CallF) (yc : YieldF) (lim k : Nat) (x0 x1 : AV) (H : Heap) (R : List AV → Heap → Res) : Res :=
  purK (nilChkA x0) fun x23_1 =>
  purK (addA 0 x23_1) fun x24_1 =>
  purK (ld1 ρ H x24_1) fun x25_1 =>
  purK (nilChkA x0) fun x30_1 =>
  purK (addA 0 x30_1) fun x31_1 =>
  purK (ld1 ρ H x31_1) fun x32_1 =>
  purK (nilChkA x0) fun x36_1 =>
  purK (addA 0 x36_1) fun x37_1 =>
  purK (ld1 ρ H x37_1) fun x38_1 =>
  resK (call lim 168 [x25_1, x1] H) fun x27_1 H => bif (agn (ld1 ρ H x37_1) x38_1 && (agn (ld1 ρ H x31_1) x32_1 && true)) then
    resK (call lim 120 [x0, x27_1] H) fun x28_1 H => bif (agn (ld1 ρ H x37_1) x38_1 && (agn (ld1 ρ H x31_1) x32_1 && true)) then
      resK (call lim 118 [x32_1] H) fun x33_1 H => bif (agn (ld1 ρ H x37_1) x38_1 && true) then
        purK (binA Tryz.prog H .mul 3 x28_1 x33_1) fun x34_1 =>
        resK (call lim 172 [x38_1, x1] H) fun x40_1 H => bif (agn (binA Tryz.prog H .mul 3 x28_1 x33_1) x34_1 && true) then
          purK (binA Tryz.prog H .add 3 x34_1 x40_1) fun x41_1 =>
          R [x41_1, (.int .i64 0)] H
        else none
      else none
    else none
  else none
theorem N378_1_eq (ρ : Addr → Option Value) (call : CallF) (yc : YieldF) (lim k : Nat) (x0 x1 : AV) (H : Heap) (R : List AV → Heap → Res) :
    evL (cx ρ) call yc false 378 lim k (Code.at [1, 1] c378) (sp 42 [(0, x0), (1, x1)]) H (kk none (fun s H => R (([4, 5] : List Nat).map fun t => s.getD t (.tup [])) H) [] R [4, 5]) = N378_1 ρ call yc lim k x0 x1 H R := by
  kernel_rfl
noncomputable def N378_2 (ρ : Addr → Option Value) (call : CallF) (yc : YieldF) (lim k : Nat) (x0 x1 x9 : AV) (H : Heap) (kn : AV → AV → Heap → Res) (R : List AV → Heap → Res) : Res :=
  condK x9
  (
    R [(.int .i64 0), (.int .i64 7)] H)
  (
    kn x0 x1 H)
theorem N378_2_eq (ρ : Addr → Option Value) (call : CallF) (yc : YieldF) (lim k : Nat) (x0 x1 x9 : AV) (H : Heap) (kn : KS) (k0 : KS) (R : List AV → Heap → Res) :
    evL (cx ρ) call yc false 378 lim k (Code.at [1, 0, 0, 1, 1, 1] c378) (sp 42 [(0, x0), (1, x1), (9, x9)]) H (kk (some [0, 1]) kn [(0, (some [0, 1]), k0)] R [4, 5]) = N378_2 ρ call yc lim k x0 x1 x9 H (fun x0 x1 H => kn (sp 42 [(0, x0), (1, x1)]) H) R := by
  kernel_rfl
noncomputable def L378 (ρ : Addr → Option Value) (call : CallF) (yc : YieldF) (lim k : Nat) (x0 x1 : AV) (H : Heap) : Res :=
  purK (binA Tryz.prog H .eql 120 x0 .nilp) fun x8 =>
  condK x8
  (
    retK [(.int .i64 0), (.int .i64 2)] H)
  (
    purK (binA Tryz.prog H .gtr 22 x1 (.int .u64 281474976710655)) fun x11 =>
    condK x11
    (
      N378_2 ρ call yc lim k x0 x1 x11 H (fun x0_1 x1_1 H =>
        N378_1 ρ call yc lim k x0_1 x1_1 H retK) retK)
    (
      purK (nilChkA x0) fun x14 =>
      purK (addA 0 x14) fun x15 =>
      purK (ld1 ρ H x15) fun x16 =>
      resK (call lim 168 [x16, x1] H) fun x18 H =>
      resK (call lim 117 [x0, x18] H) fun x19 H =>
      purK (unA .not x19) fun x20 =>
      N378_2 ρ call yc lim k x0 x1 x20 H (fun x0_2 x1_2 H =>
        N378_1 ρ call yc lim k x0_2 x1_2 H retK) retK))
theorem L378_x (ρ : Addr → Option Value) (call : CallF) (yc : YieldF) (lim k : Nat) (J : CodeF) (x0 x1 : AV) (H : Heap) :
    evX (cx ρ) call yc false 378 lim k J c378 [x0, x1, (.tup []), (.tup []), (.tup []), (.tup []), (.tup []), (.tup []), (.tup []), (.tup []), (.tup []), (.tup []), (.tup []), (.tup []), (.tup []), (.tup []), (.tup []), (.tup []), (.tup []), (.tup []), (.tup []), (.tup []), (.tup []), (.tup []), (.tup []), (.tup []), (.tup []), (.tup []), (.tup []), (.tup []), (.tup []), (.tup []), (.tup []), (.tup []), (.tup []), (.tup []), (.tup []), (.tup []), (.tup []), (.tup []), (.tup []), (.tup [])] H (kk none (fun s H => retK (([4, 5] : List Nat).map fun t => s.getD t (.tup [])) H) [] retK [4, 5]) =
  purK (binA Tryz.prog H .eql 120 x0 .nilp) fun x8 =>
  condK x8
  (
    retK [(.int .i64 0), (.int .i64 2)] H)
  (
    purK (binA Tryz.prog H .gtr 22 x1 (.int .u64 281474976710655)) fun x11 =>
    condK x11
    (
      J (Code.at [1, 0, 0, 1, 1, 1] c378) (sp 42 [(0, x0), (1, x1), (9, x11)]) H (kk (some [0, 1]) (fun s H => J (Code.at [1, 1] c378) s H (kk none (fun s H => retK (([4, 5] : List Nat).map fun t => s.getD t (.tup [])) H) [] retK [4, 5])) [(0, (some [0, 1]), (fun s H => J (Code.at [1, 1] c378) s H (kk none (fun s H => retK (([4, 5] : List Nat).map fun t => s.getD t (.tup [])) H) [] retK [4, 5])))] retK [4, 5]))
    (
      purK (nilChkA x0) fun x14 =>
      purK (addA 0 x14) fun x15 =>
      purK (ld1 ρ H x15) fun x16 =>
      resK (call lim 168 [x16, x1] H) fun x18 H =>
      resK (call lim 117 [x0, x18] H) fun x19 H =>
      purK (unA .not x19) fun x20 =>
      J (Code.at [1, 0, 0, 1, 1, 1] c378) (sp 42 [(0, x0), (1, x1), (9, x20)]) H (kk (some [0, 1]) (fun s H => J (Code.at [1, 1] c378) s H (kk none (fun s H => retK (([4, 5] : List Nat).map fun t => s.getD t (.tup [])) H) [] retK [4, 5])) [(0, (some [0, 1]), (fun s H => J (Code.at [1, 1] c378) s H (kk none (fun s H => retK (([4, 5] : List Nat).map fun t => s.getD t (.tup [])) H) [] retK [4, 5])))] retK [4, 5]))) := by
  kernel_rfl
theorem G378 (ρ : Addr → Option Value) (call : CallF) (yc : YieldF) (lim k : Nat) (x0 x1 : AV) (H : Heap) :
    evL (cx ρ) call yc false 378 lim k c378 [x0, x1, (.tup []), (.tup []), (.tup []), (.tup []), (.tup []), (.tup []), (.tup []), (.tup []), (.tup []), (.tup []), (.tup []), (.tup []), (.tup []), (.tup []), (.tup []), (.tup []), (.tup []), (.tup []), (.tup []), (.tup []), (.tup []), (.tup []), (.tup []), (.tup []), (.tup []), (.tup []), (.tup []), (.tup []), (.tup []), (.tup []), (.tup []), (.tup []), (.tup []), (.tup []), (.tup []), (.tup []), (.tup []), (.tup []), (.tup []), (.tup [])] H (kk none (fun s H => retK (([4, 5] : List Nat).map fun t => s.getD t (.tup [])) H) [] retK [4, 5]) = L378 ρ call yc lim k x0 x1 H := by
  rw [evL_X, L378_x]
  simp only [← evL_X, L378, N378_1_eq, N378_2_eq]
theorem E378 (ρ : Addr → Option Value) (k lim : Nat) (x0 x1 : AV) (H : Heap) : evCall (cx ρ) (k + 1) lim 378 [x0, x1] H = L378 ρ (evCall (cx ρ) k) (evCY (cx ρ) k).2 lim k x0 x1 H := by
  rw [evCall_body (cx ρ) k lim 378 _ H Tryz.f378 c378 [4, 5] (by kernel_rfl) (by kernel_rfl) (by kernel_rfl) (by kernel_rfl) (by kernel_rfl)]
  exact G378 ρ (evCall (cx ρ) k) (evCY (cx ρ) k).2 lim k x0 x1 H
-- haycroft/place.Fits
noncomputable def c379 : Code := Code.of Tryz.prog 379
noncomputable def L379 (ρ : Addr → Option Value) (call : CallF) (yc : YieldF) (lim k : Nat) (x0 x1 x2 : AV) (H : Heap) : Res :=
  purK (binA Tryz.prog H .geq 3 x2 (.int .i64 1)) fun x8 =>
  purK (gPur (wantV x8 true) (some x2)) fun x10 =>
  purK (gPur (wantV x8 true) (some x0)) fun x11 =>
  purK (gPur (wantV x8 true) (some x1)) fun x12 =>
  resK (gRes (wantV x8 true) H (call lim 389 [x11, x12] H)) fun x13 H =>
  purK (gPur (wantV x8 true) (binA Tryz.prog H .leq 3 x10 x13)) fun x14 =>
  purK (pickA x8 x14 (.bool false)) fun x15 =>
  retK [x15] H
theorem G379 (ρ : Addr → Option Value) (call : CallF) (yc : YieldF) (lim k : Nat) (x0 x1 x2 : AV) (H : Heap) :
    evL (cx ρ) call yc false 379 lim k c379 [x0, x1, x2, (.tup []), (.tup []), (.tup []), (.tup []), (.tup []), (.tup []), (.tup []), (.tup []), (.tup []), (.tup []), (.tup []), (.tup []), (.tup [])] H (kk none (fun s H => retK (([6] : List Nat).map fun t => s.getD t (.tup [])) H) [] retK [6]) = L379 ρ call yc lim k x0 x1 x2 H := by
  kernel_rfl
theorem E379 (ρ : Addr → Option Value) (k lim : Nat) (x0 x1 x2 : AV) (H : Heap) : evCall (cx ρ) (k + 1) lim 379 [x0, x1, x2] H = L379 ρ (evCall (cx ρ) k) (evCY (cx ρ) k).2 lim k x0 x1 x2 H := by
  rw [evCall_body (cx ρ) k lim 379 _ H Tryz.f379 c379 [6] (by kernel_rfl) (by kernel_rfl) (by kernel_rfl) (by kernel_rfl) (by kernel_rfl)]
  exact G379 ρ (evCall (cx ρ) k) (evCY (cx ρ) k).2 lim k x0 x1 x2 H
-- haycroft/field.fit
noncomputable def c384 : Code := Code.of Tryz.prog 384
noncomputable def N384_1 (ρ : Addr → Option Value) (call : CallF) (yc : YieldF) (lim k : Nat) (H : Heap) (R : List AV → Heap → Res) : Res :=
  R [(.bool true)] H
theorem N384_1_eq (ρ : Addr → Option Value) (call : CallF) (yc : YieldF) (lim k : Nat) (H : Heap) (R : List AV → Heap → Res) :
    evL (cx ρ) call yc false 384 lim k (Code.at [1, 1, 1] c384) (sp 23 []) H (kk none (fun s H => R (([2] : List Nat).map fun t => s.getD t (.tup [])) H) [] R [2]) = N384_1 ρ call yc lim k H R := by
  kernel_rfl
noncomputable def N384_3b (ρ : Addr → Option Value) (call : CallF) (yc : YieldF) (lim k : Nat) (x3 x6 x7 x8 : AV) (H : Heap) (kn : AV → AV → AV → AV → Heap → Res) (k0 : Heap → Res) (R : List AV → Heap → Res) : Res :=
  purK (binA Tryz.prog H .lss 3 x8 x7) fun x9_1 =>
  condK x9_1
  (
    purK (ixS 1 x6 x8) fun x10_1 =>
    purK (ld1 ρ H x10_1) fun x11_1 =>
    purK (binA Tryz.prog H .lss 3 x11_1 (.int .i64 1)) fun x13_1 =>
    purK (gPur (wantV x13_1 false) (some x11_1)) fun x15_1 =>
    purK (gPur (wantV x13_1 false) (some x3)) fun x16_1 =>
    purK (gPur (wantV x13_1 false) (binA Tryz.prog H .gtr 3 x15_1 x16_1)) fun x17_1 =>
    purK (pickA x13_1 (.bool true) x17_1) fun x18_1 =>
    condK x18_1
    (
      R [(.bool false)] H)
    (
      purK (binA Tryz.prog H .sub 3 x3 x11_1) fun x21_1 =>
      purK (binA Tryz.prog H .add 3 x8 (.int .i64 1)) fun x22_1 =>
      kn x21_1 x6 x7 x22_1 H))
  (
    k0 H)
theorem N384_3b_eq (ρ : Addr → Option Value) (call : CallF) (yc : YieldF) (lim k : Nat) (x3 x6 x7 x8 : AV) (H : Heap) (kn : KS) (k0 : KS) (R : List AV → Heap → Res) :
    evL (cx ρ) call yc false 384 lim k (Code.at [1, 1, 0, 1, 0, 0] c384) (sp 23 [(3, x3), (6, x6), (7, x7), (8, x8)]) H (kk (some [3, 6, 7, 8]) kn [(0, (some []), k0)] R [2]) = N384_3b ρ call yc lim k x3 x6 x7 x8 H (fun x3 x6 x7 x8 H => kn (sp 23 [(3, x3), (6, x6), (7, x7), (8, x8)]) H) (fun H => k0 (sp 23 []) H) R := by
  kernel_rfl
noncomputable def N384_3 (ρ : Addr → Option Value) (call : CallF) (yc : YieldF) (lim k : Nat) (x3 x6 x7 x8 : AV) (H : Heap) (k0 : Heap → Res) (R : List AV → Heap → Res) : Res :=
  loopL (fun (x : AV × AV) H kn => N384_3b ρ call yc lim k x.1 x6 x7 x.2 H (fun x3 _ _ x8 H => kn (x3, x8) H) k0 R) k (x3, x8) H
theorem N384_3_eq (ρ : Addr → Option Value) (call : CallF) (yc : YieldF) (lim k : Nat) (x3 x6 x7 x8 : AV) (H : Heap) (kn : KS) (k0 : KS) (R : List AV → Heap → Res) :
    evL (cx ρ) call yc false 384 lim k (Code.at [1, 1, 0, 1, 0] c384) (sp 23 [(3, x3), (6, x6), (7, x7), (8, x8)]) H (kk (some []) kn [(0, (some []), k0)] R [2]) = N384_3 ρ call yc lim k x3 x6 x7 x8 H (fun H => k0 (sp 23 []) H) R := by
  have e : Code.at [1, 1, 0, 1, 0] c384 = .loop (Code.at [1, 1, 0, 1, 0, 0] c384) := by kernel_rfl
  rw [e]
  unfold N384_3
  exact loop_node [3, 6, 7, 8] (fun x : AV × AV => (sp 23 [(3, (x.1)), (6, x6), (7, x7), (8, (x.2))])) (fun (x : AV × AV) H kn => N384_3b ρ call yc lim k x.1 x6 x7 x.2 H (fun x3 _ _ x8 H => kn (x3, x8) H) (fun H => k0 (sp 23 []) H) R) (by kernel_rfl) (fun x => by kernel_rfl) (fun x H kn => N384_3b_eq ρ call yc lim k (x.1) x6 x7 (x.2) H kn k0 R) (x3, x8) (sp 23 [(3, x3), (6, x6), (7, x7), (8, x8)]) H (by kernel_rfl)
noncomputable def N384_2 (ρ : Addr → Option Value) (call : CallF) (yc : YieldF) (lim k : Nat) (x3 x6 x7 x8 : AV) (H : Heap) (kn : Heap → Res) (R : List AV → Heap → Res) : Res :=
  N384_3 ρ call yc lim k x3 x6 x7 x8 H kn R
theorem N384_2_x (ρ : Addr → Option Value) (call : CallF) (yc : YieldF) (lim k : Nat) (J : CodeF) (x3 x6 x7 x8 : AV) (H : Heap) (kn : KS) (R : List AV → Heap → Res) :
    evX (cx ρ) call yc false 384 lim k J (Code.at [1, 1, 0, 1] c384) (sp 23 [(3, x3), (6, x6), (7, x7), (8, x8)]) H (kk (some []) kn [] R [2]) =
  J (Code.at [1, 1, 0, 1, 0] c384) (sp 23 [(3, x3), (6, x6), (7, x7), (8, x8)]) H (kk (some []) kn [(0, (some []), kn)] R [2]) := by
  kernel_rfl
theorem N384_2_eq (ρ : Addr → Option Value) (call : CallF) (yc : YieldF) (lim k : Nat) (x3 x6 x7 x8 : AV) (H : Heap) (kn : KS) (R : List AV → Heap → Res) :
    evL (cx ρ) call yc false 384 lim k (Code.at [1, 1, 0, 1] c384) (sp 23 [(3, x3), (6, x6), (7, x7), (8, x8)]) H (kk (some []) kn [] R [2]) = N384_2 ρ call yc lim k x3 x6 x7 x8 H (fun H => kn (sp 23 []) H) R := by
  rw [evL_X, N384_2_x]
  simp only [← evL_X, N384_2, N384_3_eq]
noncomputable def L384 (ρ : Addr → Option Value) (call : CallF) (yc : YieldF) (lim k : Nat) (x0 : AV) (H : Heap) : Res :=
  purK (lenS x0) fun x7 =>
  N384_2 ρ call yc lim k (.int .i64 64) x0 x7 (.int .i64 0) H (fun H =>
    N384_1 ρ call yc lim k H retK) retK
theorem L384_x (ρ : Addr → Option Value) (call : CallF) (yc : YieldF) (lim k : Nat) (J : CodeF) (x0 : AV) (H : Heap) :
    evX (cx ρ) call yc false 384 lim k J c384 [x0, (.tup []), (.tup []), (.tup []), (.tup []), (.tup []), (.tup []), (.tup []), (.tup []), (.tup []), (.tup []), (.tup []), (.tup []), (.tup []), (.tup []), (.tup []), (.tup []), (.tup []), (.tup []), (.tup []), (.tup []), (.tup []), (.tup [])] H (kk none (fun s H => retK (([2] : List Nat).map fun t => s.getD t (.tup [])) H) [] retK [2]) =
  purK (lenS x0) fun x7 =>
  J (Code.at [1, 1, 0, 1] c384) (sp 23 [(3, (.int .i64 64)), (6, x0), (7, x7), (8, (.int .i64 0))]) H (kk (some []) (fun s H => J (Code.at [1, 1, 1] c384) s H (kk none (fun s H => retK (([2] : List Nat).map fun t => s.getD t (.tup [])) H) [] retK [2])) [] retK [2]) := by
  kernel_rfl
theorem G384 (ρ : Addr → Option Value) (call : CallF) (yc : YieldF) (lim k : Nat) (x0 : AV) (H : Heap) :
    evL (cx ρ) call yc false 384 lim k c384 [x0, (.tup []), (.tup []), (.tup []), (.tup []), (.tup []), (.tup []), (.tup []), (.tup []), (.tup []), (.tup []), (.tup []), (.tup []), (.tup []), (.tup []), (.tup []), (.tup []), (.tup []), (.tup []), (.tup []), (.tup []), (.tup []), (.tup [])] H (kk none (fun s H => retK (([2] : List Nat).map fun t => s.getD t (.tup [])) H) [] retK [2]) = L384 ρ call yc lim k x0 H := by
  rw [evL_X, L384_x]
  simp only [← evL_X, L384, N384_1_eq, N384_2_eq]
theorem E384 (ρ : Addr → Option Value) (k lim : Nat) (x0 : AV) (H : Heap) : evCall (cx ρ) (k + 1) lim 384 [x0] H = L384 ρ (evCall (cx ρ) k) (evCY (cx ρ) k).2 lim k x0 H := by
  rw [evCall_body (cx ρ) k lim 384 _ H Tryz.f384 c384 [2] (by kernel_rfl) (by kernel_rfl) (by kernel_rfl) (by kernel_rfl) (by kernel_rfl)]
  exact G384 ρ (evCall (cx ρ) k) (evCY (cx ρ) k).2 lim k x0 H
-- haycroft/field.Put
noncomputable def c385 : Code := Code.of Tryz.prog 385
noncomputable def L385 (ρ : Addr → Option Value) (call : CallF) (yc : YieldF) (lim k : Nat) (x0 x1 x2 x3 : AV) (H : Heap) : Res :=
  resK (call lim 310 [x1, x2] H) fun x13 H =>
  purK (unA .not x13) fun x14 =>
  condK x14
  (
    retK [(.int .u64 0), (.int .i64 1)] H)
  (
    resK (call lim 248 [x2] H) fun x18 H =>
    purK (binA Tryz.prog H .gtr 22 x3 x18) fun x19 =>
    condK x19
    (
      retK [(.int .u64 0), (.int .i64 13)] H)
    (
      purK (binA Tryz.prog H .shl 22 x3 x1) fun x28 =>
      resK (call lim 248 [x2] H) fun x22 H => bif (agn (binA Tryz.prog H .shl 22 x3 x1) x28 && true) then
        purK (binA Tryz.prog H .shl 22 x22 x1) fun x24 =>
        purK (binA Tryz.prog H .andNot 22 x0 x24) fun x25 =>
        purK (binA Tryz.prog H .or 22 x25 x28) fun x29 =>
        retK [x29, (.int .i64 0)] H
      else none))
theorem G385 (ρ : Addr → Option Value) (call : CallF) (yc : YieldF) (lim k : Nat) (x0 x1 x2 x3 : AV) (H : Heap) :
    evL (cx ρ) call yc false 385 lim k c385 [x0, x1, x2, x3, (.tup []), (.tup []), (.tup []), (.tup []), (.tup []), (.tup []), (.tup []), (.tup []), (.tup []), (.tup []), (.tup []), (.tup []), (.tup []), (.tup []), (.tup []), (.tup []), (.tup []), (.tup []), (.tup []), (.tup []), (.tup []), (.tup []), (.tup []), (.tup []), (.tup []), (.tup [])] H (kk none (fun s H => retK (([8, 9] : List Nat).map fun t => s.getD t (.tup [])) H) [] retK [8, 9]) = L385 ρ call yc lim k x0 x1 x2 x3 H := by
  kernel_rfl
theorem E385 (ρ : Addr → Option Value) (k lim : Nat) (x0 x1 x2 x3 : AV) (H : Heap) : evCall (cx ρ) (k + 1) lim 385 [x0, x1, x2, x3] H = L385 ρ (evCall (cx ρ) k) (evCY (cx ρ) k).2 lim k x0 x1 x2 x3 H := by
  rw [evCall_body (cx ρ) k lim 385 _ H Tryz.f385 c385 [8, 9] (by kernel_rfl) (by kernel_rfl) (by kernel_rfl) (by kernel_rfl) (by kernel_rfl)]
  exact G385 ρ (evCall (cx ρ) k) (evCY (cx ρ) k).2 lim k x0 x1 x2 x3 H
-- haycroft/entry.To
noncomputable def c386 : Code := Code.of Tryz.prog 386
noncomputable def L386 (ρ : Addr → Option Value) (call : CallF) (yc : YieldF) (lim k : Nat) (x0 x1 : AV) (H : Heap) : Res :=
  resK (call lim 273 [x0] H) fun x10 H =>
  purK (extA 0 x10) fun x11 =>
  purK (extA 1 x10) fun x12 =>
  effK H (some (.ptr H.sz 0 0, .new (newCells 366 false [.int .u64 0, .int .u64 0, .bool false]))) fun x6 H =>
  effK H (stA lim H 3 x6 x11) fun _ H =>
  purK (binA Tryz.prog H .neq 30 x12 (.int .i64 0)) fun x14 =>
  condK x14
  (
    retK [(.int .u64 0), x12] H)
  (
    purK (addA 0 x6) fun x17 =>
    effK H (stA lim H 1 x17 x1) fun _ H =>
    purK (addA 2 x6) fun x18 =>
    effK H (stA lim H 1 x18 (.bool false)) fun _ H =>
    purK (ldN ρ H 3 x6) fun x19 =>
    resK (call lim 388 [x19] H) fun x20 H =>
    purK (extA 0 x20) fun x21 =>
    purK (extA 1 x20) fun x22 =>
    retK [x21, x22] H)
theorem G386 (ρ : Addr → Option Value) (call : CallF) (yc : YieldF) (lim k : Nat) (x0 x1 : AV) (H : Heap) :
    evL (cx ρ) call yc false 386 lim k c386 [x0, x1, (.tup []), (.tup []), (.tup []), (.tup []), (.tup []), (.tup []), (.tup []), (.tup []), (.tup []), (.tup []), (.tup []), (.tup []), (.tup []), (.tup []), (.tup []), (.tup []), (.tup []), (.tup []), (.tup []), (.tup []), (.tup [])] H (kk none (fun s H => retK (([4, 5] : List Nat).map fun t => s.getD t (.tup [])) H) [] retK [4, 5]) = L386 ρ call yc lim k x0 x1 H := by
  kernel_rfl
theorem E386 (ρ : Addr → Option Value) (k lim : Nat) (x0 x1 : AV) (H : Heap) : evCall (cx ρ) (k + 1) lim 386 [x0, x1] H = L386 ρ (evCall (cx ρ) k) (evCY (cx ρ) k).2 lim k x0 x1 H := by
  rw [evCall_body (cx ρ) k lim 386 _ H Tryz.f386 c386 [4, 5] (by kernel_rfl) (by kernel_rfl) (by kernel_rfl) (by kernel_rfl) (by kernel_rfl)]
  exact G386 ρ (evCall (cx ρ) k) (evCY (cx ρ) k).2 lim k x0 x1 H
-- (*haycroft/index.Index).slot
noncomputable def c387 : Code := Code.of Tryz.prog 387
noncomputable def L387 (ρ : Addr → Option Value) (call : CallF) (yc : YieldF) (lim k : Nat) (x0 x1 : AV) (H : Heap) : Res :=
  purK (binA Tryz.prog H .neq 72 x0 .nilp) fun x6 =>
  purK (gPur (wantV x6 true) (some x1)) fun x8 =>
  purK (gPur (wantV x6 true) (binA Tryz.prog H .geq 3 x8 (.int .i64 0))) fun x9 =>
  purK (pickA x6 x9 (.bool false)) fun x10 =>
  purK (gPur (wantV x10 true) (some x1)) fun x12 =>
  purK (gPur (wantV x10 true) (some x0)) fun x13 =>
  purK (gPur (wantV x10 true) (nilChkA x13)) fun x14 =>
  purK (gPur (wantV x10 true) (addA 2 x14)) fun x15 =>
  purK (gPur (wantV x10 true) (ld1 ρ H x15)) fun x16 =>
  resK (gRes (wantV x10 true) H (call lim 159 [x16] H)) fun x17 H =>
  purK (gPur (wantV x10 true) (binA Tryz.prog H .lss 3 x12 x17)) fun x18 =>
  purK (pickA x10 x18 (.bool false)) fun x19 =>
  purK (gPur (wantV x19 true) (some x1)) fun x21 =>
  purK (gPur (wantV x19 true) (binA Tryz.prog H .rem 3 x21 (.int .i64 8))) fun x22 =>
  purK (gPur (wantV x19 true) (binA Tryz.prog H .neq 3 x22 (.int .i64 7))) fun x23 =>
  purK (pickA x19 x23 (.bool false)) fun x24 =>
  retK [x24] H
theorem G387 (ρ : Addr → Option Value) (call : CallF) (yc : YieldF) (lim k : Nat) (x0 x1 : AV) (H : Heap) :
    evL (cx ρ) call yc false 387 lim k c387 [x0, x1, (.tup []), (.tup []), (.tup []), (.tup []), (.tup []), (.tup []), (.tup []), (.tup []), (.tup []), (.tup []), (.tup []), (.tup []), (.tup []), (.tup []), (.tup []), (.tup []), (.tup []), (.tup []), (.tup []), (.tup []), (.tup []), (.tup []), (.tup [])] H (kk none (fun s H => retK (([4] : List Nat).map fun t => s.getD t (.tup [])) H) [] retK [4]) = L387 ρ call yc lim k x0 x1 H := by
  kernel_rfl
theorem E387 (ρ : Addr → Option Value) (k lim : Nat) (x0 x1 : AV) (H : Heap) : evCall (cx ρ) (k + 1) lim 387 [x0, x1] H = L387 ρ (evCall (cx ρ) k) (evCY (cx ρ) k).2 lim k x0 x1 H := by
  rw [evCall_body (cx ρ) k lim 387 _ H Tryz.f387 c387 [4] (by kernel_rfl) (by kernel_rfl) (by kernel_rfl) (by kernel_rfl) (by kernel_rfl)]
  exact G387 ρ (evCall (cx ρ) k) (evCY (cx ρ) k).2 lim k x0 x1 H
-- haycroft/entry.Pack
noncomputable def c388 : Code := Code.of Tryz.prog 388
noncomputable def L388 (ρ : Addr → Option Value) (call : CallF) (yc : YieldF) (lim k : Nat) (x0 : AV) (H : Heap) : Res :=
  effK H (boxA H 366 x0) fun x1 H =>
  purK (ldN ρ H 3 x1) fun x6 =>
  resK (call lim 336 [x6] H) fun x7 H =>
  purK (unA .not x7) fun x8 =>
  condK x8
  (
    retK [(.int .u64 0), (.int .i64 1)] H)
  (
    purK (addA 0 x1) fun x10 =>
    purK (ld1 ρ H x10) fun x11 =>
    purK (addA 1 x1) fun x12 =>
    purK (ld1 ρ H x12) fun x13 =>
    effK H (bldS H 22 1 [.int .u64 0] 2 [(0, 1, x11), (1, 1, x13)]) fun x14 H =>
    effK H (bldS H 3 1 [.int .i64 0] 2 [(0, 1, (.int .i64 48)), (1, 1, (.int .i64 14))]) fun x15 H =>
    resK (call lim 360 [x14, x15] H) fun x16 H =>
    purK (extA 0 x16) fun x17 =>
    purK (extA 1 x16) fun x18 =>
    purK (addA 2 x1) fun x20 =>
    purK (ld1 ρ H x20) fun x21 =>
    resK (call lim 397 [x17, (.int .i64 62), x21] H) fun x22 H =>
    resK (call lim 397 [x22, (.int .i64 63), (.bool true)] H) fun x23 H =>
    retK [x23, x18] H)
theorem G388 (ρ : Addr → Option Value) (call : CallF) (yc : YieldF) (lim k : Nat) (x0 : AV) (H : Heap) :
    evL (cx ρ) call yc false 388 lim k c388 [x0, (.tup []), (.tup []), (.tup []), (.tup []), (.tup []), (.tup []), (.tup []), (.tup []), (.tup []), (.tup []), (.tup []), (.tup []), (.tup []), (.tup []), (.tup []), (.tup []), (.tup []), (.tup []), (.tup []), (.tup []), (.tup []), (.tup []), (.tup []), (.tup [])] H (kk none (fun s H => retK (([2, 3] : List Nat).map fun t => s.getD t (.tup [])) H) [] retK [2, 3]) = L388 ρ call yc lim k x0 H := by
  kernel_rfl
theorem E388 (ρ : Addr → Option Value) (k lim : Nat) (x0 : AV) (H : Heap) : evCall (cx ρ) (k + 1) lim 388 [x0] H = L388 ρ (evCall (cx ρ) k) (evCY (cx ρ) k).2 lim k x0 H := by
  rw [evCall_body (cx ρ) k lim 388 _ H Tryz.f388 c388 [2, 3] (by kernel_rfl) (by kernel_rfl) (by kernel_rfl) (by kernel_rfl) (by kernel_rfl)]
  exact G388 ρ (evCall (cx ρ) k) (evCY (cx ρ) k).2 lim k x0 H
-- haycroft/place.Room
noncomputable def c389 : Code := Code.of Tryz.prog 389
noncomputable def L389 (ρ : Addr → Option Value) (call : CallF) (yc : YieldF) (lim k : Nat) (x0 x1 : AV) (H : Heap) : Res :=
  resK (call lim 86 [x0] H) fun x6 H =>
  purK (unA .not x6) fun x7 =>
  purK (gPur (wantV x7 false) (some x1)) fun x9 =>
  purK (gPur (wantV x7 false) (binA Tryz.prog H .gtr 22 x9 (.int .u64 281474976710655))) fun x10 =>
  purK (pickA x7 (.bool true) x10) fun x11 =>
  condK x11
  (
    retK [(.int .i64 0)] H)
  (
    resK (call lim 118 [x0] H) fun x13 H =>
    resK (call lim 172 [x0, x1] H) fun x16 H =>
    purK (binA Tryz.prog H .sub 3 x13 x16) fun x17 =>
    retK [x17] H)
theorem G389 (ρ : Addr → Option Value) (call : CallF) (yc : YieldF) (lim k : Nat) (x0 x1 : AV) (H : Heap) :
    evL (cx ρ) call yc false 389 lim k c389 [x0, x1, (.tup []), (.tup []), (.tup []), (.tup []), (.tup []), (.tup []), (.tup []), (.tup []), (.tup []), (.tup []), (.tup []), (.tup []), (.tup []), (.tup []), (.tup []), (.tup [])] H (kk none (fun s H => retK (([4] : List Nat).map fun t => s.getD t (.tup [])) H) [] retK [4]) = L389 ρ call yc lim k x0 x1 H := by
  kernel_rfl
theorem E389 (ρ : Addr → Option Value) (k lim : Nat) (x0 x1 : AV) (H : Heap) : evCall (cx ρ) (k + 1) lim 389 [x0, x1] H = L389 ρ (evCall (cx ρ) k) (evCY (cx ρ) k).2 lim k x0 x1 H := by
  rw [evCall_body (cx ρ) k lim 389 _ H Tryz.f389 c389 [4] (by kernel_rfl) (by kernel_rfl) (by kernel_rfl) (by kernel_rfl) (by kernel_rfl)]
  exact G389 ρ (evCall (cx ρ) k) (evCY (cx ρ) k).2 lim k x0 x1 H
-- haycroft/field.Set
noncomputable def c397 : Code := Code.of Tryz.prog 397
noncomputable def N397_1 (ρ : Addr → Option Value) (call : CallF) (yc : YieldF) (lim k : Nat) (x0 x1 x7 : AV) (H : Heap) (R : List AV → Heap → Res) : Res :=
  resK (call lim 385 [x0, x1, (.int .i64 1), x7] H) fun x15_1 H =>
  purK (extA 0 x15_1) fun x16_1 =>
  purK (extA 1 x15_1) fun x17_1 =>
  purK (binA Tryz.prog H .neq 30 x17_1 (.int .i64 0)) fun x19_1 =>
  condK x19_1
  (
    R [x0] H)
  (
    R [x16_1] H)
theorem N397_1_eq (ρ : Addr → Option Value) (call : CallF) (yc : YieldF) (lim k : Nat) (x0 x1 x7 : AV) (H : Heap) (R : List AV → Heap → Res) :
    evL (cx ρ) call yc false 397 lim k (Code.at [1, 1, 1] c397) (sp 22 [(0, x0), (1, x1), (7, x7)]) H (kk none (fun s H => R (([6] : List Nat).map fun t => s.getD t (.tup [])) H) [] R [6]) = N397_1 ρ call yc lim k x0 x1 x7 H R := by
  kernel_rfl
noncomputable def L397 (ρ : Addr → Option Value) (call : CallF) (yc : YieldF) (lim k : Nat) (x0 x1 x2 : AV) (H : Heap) : Res :=
  condK x2
  (
    N397_1 ρ call yc lim k x0 x1 (.int .u64 1) H retK)
  (
    N397_1 ρ call yc lim k x0 x1 (.int .u64 0) H retK)
theorem L397_x (ρ : Addr → Option Value) (call : CallF) (yc : YieldF) (lim k : Nat) (J : CodeF) (x0 x1 x2 : AV) (H : Heap) :
    evX (cx ρ) call yc false 397 lim k J c397 [x0, x1, x2, (.tup []), (.tup []), (.tup []), (.tup []), (.tup []), (.tup []), (.tup []), (.tup []), (.tup []), (.tup []), (.tup []), (.tup []), (.tup []), (.tup []), (.tup []), (.tup []), (.tup []), (.tup []), (.tup [])] H (kk none (fun s H => retK (([6] : List Nat).map fun t => s.getD t (.tup [])) H) [] retK [6]) =
  condK x2
  (
    J (Code.at [1, 1, 1] c397) (sp 22 [(0, x0), (1, x1), (7, (.int .u64 1))]) H (kk none (fun s H => retK (([6] : List Nat).map fun t => s.getD t (.tup [])) H) [] retK [6]))
  (
    J (Code.at [1, 1, 1] c397) (sp 22 [(0, x0), (1, x1), (7, (.int .u64 0))]) H (kk none (fun s H => retK (([6] : List Nat).map fun t => s.getD t (.tup [])) H) [] retK [6])) := by
  kernel_rfl
theorem G397 (ρ : Addr → Option Value) (call : CallF) (yc : YieldF) (lim k : Nat) (x0 x1 x2 : AV) (H : Heap) :
    evL (cx ρ) call yc false 397 lim k c397 [x0, x1, x2, (.tup []), (.tup []), (.tup []), (.tup []), (.tup []), (.tup []), (.tup []), (.tup []), (.tup []), (.tup []), (.tup []), (.tup []), (.tup []), (.tup []), (.tup []), (.tup []), (.tup []), (.tup []), (.tup [])] H (kk none (fun s H => retK (([6] : List Nat).map fun t => s.getD t (.tup [])) H) [] retK [6]) = L397 ρ call yc lim k x0 x1 x2 H := by
  rw [evL_X, L397_x]
  simp only [← evL_X, L397, N397_1_eq]
theorem E397 (ρ : Addr → Option Value) (k lim : Nat) (x0 x1 x2 : AV) (H : Heap) : evCall (cx ρ) (k + 1) lim 397 [x0, x1, x2] H = L397 ρ (evCall (cx ρ) k) (evCY (cx ρ) k).2 lim k x0 x1 x2 H := by
  rw [evCall_body (cx ρ) k lim 397 _ H Tryz.f397 c397 [6] (by kernel_rfl) (by kernel_rfl) (by kernel_rfl) (by kernel_rfl) (by kernel_rfl)]
  exact G397 ρ (evCall (cx ρ) k) (evCY (cx ρ) k).2 lim k x0 x1 x2 H
end Go.Proofs.YtdiafdmgenefnaaGreat
