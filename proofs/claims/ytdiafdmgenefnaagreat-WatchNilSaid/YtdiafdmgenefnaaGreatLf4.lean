/- Functions, lifted. Printed by a program of this repo. -/
import Derived.Test.YtdiafdmgenefnaaGreatLfTab
set_option linter.unusedVariables false
set_option linter.unusedSimpArgs false
set_option maxRecDepth 100000
set_option maxHeartbeats 4000000
namespace Go.Proofs.YtdiafdmgenefnaaGreat
open Go.Ev Go.RowKit
-- (*haycroft/index.Index).Look
noncomputable def c240 : Code := Code.of Tryz.prog 240
noncomputable def L240 (ρ : Addr → Option Value) (call : CallF) (yc : YieldF) (lim k : Nat) (x0 x1 : AV) (H : Heap) : Res :=
  effK H (boxA H 72 x0) fun x2 H =>
  effK H (boxA H 22 x1) fun x3 H =>
  effK H (some (.ptr H.sz 0 0, .new (newCells 335 false [.int .i64 0, .int .i64 0, .int .u64 0, .int .i64 0]))) fun x4 H =>
  purK (ld1 ρ H x2) fun x10 =>
  purK (binA Tryz.prog H .eql 72 x10 .nilp) fun x11 =>
  condK x11
  (
    purK (bldA [.int .i64 0, .int .i64 0, .int .u64 0, .int .i64 0] []) fun x12 =>
    effK H (stA lim H 4 x4 x12) fun _ H =>
    (retC (cx ρ) [some 335, none]) [x4, (.int .i64 2)] H)
  (
    purK (ld1 ρ H x2) fun x13 =>
    purK (ld1 ρ H x3) fun x14 =>
    purK (ld1 ρ H x2) fun x15 =>
    purK (nilChkA x15) fun x16 =>
    purK (addA 0 x16) fun x17 =>
    purK (ld1 ρ H x17) fun x18 =>
    resK (call lim 302 [x14, x18] H) fun x19 H => bif (agn (ld1 ρ H x2) x13 && true) then
      resK (call lim 272 [x13, x19] H) fun x20 H =>
      purK (lenS x20) fun x23 =>
      purK (binA Tryz.prog H .sub 3 x23 (.int .i64 1)) fun x24 =>
      purK (ixS 1 x20 x24) fun x25 =>
      purK (ld1 ρ H x25) fun x26 =>
      resK (call lim 271 [x20] H) fun x28 H =>
      resK (call lim 267 [x28, (.fn (.func 303) [] [x2, x3])] H) fun x31 H =>
      purK (binA Tryz.prog H .geq 3 x31 (.int .i64 0)) fun x33 =>
      condK x33
      (
        purK (ixS 1 x28 x31) fun x36 =>
        purK (ld1 ρ H x36) fun x37 =>
        purK (ld1 ρ H x2) fun x38 =>
        purK (nilChkA x38) fun x39 =>
        purK (addA 2 x39) fun x40 =>
        purK (ld1 ρ H x40) fun x41 =>
        purK (ixS 1 x28 x31) fun x44 =>
        purK (ld1 ρ H x44) fun x45 =>
        resK (call lim 97 [x41, x45] H) fun x46 H => bif (agn (ld1 ρ H x36) x37 && true) then
          purK (bldA [.int .i64 0, .int .i64 0, .int .u64 0, .int .i64 0] [(0, 1, (.int .i64 1)), (1, 1, x37), (2, 1, x46), (3, 1, x26)]) fun x48 =>
          effK H (stA lim H 4 x4 x48) fun _ H =>
          (retC (cx ρ) [some 335, none]) [x4, (.int .i64 0)] H
        else none)
      (
        resK (call lim 267 [x28, (.fn (.func 306) [] [x2])] H) fun x51 H =>
        purK (binA Tryz.prog H .geq 3 x51 (.int .i64 0)) fun x53 =>
        condK x53
        (
          purK (ixS 1 x28 x51) fun x56 =>
          purK (ld1 ρ H x56) fun x57 =>
          purK (bldA [.int .i64 0, .int .i64 0, .int .u64 0, .int .i64 0] [(0, 1, (.int .i64 2)), (1, 1, x57), (3, 1, x26)]) fun x59 =>
          effK H (stA lim H 4 x4 x59) fun _ H =>
          (retC (cx ρ) [some 335, none]) [x4, (.int .i64 0)] H)
        (
          purK (bldA [.int .i64 0, .int .i64 0, .int .u64 0, .int .i64 0] [(0, 1, (.int .i64 3)), (3, 1, x26)]) fun x61 =>
          effK H (stA lim H 4 x4 x61) fun _ H =>
          (retC (cx ρ) [some 335, none]) [x4, (.int .i64 0)] H))
    else none)
theorem G240 (ρ : Addr → Option Value) (call : CallF) (yc : YieldF) (lim k : Nat) (x0 x1 : AV) (H : Heap) :
    evL (cx ρ) call yc false 240 lim k c240 [x0, x1, (.tup []), (.tup []), (.tup []), (.tup []), (.tup []), (.tup []), (.tup []), (.tup []), (.tup []), (.tup []), (.tup []), (.tup []), (.tup []), (.tup []), (.tup []), (.tup []), (.tup []), (.tup []), (.tup []), (.tup []), (.tup []), (.tup []), (.tup []), (.tup []), (.tup []), (.tup []), (.tup []), (.tup []), (.tup []), (.tup []), (.tup []), (.tup []), (.tup []), (.tup []), (.tup []), (.tup []), (.tup []), (.tup []), (.tup []), (.tup []), (.tup []), (.tup []), (.tup []), (.tup []), (.tup []), (.tup []), (.tup []), (.tup []), (.tup []), (.tup []), (.tup []), (.tup []), (.tup []), (.tup []), (.tup []), (.tup []), (.tup []), (.tup []), (.tup []), (.tup [])] H (kk none (fun s H => (retC (cx ρ) [some 335, none]) (([4, 5] : List Nat).map fun t => s.getD t (.tup [])) H) [] (retC (cx ρ) [some 335, none]) [4, 5]) = L240 ρ call yc lim k x0 x1 H := by
  kernel_rfl
theorem E240 (ρ : Addr → Option Value) (k lim : Nat) (x0 x1 : AV) (H : Heap) : evCall (cx ρ) (k + 1) lim 240 [x0, x1] H = L240 ρ (evCall (cx ρ) k) (evCY (cx ρ) k).2 lim k x0 x1 H := by
  rw [evCall_cells (cx ρ) k lim 240 _ H Tryz.f240 c240 [4, 5] [some 335, none] (by kernel_rfl) (by kernel_rfl) (by kernel_rfl) (by kernel_rfl) (by kernel_rfl) (by kernel_rfl)]
  exact G240 ρ (evCall (cx ρ) k) (evCY (cx ρ) k).2 lim k x0 x1 H
-- (*haycroft/task.Task).missing
noncomputable def c241 : Code := Code.of Tryz.prog 241
noncomputable def L241 (ρ : Addr → Option Value) (call : CallF) (yc : YieldF) (lim k : Nat) (x0 x1 : AV) (H : Heap) : Res :=
  effK H (boxA H 335 x1) fun x3 H =>
  resK (call lim 175 [x0, (.int .i64 1)] H) fun x7 H =>
  purK (gPur (wantV x7 false) (some x0)) fun x9 =>
  resK (gRes (wantV x7 false) H (call lim 175 [x9, (.int .i64 4)] H)) fun x10 H =>
  purK (pickA x7 (.bool true) x10) fun x11 =>
  condK x11
  (
    resK (call lim 243 [x0] H) fun x13 H =>
    purK (extA 0 x13) fun x14 =>
    purK (extA 1 x13) fun x15 =>
    retK [x14, x15] H)
  (
    purK (addA 1 x3) fun x18 =>
    purK (ld1 ρ H x18) fun x19 =>
    purK (addA 3 x3) fun x20 =>
    purK (ld1 ρ H x20) fun x21 =>
    purK (nilChkA x0) fun x22 =>
    purK (addA 9 x22) fun x23 =>
    effK H (stA lim H 1 x23 x19) fun _ H => bif (agn (ld1 ρ H x20) x21 && true) then
      purK (nilChkA x0) fun x24 =>
      purK (addA 11 x24) fun x25 =>
      effK H (stA lim H 1 x25 x21) fun _ H =>
      purK (addA 0 x3) fun x27 =>
      purK (ld1 ρ H x27) fun x28 =>
      purK (binA Tryz.prog H .eql 3 x28 (.int .i64 2)) fun x29 =>
      condK x29
      (
        resK (call lim 177 [x0, (.fn (.func 307) [] [])] H) fun x31 H =>
        purK (extA 0 x31) fun x32 =>
        purK (extA 1 x31) fun x33 =>
        retK [x32, x33] H)
      (
        purK (nilChkA x0) fun x36 =>
        purK (addA 12 x36) fun x37 =>
        purK (ld1 ρ H x37) fun x38 =>
        purK (binA Tryz.prog H .gtr 3 x38 (.int .i64 0)) fun x39 =>
        condK x39
        (
          resK (call lim 177 [x0, (.fn (.func 308) [] [])] H) fun x41 H =>
          purK (extA 0 x41) fun x42 =>
          purK (extA 1 x41) fun x43 =>
          retK [x42, x43] H)
        (
          resK (call lim 177 [x0, (.fn (.func 309) [] [])] H) fun x45 H =>
          purK (extA 0 x45) fun x46 =>
          purK (extA 1 x45) fun x47 =>
          retK [x46, x47] H))
    else none)
theorem G241 (ρ : Addr → Option Value) (call : CallF) (yc : YieldF) (lim k : Nat) (x0 x1 : AV) (H : Heap) :
    evL (cx ρ) call yc false 241 lim k c241 [x0, x1, (.tup []), (.tup []), (.tup []), (.tup []), (.tup []), (.tup []), (.tup []), (.tup []), (.tup []), (.tup []), (.tup []), (.tup []), (.tup []), (.tup []), (.tup []), (.tup []), (.tup []), (.tup []), (.tup []), (.tup []), (.tup []), (.tup []), (.tup []), (.tup []), (.tup []), (.tup []), (.tup []), (.tup []), (.tup []), (.tup []), (.tup []), (.tup []), (.tup []), (.tup []), (.tup []), (.tup []), (.tup []), (.tup []), (.tup []), (.tup []), (.tup []), (.tup []), (.tup []), (.tup []), (.tup []), (.tup [])] H (kk none (fun s H => retK (([4, 5] : List Nat).map fun t => s.getD t (.tup [])) H) [] retK [4, 5]) = L241 ρ call yc lim k x0 x1 H := by
  kernel_rfl
theorem E241 (ρ : Addr → Option Value) (k lim : Nat) (x0 x1 : AV) (H : Heap) : evCall (cx ρ) (k + 1) lim 241 [x0, x1] H = L241 ρ (evCall (cx ρ) k) (evCY (cx ρ) k).2 lim k x0 x1 H := by
  rw [evCall_body (cx ρ) k lim 241 _ H Tryz.f241 c241 [4, 5] (by kernel_rfl) (by kernel_rfl) (by kernel_rfl) (by kernel_rfl) (by kernel_rfl)]
  exact G241 ρ (evCall (cx ρ) k) (evCY (cx ρ) k).2 lim k x0 x1 H
-- haycroft/field.Get
noncomputable def c242 : Code := Code.of Tryz.prog 242
noncomputable def L242 (ρ : Addr → Option Value) (call : CallF) (yc : YieldF) (lim k : Nat) (x0 x1 x2 : AV) (H : Heap) : Res :=
  resK (call lim 310 [x1, x2] H) fun x9 H =>
  purK (unA .not x9) fun x10 =>
  condK x10
  (
    retK [(.int .u64 0)] H)
  (
    purK (binA Tryz.prog H .shr 22 x0 x1) fun x13 =>
    resK (call lim 248 [x2] H) fun x15 H => bif (agn (binA Tryz.prog H .shr 22 x0 x1) x13 && true) then
      purK (binA Tryz.prog H .and 22 x13 x15) fun x16 =>
      retK [x16] H
    else none)
theorem G242 (ρ : Addr → Option Value) (call : CallF) (yc : YieldF) (lim k : Nat) (x0 x1 x2 : AV) (H : Heap) :
    evL (cx ρ) call yc false 242 lim k c242 [x0, x1, x2, (.tup []), (.tup []), (.tup []), (.tup []), (.tup []), (.tup []), (.tup []), (.tup []), (.tup []), (.tup []), (.tup []), (.tup []), (.tup []), (.tup [])] H (kk none (fun s H => retK (([6] : List Nat).map fun t => s.getD t (.tup [])) H) [] retK [6]) = L242 ρ call yc lim k x0 x1 x2 H := by
  kernel_rfl
theorem E242 (ρ : Addr → Option Value) (k lim : Nat) (x0 x1 x2 : AV) (H : Heap) : evCall (cx ρ) (k + 1) lim 242 [x0, x1, x2] H = L242 ρ (evCall (cx ρ) k) (evCY (cx ρ) k).2 lim k x0 x1 x2 H := by
  rw [evCall_body (cx ρ) k lim 242 _ H Tryz.f242 c242 [6] (by kernel_rfl) (by kernel_rfl) (by kernel_rfl) (by kernel_rfl) (by kernel_rfl)]
  exact G242 ρ (evCall (cx ρ) k) (evCY (cx ρ) k).2 lim k x0 x1 x2 H
-- (*haycroft/task.Task).absent
noncomputable def c243 : Code := Code.of Tryz.prog 243
noncomputable def L243 (ρ : Addr → Option Value) (call : CallF) (yc : YieldF) (lim k : Nat) (x0 : AV) (H : Heap) : Res :=
  purK (nilChkA x0) fun x5 =>
  purK (addA 3 x5) fun x6 =>
  purK (addA 0 x6) fun x7 =>
  purK (ld1 ρ H x7) fun x8 =>
  purK (binA Tryz.prog H .eql 3 x8 (.int .i64 1)) fun x10 =>
  condK x10
  (
    resK (call lim 176 [x0, (.int .i64 7), (.str (ByteArray.mk #[]))] H) fun x12 H =>
    purK (extA 0 x12) fun x13 =>
    purK (extA 1 x12) fun x14 =>
    retK [x13, x14] H)
  (
    purK (binA Tryz.prog H .eql 3 x8 (.int .i64 4)) fun x16 =>
    condK x16
    (
      resK (call lim 176 [x0, (.int .i64 0), (.str (ByteArray.mk #[]))] H) fun x18 H =>
      purK (extA 0 x18) fun x19 =>
      purK (extA 1 x18) fun x20 =>
      retK [x19, x20] H)
    (
      purK (nilChkA x0) fun x22 =>
      purK (addA 16 x22) fun x23 =>
      effK H (stA lim H 1 x23 (.str (ByteArray.mk #[]))) fun _ H =>
      resK (call lim 177 [x0, (.fn (.func 178) [] [])] H) fun x25 H =>
      purK (extA 0 x25) fun x26 =>
      purK (extA 1 x25) fun x27 =>
      retK [x26, x27] H))
theorem G243 (ρ : Addr → Option Value) (call : CallF) (yc : YieldF) (lim k : Nat) (x0 : AV) (H : Heap) :
    evL (cx ρ) call yc false 243 lim k c243 [x0, (.tup []), (.tup []), (.tup []), (.tup []), (.tup []), (.tup []), (.tup []), (.tup []), (.tup []), (.tup []), (.tup []), (.tup []), (.tup []), (.tup []), (.tup []), (.tup []), (.tup []), (.tup []), (.tup []), (.tup []), (.tup []), (.tup []), (.tup []), (.tup []), (.tup []), (.tup []), (.tup [])] H (kk none (fun s H => retK (([2, 3] : List Nat).map fun t => s.getD t (.tup [])) H) [] retK [2, 3]) = L243 ρ call yc lim k x0 H := by
  kernel_rfl
theorem E243 (ρ : Addr → Option Value) (k lim : Nat) (x0 : AV) (H : Heap) : evCall (cx ρ) (k + 1) lim 243 [x0] H = L243 ρ (evCall (cx ρ) k) (evCY (cx ρ) k).2 lim k x0 H := by
  rw [evCall_body (cx ρ) k lim 243 _ H Tryz.f243 c243 [2, 3] (by kernel_rfl) (by kernel_rfl) (by kernel_rfl) (by kernel_rfl) (by kernel_rfl)]
  exact G243 ρ (evCall (cx ρ) k) (evCY (cx ρ) k).2 lim k x0 H
-- (*haycroft/cell.Row).may
noncomputable def c246 : Code := Code.of Tryz.prog 246
noncomputable def L246 (ρ : Addr → Option Value) (call : CallF) (yc : YieldF) (lim k : Nat) (x0 x1 : AV) (H : Heap) : Res :=
  purK (binA Tryz.prog H .eql 175 x0 .nilp) fun x7 =>
  condK x7
  (
    retK [(.int .i64 2)] H)
  (
    resK (call lim 160 [x0, x1] H) fun x11 H =>
    purK (unA .not x11) fun x12 =>
    condK x12
    (
      retK [(.int .i64 1)] H)
    (
      retK [(.int .i64 0)] H))
theorem G246 (ρ : Addr → Option Value) (call : CallF) (yc : YieldF) (lim k : Nat) (x0 x1 : AV) (H : Heap) :
    evL (cx ρ) call yc false 246 lim k c246 [x0, x1, (.tup []), (.tup []), (.tup []), (.tup []), (.tup []), (.tup []), (.tup []), (.tup []), (.tup []), (.tup []), (.tup [])] H (kk none (fun s H => retK (([4] : List Nat).map fun t => s.getD t (.tup [])) H) [] retK [4]) = L246 ρ call yc lim k x0 x1 H := by
  kernel_rfl
theorem E246 (ρ : Addr → Option Value) (k lim : Nat) (x0 x1 : AV) (H : Heap) : evCall (cx ρ) (k + 1) lim 246 [x0, x1] H = L246 ρ (evCall (cx ρ) k) (evCY (cx ρ) k).2 lim k x0 x1 H := by
  rw [evCall_body (cx ρ) k lim 246 _ H Tryz.f246 c246 [4] (by kernel_rfl) (by kernel_rfl) (by kernel_rfl) (by kernel_rfl) (by kernel_rfl)]
  exact G246 ρ (evCall (cx ρ) k) (evCY (cx ρ) k).2 lim k x0 x1 H
-- (*sync/atomic.Uint64).Store
noncomputable def c247 : Code := Code.of Tryz.prog 247
noncomputable def L247 (ρ : Addr → Option Value) (call : CallF) (yc : YieldF) (lim k : Nat) (x0 x1 : AV) (H : Heap) : Res :=
  purK (nilChkA x0) fun x5 =>
  purK (addA 0 x5) fun x6 =>
  resK (call lim 314 [x6, x1] H) fun x8 H =>
  retK [] H
theorem G247 (ρ : Addr → Option Value) (call : CallF) (yc : YieldF) (lim k : Nat) (x0 x1 : AV) (H : Heap) :
    evL (cx ρ) call yc false 247 lim k c247 [x0, x1, (.tup []), (.tup []), (.tup []), (.tup []), (.tup []), (.tup []), (.tup [])] H (kk none (fun s H => retK (([] : List Nat).map fun t => s.getD t (.tup [])) H) [] retK []) = L247 ρ call yc lim k x0 x1 H := by
  kernel_rfl
theorem E247 (ρ : Addr → Option Value) (k lim : Nat) (x0 x1 : AV) (H : Heap) : evCall (cx ρ) (k + 1) lim 247 [x0, x1] H = L247 ρ (evCall (cx ρ) k) (evCY (cx ρ) k).2 lim k x0 x1 H := by
  rw [evCall_body (cx ρ) k lim 247 _ H Tryz.f247 c247 [] (by kernel_rfl) (by kernel_rfl) (by kernel_rfl) (by kernel_rfl) (by kernel_rfl)]
  exact G247 ρ (evCall (cx ρ) k) (evCY (cx ρ) k).2 lim k x0 x1 H
-- haycroft/field.Most
noncomputable def c248 : Code := Code.of Tryz.prog 248
noncomputable def L248 (ρ : Addr → Option Value) (call : CallF) (yc : YieldF) (lim k : Nat) (x0 : AV) (H : Heap) : Res :=
  purK (binA Tryz.prog H .lss 3 x0 (.int .i64 1)) fun x5 =>
  condK x5
  (
    retK [(.int .u64 0)] H)
  (
    purK (binA Tryz.prog H .geq 3 x0 (.int .i64 64)) fun x8 =>
    condK x8
    (
      retK [(.int .u64 18446744073709551615)] H)
    (
      purK (binA Tryz.prog H .shl 22 (.int .u64 1) x0) fun x10 =>
      purK (binA Tryz.prog H .sub 22 x10 (.int .u64 1)) fun x11 =>
      retK [x11] H))
theorem G248 (ρ : Addr → Option Value) (call : CallF) (yc : YieldF) (lim k : Nat) (x0 : AV) (H : Heap) :
    evL (cx ρ) call yc false 248 lim k c248 [x0, (.tup []), (.tup []), (.tup []), (.tup []), (.tup []), (.tup []), (.tup []), (.tup []), (.tup []), (.tup []), (.tup [])] H (kk none (fun s H => retK (([2] : List Nat).map fun t => s.getD t (.tup [])) H) [] retK [2]) = L248 ρ call yc lim k x0 H := by
  kernel_rfl
theorem E248 (ρ : Addr → Option Value) (k lim : Nat) (x0 : AV) (H : Heap) : evCall (cx ρ) (k + 1) lim 248 [x0] H = L248 ρ (evCall (cx ρ) k) (evCY (cx ρ) k).2 lim k x0 H := by
  rw [evCall_body (cx ρ) k lim 248 _ H Tryz.f248 c248 [2] (by kernel_rfl) (by kernel_rfl) (by kernel_rfl) (by kernel_rfl) (by kernel_rfl)]
  exact G248 ρ (evCall (cx ρ) k) (evCY (cx ρ) k).2 lim k x0 H
-- haycroft/place.part
noncomputable def c249 : Code := Code.of Tryz.prog 249
noncomputable def L249 (ρ : Addr → Option Value) (call : CallF) (yc : YieldF) (lim k : Nat) (x0 x1 x2 x3 : AV) (H : Heap) : Res :=
  resK (call lim 86 [x0] H) fun x10 H =>
  purK (unA .not x10) fun x11 =>
  purK (gPur (wantV x11 false) (some x1)) fun x13 =>
  purK (gPur (wantV x11 false) (binA Tryz.prog H .gtr 22 x13 (.int .u64 281474976710655))) fun x14 =>
  purK (pickA x11 (.bool true) x14) fun x15 =>
  condK x15
  (
    retK [(.int .i64 0)] H)
  (
    resK (call lim 242 [x1, x2, x3] H) fun x19 H =>
    purK (cvI .i64 x19) fun x20 =>
    retK [x20] H)
theorem G249 (ρ : Addr → Option Value) (call : CallF) (yc : YieldF) (lim k : Nat) (x0 x1 x2 x3 : AV) (H : Heap) :
    evL (cx ρ) call yc false 249 lim k c249 [x0, x1, x2, x3, (.tup []), (.tup []), (.tup []), (.tup []), (.tup []), (.tup []), (.tup []), (.tup []), (.tup []), (.tup []), (.tup []), (.tup []), (.tup []), (.tup []), (.tup []), (.tup []), (.tup [])] H (kk none (fun s H => retK (([8] : List Nat).map fun t => s.getD t (.tup [])) H) [] retK [8]) = L249 ρ call yc lim k x0 x1 x2 x3 H := by
  kernel_rfl
theorem E249 (ρ : Addr → Option Value) (k lim : Nat) (x0 x1 x2 x3 : AV) (H : Heap) : evCall (cx ρ) (k + 1) lim 249 [x0, x1, x2, x3] H = L249 ρ (evCall (cx ρ) k) (evCY (cx ρ) k).2 lim k x0 x1 x2 x3 H := by
  rw [evCall_body (cx ρ) k lim 249 _ H Tryz.f249 c249 [8] (by kernel_rfl) (by kernel_rfl) (by kernel_rfl) (by kernel_rfl) (by kernel_rfl)]
  exact G249 ρ (evCall (cx ρ) k) (evCY (cx ρ) k).2 lim k x0 x1 x2 x3 H
-- haycroft/record.Size
noncomputable def c251 : Code := Code.of Tryz.prog 251
noncomputable def L251 (ρ : Addr → Option Value) (call : CallF) (yc : YieldF) (lim k : Nat) (x0 x1 : AV) (H : Heap) : Res :=
  resK (call lim 316 [x0, x1] H) fun x10 H =>
  purK (extA 0 x10) fun x11 =>
  purK (extA 1 x10) fun x12 =>
  purK (binA Tryz.prog H .neq 30 x12 (.int .i64 0)) fun x14 =>
  condK x14
  (
    retK [(.int .i64 0)] H)
  (
    resK (call lim 317 [x0] H) fun x16 H =>
    purK (binA Tryz.prog H .add 3 (.int .i64 3) x16) fun x17 =>
    resK (call lim 317 [x1] H) fun x19 H =>
    purK (binA Tryz.prog H .add 3 x17 x19) fun x20 =>
    retK [x20] H)
theorem G251 (ρ : Addr → Option Value) (call : CallF) (yc : YieldF) (lim k : Nat) (x0 x1 : AV) (H : Heap) :
    evL (cx ρ) call yc false 251 lim k c251 [x0, x1, (.tup []), (.tup []), (.tup []), (.tup []), (.tup []), (.tup []), (.tup []), (.tup []), (.tup []), (.tup []), (.tup []), (.tup []), (.tup []), (.tup []), (.tup []), (.tup []), (.tup []), (.tup []), (.tup [])] H (kk none (fun s H => retK (([4] : List Nat).map fun t => s.getD t (.tup [])) H) [] retK [4]) = L251 ρ call yc lim k x0 x1 H := by
  kernel_rfl
theorem E251 (ρ : Addr → Option Value) (k lim : Nat) (x0 x1 : AV) (H : Heap) : evCall (cx ρ) (k + 1) lim 251 [x0, x1] H = L251 ρ (evCall (cx ρ) k) (evCY (cx ρ) k).2 lim k x0 x1 H := by
  rw [evCall_body (cx ρ) k lim 251 _ H Tryz.f251 c251 [4] (by kernel_rfl) (by kernel_rfl) (by kernel_rfl) (by kernel_rfl) (by kernel_rfl)]
  exact G251 ρ (evCall (cx ρ) k) (evCY (cx ρ) k).2 lim k x0 x1 H
-- haycroft/record.Right
noncomputable def c255 : Code := Code.of Tryz.prog 255
noncomputable def L255 (ρ : Addr → Option Value) (call : CallF) (yc : YieldF) (lim k : Nat) (x0 : AV) (H : Heap) : Res :=
  effK H (boxA H 267 x0) fun x1 H =>
  purK (addA 0 x1) fun x8 =>
  purK (ldN ρ H 3 x8) fun x9 =>
  resK (call lim 319 [x9] H) fun x10 H =>
  purK (extA 0 x10) fun x11 =>
  purK (extA 1 x10) fun x12 =>
  purK (binA Tryz.prog H .neq 30 x12 (.int .i64 0)) fun x14 =>
  purK (gPur (wantV x14 false) (addA 3 x1)) fun x16 =>
  purK (gPur (wantV x14 false) (ld1 ρ H x16)) fun x17 =>
  purK (gPur (wantV x14 false) (binA Tryz.prog H .eql 9 x17 (.str (ByteArray.mk #[])))) fun x18 =>
  purK (pickA x14 (.bool true) x18) fun x19 =>
  purK (gPur (wantV x19 false) (addA 0 x1)) fun x21 =>
  purK (gPur (wantV x19 false) (addA 1 x21)) fun x22 =>
  purK (gPur (wantV x19 false) (ld1 ρ H x22)) fun x23 =>
  purK (gPur (wantV x19 false) (some x23)) fun x24 =>
  purK (gPur (wantV x24 true) (addA 4 x1)) fun x25 =>
  purK (gPur (wantV x24 true) (ld1 ρ H x25)) fun x26 =>
  purK (gPur (wantV x24 true) (binA Tryz.prog H .neq 9 x26 (.str (ByteArray.mk #[])))) fun x27 =>
  purK (gPur (wantV x19 false) (pickA x24 x27 (.bool false))) fun x28 =>
  purK (pickA x19 (.bool true) x28) fun x29 =>
  condK x29
  (
    retK [(.int .i64 1)] H)
  (
    purK (addA 3 x1) fun x31 =>
    purK (ld1 ρ H x31) fun x32 =>
    purK (lenT x32) fun x33 =>
    purK (addA 4 x1) fun x34 =>
    purK (ld1 ρ H x34) fun x35 =>
    purK (lenT x35) fun x36 =>
    resK (call lim 316 [x33, x36] H) fun x37 H =>
    purK (extA 0 x37) fun x38 =>
    purK (extA 1 x37) fun x39 =>
    retK [x39] H)
theorem G255 (ρ : Addr → Option Value) (call : CallF) (yc : YieldF) (lim k : Nat) (x0 : AV) (H : Heap) :
    evL (cx ρ) call yc false 255 lim k c255 [x0, (.tup []), (.tup []), (.tup []), (.tup []), (.tup []), (.tup []), (.tup []), (.tup []), (.tup []), (.tup []), (.tup []), (.tup []), (.tup []), (.tup []), (.tup []), (.tup []), (.tup []), (.tup []), (.tup []), (.tup []), (.tup []), (.tup []), (.tup []), (.tup []), (.tup []), (.tup []), (.tup []), (.tup []), (.tup []), (.tup []), (.tup []), (.tup []), (.tup []), (.tup []), (.tup []), (.tup []), (.tup []), (.tup []), (.tup []), (.tup [])] H (kk none (fun s H => retK (([2] : List Nat).map fun t => s.getD t (.tup [])) H) [] retK [2]) = L255 ρ call yc lim k x0 H := by
  kernel_rfl
theorem E255 (ρ : Addr → Option Value) (k lim : Nat) (x0 : AV) (H : Heap) : evCall (cx ρ) (k + 1) lim 255 [x0] H = L255 ρ (evCall (cx ρ) k) (evCY (cx ρ) k).2 lim k x0 H := by
  rw [evCall_body (cx ρ) k lim 255 _ H Tryz.f255 c255 [2] (by kernel_rfl) (by kernel_rfl) (by kernel_rfl) (by kernel_rfl) (by kernel_rfl)]
  exact G255 ρ (evCall (cx ρ) k) (evCY (cx ρ) k).2 lim k x0 H
-- (*haycroft/task.Task).record
noncomputable def c256 : Code := Code.of Tryz.prog 256
noncomputable def N256_1 (ρ : Addr → Option Value) (call : CallF) (yc : YieldF) (lim k : Nat) (x2 x3 : AV) (H : Heap) (R : List AV → Heap → Res) : Res :=
  purK (ldN ρ H 5 x3) fun x43_1 =>
  effK H (stA lim H 5 x2 x43_1) fun _ H =>
  R [x2] H
theorem N256_1_eq (ρ : Addr → Option Value) (call : CallF) (yc : YieldF) (lim k : Nat) (x2 x3 : AV) (H : Heap) (R : List AV → Heap → Res) :
    evL (cx ρ) call yc false 256 lim k (Code.at [1, 1, 1] c256) (sp 44 [(2, x2), (3, x3)]) H (kk none (fun s H => R (([2] : List Nat).map fun t => s.getD t (.tup [])) H) [] R [2]) = N256_1 ρ call yc lim k x2 x3 H R := by
  kernel_rfl
noncomputable def L256 (ρ : Addr → Option Value) (call : CallF) (yc : YieldF) (lim k : Nat) (x0 : AV) (H : Heap) : Res :=
  effK H (some (.ptr H.sz 0 0, .new (newCells 267 false [.int .u64 0, .bool false, .bool false, .str ByteArray.empty, .str ByteArray.empty]))) fun x2 H =>
  purK (nilChkA x0) fun x5 =>
  purK (addA 14 x5) fun x6 =>
  purK (ld1 ρ H x6) fun x7 =>
  purK (bldA [.int .u64 0, .bool false, .bool false] [(0, 1, x7)]) fun x8 =>
  purK (nilChkA x0) fun x10 =>
  purK (addA 3 x10) fun x11 =>
  purK (addA 1 x11) fun x12 =>
  purK (ld1 ρ H x12) fun x13 =>
  purK (bldA [.int .u64 0, .bool false, .bool false, .str ByteArray.empty, .str ByteArray.empty] [(0, 3, x8), (3, 1, x13)]) fun x14 =>
  mkK H (some (.ptr H.sz 0 0, .new (newCells 267 false [.int .u64 0, .bool false, .bool false, .str ByteArray.empty, .str ByteArray.empty]))) true fun x3 H => bif (agn (ld1 ρ H x12) x13 && (agn (ld1 ρ H x6) x7 && true)) then
    effK H (stA lim H 5 x3 x14) fun _ H =>
    purK (nilChkA x0) fun x16 =>
    purK (addA 3 x16) fun x17 =>
    purK (addA 0 x17) fun x18 =>
    purK (ld1 ρ H x18) fun x19 =>
    purK (binA Tryz.prog H .eql 3 x19 (.int .i64 2)) fun x23 =>
    condK x23
    (
      purK (nilChkA x0) fun x25 =>
      purK (addA 3 x25) fun x26 =>
      purK (addA 2 x26) fun x27 =>
      purK (ld1 ρ H x27) fun x28 =>
      purK (addA 4 x3) fun x29 =>
      effK H (stA lim H 1 x29 x28) fun _ H =>
      N256_1 ρ call yc lim k x2 x3 H (retC (cx ρ) [some 267]))
    (
      purK (binA Tryz.prog H .eql 3 x19 (.int .i64 3)) fun x31 =>
      condK x31
      (
        purK (nilChkA x0) fun x33 =>
        purK (addA 16 x33) fun x34 =>
        purK (ld1 ρ H x34) fun x35 =>
        purK (nilChkA x0) fun x37 =>
        purK (addA 3 x37) fun x38 =>
        purK (addA 3 x38) fun x39 =>
        purK (ld1 ρ H x39) fun x40 =>
        resK (call lim 320 [x35, x40] H) fun x41 H =>
        purK (addA 4 x3) fun x42 =>
        effK H (stA lim H 1 x42 x41) fun _ H =>
        N256_1 ρ call yc lim k x2 x3 H (retC (cx ρ) [some 267]))
      (
        purK (addA 0 x3) fun x20 =>
        purK (addA 1 x20) fun x21 =>
        effK H (stA lim H 1 x21 (.bool true)) fun _ H =>
        N256_1 ρ call yc lim k x2 x3 H (retC (cx ρ) [some 267])))
  else none
theorem L256_x (ρ : Addr → Option Value) (call : CallF) (yc : YieldF) (lim k : Nat) (J : CodeF) (x0 : AV) (H : Heap) :
    evX (cx ρ) call yc false 256 lim k J c256 [x0, (.tup []), (.tup []), (.tup []), (.tup []), (.tup []), (.tup []), (.tup []), (.tup []), (.tup []), (.tup []), (.tup []), (.tup []), (.tup []), (.tup []), (.tup []), (.tup []), (.tup []), (.tup []), (.tup []), (.tup []), (.tup []), (.tup []), (.tup []), (.tup []), (.tup []), (.tup []), (.tup []), (.tup []), (.tup []), (.tup []), (.tup []), (.tup []), (.tup []), (.tup []), (.tup []), (.tup []), (.tup []), (.tup []), (.tup []), (.tup []), (.tup []), (.tup []), (.tup [])] H (kk none (fun s H => (retC (cx ρ) [some 267]) (([2] : List Nat).map fun t => s.getD t (.tup [])) H) [] (retC (cx ρ) [some 267]) [2]) =
  effK H (some (.ptr H.sz 0 0, .new (newCells 267 false [.int .u64 0, .bool false, .bool false, .str ByteArray.empty, .str ByteArray.empty]))) fun x2 H =>
  purK (nilChkA x0) fun x5 =>
  purK (addA 14 x5) fun x6 =>
  purK (ld1 ρ H x6) fun x7 =>
  purK (bldA [.int .u64 0, .bool false, .bool false] [(0, 1, x7)]) fun x8 =>
  purK (nilChkA x0) fun x10 =>
  purK (addA 3 x10) fun x11 =>
  purK (addA 1 x11) fun x12 =>
  purK (ld1 ρ H x12) fun x13 =>
  purK (bldA [.int .u64 0, .bool false, .bool false, .str ByteArray.empty, .str ByteArray.empty] [(0, 3, x8), (3, 1, x13)]) fun x14 =>
  mkK H (some (.ptr H.sz 0 0, .new (newCells 267 false [.int .u64 0, .bool false, .bool false, .str ByteArray.empty, .str ByteArray.empty]))) true fun x3 H => bif (agn (ld1 ρ H x12) x13 && (agn (ld1 ρ H x6) x7 && true)) then
    effK H (stA lim H 5 x3 x14) fun _ H =>
    purK (nilChkA x0) fun x16 =>
    purK (addA 3 x16) fun x17 =>
    purK (addA 0 x17) fun x18 =>
    purK (ld1 ρ H x18) fun x19 =>
    purK (binA Tryz.prog H .eql 3 x19 (.int .i64 2)) fun x23 =>
    condK x23
    (
      purK (nilChkA x0) fun x25 =>
      purK (addA 3 x25) fun x26 =>
      purK (addA 2 x26) fun x27 =>
      purK (ld1 ρ H x27) fun x28 =>
      purK (addA 4 x3) fun x29 =>
      effK H (stA lim H 1 x29 x28) fun _ H =>
      J (Code.at [1, 1, 1] c256) (sp 44 [(2, x2), (3, x3)]) H (kk none (fun s H => (retC (cx ρ) [some 267]) (([2] : List Nat).map fun t => s.getD t (.tup [])) H) [] (retC (cx ρ) [some 267]) [2]))
    (
      purK (binA Tryz.prog H .eql 3 x19 (.int .i64 3)) fun x31 =>
      condK x31
      (
        purK (nilChkA x0) fun x33 =>
        purK (addA 16 x33) fun x34 =>
        purK (ld1 ρ H x34) fun x35 =>
        purK (nilChkA x0) fun x37 =>
        purK (addA 3 x37) fun x38 =>
        purK (addA 3 x38) fun x39 =>
        purK (ld1 ρ H x39) fun x40 =>
        resK (call lim 320 [x35, x40] H) fun x41 H =>
        purK (addA 4 x3) fun x42 =>
        effK H (stA lim H 1 x42 x41) fun _ H =>
        J (Code.at [1, 1, 1] c256) (sp 44 [(2, x2), (3, x3)]) H (kk none (fun s H => (retC (cx ρ) [some 267]) (([2] : List Nat).map fun t => s.getD t (.tup [])) H) [] (retC (cx ρ) [some 267]) [2]))
      (
        purK (addA 0 x3) fun x20 =>
        purK (addA 1 x20) fun x21 =>
        effK H (stA lim H 1 x21 (.bool true)) fun _ H =>
        J (Code.at [1, 1, 1] c256) (sp 44 [(2, x2), (3, x3)]) H (kk none (fun s H => (retC (cx ρ) [some 267]) (([2] : List Nat).map fun t => s.getD t (.tup [])) H) [] (retC (cx ρ) [some 267]) [2])))
  else none := by
  kernel_rfl
theorem G256 (ρ : Addr → Option Value) (call : CallF) (yc : YieldF) (lim k : Nat) (x0 : AV) (H : Heap) :
    evL (cx ρ) call yc false 256 lim k c256 [x0, (.tup []), (.tup []), (.tup []), (.tup []), (.tup []), (.tup []), (.tup []), (.tup []), (.tup []), (.tup []), (.tup []), (.tup []), (.tup []), (.tup []), (.tup []), (.tup []), (.tup []), (.tup []), (.tup []), (.tup []), (.tup []), (.tup []), (.tup []), (.tup []), (.tup []), (.tup []), (.tup []), (.tup []), (.tup []), (.tup []), (.tup []), (.tup []), (.tup []), (.tup []), (.tup []), (.tup []), (.tup []), (.tup []), (.tup []), (.tup []), (.tup []), (.tup []), (.tup [])] H (kk none (fun s H => (retC (cx ρ) [some 267]) (([2] : List Nat).map fun t => s.getD t (.tup [])) H) [] (retC (cx ρ) [some 267]) [2]) = L256 ρ call yc lim k x0 H := by
  rw [evL_X, L256_x]
  simp only [← evL_X, L256, N256_1_eq]
theorem E256 (ρ : Addr → Option Value) (k lim : Nat) (x0 : AV) (H : Heap) : evCall (cx ρ) (k + 1) lim 256 [x0] H = L256 ρ (evCall (cx ρ) k) (evCY (cx ρ) k).2 lim k x0 H := by
  rw [evCall_cells (cx ρ) k lim 256 _ H Tryz.f256 c256 [2] [some 267] (by kernel_rfl) (by kernel_rfl) (by kernel_rfl) (by kernel_rfl) (by kernel_rfl) (by kernel_rfl)]
  exact G256 ρ (evCall (cx ρ) k) (evCY (cx ρ) k).2 lim k x0 H
-- (*haycroft/hlog.Log).Take
noncomputable def c257 : Code := Code.of Tryz.prog 257
noncomputable def L257 (ρ : Addr → Option Value) (call : CallF) (yc : YieldF) (lim k : Nat) (x0 x1 : AV) (H : Heap) : Res :=
  purK (binA Tryz.prog H .eql 71 x0 .nilp) fun x8 =>
  condK x8
  (
    retK [(.int .u64 0), (.int .i64 0), (.int .i64 2)] H)
  (
    purK (nilChkA x0) fun x10 =>
    purK (addA 0 x10) fun x11 =>
    purK (ld1 ρ H x11) fun x12 =>
    resK (call lim 321 [x12, x1] H) fun x14 H =>
    purK (extA 0 x14) fun x15 =>
    purK (extA 1 x14) fun x16 =>
    purK (extA 2 x14) fun x17 =>
    retK [x15, x16, x17] H)
theorem G257 (ρ : Addr → Option Value) (call : CallF) (yc : YieldF) (lim k : Nat) (x0 x1 : AV) (H : Heap) :
    evL (cx ρ) call yc false 257 lim k c257 [x0, x1, (.tup []), (.tup []), (.tup []), (.tup []), (.tup []), (.tup []), (.tup []), (.tup []), (.tup []), (.tup []), (.tup []), (.tup []), (.tup []), (.tup []), (.tup []), (.tup [])] H (kk none (fun s H => retK (([4, 5, 6] : List Nat).map fun t => s.getD t (.tup [])) H) [] retK [4, 5, 6]) = L257 ρ call yc lim k x0 x1 H := by
  kernel_rfl
theorem E257 (ρ : Addr → Option Value) (k lim : Nat) (x0 x1 : AV) (H : Heap) : evCall (cx ρ) (k + 1) lim 257 [x0, x1] H = L257 ρ (evCall (cx ρ) k) (evCY (cx ρ) k).2 lim k x0 x1 H := by
  rw [evCall_body (cx ρ) k lim 257 _ H Tryz.f257 c257 [4, 5, 6] (by kernel_rfl) (by kernel_rfl) (by kernel_rfl) (by kernel_rfl) (by kernel_rfl)]
  exact G257 ρ (evCall (cx ρ) k) (evCY (cx ρ) k).2 lim k x0 x1 H
-- (*haycroft/task.Task).fill
noncomputable def c258 : Code := Code.of Tryz.prog 258
noncomputable def L258 (ρ : Addr → Option Value) (call : CallF) (yc : YieldF) (lim k : Nat) (x0 : AV) (H : Heap) : Res :=
  resK (call lim 256 [x0] H) fun x9 H =>
  resK (call lim 322 [x9] H) fun x10 H =>
  purK (extA 0 x10) fun x11 =>
  purK (extA 1 x10) fun x12 =>
  purK (binA Tryz.prog H .neq 30 x12 (.int .i64 0)) fun x14 =>
  condK x14
  (
    resK (call lim 100 [x12] H) fun x16 H =>
    purK (extA 0 x16) fun x17 =>
    purK (extA 1 x16) fun x18 =>
    retK [x17, x18] H)
  (
    purK (nilChkA x0) fun x20 =>
    purK (addA 0 x20) fun x21 =>
    purK (ld1 ρ H x21) fun x22 =>
    purK (nilChkA x0) fun x25 =>
    purK (addA 15 x25) fun x26 =>
    purK (ld1 ρ H x26) fun x27 =>
    resK (call lim 169 [x22] H) fun x23 H => bif (agn (ld1 ρ H x26) x27 && true) then
      resK (call lim 323 [x23, x27, x11] H) fun x29 H =>
      purK (binA Tryz.prog H .neq 30 x29 (.int .i64 0)) fun x31 =>
      condK x31
      (
        resK (call lim 100 [x29] H) fun x33 H =>
        purK (extA 0 x33) fun x34 =>
        purK (extA 1 x33) fun x35 =>
        retK [x34, x35] H)
      (
        resK (call lim 177 [x0, (.fn (.func 324) [] [])] H) fun x37 H =>
        purK (extA 0 x37) fun x38 =>
        purK (extA 1 x37) fun x39 =>
        retK [x38, x39] H)
    else none)
theorem G258 (ρ : Addr → Option Value) (call : CallF) (yc : YieldF) (lim k : Nat) (x0 : AV) (H : Heap) :
    evL (cx ρ) call yc false 258 lim k c258 [x0, (.tup []), (.tup []), (.tup []), (.tup []), (.tup []), (.tup []), (.tup []), (.tup []), (.tup []), (.tup []), (.tup []), (.tup []), (.tup []), (.tup []), (.tup []), (.tup []), (.tup []), (.tup []), (.tup []), (.tup []), (.tup []), (.tup []), (.tup []), (.tup []), (.tup []), (.tup []), (.tup []), (.tup []), (.tup []), (.tup []), (.tup []), (.tup []), (.tup []), (.tup []), (.tup []), (.tup []), (.tup []), (.tup []), (.tup [])] H (kk none (fun s H => retK (([2, 3] : List Nat).map fun t => s.getD t (.tup [])) H) [] retK [2, 3]) = L258 ρ call yc lim k x0 H := by
  kernel_rfl
theorem E258 (ρ : Addr → Option Value) (k lim : Nat) (x0 : AV) (H : Heap) : evCall (cx ρ) (k + 1) lim 258 [x0] H = L258 ρ (evCall (cx ρ) k) (evCY (cx ρ) k).2 lim k x0 H := by
  rw [evCall_body (cx ρ) k lim 258 _ H Tryz.f258 c258 [2, 3] (by kernel_rfl) (by kernel_rfl) (by kernel_rfl) (by kernel_rfl) (by kernel_rfl)]
  exact G258 ρ (evCall (cx ρ) k) (evCY (cx ρ) k).2 lim k x0 H
-- (*sync/atomic.Uint64).Add
noncomputable def c262 : Code := Code.of Tryz.prog 262
noncomputable def L262 (ρ : Addr → Option Value) (call : CallF) (yc : YieldF) (lim k : Nat) (x0 x1 : AV) (H : Heap) : Res :=
  purK (nilChkA x0) fun x6 =>
  purK (addA 0 x6) fun x7 =>
  resK (call lim 327 [x7, x1] H) fun x9 H =>
  retK [x9] H
theorem G262 (ρ : Addr → Option Value) (call : CallF) (yc : YieldF) (lim k : Nat) (x0 x1 : AV) (H : Heap) :
    evL (cx ρ) call yc false 262 lim k c262 [x0, x1, (.tup []), (.tup []), (.tup []), (.tup []), (.tup []), (.tup []), (.tup []), (.tup [])] H (kk none (fun s H => retK (([4] : List Nat).map fun t => s.getD t (.tup [])) H) [] retK [4]) = L262 ρ call yc lim k x0 x1 H := by
  kernel_rfl
theorem E262 (ρ : Addr → Option Value) (k lim : Nat) (x0 x1 : AV) (H : Heap) : evCall (cx ρ) (k + 1) lim 262 [x0, x1] H = L262 ρ (evCall (cx ρ) k) (evCY (cx ρ) k).2 lim k x0 x1 H := by
  rw [evCall_body (cx ρ) k lim 262 _ H Tryz.f262 c262 [4] (by kernel_rfl) (by kernel_rfl) (by kernel_rfl) (by kernel_rfl) (by kernel_rfl)]
  exact G262 ρ (evCall (cx ρ) k) (evCY (cx ρ) k).2 lim k x0 x1 H
-- slices.IndexFunc[[]int,int]
noncomputable def c267 : Code := Code.of Tryz.prog 267
noncomputable def N267_1 (ρ : Addr → Option Value) (call : CallF) (yc : YieldF) (lim k : Nat) (H : Heap) (R : List AV → Heap → Res) : Res :=
  R [(.int .i64 (-1))] H
theorem N267_1_eq (ρ : Addr → Option Value) (call : CallF) (yc : YieldF) (lim k : Nat) (H : Heap) (R : List AV → Heap → Res) :
    evL (cx ρ) call yc false 267 lim k (Code.at [1, 1] c267) (sp 19 []) H (kk none (fun s H => R (([4] : List Nat).map fun t => s.getD t (.tup [])) H) [] R [4]) = N267_1 ρ call yc lim k H R := by
  kernel_rfl
noncomputable def N267_3b (ρ : Addr → Option Value) (call : CallF) (yc : YieldF) (lim k : Nat) (x0 x1 x7 x8 : AV) (H : Heap) (kn : AV → AV → AV → AV → Heap → Res) (k0 : Heap → Res) (R : List AV → Heap → Res) : Res :=
  purK (binA Tryz.prog H .lss 3 x8 x7) fun x9_1 =>
  condK x9_1
  (
    purK (ixS 1 x0 x8) fun x14_1 =>
    purK (ld1 ρ H x14_1) fun x15_1 =>
    valK call yc lim x1 [x15_1] H fun x16_1 H =>
    condK x16_1
    (
      R [x8] H)
    (
      purK (binA Tryz.prog H .add 3 x8 (.int .i64 1)) fun x18_1 =>
      kn x0 x1 x7 x18_1 H))
  (
    k0 H)
theorem N267_3b_eq (ρ : Addr → Option Value) (call : CallF) (yc : YieldF) (lim k : Nat) (x0 x1 x7 x8 : AV) (H : Heap) (kn : KS) (k0 : KS) (R : List AV → Heap → Res) :
    evL (cx ρ) call yc false 267 lim k (Code.at [1, 0, 1, 0, 0] c267) (sp 19 [(0, x0), (1, x1), (7, x7), (8, x8)]) H (kk (some [0, 1, 7, 8]) kn [(0, (some []), k0)] R [4]) = N267_3b ρ call yc lim k x0 x1 x7 x8 H (fun x0 x1 x7 x8 H => kn (sp 19 [(0, x0), (1, x1), (7, x7), (8, x8)]) H) (fun H => k0 (sp 19 []) H) R := by
  kernel_rfl
noncomputable def N267_3 (ρ : Addr → Option Value) (call : CallF) (yc : YieldF) (lim k : Nat) (x0 x1 x7 x8 : AV) (H : Heap) (k0 : Heap → Res) (R : List AV → Heap → Res) : Res :=
  loopL (fun (x : AV) H kn => N267_3b ρ call yc lim k x0 x1 x7 x H (fun _ _ _ x8 H => kn x8 H) k0 R) k x8 H
theorem N267_3_eq (ρ : Addr → Option Value) (call : CallF) (yc : YieldF) (lim k : Nat) (x0 x1 x7 x8 : AV) (H : Heap) (kn : KS) (k0 : KS) (R : List AV → Heap → Res) :
    evL (cx ρ) call yc false 267 lim k (Code.at [1, 0, 1, 0] c267) (sp 19 [(0, x0), (1, x1), (7, x7), (8, x8)]) H (kk (some []) kn [(0, (some []), k0)] R [4]) = N267_3 ρ call yc lim k x0 x1 x7 x8 H (fun H => k0 (sp 19 []) H) R := by
  have e : Code.at [1, 0, 1, 0] c267 = .loop (Code.at [1, 0, 1, 0, 0] c267) := by kernel_rfl
  rw [e]
  unfold N267_3
  exact loop_node [0, 1, 7, 8] (fun x : AV => (sp 19 [(0, x0), (1, x1), (7, x7), (8, (x))])) (fun (x : AV) H kn => N267_3b ρ call yc lim k x0 x1 x7 x H (fun _ _ _ x8 H => kn x8 H) (fun H => k0 (sp 19 []) H) R) (by kernel_rfl) (fun x => by kernel_rfl) (fun x H kn => N267_3b_eq ρ call yc lim k x0 x1 x7 (x) H kn k0 R) x8 (sp 19 [(0, x0), (1, x1), (7, x7), (8, x8)]) H (by kernel_rfl)
noncomputable def N267_2 (ρ : Addr → Option Value) (call : CallF) (yc : YieldF) (lim k : Nat) (x0 x1 x7 x8 : AV) (H : Heap) (kn : Heap → Res) (R : List AV → Heap → Res) : Res :=
  N267_3 ρ call yc lim k x0 x1 x7 x8 H kn R
theorem N267_2_x (ρ : Addr → Option Value) (call : CallF) (yc : YieldF) (lim k : Nat) (J : CodeF) (x0 x1 x7 x8 : AV) (H : Heap) (kn : KS) (R : List AV → Heap → Res) :
    evX (cx ρ) call yc false 267 lim k J (Code.at [1, 0, 1] c267) (sp 19 [(0, x0), (1, x1), (7, x7), (8, x8)]) H (kk (some []) kn [] R [4]) =
  J (Code.at [1, 0, 1, 0] c267) (sp 19 [(0, x0), (1, x1), (7, x7), (8, x8)]) H (kk (some []) kn [(0, (some []), kn)] R [4]) := by
  kernel_rfl
theorem N267_2_eq (ρ : Addr → Option Value) (call : CallF) (yc : YieldF) (lim k : Nat) (x0 x1 x7 x8 : AV) (H : Heap) (kn : KS) (R : List AV → Heap → Res) :
    evL (cx ρ) call yc false 267 lim k (Code.at [1, 0, 1] c267) (sp 19 [(0, x0), (1, x1), (7, x7), (8, x8)]) H (kk (some []) kn [] R [4]) = N267_2 ρ call yc lim k x0 x1 x7 x8 H (fun H => kn (sp 19 []) H) R := by
  rw [evL_X, N267_2_x]
  simp only [← evL_X, N267_2, N267_3_eq]
noncomputable def L267 (ρ : Addr → Option Value) (call : CallF) (yc : YieldF) (lim k : Nat) (x0 x1 : AV) (H : Heap) : Res :=
  purK (lenS x0) fun x7 =>
  N267_2 ρ call yc lim k x0 x1 x7 (.int .i64 0) H (fun H =>
    N267_1 ρ call yc lim k H retK) retK
theorem L267_x (ρ : Addr → Option Value) (call : CallF) (yc : YieldF) (lim k : Nat) (J : CodeF) (x0 x1 : AV) (H : Heap) :
    evX (cx ρ) call yc false 267 lim k J c267 [x0, x1, (.tup []), (.tup []), (.tup []), (.tup []), (.tup []), (.tup []), (.tup []), (.tup []), (.tup []), (.tup []), (.tup []), (.tup []), (.tup []), (.tup []), (.tup []), (.tup []), (.tup [])] H (kk none (fun s H => retK (([4] : List Nat).map fun t => s.getD t (.tup [])) H) [] retK [4]) =
  purK (lenS x0) fun x7 =>
  J (Code.at [1, 0, 1] c267) (sp 19 [(0, x0), (1, x1), (7, x7), (8, (.int .i64 0))]) H (kk (some []) (fun s H => J (Code.at [1, 1] c267) s H (kk none (fun s H => retK (([4] : List Nat).map fun t => s.getD t (.tup [])) H) [] retK [4])) [] retK [4]) := by
  kernel_rfl
theorem G267 (ρ : Addr → Option Value) (call : CallF) (yc : YieldF) (lim k : Nat) (x0 x1 : AV) (H : Heap) :
    evL (cx ρ) call yc false 267 lim k c267 [x0, x1, (.tup []), (.tup []), (.tup []), (.tup []), (.tup []), (.tup []), (.tup []), (.tup []), (.tup []), (.tup []), (.tup []), (.tup []), (.tup []), (.tup []), (.tup []), (.tup []), (.tup [])] H (kk none (fun s H => retK (([4] : List Nat).map fun t => s.getD t (.tup [])) H) [] retK [4]) = L267 ρ call yc lim k x0 x1 H := by
  rw [evL_X, L267_x]
  simp only [← evL_X, L267, N267_1_eq, N267_2_eq]
theorem E267 (ρ : Addr → Option Value) (k lim : Nat) (x0 x1 : AV) (H : Heap) : evCall (cx ρ) (k + 1) lim 267 [x0, x1] H = L267 ρ (evCall (cx ρ) k) (evCY (cx ρ) k).2 lim k x0 x1 H := by
  rw [evCall_body (cx ρ) k lim 267 _ H Tryz.f267 c267 [4] (by kernel_rfl) (by kernel_rfl) (by kernel_rfl) (by kernel_rfl) (by kernel_rfl)]
  exact G267 ρ (evCall (cx ρ) k) (evCY (cx ρ) k).2 lim k x0 x1 H
-- haycroft/index.slots
noncomputable def c271 : Code := Code.of Tryz.prog 271
noncomputable def N271_1 (ρ : Addr → Option Value) (call : CallF) (yc : YieldF) (lim k : Nat) (x3 : AV) (H : Heap) (R : List AV → Heap → Res) : Res :=
  R [x3] H
theorem N271_1_eq (ρ : Addr → Option Value) (call : CallF) (yc : YieldF) (lim k : Nat) (x3 : AV) (H : Heap) (R : List AV → Heap → Res) :
    evL (cx ρ) call yc false 271 lim k (Code.at [1, 1, 1] c271) (sp 26 [(3, x3)]) H (kk none (fun s H => R (([2] : List Nat).map fun t => s.getD t (.tup [])) H) [] R [2]) = N271_1 ρ call yc lim k x3 H R := by
  kernel_rfl
noncomputable def N271_4 (ρ : Addr → Option Value) (call : CallF) (yc : YieldF) (lim k : Nat) (x3 x7 x8 x9 : AV) (H : Heap) (kn : AV → AV → AV → AV → Heap → Res) : Res :=
  purK (binA Tryz.prog H .add 3 x9 (.int .i64 1)) fun x24_1 =>
  kn x3 x7 x8 x24_1 H
theorem N271_4_eq (ρ : Addr → Option Value) (call : CallF) (yc : YieldF) (lim k : Nat) (x3 x7 x8 x9 : AV) (H : Heap) (kn : KS) (k0 : KS) (R : List AV → Heap → Res) :
    evL (cx ρ) call yc false 271 lim k (Code.at [1, 1, 0, 1, 0, 0, 1, 1, 1] c271) (sp 26 [(3, x3), (7, x7), (8, x8), (9, x9)]) H (kk (some [3, 7, 8, 9]) kn [(0, (some [3]), k0)] R [2]) = N271_4 ρ call yc lim k x3 x7 x8 x9 H (fun x3 x7 x8 x9 H => kn (sp 26 [(3, x3), (7, x7), (8, x8), (9, x9)]) H) := by
  kernel_rfl
noncomputable def N271_6b (ρ : Addr → Option Value) (call : CallF) (yc : YieldF) (lim k : Nat) (x3 x5 x7 x8 x9 x13 : AV) (H : Heap) (kn : AV → AV → AV → AV → AV → AV → Heap → Res) (k2 : AV → AV → AV → AV → Heap → Res) : Res :=
  purK (binA Tryz.prog H .lss 3 x13 (.int .i64 7)) fun x14_1 =>
  condK x14_1
  (
    purK (binA Tryz.prog H .mul 3 x5 (.int .i64 8)) fun x18_1 =>
    purK (binA Tryz.prog H .add 3 x18_1 x13) fun x20_1 =>
    effK H (bldS H 3 1 [.int .i64 0] 1 [(0, 1, x20_1)]) fun x21_1 H =>
    effK H (apA ρ lim H 3 1 8 x3 x21_1) fun x22_1 H =>
    purK (binA Tryz.prog H .add 3 x13 (.int .i64 1)) fun x23_1 =>
    kn x22_1 x5 x7 x8 x9 x23_1 H)
  (
    k2 x3 x7 x8 x9 H)
theorem N271_6b_eq (ρ : Addr → Option Value) (call : CallF) (yc : YieldF) (lim k : Nat) (x3 x5 x7 x8 x9 x13 : AV) (H : Heap) (kn : KS) (k2 : KS) (k1 : KS) (k0 : KS) (R : List AV → Heap → Res) :
    evL (cx ρ) call yc false 271 lim k (Code.at [1, 1, 0, 1, 0, 0, 1, 1, 0, 0, 1, 1, 0, 0] c271) (sp 26 [(3, x3), (5, x5), (7, x7), (8, x8), (9, x9), (13, x13)]) H (kk (some [3, 5, 7, 8, 9, 13]) kn [(2, (some [3, 7, 8, 9]), k2), (1, (some [3, 7, 8, 9]), k1), (0, (some [3]), k0)] R [2]) = N271_6b ρ call yc lim k x3 x5 x7 x8 x9 x13 H (fun x3 x5 x7 x8 x9 x13 H => kn (sp 26 [(3, x3), (5, x5), (7, x7), (8, x8), (9, x9), (13, x13)]) H) (fun x3 x7 x8 x9 H => k2 (sp 26 [(3, x3), (7, x7), (8, x8), (9, x9)]) H) := by
  kernel_rfl
noncomputable def N271_6 (ρ : Addr → Option Value) (call : CallF) (yc : YieldF) (lim k : Nat) (x3 x5 x7 x8 x9 x13 : AV) (H : Heap) (k2 : AV → AV → AV → AV → Heap → Res) : Res :=
  loopL (fun (x : AV × AV) H kn => N271_6b ρ call yc lim k x.1 x5 x7 x8 x9 x.2 H (fun x3 _ _ _ _ x13 H => kn (x3, x13) H) k2) k (x3, x13) H
theorem N271_6_eq (ρ : Addr → Option Value) (call : CallF) (yc : YieldF) (lim k : Nat) (x3 x5 x7 x8 x9 x13 : AV) (H : Heap) (kn : KS) (k2 : KS) (k1 : KS) (k0 : KS) (R : List AV → Heap → Res) :
    evL (cx ρ) call yc false 271 lim k (Code.at [1, 1, 0, 1, 0, 0, 1, 1, 0, 0, 1, 1, 0] c271) (sp 26 [(3, x3), (5, x5), (7, x7), (8, x8), (9, x9), (13, x13)]) H (kk (some [3, 7, 8, 9]) kn [(2, (some [3, 7, 8, 9]), k2), (1, (some [3, 7, 8, 9]), k1), (0, (some [3]), k0)] R [2]) = N271_6 ρ call yc lim k x3 x5 x7 x8 x9 x13 H (fun x3 x7 x8 x9 H => k2 (sp 26 [(3, x3), (7, x7), (8, x8), (9, x9)]) H) := by
  have e : Code.at [1, 1, 0, 1, 0, 0, 1, 1, 0, 0, 1, 1, 0] c271 = .loop (Code.at [1, 1, 0, 1, 0, 0, 1, 1, 0, 0, 1, 1, 0, 0] c271) := by kernel_rfl
  rw [e]
  unfold N271_6
  exact loop_node [3, 5, 7, 8, 9, 13] (fun x : AV × AV => (sp 26 [(3, (x.1)), (5, x5), (7, x7), (8, x8), (9, x9), (13, (x.2))])) (fun (x : AV × AV) H kn => N271_6b ρ call yc lim k x.1 x5 x7 x8 x9 x.2 H (fun x3 _ _ _ _ x13 H => kn (x3, x13) H) (fun x3 x7 x8 x9 H => k2 (sp 26 [(3, x3), (7, x7), (8, x8), (9, x9)]) H)) (by kernel_rfl) (fun x => by kernel_rfl) (fun x H kn => N271_6b_eq ρ call yc lim k (x.1) x5 x7 x8 x9 (x.2) H kn k2 k1 k0 R) (x3, x13) (sp 26 [(3, x3), (5, x5), (7, x7), (8, x8), (9, x9), (13, x13)]) H (by kernel_rfl)
noncomputable def N271_5 (ρ : Addr → Option Value) (call : CallF) (yc : YieldF) (lim k : Nat) (x3 x5 x7 x8 x9 x13 : AV) (H : Heap) (kn : AV → AV → AV → AV → Heap → Res) : Res :=
  N271_6 ρ call yc lim k x3 x5 x7 x8 x9 x13 H kn
theorem N271_5_x (ρ : Addr → Option Value) (call : CallF) (yc : YieldF) (lim k : Nat) (J : CodeF) (x3 x5 x7 x8 x9 x13 : AV) (H : Heap) (kn : KS) (k1 : KS) (k0 : KS) (R : List AV → Heap → Res) :
    evX (cx ρ) call yc false 271 lim k J (Code.at [1, 1, 0, 1, 0, 0, 1, 1, 0, 0, 1, 1] c271) (sp 26 [(3, x3), (5, x5), (7, x7), (8, x8), (9, x9), (13, x13)]) H (kk (some [3, 7, 8, 9]) kn [(1, (some [3, 7, 8, 9]), k1), (0, (some [3]), k0)] R [2]) =
  J (Code.at [1, 1, 0, 1, 0, 0, 1, 1, 0, 0, 1, 1, 0] c271) (sp 26 [(3, x3), (5, x5), (7, x7), (8, x8), (9, x9), (13, x13)]) H (kk (some [3, 7, 8, 9]) kn [(2, (some [3, 7, 8, 9]), kn), (1, (some [3, 7, 8, 9]), k1), (0, (some [3]), k0)] R [2]) := by
  kernel_rfl
theorem N271_5_eq (ρ : Addr → Option Value) (call : CallF) (yc : YieldF) (lim k : Nat) (x3 x5 x7 x8 x9 x13 : AV) (H : Heap) (kn : KS) (k1 : KS) (k0 : KS) (R : List AV → Heap → Res) :
    evL (cx ρ) call yc false 271 lim k (Code.at [1, 1, 0, 1, 0, 0, 1, 1, 0, 0, 1, 1] c271) (sp 26 [(3, x3), (5, x5), (7, x7), (8, x8), (9, x9), (13, x13)]) H (kk (some [3, 7, 8, 9]) kn [(1, (some [3, 7, 8, 9]), k1), (0, (some [3]), k0)] R [2]) = N271_5 ρ call yc lim k x3 x5 x7 x8 x9 x13 H (fun x3 x7 x8 x9 H => kn (sp 26 [(3, x3), (7, x7), (8, x8), (9, x9)]) H) := by
  rw [evL_X, N271_5_x]
  simp only [← evL_X, N271_5, N271_6_eq]
noncomputable def N271_3b (ρ : Addr → Option Value) (call : CallF) (yc : YieldF) (lim k : Nat) (x3 x7 x8 x9 : AV) (H : Heap) (kn : AV → AV → AV → AV → Heap → Res) (k0 : AV → Heap → Res) : Res :=
  purK (binA Tryz.prog H .lss 3 x9 x8) fun x10_1 =>
  condK x10_1
  (
    purK (ixS 1 x7 x9) fun x11_1 =>
    purK (ld1 ρ H x11_1) fun x12_1 =>
    N271_5 ρ call yc lim k x3 x12_1 x7 x8 x9 (.int .i64 0) H (fun x3_1 x7_1 x8_1 x9_1 H =>
      N271_4 ρ call yc lim k x3_1 x7_1 x8_1 x9_1 H kn))
  (
    k0 x3 H)
theorem N271_3b_x (ρ : Addr → Option Value) (call : CallF) (yc : YieldF) (lim k : Nat) (J : CodeF) (x3 x7 x8 x9 : AV) (H : Heap) (kn : KS) (k0 : KS) (R : List AV → Heap → Res) :
    evX (cx ρ) call yc false 271 lim k J (Code.at [1, 1, 0, 1, 0, 0] c271) (sp 26 [(3, x3), (7, x7), (8, x8), (9, x9)]) H (kk (some [3, 7, 8, 9]) kn [(0, (some [3]), k0)] R [2]) =
  purK (binA Tryz.prog H .lss 3 x9 x8) fun x10_1 =>
  condK x10_1
  (
    purK (ixS 1 x7 x9) fun x11_1 =>
    purK (ld1 ρ H x11_1) fun x12_1 =>
    J (Code.at [1, 1, 0, 1, 0, 0, 1, 1, 0, 0, 1, 1] c271) (sp 26 [(3, x3), (5, x12_1), (7, x7), (8, x8), (9, x9), (13, (.int .i64 0))]) H (kk (some [3, 7, 8, 9]) (fun s H => J (Code.at [1, 1, 0, 1, 0, 0, 1, 1, 1] c271) s H (kk (some [3, 7, 8, 9]) kn [(0, (some [3]), k0)] R [2])) [(1, (some [3, 7, 8, 9]), (fun s H => J (Code.at [1, 1, 0, 1, 0, 0, 1, 1, 1] c271) s H (kk (some [3, 7, 8, 9]) kn [(0, (some [3]), k0)] R [2]))), (0, (some [3]), k0)] R [2]))
  (
    k0 (sp 26 [(3, x3)]) H) := by
  kernel_rfl
theorem N271_3b_eq (ρ : Addr → Option Value) (call : CallF) (yc : YieldF) (lim k : Nat) (x3 x7 x8 x9 : AV) (H : Heap) (kn : KS) (k0 : KS) (R : List AV → Heap → Res) :
    evL (cx ρ) call yc false 271 lim k (Code.at [1, 1, 0, 1, 0, 0] c271) (sp 26 [(3, x3), (7, x7), (8, x8), (9, x9)]) H (kk (some [3, 7, 8, 9]) kn [(0, (some [3]), k0)] R [2]) = N271_3b ρ call yc lim k x3 x7 x8 x9 H (fun x3 x7 x8 x9 H => kn (sp 26 [(3, x3), (7, x7), (8, x8), (9, x9)]) H) (fun x3 H => k0 (sp 26 [(3, x3)]) H) := by
  rw [evL_X, N271_3b_x]
  simp only [← evL_X, N271_3b, N271_4_eq, N271_5_eq]
noncomputable def N271_3 (ρ : Addr → Option Value) (call : CallF) (yc : YieldF) (lim k : Nat) (x3 x7 x8 x9 : AV) (H : Heap) (k0 : AV → Heap → Res) : Res :=
  loopL (fun (x : AV × AV) H kn => N271_3b ρ call yc lim k x.1 x7 x8 x.2 H (fun x3 _ _ x9 H => kn (x3, x9) H) k0) k (x3, x9) H
theorem N271_3_eq (ρ : Addr → Option Value) (call : CallF) (yc : YieldF) (lim k : Nat) (x3 x7 x8 x9 : AV) (H : Heap) (kn : KS) (k0 : KS) (R : List AV → Heap → Res) :
    evL (cx ρ) call yc false 271 lim k (Code.at [1, 1, 0, 1, 0] c271) (sp 26 [(3, x3), (7, x7), (8, x8), (9, x9)]) H (kk (some [3]) kn [(0, (some [3]), k0)] R [2]) = N271_3 ρ call yc lim k x3 x7 x8 x9 H (fun x3 H => k0 (sp 26 [(3, x3)]) H) := by
  have e : Code.at [1, 1, 0, 1, 0] c271 = .loop (Code.at [1, 1, 0, 1, 0, 0] c271) := by kernel_rfl
  rw [e]
  unfold N271_3
  exact loop_node [3, 7, 8, 9] (fun x : AV × AV => (sp 26 [(3, (x.1)), (7, x7), (8, x8), (9, (x.2))])) (fun (x : AV × AV) H kn => N271_3b ρ call yc lim k x.1 x7 x8 x.2 H (fun x3 _ _ x9 H => kn (x3, x9) H) (fun x3 H => k0 (sp 26 [(3, x3)]) H)) (by kernel_rfl) (fun x => by kernel_rfl) (fun x H kn => N271_3b_eq ρ call yc lim k (x.1) x7 x8 (x.2) H kn k0 R) (x3, x9) (sp 26 [(3, x3), (7, x7), (8, x8), (9, x9)]) H (by kernel_rfl)
noncomputable def N271_2 (ρ : Addr → Option Value) (call : CallF) (yc : YieldF) (lim k : Nat) (x3 x7 x8 x9 : AV) (H : Heap) (kn : AV → Heap → Res) : Res :=
  N271_3 ρ call yc lim k x3 x7 x8 x9 H kn
theorem N271_2_x (ρ : Addr → Option Value) (call : CallF) (yc : YieldF) (lim k : Nat) (J : CodeF) (x3 x7 x8 x9 : AV) (H : Heap) (kn : KS) (R : List AV → Heap → Res) :
    evX (cx ρ) call yc false 271 lim k J (Code.at [1, 1, 0, 1] c271) (sp 26 [(3, x3), (7, x7), (8, x8), (9, x9)]) H (kk (some [3]) kn [] R [2]) =
  J (Code.at [1, 1, 0, 1, 0] c271) (sp 26 [(3, x3), (7, x7), (8, x8), (9, x9)]) H (kk (some [3]) kn [(0, (some [3]), kn)] R [2]) := by
  kernel_rfl
theorem N271_2_eq (ρ : Addr → Option Value) (call : CallF) (yc : YieldF) (lim k : Nat) (x3 x7 x8 x9 : AV) (H : Heap) (kn : KS) (R : List AV → Heap → Res) :
    evL (cx ρ) call yc false 271 lim k (Code.at [1, 1, 0, 1] c271) (sp 26 [(3, x3), (7, x7), (8, x8), (9, x9)]) H (kk (some [3]) kn [] R [2]) = N271_2 ρ call yc lim k x3 x7 x8 x9 H (fun x3 H => kn (sp 26 [(3, x3)]) H) := by
  rw [evL_X, N271_2_x]
  simp only [← evL_X, N271_2, N271_3_eq]
noncomputable def L271 (ρ : Addr → Option Value) (call : CallF) (yc : YieldF) (lim k : Nat) (x0 : AV) (H : Heap) : Res :=
  purK (lenS x0) fun x8 =>
  N271_2 ρ call yc lim k .nils x0 x8 (.int .i64 0) H (fun x3 H =>
    N271_1 ρ call yc lim k x3 H retK)
theorem L271_x (ρ : Addr → Option Value) (call : CallF) (yc : YieldF) (lim k : Nat) (J : CodeF) (x0 : AV) (H : Heap) :
    evX (cx ρ) call yc false 271 lim k J c271 [x0, (.tup []), (.tup []), (.tup []), (.tup []), (.tup []), (.tup []), (.tup []), (.tup []), (.tup []), (.tup []), (.tup []), (.tup []), (.tup []), (.tup []), (.tup []), (.tup []), (.tup []), (.tup []), (.tup []), (.tup []), (.tup []), (.tup []), (.tup []), (.tup []), (.tup [])] H (kk none (fun s H => retK (([2] : List Nat).map fun t => s.getD t (.tup [])) H) [] retK [2]) =
  purK (lenS x0) fun x8 =>
  J (Code.at [1, 1, 0, 1] c271) (sp 26 [(3, .nils), (7, x0), (8, x8), (9, (.int .i64 0))]) H (kk (some [3]) (fun s H => J (Code.at [1, 1, 1] c271) s H (kk none (fun s H => retK (([2] : List Nat).map fun t => s.getD t (.tup [])) H) [] retK [2])) [] retK [2]) := by
  kernel_rfl
theorem G271 (ρ : Addr → Option Value) (call : CallF) (yc : YieldF) (lim k : Nat) (x0 : AV) (H : Heap) :
    evL (cx ρ) call yc false 271 lim k c271 [x0, (.tup []), (.tup []), (.tup []), (.tup []), (.tup []), (.tup []), (.tup []), (.tup []), (.tup []), (.tup []), (.tup []), (.tup []), (.tup []), (.tup []), (.tup []), (.tup []), (.tup []), (.tup []), (.tup []), (.tup []), (.tup []), (.tup []), (.tup []), (.tup []), (.tup [])] H (kk none (fun s H => retK (([2] : List Nat).map fun t => s.getD t (.tup [])) H) [] retK [2]) = L271 ρ call yc lim k x0 H := by
  rw [evL_X, L271_x]
  simp only [← evL_X, L271, N271_1_eq, N271_2_eq]
theorem E271 (ρ : Addr → Option Value) (k lim : Nat) (x0 : AV) (H : Heap) : evCall (cx ρ) (k + 1) lim 271 [x0] H = L271 ρ (evCall (cx ρ) k) (evCY (cx ρ) k).2 lim k x0 H := by
  rw [evCall_body (cx ρ) k lim 271 _ H Tryz.f271 c271 [2] (by kernel_rfl) (by kernel_rfl) (by kernel_rfl) (by kernel_rfl) (by kernel_rfl)]
  exact G271 ρ (evCall (cx ρ) k) (evCY (cx ρ) k).2 lim k x0 H
-- (*haycroft/index.Index).Chain
noncomputable def c272 : Code := Code.of Tryz.prog 272
noncomputable def N272_1 (ρ : Addr → Option Value) (call : CallF) (yc : YieldF) (lim k : Nat) (x5 : AV) (H : Heap) (R : List AV → Heap → Res) : Res :=
  R [x5] H
theorem N272_1_eq (ρ : Addr → Option Value) (call : CallF) (yc : YieldF) (lim k : Nat) (x5 : AV) (H : Heap) (R : List AV → Heap → Res) :
    evL (cx ρ) call yc false 272 lim k (Code.at [1, 1, 1] c272) (sp 34 [(5, x5)]) H (kk none (fun s H => R (([4] : List Nat).map fun t => s.getD t (.tup [])) H) [] R [4]) = N272_1 ρ call yc lim k x5 H R := by
  kernel_rfl
noncomputable def N272_3b (ρ : Addr → Option Value) (call : CallF) (yc : YieldF) (lim k : Nat) (x0 x1 x5 x6 : AV) (H : Heap) (kn : AV → AV → AV → AV → Heap → Res) (k0 : AV → Heap → Res) : Res :=
  purK (gPur (wantV x6 true) (some x5)) fun x17_1 =>
  purK (gPur (wantV x6 true) (lenS x17_1)) fun x18_1 =>
  purK (gPur (wantV x6 true) (some x0)) fun x19_1 =>
  resK (gRes (wantV x6 true) H (call lim 334 [x19_1] H)) fun x20_1 H =>
  purK (gPur (wantV x6 true) (binA Tryz.prog H .leq 3 x18_1 x20_1)) fun x21_1 =>
  purK (pickA x6 x21_1 (.bool false)) fun x22_1 =>
  condK x22_1
  (
    effK H (bldS H 3 1 [.int .i64 0] 1 [(0, 1, x1)]) fun x25_1 H =>
    effK H (apA ρ lim H 3 1 8 x5 x25_1) fun x26_1 H =>
    resK (call lim 335 [x0, x1] H) fun x30_1 H =>
    purK (extA 0 x30_1) fun x31_1 =>
    purK (extA 1 x30_1) fun x32_1 =>
    kn x0 x31_1 x26_1 x32_1 H)
  (
    k0 x5 H)
theorem N272_3b_eq (ρ : Addr → Option Value) (call : CallF) (yc : YieldF) (lim k : Nat) (x0 x1 x5 x6 : AV) (H : Heap) (kn : KS) (k0 : KS) (R : List AV → Heap → Res) :
    evL (cx ρ) call yc false 272 lim k (Code.at [1, 1, 0, 1, 0, 0] c272) (sp 34 [(0, x0), (1, x1), (5, x5), (6, x6)]) H (kk (some [0, 1, 5, 6]) kn [(0, (some [5]), k0)] R [4]) = N272_3b ρ call yc lim k x0 x1 x5 x6 H (fun x0 x1 x5 x6 H => kn (sp 34 [(0, x0), (1, x1), (5, x5), (6, x6)]) H) (fun x5 H => k0 (sp 34 [(5, x5)]) H) := by
  kernel_rfl
noncomputable def N272_3 (ρ : Addr → Option Value) (call : CallF) (yc : YieldF) (lim k : Nat) (x0 x1 x5 x6 : AV) (H : Heap) (k0 : AV → Heap → Res) : Res :=
  loopL (fun (x : AV × AV × AV) H kn => N272_3b ρ call yc lim k x0 x.1 x.2.1 x.2.2 H (fun _ x1 x5 x6 H => kn (x1, x5, x6) H) k0) k (x1, x5, x6) H
theorem N272_3_eq (ρ : Addr → Option Value) (call : CallF) (yc : YieldF) (lim k : Nat) (x0 x1 x5 x6 : AV) (H : Heap) (kn : KS) (k0 : KS) (R : List AV → Heap → Res) :
    evL (cx ρ) call yc false 272 lim k (Code.at [1, 1, 0, 1, 0] c272) (sp 34 [(0, x0), (1, x1), (5, x5), (6, x6)]) H (kk (some [5]) kn [(0, (some [5]), k0)] R [4]) = N272_3 ρ call yc lim k x0 x1 x5 x6 H (fun x5 H => k0 (sp 34 [(5, x5)]) H) := by
  have e : Code.at [1, 1, 0, 1, 0] c272 = .loop (Code.at [1, 1, 0, 1, 0, 0] c272) := by kernel_rfl
  rw [e]
  unfold N272_3
  exact loop_node [0, 1, 5, 6] (fun x : AV × AV × AV => (sp 34 [(0, x0), (1, (x.1)), (5, (x.2.1)), (6, (x.2.2))])) (fun (x : AV × AV × AV) H kn => N272_3b ρ call yc lim k x0 x.1 x.2.1 x.2.2 H (fun _ x1 x5 x6 H => kn (x1, x5, x6) H) (fun x5 H => k0 (sp 34 [(5, x5)]) H)) (by kernel_rfl) (fun x => by kernel_rfl) (fun x H kn => N272_3b_eq ρ call yc lim k x0 (x.1) (x.2.1) (x.2.2) H kn k0 R) (x1, x5, x6) (sp 34 [(0, x0), (1, x1), (5, x5), (6, x6)]) H (by kernel_rfl)
noncomputable def N272_2 (ρ : Addr → Option Value) (call : CallF) (yc : YieldF) (lim k : Nat) (x0 x1 x5 x6 : AV) (H : Heap) (kn : AV → Heap → Res) : Res :=
  N272_3 ρ call yc lim k x0 x1 x5 x6 H kn
theorem N272_2_x (ρ : Addr → Option Value) (call : CallF) (yc : YieldF) (lim k : Nat) (J : CodeF) (x0 x1 x5 x6 : AV) (H : Heap) (kn : KS) (R : List AV → Heap → Res) :
    evX (cx ρ) call yc false 272 lim k J (Code.at [1, 1, 0, 1] c272) (sp 34 [(0, x0), (1, x1), (5, x5), (6, x6)]) H (kk (some [5]) kn [] R [4]) =
  J (Code.at [1, 1, 0, 1, 0] c272) (sp 34 [(0, x0), (1, x1), (5, x5), (6, x6)]) H (kk (some [5]) kn [(0, (some [5]), kn)] R [4]) := by
  kernel_rfl
theorem N272_2_eq (ρ : Addr → Option Value) (call : CallF) (yc : YieldF) (lim k : Nat) (x0 x1 x5 x6 : AV) (H : Heap) (kn : KS) (R : List AV → Heap → Res) :
    evL (cx ρ) call yc false 272 lim k (Code.at [1, 1, 0, 1] c272) (sp 34 [(0, x0), (1, x1), (5, x5), (6, x6)]) H (kk (some [5]) kn [] R [4]) = N272_2 ρ call yc lim k x0 x1 x5 x6 H (fun x5 H => kn (sp 34 [(5, x5)]) H) := by
  rw [evL_X, N272_2_x]
  simp only [← evL_X, N272_2, N272_3_eq]
noncomputable def L272 (ρ : Addr → Option Value) (call : CallF) (yc : YieldF) (lim k : Nat) (x0 x1 : AV) (H : Heap) : Res :=
  purK (binA Tryz.prog H .geq 3 x1 (.int .i64 0)) fun x8 =>
  purK (gPur (wantV x8 true) (some x1)) fun x10 =>
  purK (gPur (wantV x8 true) (some x0)) fun x11 =>
  resK (gRes (wantV x8 true) H (call lim 334 [x11] H)) fun x12 H =>
  purK (gPur (wantV x8 true) (binA Tryz.prog H .lss 3 x10 x12)) fun x13 =>
  purK (pickA x8 x13 (.bool false)) fun x14 =>
  N272_2 ρ call yc lim k x0 x1 .nils x14 H (fun x5 H =>
    N272_1 ρ call yc lim k x5 H retK)
theorem L272_x (ρ : Addr → Option Value) (call : CallF) (yc : YieldF) (lim k : Nat) (J : CodeF) (x0 x1 : AV) (H : Heap) :
    evX (cx ρ) call yc false 272 lim k J c272 [x0, x1, (.tup []), (.tup []), (.tup []), (.tup []), (.tup []), (.tup []), (.tup []), (.tup []), (.tup []), (.tup []), (.tup []), (.tup []), (.tup []), (.tup []), (.tup []), (.tup []), (.tup []), (.tup []), (.tup []), (.tup []), (.tup []), (.tup []), (.tup []), (.tup []), (.tup []), (.tup []), (.tup []), (.tup []), (.tup []), (.tup []), (.tup []), (.tup [])] H (kk none (fun s H => retK (([4] : List Nat).map fun t => s.getD t (.tup [])) H) [] retK [4]) =
  purK (binA Tryz.prog H .geq 3 x1 (.int .i64 0)) fun x8 =>
  purK (gPur (wantV x8 true) (some x1)) fun x10 =>
  purK (gPur (wantV x8 true) (some x0)) fun x11 =>
  resK (gRes (wantV x8 true) H (call lim 334 [x11] H)) fun x12 H =>
  purK (gPur (wantV x8 true) (binA Tryz.prog H .lss 3 x10 x12)) fun x13 =>
  purK (pickA x8 x13 (.bool false)) fun x14 =>
  J (Code.at [1, 1, 0, 1] c272) (sp 34 [(0, x0), (1, x1), (5, .nils), (6, x14)]) H (kk (some [5]) (fun s H => J (Code.at [1, 1, 1] c272) s H (kk none (fun s H => retK (([4] : List Nat).map fun t => s.getD t (.tup [])) H) [] retK [4])) [] retK [4]) := by
  kernel_rfl
theorem G272 (ρ : Addr → Option Value) (call : CallF) (yc : YieldF) (lim k : Nat) (x0 x1 : AV) (H : Heap) :
    evL (cx ρ) call yc false 272 lim k c272 [x0, x1, (.tup []), (.tup []), (.tup []), (.tup []), (.tup []), (.tup []), (.tup []), (.tup []), (.tup []), (.tup []), (.tup []), (.tup []), (.tup []), (.tup []), (.tup []), (.tup []), (.tup []), (.tup []), (.tup []), (.tup []), (.tup []), (.tup []), (.tup []), (.tup []), (.tup []), (.tup []), (.tup []), (.tup []), (.tup []), (.tup []), (.tup []), (.tup [])] H (kk none (fun s H => retK (([4] : List Nat).map fun t => s.getD t (.tup [])) H) [] retK [4]) = L272 ρ call yc lim k x0 x1 H := by
  rw [evL_X, L272_x]
  simp only [← evL_X, L272, N272_1_eq, N272_2_eq]
theorem E272 (ρ : Addr → Option Value) (k lim : Nat) (x0 x1 : AV) (H : Heap) : evCall (cx ρ) (k + 1) lim 272 [x0, x1] H = L272 ρ (evCall (cx ρ) k) (evCY (cx ρ) k).2 lim k x0 x1 H := by
  rw [evCall_body (cx ρ) k lim 272 _ H Tryz.f272 c272 [4] (by kernel_rfl) (by kernel_rfl) (by kernel_rfl) (by kernel_rfl) (by kernel_rfl)]
  exact G272 ρ (evCall (cx ρ) k) (evCY (cx ρ) k).2 lim k x0 x1 H
-- haycroft/entry.Unpack
noncomputable def c273 : Code := Code.of Tryz.prog 273
noncomputable def L273 (ρ : Addr → Option Value) (call : CallF) (yc : YieldF) (lim k : Nat) (x0 : AV) (H : Heap) : Res :=
  effK H (some (.ptr H.sz 0 0, .new (newCells 366 false [.int .u64 0, .int .u64 0, .bool false]))) fun x2 H =>
  resK (call lim 242 [x0, (.int .i64 0), (.int .i64 48)] H) fun x6 H =>
  resK (call lim 242 [x0, (.int .i64 48), (.int .i64 14)] H) fun x8 H =>
  resK (call lim 318 [x0, (.int .i64 62)] H) fun x10 H =>
  purK (bldA [.int .u64 0, .int .u64 0, .bool false] [(0, 1, x6), (1, 1, x8), (2, 1, x10)]) fun x11 =>
  effK H (some (.ptr H.sz 0 0, .new (newCells 366 false [.int .u64 0, .int .u64 0, .bool false]))) fun x4 H =>
  effK H (stA lim H 3 x4 x11) fun _ H =>
  purK (binA Tryz.prog H .eql 22 x0 (.int .u64 0)) fun x14 =>
  condK x14
  (
    purK (bldA [.int .u64 0, .int .u64 0, .bool false] []) fun x15 =>
    effK H (stA lim H 3 x2 x15) fun _ H =>
    (retC (cx ρ) [some 366, none]) [x2, (.int .i64 7)] H)
  (
    resK (call lim 318 [x0, (.int .i64 63)] H) fun x18 H =>
    purK (unA .not x18) fun x19 =>
    purK (gPur (wantV x19 false) (ldN ρ H 3 x4)) fun x21 =>
    resK (gRes (wantV x19 false) H (call lim 336 [x21] H)) fun x22 H =>
    purK (gPur (wantV x19 false) (unA .not x22)) fun x23 =>
    purK (pickA x19 (.bool true) x23) fun x24 =>
    condK x24
    (
      purK (bldA [.int .u64 0, .int .u64 0, .bool false] []) fun x25 =>
      effK H (stA lim H 3 x2 x25) fun _ H =>
      (retC (cx ρ) [some 366, none]) [x2, (.int .i64 4)] H)
    (
      purK (ldN ρ H 3 x4) fun x26 =>
      effK H (stA lim H 3 x2 x26) fun _ H =>
      (retC (cx ρ) [some 366, none]) [x2, (.int .i64 0)] H))
theorem G273 (ρ : Addr → Option Value) (call : CallF) (yc : YieldF) (lim k : Nat) (x0 : AV) (H : Heap) :
    evL (cx ρ) call yc false 273 lim k c273 [x0, (.tup []), (.tup []), (.tup []), (.tup []), (.tup []), (.tup []), (.tup []), (.tup []), (.tup []), (.tup []), (.tup []), (.tup []), (.tup []), (.tup []), (.tup []), (.tup []), (.tup []), (.tup []), (.tup []), (.tup []), (.tup []), (.tup []), (.tup []), (.tup []), (.tup []), (.tup [])] H (kk none (fun s H => (retC (cx ρ) [some 366, none]) (([2, 3] : List Nat).map fun t => s.getD t (.tup [])) H) [] (retC (cx ρ) [some 366, none]) [2, 3]) = L273 ρ call yc lim k x0 H := by
  kernel_rfl
theorem E273 (ρ : Addr → Option Value) (k lim : Nat) (x0 : AV) (H : Heap) : evCall (cx ρ) (k + 1) lim 273 [x0] H = L273 ρ (evCall (cx ρ) k) (evCY (cx ρ) k).2 lim k x0 H := by
  rw [evCall_cells (cx ρ) k lim 273 _ H Tryz.f273 c273 [2, 3] [some 366, none] (by kernel_rfl) (by kernel_rfl) (by kernel_rfl) (by kernel_rfl) (by kernel_rfl) (by kernel_rfl)]
  exact G273 ρ (evCall (cx ρ) k) (evCY (cx ρ) k).2 lim k x0 H
-- (*haycroft/cell.Row).Fill
noncomputable def c274 : Code := Code.of Tryz.prog 274
noncomputable def N274_1 (ρ : Addr → Option Value) (call : CallF) (yc : YieldF) (lim k : Nat) (H : Heap) (R : List AV → Heap → Res) : Res :=
  R [(.int .i64 0)] H
theorem N274_1_eq (ρ : Addr → Option Value) (call : CallF) (yc : YieldF) (lim k : Nat) (H : Heap) (R : List AV → Heap → Res) :
    evL (cx ρ) call yc false 274 lim k (Code.at [1, 1, 1] c274) (sp 36 []) H (kk none (fun s H => R (([6] : List Nat).map fun t => s.getD t (.tup [])) H) [] R [6]) = N274_1 ρ call yc lim k H R := by
  kernel_rfl
noncomputable def N274_3b (ρ : Addr → Option Value) (call : CallF) (yc : YieldF) (lim k : Nat) (x0 x1 x18 x19 x20 : AV) (H : Heap) (kn : AV → AV → AV → AV → AV → Heap → Res) (k0 : Heap → Res) : Res :=
  purK (binA Tryz.prog H .lss 3 x20 x19) fun x21_1 =>
  condK x21_1
  (
    purK (ixS 1 x18 x20) fun x23_1 =>
    purK (ld1 ρ H x23_1) fun x24_1 =>
    purK (nilChkA x0) fun x26_1 =>
    purK (addA 0 x26_1) fun x27_1 =>
    purK (ld1 ρ H x27_1) fun x28_1 =>
    purK (binA Tryz.prog H .add 3 x1 x20) fun x31_1 =>
    purK (ixS 1 x28_1 x31_1) fun x32_1 =>
    resK (call lim 247 [x32_1, x24_1] H) fun x34_1 H =>
    purK (binA Tryz.prog H .add 3 x20 (.int .i64 1)) fun x35_1 =>
    kn x0 x1 x18 x19 x35_1 H)
  (
    k0 H)
theorem N274_3b_eq (ρ : Addr → Option Value) (call : CallF) (yc : YieldF) (lim k : Nat) (x0 x1 x18 x19 x20 : AV) (H : Heap) (kn : KS) (k0 : KS) (R : List AV → Heap → Res) :
    evL (cx ρ) call yc false 274 lim k (Code.at [1, 1, 0, 1, 0, 0] c274) (sp 36 [(0, x0), (1, x1), (18, x18), (19, x19), (20, x20)]) H (kk (some [0, 1, 18, 19, 20]) kn [(0, (some []), k0)] R [6]) = N274_3b ρ call yc lim k x0 x1 x18 x19 x20 H (fun x0 x1 x18 x19 x20 H => kn (sp 36 [(0, x0), (1, x1), (18, x18), (19, x19), (20, x20)]) H) (fun H => k0 (sp 36 []) H) := by
  kernel_rfl
noncomputable def N274_3 (ρ : Addr → Option Value) (call : CallF) (yc : YieldF) (lim k : Nat) (x0 x1 x18 x19 x20 : AV) (H : Heap) (k0 : Heap → Res) : Res :=
  loopL (fun (x : AV) H kn => N274_3b ρ call yc lim k x0 x1 x18 x19 x H (fun _ _ _ _ x20 H => kn x20 H) k0) k x20 H
theorem N274_3_eq (ρ : Addr → Option Value) (call : CallF) (yc : YieldF) (lim k : Nat) (x0 x1 x18 x19 x20 : AV) (H : Heap) (kn : KS) (k0 : KS) (R : List AV → Heap → Res) :
    evL (cx ρ) call yc false 274 lim k (Code.at [1, 1, 0, 1, 0] c274) (sp 36 [(0, x0), (1, x1), (18, x18), (19, x19), (20, x20)]) H (kk (some []) kn [(0, (some []), k0)] R [6]) = N274_3 ρ call yc lim k x0 x1 x18 x19 x20 H (fun H => k0 (sp 36 []) H) := by
  have e : Code.at [1, 1, 0, 1, 0] c274 = .loop (Code.at [1, 1, 0, 1, 0, 0] c274) := by kernel_rfl
  rw [e]
  unfold N274_3
  exact loop_node [0, 1, 18, 19, 20] (fun x : AV => (sp 36 [(0, x0), (1, x1), (18, x18), (19, x19), (20, (x))])) (fun (x : AV) H kn => N274_3b ρ call yc lim k x0 x1 x18 x19 x H (fun _ _ _ _ x20 H => kn x20 H) (fun H => k0 (sp 36 []) H)) (by kernel_rfl) (fun x => by kernel_rfl) (fun x H kn => N274_3b_eq ρ call yc lim k x0 x1 x18 x19 (x) H kn k0 R) x20 (sp 36 [(0, x0), (1, x1), (18, x18), (19, x19), (20, x20)]) H (by kernel_rfl)
noncomputable def N274_2 (ρ : Addr → Option Value) (call : CallF) (yc : YieldF) (lim k : Nat) (x0 x1 x18 x19 x20 : AV) (H : Heap) (kn : Heap → Res) : Res :=
  N274_3 ρ call yc lim k x0 x1 x18 x19 x20 H kn
theorem N274_2_x (ρ : Addr → Option Value) (call : CallF) (yc : YieldF) (lim k : Nat) (J : CodeF) (x0 x1 x18 x19 x20 : AV) (H : Heap) (kn : KS) (R : List AV → Heap → Res) :
    evX (cx ρ) call yc false 274 lim k J (Code.at [1, 1, 0, 1] c274) (sp 36 [(0, x0), (1, x1), (18, x18), (19, x19), (20, x20)]) H (kk (some []) kn [] R [6]) =
  J (Code.at [1, 1, 0, 1, 0] c274) (sp 36 [(0, x0), (1, x1), (18, x18), (19, x19), (20, x20)]) H (kk (some []) kn [(0, (some []), kn)] R [6]) := by
  kernel_rfl
theorem N274_2_eq (ρ : Addr → Option Value) (call : CallF) (yc : YieldF) (lim k : Nat) (x0 x1 x18 x19 x20 : AV) (H : Heap) (kn : KS) (R : List AV → Heap → Res) :
    evL (cx ρ) call yc false 274 lim k (Code.at [1, 1, 0, 1] c274) (sp 36 [(0, x0), (1, x1), (18, x18), (19, x19), (20, x20)]) H (kk (some []) kn [] R [6]) = N274_2 ρ call yc lim k x0 x1 x18 x19 x20 H (fun H => kn (sp 36 []) H) := by
  rw [evL_X, N274_2_x]
  simp only [← evL_X, N274_2, N274_3_eq]
noncomputable def L274 (ρ : Addr → Option Value) (call : CallF) (yc : YieldF) (lim k : Nat) (x0 x1 x2 : AV) (H : Heap) : Res :=
  purK (lenS x2) fun x13 =>
  resK (call lim 186 [x0, x1, x13] H) fun x14 H =>
  purK (binA Tryz.prog H .neq 30 x14 (.int .i64 0)) fun x16 =>
  condK x16
  (
    retK [x14] H)
  (
    purK (lenS x2) fun x19 =>
    N274_2 ρ call yc lim k x0 x1 x2 x19 (.int .i64 0) H (fun H =>
      N274_1 ρ call yc lim k H retK))
theorem L274_x (ρ : Addr → Option Value) (call : CallF) (yc : YieldF) (lim k : Nat) (J : CodeF) (x0 x1 x2 : AV) (H : Heap) :
    evX (cx ρ) call yc false 274 lim k J c274 [x0, x1, x2, (.tup []), (.tup []), (.tup []), (.tup []), (.tup []), (.tup []), (.tup []), (.tup []), (.tup []), (.tup []), (.tup []), (.tup []), (.tup []), (.tup []), (.tup []), (.tup []), (.tup []), (.tup []), (.tup []), (.tup []), (.tup []), (.tup []), (.tup []), (.tup []), (.tup []), (.tup []), (.tup []), (.tup []), (.tup []), (.tup []), (.tup []), (.tup []), (.tup [])] H (kk none (fun s H => retK (([6] : List Nat).map fun t => s.getD t (.tup [])) H) [] retK [6]) =
  purK (lenS x2) fun x13 =>
  resK (call lim 186 [x0, x1, x13] H) fun x14 H =>
  purK (binA Tryz.prog H .neq 30 x14 (.int .i64 0)) fun x16 =>
  condK x16
  (
    retK [x14] H)
  (
    purK (lenS x2) fun x19 =>
    J (Code.at [1, 1, 0, 1] c274) (sp 36 [(0, x0), (1, x1), (18, x2), (19, x19), (20, (.int .i64 0))]) H (kk (some []) (fun s H => J (Code.at [1, 1, 1] c274) s H (kk none (fun s H => retK (([6] : List Nat).map fun t => s.getD t (.tup [])) H) [] retK [6])) [] retK [6])) := by
  kernel_rfl
theorem G274 (ρ : Addr → Option Value) (call : CallF) (yc : YieldF) (lim k : Nat) (x0 x1 x2 : AV) (H : Heap) :
    evL (cx ρ) call yc false 274 lim k c274 [x0, x1, x2, (.tup []), (.tup []), (.tup []), (.tup []), (.tup []), (.tup []), (.tup []), (.tup []), (.tup []), (.tup []), (.tup []), (.tup []), (.tup []), (.tup []), (.tup []), (.tup []), (.tup []), (.tup []), (.tup []), (.tup []), (.tup []), (.tup []), (.tup []), (.tup []), (.tup []), (.tup []), (.tup []), (.tup []), (.tup []), (.tup []), (.tup []), (.tup []), (.tup [])] H (kk none (fun s H => retK (([6] : List Nat).map fun t => s.getD t (.tup [])) H) [] retK [6]) = L274 ρ call yc lim k x0 x1 x2 H := by
  rw [evL_X, L274_x]
  simp only [← evL_X, L274, N274_1_eq, N274_2_eq]
theorem E274 (ρ : Addr → Option Value) (k lim : Nat) (x0 x1 x2 : AV) (H : Heap) : evCall (cx ρ) (k + 1) lim 274 [x0, x1, x2] H = L274 ρ (evCall (cx ρ) k) (evCY (cx ρ) k).2 lim k x0 x1 x2 H := by
  rw [evCall_body (cx ρ) k lim 274 _ H Tryz.f274 c274 [6] (by kernel_rfl) (by kernel_rfl) (by kernel_rfl) (by kernel_rfl) (by kernel_rfl)]
  exact G274 ρ (evCall (cx ρ) k) (evCY (cx ρ) k).2 lim k x0 x1 x2 H
-- slices.insertionSortOrdered[int]
noncomputable def c284 : Code := Code.of Tryz.prog 284
noncomputable def N284_3 (ρ : Addr → Option Value) (call : CallF) (yc : YieldF) (lim k : Nat) (x0 x1 x2 x6 : AV) (H : Heap) (kn : AV → AV → AV → AV → Heap → Res) : Res :=
  purK (binA Tryz.prog H .add 3 x6 (.int .i64 1)) fun x14_1 =>
  kn x0 x1 x2 x14_1 H
theorem N284_3_eq (ρ : Addr → Option Value) (call : CallF) (yc : YieldF) (lim k : Nat) (x0 x1 x2 x6 : AV) (H : Heap) (kn : KS) (R : List AV → Heap → Res) :
    evL (cx ρ) call yc false 284 lim k (Code.at [1, 0, 0, 1, 1] c284) (sp 49 [(0, x0), (1, x1), (2, x2), (6, x6)]) H (kk (some [0, 1, 2, 6]) kn [(0, none, (fun s H => R (([] : List Nat).map fun t => s.getD t (.tup [])) H))] R []) = N284_3 ρ call yc lim k x0 x1 x2 x6 H (fun x0 x1 x2 x6 H => kn (sp 49 [(0, x0), (1, x1), (2, x2), (6, x6)]) H) := by
  kernel_rfl
noncomputable def N284_5b (ρ : Addr → Option Value) (call : CallF) (yc : YieldF) (lim k : Nat) (x0 x1 x2 x6 x7 : AV) (H : Heap) (kn : AV → AV → AV → AV → AV → Heap → Res) (k2 : AV → AV → AV → AV → Heap → Res) : Res :=
  purK (binA Tryz.prog H .gtr 3 x7 x1) fun x18_1 =>
  boolK (wantV x18_1 true) fun b1 => purK (bif b1 then some x0 else some (.tup [])) fun x20_1 =>
  boolK (wantV x18_1 true) fun b2 => purK (bif b2 then some x7 else some (.tup [])) fun x21_1 =>
  boolK (wantV x18_1 true) fun b3 => purK (bif b3 then ixS 1 x20_1 x21_1 else some (.tup [])) fun x22_1 =>
  boolK (wantV x18_1 true) fun b4 => purK (bif b4 then ld1 ρ H x22_1 else some (.tup [])) fun x23_1 =>
  boolK (wantV x18_1 true) fun b5 => purK (bif b5 then some x0 else some (.tup [])) fun x24_1 =>
  boolK (wantV x18_1 true) fun b6 => purK (bif b6 then some x7 else some (.tup [])) fun x25_1 =>
  boolK (wantV x18_1 true) fun b7 => purK (bif b7 then binA Tryz.prog H .sub 3 x25_1 (.int .i64 1) else some (.tup [])) fun x26_1 =>
  boolK (wantV x18_1 true) fun b8 => purK (bif b8 then ixS 1 x24_1 x26_1 else some (.tup [])) fun x27_1 =>
  boolK (wantV x18_1 true) fun b9 => purK (bif b9 then ld1 ρ H x27_1 else some (.tup [])) fun x28_1 =>
  boolK (wantV x18_1 true) fun b10 => resK (gRes (some b10) H (call lim 290 [x23_1, x28_1] H)) fun x29_1 H => bif !b10 || ((!b9 || true) && ((!b7 || true) && ((!b4 || true) && true))) then
    purK (pickA x18_1 x29_1 (.bool false)) fun x30_1 =>
    condK x30_1
    (
      purK (binA Tryz.prog H .sub 3 x7 (.int .i64 1)) fun x37_1 =>
      purK (binA Tryz.prog H .sub 3 x7 (.int .i64 1)) fun x40_1 =>
      purK (ixS 1 x0 x40_1) fun x41_1 =>
      purK (ld1 ρ H x41_1) fun x42_1 =>
      purK (ixS 1 x0 x7) fun x45_1 =>
      purK (ld1 ρ H x45_1) fun x46_1 =>
      purK (ixS 1 x0 x7) fun x47_1 =>
      effK H (stA lim H 1 x47_1 x42_1) fun _ H => bif (agn (binA Tryz.prog H .sub 3 x7 (.int .i64 1)) x37_1 && true) then
        purK (ixS 1 x0 x37_1) fun x48_1 =>
        effK H (stA lim H 1 x48_1 x46_1) fun _ H =>
        purK (binA Tryz.prog H .sub 3 x7 (.int .i64 1)) fun x32_1 =>
        kn x0 x1 x2 x6 x32_1 H
      else none)
    (
      k2 x0 x1 x2 x6 H)
  else none
theorem N284_5b_eq (ρ : Addr → Option Value) (call : CallF) (yc : YieldF) (lim k : Nat) (x0 x1 x2 x6 x7 : AV) (H : Heap) (kn : KS) (k2 : KS) (k1 : KS) (R : List AV → Heap → Res) :
    evL (cx ρ) call yc false 284 lim k (Code.at [1, 0, 0, 1, 0, 0, 1, 0, 0] c284) (sp 49 [(0, x0), (1, x1), (2, x2), (6, x6), (7, x7)]) H (kk (some [0, 1, 2, 6, 7]) kn [(2, (some [0, 1, 2, 6]), k2), (1, (some [0, 1, 2, 6]), k1), (0, none, (fun s H => R (([] : List Nat).map fun t => s.getD t (.tup [])) H))] R []) = N284_5b ρ call yc lim k x0 x1 x2 x6 x7 H (fun x0 x1 x2 x6 x7 H => kn (sp 49 [(0, x0), (1, x1), (2, x2), (6, x6), (7, x7)]) H) (fun x0 x1 x2 x6 H => k2 (sp 49 [(0, x0), (1, x1), (2, x2), (6, x6)]) H) := by
  kernel_rfl
noncomputable def N284_5 (ρ : Addr → Option Value) (call : CallF) (yc : YieldF) (lim k : Nat) (x0 x1 x2 x6 x7 : AV) (H : Heap) (k2 : AV → AV → AV → AV → Heap → Res) : Res :=
  loopL (fun (x : AV) H kn => N284_5b ρ call yc lim k x0 x1 x2 x6 x H (fun _ _ _ _ x7 H => kn x7 H) k2) k x7 H
theorem N284_5_eq (ρ : Addr → Option Value) (call : CallF) (yc : YieldF) (lim k : Nat) (x0 x1 x2 x6 x7 : AV) (H : Heap) (kn : KS) (k2 : KS) (k1 : KS) (R : List AV → Heap → Res) :
    evL (cx ρ) call yc false 284 lim k (Code.at [1, 0, 0, 1, 0, 0, 1, 0] c284) (sp 49 [(0, x0), (1, x1), (2, x2), (6, x6), (7, x7)]) H (kk (some [0, 1, 2, 6]) kn [(2, (some [0, 1, 2, 6]), k2), (1, (some [0, 1, 2, 6]), k1), (0, none, (fun s H => R (([] : List Nat).map fun t => s.getD t (.tup [])) H))] R []) = N284_5 ρ call yc lim k x0 x1 x2 x6 x7 H (fun x0 x1 x2 x6 H => k2 (sp 49 [(0, x0), (1, x1), (2, x2), (6, x6)]) H) := by
  have e : Code.at [1, 0, 0, 1, 0, 0, 1, 0] c284 = .loop (Code.at [1, 0, 0, 1, 0, 0, 1, 0, 0] c284) := by kernel_rfl
  rw [e]
  unfold N284_5
  exact loop_node [0, 1, 2, 6, 7] (fun x : AV => (sp 49 [(0, x0), (1, x1), (2, x2), (6, x6), (7, (x))])) (fun (x : AV) H kn => N284_5b ρ call yc lim k x0 x1 x2 x6 x H (fun _ _ _ _ x7 H => kn x7 H) (fun x0 x1 x2 x6 H => k2 (sp 49 [(0, x0), (1, x1), (2, x2), (6, x6)]) H)) (by kernel_rfl) (fun x => by kernel_rfl) (fun x H kn => N284_5b_eq ρ call yc lim k x0 x1 x2 x6 (x) H kn k2 k1 R) x7 (sp 49 [(0, x0), (1, x1), (2, x2), (6, x6), (7, x7)]) H (by kernel_rfl)
noncomputable def N284_4 (ρ : Addr → Option Value) (call : CallF) (yc : YieldF) (lim k : Nat) (x0 x1 x2 x6 x7 : AV) (H : Heap) (kn : AV → AV → AV → AV → Heap → Res) : Res :=
  N284_5 ρ call yc lim k x0 x1 x2 x6 x7 H kn
theorem N284_4_x (ρ : Addr → Option Value) (call : CallF) (yc : YieldF) (lim k : Nat) (J : CodeF) (x0 x1 x2 x6 x7 : AV) (H : Heap) (kn : KS) (k1 : KS) (R : List AV → Heap → Res) :
    evX (cx ρ) call yc false 284 lim k J (Code.at [1, 0, 0, 1, 0, 0, 1] c284) (sp 49 [(0, x0), (1, x1), (2, x2), (6, x6), (7, x7)]) H (kk (some [0, 1, 2, 6]) kn [(1, (some [0, 1, 2, 6]), k1), (0, none, (fun s H => R (([] : List Nat).map fun t => s.getD t (.tup [])) H))] R []) =
  J (Code.at [1, 0, 0, 1, 0, 0, 1, 0] c284) (sp 49 [(0, x0), (1, x1), (2, x2), (6, x6), (7, x7)]) H (kk (some [0, 1, 2, 6]) kn [(2, (some [0, 1, 2, 6]), kn), (1, (some [0, 1, 2, 6]), k1), (0, none, (fun s H => R (([] : List Nat).map fun t => s.getD t (.tup [])) H))] R []) := by
  kernel_rfl
theorem N284_4_eq (ρ : Addr → Option Value) (call : CallF) (yc : YieldF) (lim k : Nat) (x0 x1 x2 x6 x7 : AV) (H : Heap) (kn : KS) (k1 : KS) (R : List AV → Heap → Res) :
    evL (cx ρ) call yc false 284 lim k (Code.at [1, 0, 0, 1, 0, 0, 1] c284) (sp 49 [(0, x0), (1, x1), (2, x2), (6, x6), (7, x7)]) H (kk (some [0, 1, 2, 6]) kn [(1, (some [0, 1, 2, 6]), k1), (0, none, (fun s H => R (([] : List Nat).map fun t => s.getD t (.tup [])) H))] R []) = N284_4 ρ call yc lim k x0 x1 x2 x6 x7 H (fun x0 x1 x2 x6 H => kn (sp 49 [(0, x0), (1, x1), (2, x2), (6, x6)]) H) := by
  rw [evL_X, N284_4_x]
  simp only [← evL_X, N284_4, N284_5_eq]
noncomputable def N284_2b (ρ : Addr → Option Value) (call : CallF) (yc : YieldF) (lim k : Nat) (x0 x1 x2 x6 : AV) (H : Heap) (kn : AV → AV → AV → AV → Heap → Res) (R : List AV → Heap → Res) : Res :=
  purK (binA Tryz.prog H .lss 3 x6 x2) fun x12_1 =>
  condK x12_1
  (
    N284_4 ρ call yc lim k x0 x1 x2 x6 x6 H (fun x0_1 x1_1 x2_1 x6_1 H =>
      N284_3 ρ call yc lim k x0_1 x1_1 x2_1 x6_1 H kn))
  (
    R [] H)
theorem N284_2b_x (ρ : Addr → Option Value) (call : CallF) (yc : YieldF) (lim k : Nat) (J : CodeF) (x0 x1 x2 x6 : AV) (H : Heap) (kn : KS) (R : List AV → Heap → Res) :
    evX (cx ρ) call yc false 284 lim k J (Code.at [1, 0, 0] c284) (sp 49 [(0, x0), (1, x1), (2, x2), (6, x6)]) H (kk (some [0, 1, 2, 6]) kn [(0, none, (fun s H => R (([] : List Nat).map fun t => s.getD t (.tup [])) H))] R []) =
  purK (binA Tryz.prog H .lss 3 x6 x2) fun x12_1 =>
  condK x12_1
  (
    J (Code.at [1, 0, 0, 1, 0, 0, 1] c284) (sp 49 [(0, x0), (1, x1), (2, x2), (6, x6), (7, x6)]) H (kk (some [0, 1, 2, 6]) (fun s H => J (Code.at [1, 0, 0, 1, 1] c284) s H (kk (some [0, 1, 2, 6]) kn [(0, none, (fun s H => R (([] : List Nat).map fun t => s.getD t (.tup [])) H))] R [])) [(1, (some [0, 1, 2, 6]), (fun s H => J (Code.at [1, 0, 0, 1, 1] c284) s H (kk (some [0, 1, 2, 6]) kn [(0, none, (fun s H => R (([] : List Nat).map fun t => s.getD t (.tup [])) H))] R []))), (0, none, (fun s H => R (([] : List Nat).map fun t => s.getD t (.tup [])) H))] R []))
  (
    R [] H) := by
  kernel_rfl
theorem N284_2b_eq (ρ : Addr → Option Value) (call : CallF) (yc : YieldF) (lim k : Nat) (x0 x1 x2 x6 : AV) (H : Heap) (kn : KS) (R : List AV → Heap → Res) :
    evL (cx ρ) call yc false 284 lim k (Code.at [1, 0, 0] c284) (sp 49 [(0, x0), (1, x1), (2, x2), (6, x6)]) H (kk (some [0, 1, 2, 6]) kn [(0, none, (fun s H => R (([] : List Nat).map fun t => s.getD t (.tup [])) H))] R []) = N284_2b ρ call yc lim k x0 x1 x2 x6 H (fun x0 x1 x2 x6 H => kn (sp 49 [(0, x0), (1, x1), (2, x2), (6, x6)]) H) R := by
  rw [evL_X, N284_2b_x]
  simp only [← evL_X, N284_2b, N284_3_eq, N284_4_eq]
noncomputable def N284_2 (ρ : Addr → Option Value) (call : CallF) (yc : YieldF) (lim k : Nat) (x0 x1 x2 x6 : AV) (H : Heap) (R : List AV → Heap → Res) : Res :=
  loopL (fun (x : AV) H kn => N284_2b ρ call yc lim k x0 x1 x2 x H (fun _ _ _ x6 H => kn x6 H) R) k x6 H
theorem N284_2_eq (ρ : Addr → Option Value) (call : CallF) (yc : YieldF) (lim k : Nat) (x0 x1 x2 x6 : AV) (H : Heap) (R : List AV → Heap → Res) :
    evL (cx ρ) call yc false 284 lim k (Code.at [1, 0] c284) (sp 49 [(0, x0), (1, x1), (2, x2), (6, x6)]) H (kk none (fun s H => R (([] : List Nat).map fun t => s.getD t (.tup [])) H) [(0, none, (fun s H => R (([] : List Nat).map fun t => s.getD t (.tup [])) H))] R []) = N284_2 ρ call yc lim k x0 x1 x2 x6 H R := by
  have e : Code.at [1, 0] c284 = .loop (Code.at [1, 0, 0] c284) := by kernel_rfl
  rw [e]
  unfold N284_2
  exact loop_node [0, 1, 2, 6] (fun x : AV => (sp 49 [(0, x0), (1, x1), (2, x2), (6, (x))])) (fun (x : AV) H kn => N284_2b ρ call yc lim k x0 x1 x2 x H (fun _ _ _ x6 H => kn x6 H) R) (by kernel_rfl) (fun x => by kernel_rfl) (fun x H kn => N284_2b_eq ρ call yc lim k x0 x1 x2 (x) H kn R) x6 (sp 49 [(0, x0), (1, x1), (2, x2), (6, x6)]) H (by kernel_rfl)
noncomputable def N284_1 (ρ : Addr → Option Value) (call : CallF) (yc : YieldF) (lim k : Nat) (x0 x1 x2 x6 : AV) (H : Heap) (R : List AV → Heap → Res) : Res :=
  N284_2 ρ call yc lim k x0 x1 x2 x6 H R
theorem N284_1_x (ρ : Addr → Option Value) (call : CallF) (yc : YieldF) (lim k : Nat) (J : CodeF) (x0 x1 x2 x6 : AV) (H : Heap) (R : List AV → Heap → Res) :
    evX (cx ρ) call yc false 284 lim k J (Code.at [1] c284) (sp 49 [(0, x0), (1, x1), (2, x2), (6, x6)]) H (kk none (fun s H => R (([] : List Nat).map fun t => s.getD t (.tup [])) H) [] R []) =
  J (Code.at [1, 0] c284) (sp 49 [(0, x0), (1, x1), (2, x2), (6, x6)]) H (kk none (fun s H => R (([] : List Nat).map fun t => s.getD t (.tup [])) H) [(0, none, (fun s H => R (([] : List Nat).map fun t => s.getD t (.tup [])) H))] R []) := by
  kernel_rfl
theorem N284_1_eq (ρ : Addr → Option Value) (call : CallF) (yc : YieldF) (lim k : Nat) (x0 x1 x2 x6 : AV) (H : Heap) (R : List AV → Heap → Res) :
    evL (cx ρ) call yc false 284 lim k (Code.at [1] c284) (sp 49 [(0, x0), (1, x1), (2, x2), (6, x6)]) H (kk none (fun s H => R (([] : List Nat).map fun t => s.getD t (.tup [])) H) [] R []) = N284_1 ρ call yc lim k x0 x1 x2 x6 H R := by
  rw [evL_X, N284_1_x]
  simp only [← evL_X, N284_1, N284_2_eq]
noncomputable def L284 (ρ : Addr → Option Value) (call : CallF) (yc : YieldF) (lim k : Nat) (x0 x1 x2 : AV) (H : Heap) : Res :=
  purK (binA Tryz.prog H .add 3 x1 (.int .i64 1)) fun x9 =>
  N284_1 ρ call yc lim k x0 x1 x2 x9 H retK
theorem L284_x (ρ : Addr → Option Value) (call : CallF) (yc : YieldF) (lim k : Nat) (J : CodeF) (x0 x1 x2 : AV) (H : Heap) :
    evX (cx ρ) call yc false 284 lim k J c284 [x0, x1, x2, (.tup []), (.tup []), (.tup []), (.tup []), (.tup []), (.tup []), (.tup []), (.tup []), (.tup []), (.tup []), (.tup []), (.tup []), (.tup []), (.tup []), (.tup []), (.tup []), (.tup []), (.tup []), (.tup []), (.tup []), (.tup []), (.tup []), (.tup []), (.tup []), (.tup []), (.tup []), (.tup []), (.tup []), (.tup []), (.tup []), (.tup []), (.tup []), (.tup []), (.tup []), (.tup []), (.tup []), (.tup []), (.tup []), (.tup []), (.tup []), (.tup []), (.tup []), (.tup []), (.tup []), (.tup []), (.tup [])] H (kk none (fun s H => retK (([] : List Nat).map fun t => s.getD t (.tup [])) H) [] retK []) =
  purK (binA Tryz.prog H .add 3 x1 (.int .i64 1)) fun x9 =>
  J (Code.at [1] c284) (sp 49 [(0, x0), (1, x1), (2, x2), (6, x9)]) H (kk none (fun s H => retK (([] : List Nat).map fun t => s.getD t (.tup [])) H) [] retK []) := by
  kernel_rfl
theorem G284 (ρ : Addr → Option Value) (call : CallF) (yc : YieldF) (lim k : Nat) (x0 x1 x2 : AV) (H : Heap) :
    evL (cx ρ) call yc false 284 lim k c284 [x0, x1, x2, (.tup []), (.tup []), (.tup []), (.tup []), (.tup []), (.tup []), (.tup []), (.tup []), (.tup []), (.tup []), (.tup []), (.tup []), (.tup []), (.tup []), (.tup []), (.tup []), (.tup []), (.tup []), (.tup []), (.tup []), (.tup []), (.tup []), (.tup []), (.tup []), (.tup []), (.tup []), (.tup []), (.tup []), (.tup []), (.tup []), (.tup []), (.tup []), (.tup []), (.tup []), (.tup []), (.tup []), (.tup []), (.tup []), (.tup []), (.tup []), (.tup []), (.tup []), (.tup []), (.tup []), (.tup []), (.tup [])] H (kk none (fun s H => retK (([] : List Nat).map fun t => s.getD t (.tup [])) H) [] retK []) = L284 ρ call yc lim k x0 x1 x2 H := by
  rw [evL_X, L284_x]
  simp only [← evL_X, L284, N284_1_eq]
theorem E284 (ρ : Addr → Option Value) (k lim : Nat) (x0 x1 x2 : AV) (H : Heap) : evCall (cx ρ) (k + 1) lim 284 [x0, x1, x2] H = L284 ρ (evCall (cx ρ) k) (evCY (cx ρ) k).2 lim k x0 x1 x2 H := by
  rw [evCall_body (cx ρ) k lim 284 _ H Tryz.f284 c284 [] (by kernel_rfl) (by kernel_rfl) (by kernel_rfl) (by kernel_rfl) (by kernel_rfl)]
  exact G284 ρ (evCall (cx ρ) k) (evCY (cx ρ) k).2 lim k x0 x1 x2 H
-- slices.insertionSortCmpFunc[haycroft/api.Commit]
noncomputable def c294 : Code := Code.of Tryz.prog 294
noncomputable def N294_3 (ρ : Addr → Option Value) (call : CallF) (yc : YieldF) (lim k : Nat) (x0 x1 x2 x3 x8 : AV) (H : Heap) (kn : AV → AV → AV → AV → AV → Heap → Res) : Res :=
  purK (binA Tryz.prog H .add 3 x8 (.int .i64 1)) fun x16_1 =>
  kn x0 x1 x2 x3 x16_1 H
theorem N294_3_eq (ρ : Addr → Option Value) (call : CallF) (yc : YieldF) (lim k : Nat) (x0 x1 x2 x3 x8 : AV) (H : Heap) (kn : KS) (R : List AV → Heap → Res) :
    evL (cx ρ) call yc false 294 lim k (Code.at [1, 0, 0, 1, 1] c294) (sp 53 [(0, x0), (1, x1), (2, x2), (3, x3), (8, x8)]) H (kk (some [0, 1, 2, 3, 8]) kn [(0, none, (fun s H => R (([] : List Nat).map fun t => s.getD t (.tup [])) H))] R []) = N294_3 ρ call yc lim k x0 x1 x2 x3 x8 H (fun x0 x1 x2 x3 x8 H => kn (sp 53 [(0, x0), (1, x1), (2, x2), (3, x3), (8, x8)]) H) := by
  kernel_rfl
noncomputable def N294_5b (ρ : Addr → Option Value) (call : CallF) (yc : YieldF) (lim k : Nat) (x0 x1 x2 x3 x8 x9 : AV) (H : Heap) (kn : AV → AV → AV → AV → AV → AV → Heap → Res) (k2 : AV → AV → AV → AV → AV → Heap → Res) : Res :=
  purK (binA Tryz.prog H .gtr 3 x9 x1) fun x20_1 =>
  boolK (wantV x20_1 true) fun b1 => purK (bif b1 then some x3 else some (.tup [])) fun x22_1 =>
  boolK (wantV x20_1 true) fun b2 => purK (bif b2 then some x0 else some (.tup [])) fun x23_1 =>
  boolK (wantV x20_1 true) fun b3 => purK (bif b3 then some x9 else some (.tup [])) fun x24_1 =>
  boolK (wantV x20_1 true) fun b4 => purK (bif b4 then ixS 3 x23_1 x24_1 else some (.tup [])) fun x25_1 =>
  boolK (wantV x20_1 true) fun b5 => purK (bif b5 then ldN ρ H 3 x25_1 else some (.tup [])) fun x26_1 =>
  boolK (wantV x20_1 true) fun b6 => purK (bif b6 then some x0 else some (.tup [])) fun x27_1 =>
  boolK (wantV x20_1 true) fun b7 => purK (bif b7 then some x9 else some (.tup [])) fun x28_1 =>
  boolK (wantV x20_1 true) fun b8 => purK (bif b8 then binA Tryz.prog H .sub 3 x28_1 (.int .i64 1) else some (.tup [])) fun x29_1 =>
  boolK (wantV x20_1 true) fun b9 => purK (bif b9 then ixS 3 x27_1 x29_1 else some (.tup [])) fun x30_1 =>
  boolK (wantV x20_1 true) fun b10 => purK (bif b10 then ldN ρ H 3 x30_1 else some (.tup [])) fun x31_1 =>
  boolK (wantV x20_1 true) fun b11 => resK (gRes (some b11) H (valR call noY lim x22_1 [x26_1, x31_1] H)) fun x32_1 H => bif !b11 || ((!b10 || true) && ((!b8 || true) && ((!b5 || true) && true))) then
    purK (gPur (wantV x20_1 true) (binA Tryz.prog H .lss 3 x32_1 (.int .i64 0))) fun x33_1 =>
    purK (pickA x20_1 x33_1 (.bool false)) fun x34_1 =>
    condK x34_1
    (
      purK (binA Tryz.prog H .sub 3 x9 (.int .i64 1)) fun x41_1 =>
      purK (binA Tryz.prog H .sub 3 x9 (.int .i64 1)) fun x44_1 =>
      purK (ixS 3 x0 x44_1) fun x45_1 =>
      purK (ldN ρ H 3 x45_1) fun x46_1 =>
      purK (ixS 3 x0 x9) fun x49_1 =>
      purK (ldN ρ H 3 x49_1) fun x50_1 =>
      purK (ixS 3 x0 x9) fun x51_1 =>
      effK H (stA lim H 3 x51_1 x46_1) fun _ H => bif (agn (binA Tryz.prog H .sub 3 x9 (.int .i64 1)) x41_1 && true) then
        purK (ixS 3 x0 x41_1) fun x52_1 =>
        effK H (stA lim H 3 x52_1 x50_1) fun _ H =>
        purK (binA Tryz.prog H .sub 3 x9 (.int .i64 1)) fun x36_1 =>
        kn x0 x1 x2 x3 x8 x36_1 H
      else none)
    (
      k2 x0 x1 x2 x3 x8 H)
  else none
theorem N294_5b_eq (ρ : Addr → Option Value) (call : CallF) (yc : YieldF) (lim k : Nat) (x0 x1 x2 x3 x8 x9 : AV) (H : Heap) (kn : KS) (k2 : KS) (k1 : KS) (R : List AV → Heap → Res) :
    evL (cx ρ) call yc false 294 lim k (Code.at [1, 0, 0, 1, 0, 0, 1, 0, 0] c294) (sp 53 [(0, x0), (1, x1), (2, x2), (3, x3), (8, x8), (9, x9)]) H (kk (some [0, 1, 2, 3, 8, 9]) kn [(2, (some [0, 1, 2, 3, 8]), k2), (1, (some [0, 1, 2, 3, 8]), k1), (0, none, (fun s H => R (([] : List Nat).map fun t => s.getD t (.tup [])) H))] R []) = N294_5b ρ call yc lim k x0 x1 x2 x3 x8 x9 H (fun x0 x1 x2 x3 x8 x9 H => kn (sp 53 [(0, x0), (1, x1), (2, x2), (3, x3), (8, x8), (9, x9)]) H) (fun x0 x1 x2 x3 x8 H => k2 (sp 53 [(0, x0), (1, x1), (2, x2), (3, x3), (8, x8)]) H) := by
  kernel_rfl
noncomputable def N294_5 (ρ : Addr → Option Value) (call : CallF) (yc : YieldF) (lim k : Nat) (x0 x1 x2 x3 x8 x9 : AV) (H : Heap) (k2 : AV → AV → AV → AV → AV → Heap → Res) : Res :=
  loopL (fun (x : AV) H kn => N294_5b ρ call yc lim k x0 x1 x2 x3 x8 x H (fun _ _ _ _ _ x9 H => kn x9 H) k2) k x9 H
theorem N294_5_eq (ρ : Addr → Option Value) (call : CallF) (yc : YieldF) (lim k : Nat) (x0 x1 x2 x3 x8 x9 : AV) (H : Heap) (kn : KS) (k2 : KS) (k1 : KS) (R : List AV → Heap → Res) :
    evL (cx ρ) call yc false 294 lim k (Code.at [1, 0, 0, 1, 0, 0, 1, 0] c294) (sp 53 [(0, x0), (1, x1), (2, x2), (3, x3), (8, x8), (9, x9)]) H (kk (some [0, 1, 2, 3, 8]) kn [(2, (some [0, 1, 2, 3, 8]), k2), (1, (some [0, 1, 2, 3, 8]), k1), (0, none, (fun s H => R (([] : List Nat).map fun t => s.getD t (.tup [])) H))] R []) = N294_5 ρ call yc lim k x0 x1 x2 x3 x8 x9 H (fun x0 x1 x2 x3 x8 H => k2 (sp 53 [(0, x0), (1, x1), (2, x2), (3, x3), (8, x8)]) H) := by
  have e : Code.at [1, 0, 0, 1, 0, 0, 1, 0] c294 = .loop (Code.at [1, 0, 0, 1, 0, 0, 1, 0, 0] c294) := by kernel_rfl
  rw [e]
  unfold N294_5
  exact loop_node [0, 1, 2, 3, 8, 9] (fun x : AV => (sp 53 [(0, x0), (1, x1), (2, x2), (3, x3), (8, x8), (9, (x))])) (fun (x : AV) H kn => N294_5b ρ call yc lim k x0 x1 x2 x3 x8 x H (fun _ _ _ _ _ x9 H => kn x9 H) (fun x0 x1 x2 x3 x8 H => k2 (sp 53 [(0, x0), (1, x1), (2, x2), (3, x3), (8, x8)]) H)) (by kernel_rfl) (fun x => by kernel_rfl) (fun x H kn => N294_5b_eq ρ call yc lim k x0 x1 x2 x3 x8 (x) H kn k2 k1 R) x9 (sp 53 [(0, x0), (1, x1), (2, x2), (3, x3), (8, x8), (9, x9)]) H (by kernel_rfl)
noncomputable def N294_4 (ρ : Addr → Option Value) (call : CallF) (yc : YieldF) (lim k : Nat) (x0 x1 x2 x3 x8 x9 : AV) (H : Heap) (kn : AV → AV → AV → AV → AV → Heap → Res) : Res :=
  N294_5 ρ call yc lim k x0 x1 x2 x3 x8 x9 H kn
theorem N294_4_x (ρ : Addr → Option Value) (call : CallF) (yc : YieldF) (lim k : Nat) (J : CodeF) (x0 x1 x2 x3 x8 x9 : AV) (H : Heap) (kn : KS) (k1 : KS) (R : List AV → Heap → Res) :
    evX (cx ρ) call yc false 294 lim k J (Code.at [1, 0, 0, 1, 0, 0, 1] c294) (sp 53 [(0, x0), (1, x1), (2, x2), (3, x3), (8, x8), (9, x9)]) H (kk (some [0, 1, 2, 3, 8]) kn [(1, (some [0, 1, 2, 3, 8]), k1), (0, none, (fun s H => R (([] : List Nat).map fun t => s.getD t (.tup [])) H))] R []) =
  J (Code.at [1, 0, 0, 1, 0, 0, 1, 0] c294) (sp 53 [(0, x0), (1, x1), (2, x2), (3, x3), (8, x8), (9, x9)]) H (kk (some [0, 1, 2, 3, 8]) kn [(2, (some [0, 1, 2, 3, 8]), kn), (1, (some [0, 1, 2, 3, 8]), k1), (0, none, (fun s H => R (([] : List Nat).map fun t => s.getD t (.tup [])) H))] R []) := by
  kernel_rfl
theorem N294_4_eq (ρ : Addr → Option Value) (call : CallF) (yc : YieldF) (lim k : Nat) (x0 x1 x2 x3 x8 x9 : AV) (H : Heap) (kn : KS) (k1 : KS) (R : List AV → Heap → Res) :
    evL (cx ρ) call yc false 294 lim k (Code.at [1, 0, 0, 1, 0, 0, 1] c294) (sp 53 [(0, x0), (1, x1), (2, x2), (3, x3), (8, x8), (9, x9)]) H (kk (some [0, 1, 2, 3, 8]) kn [(1, (some [0, 1, 2, 3, 8]), k1), (0, none, (fun s H => R (([] : List Nat).map fun t => s.getD t (.tup [])) H))] R []) = N294_4 ρ call yc lim k x0 x1 x2 x3 x8 x9 H (fun x0 x1 x2 x3 x8 H => kn (sp 53 [(0, x0), (1, x1), (2, x2), (3, x3), (8, x8)]) H) := by
  rw [evL_X, N294_4_x]
  simp only [← evL_X, N294_4, N294_5_eq]
noncomputable def N294_2b (ρ : Addr → Option Value) (call : CallF) (yc : YieldF) (lim k : Nat) (x0 x1 x2 x3 x8 : AV) (H : Heap) (kn : AV → AV → AV → AV → AV → Heap → Res) (R : List AV → Heap → Res) : Res :=
  purK (binA Tryz.prog H .lss 3 x8 x2) fun x14_1 =>
  condK x14_1
  (
    N294_4 ρ call yc lim k x0 x1 x2 x3 x8 x8 H (fun x0_1 x1_1 x2_1 x3_1 x8_1 H =>
      N294_3 ρ call yc lim k x0_1 x1_1 x2_1 x3_1 x8_1 H kn))
  (
    R [] H)
theorem N294_2b_x (ρ : Addr → Option Value) (call : CallF) (yc : YieldF) (lim k : Nat) (J : CodeF) (x0 x1 x2 x3 x8 : AV) (H : Heap) (kn : KS) (R : List AV → Heap → Res) :
    evX (cx ρ) call yc false 294 lim k J (Code.at [1, 0, 0] c294) (sp 53 [(0, x0), (1, x1), (2, x2), (3, x3), (8, x8)]) H (kk (some [0, 1, 2, 3, 8]) kn [(0, none, (fun s H => R (([] : List Nat).map fun t => s.getD t (.tup [])) H))] R []) =
  purK (binA Tryz.prog H .lss 3 x8 x2) fun x14_1 =>
  condK x14_1
  (
    J (Code.at [1, 0, 0, 1, 0, 0, 1] c294) (sp 53 [(0, x0), (1, x1), (2, x2), (3, x3), (8, x8), (9, x8)]) H (kk (some [0, 1, 2, 3, 8]) (fun s H => J (Code.at [1, 0, 0, 1, 1] c294) s H (kk (some [0, 1, 2, 3, 8]) kn [(0, none, (fun s H => R (([] : List Nat).map fun t => s.getD t (.tup [])) H))] R [])) [(1, (some [0, 1, 2, 3, 8]), (fun s H => J (Code.at [1, 0, 0, 1, 1] c294) s H (kk (some [0, 1, 2, 3, 8]) kn [(0, none, (fun s H => R (([] : List Nat).map fun t => s.getD t (.tup [])) H))] R []))), (0, none, (fun s H => R (([] : List Nat).map fun t => s.getD t (.tup [])) H))] R []))
  (
    R [] H) := by
  kernel_rfl
theorem N294_2b_eq (ρ : Addr → Option Value) (call : CallF) (yc : YieldF) (lim k : Nat) (x0 x1 x2 x3 x8 : AV) (H : Heap) (kn : KS) (R : List AV → Heap → Res) :
    evL (cx ρ) call yc false 294 lim k (Code.at [1, 0, 0] c294) (sp 53 [(0, x0), (1, x1), (2, x2), (3, x3), (8, x8)]) H (kk (some [0, 1, 2, 3, 8]) kn [(0, none, (fun s H => R (([] : List Nat).map fun t => s.getD t (.tup [])) H))] R []) = N294_2b ρ call yc lim k x0 x1 x2 x3 x8 H (fun x0 x1 x2 x3 x8 H => kn (sp 53 [(0, x0), (1, x1), (2, x2), (3, x3), (8, x8)]) H) R := by
  rw [evL_X, N294_2b_x]
  simp only [← evL_X, N294_2b, N294_3_eq, N294_4_eq]
noncomputable def N294_2 (ρ : Addr → Option Value) (call : CallF) (yc : YieldF) (lim k : Nat) (x0 x1 x2 x3 x8 : AV) (H : Heap) (R : List AV → Heap → Res) : Res :=
  loopL (fun (x : AV) H kn => N294_2b ρ call yc lim k x0 x1 x2 x3 x H (fun _ _ _ _ x8 H => kn x8 H) R) k x8 H
theorem N294_2_eq (ρ : Addr → Option Value) (call : CallF) (yc : YieldF) (lim k : Nat) (x0 x1 x2 x3 x8 : AV) (H : Heap) (R : List AV → Heap → Res) :
    evL (cx ρ) call yc false 294 lim k (Code.at [1, 0] c294) (sp 53 [(0, x0), (1, x1), (2, x2), (3, x3), (8, x8)]) H (kk none (fun s H => R (([] : List Nat).map fun t => s.getD t (.tup [])) H) [(0, none, (fun s H => R (([] : List Nat).map fun t => s.getD t (.tup [])) H))] R []) = N294_2 ρ call yc lim k x0 x1 x2 x3 x8 H R := by
  have e : Code.at [1, 0] c294 = .loop (Code.at [1, 0, 0] c294) := by kernel_rfl
  rw [e]
  unfold N294_2
  exact loop_node [0, 1, 2, 3, 8] (fun x : AV => (sp 53 [(0, x0), (1, x1), (2, x2), (3, x3), (8, (x))])) (fun (x : AV) H kn => N294_2b ρ call yc lim k x0 x1 x2 x3 x H (fun _ _ _ _ x8 H => kn x8 H) R) (by kernel_rfl) (fun x => by kernel_rfl) (fun x H kn => N294_2b_eq ρ call yc lim k x0 x1 x2 x3 (x) H kn R) x8 (sp 53 [(0, x0), (1, x1), (2, x2), (3, x3), (8, x8)]) H (by kernel_rfl)
noncomputable def N294_1 (ρ : Addr → Option Value) (call : CallF) (yc : YieldF) (lim k : Nat) (x0 x1 x2 x3 x8 : AV) (H : Heap) (R : List AV → Heap → Res) : Res :=
  N294_2 ρ call yc lim k x0 x1 x2 x3 x8 H R
theorem N294_1_x (ρ : Addr → Option Value) (call : CallF) (yc : YieldF) (lim k : Nat) (J : CodeF) (x0 x1 x2 x3 x8 : AV) (H : Heap) (R : List AV → Heap → Res) :
    evX (cx ρ) call yc false 294 lim k J (Code.at [1] c294) (sp 53 [(0, x0), (1, x1), (2, x2), (3, x3), (8, x8)]) H (kk none (fun s H => R (([] : List Nat).map fun t => s.getD t (.tup [])) H) [] R []) =
  J (Code.at [1, 0] c294) (sp 53 [(0, x0), (1, x1), (2, x2), (3, x3), (8, x8)]) H (kk none (fun s H => R (([] : List Nat).map fun t => s.getD t (.tup [])) H) [(0, none, (fun s H => R (([] : List Nat).map fun t => s.getD t (.tup [])) H))] R []) := by
  kernel_rfl
theorem N294_1_eq (ρ : Addr → Option Value) (call : CallF) (yc : YieldF) (lim k : Nat) (x0 x1 x2 x3 x8 : AV) (H : Heap) (R : List AV → Heap → Res) :
    evL (cx ρ) call yc false 294 lim k (Code.at [1] c294) (sp 53 [(0, x0), (1, x1), (2, x2), (3, x3), (8, x8)]) H (kk none (fun s H => R (([] : List Nat).map fun t => s.getD t (.tup [])) H) [] R []) = N294_1 ρ call yc lim k x0 x1 x2 x3 x8 H R := by
  rw [evL_X, N294_1_x]
  simp only [← evL_X, N294_1, N294_2_eq]
noncomputable def L294 (ρ : Addr → Option Value) (call : CallF) (yc : YieldF) (lim k : Nat) (x0 x1 x2 x3 : AV) (H : Heap) : Res :=
  purK (binA Tryz.prog H .add 3 x1 (.int .i64 1)) fun x11 =>
  N294_1 ρ call yc lim k x0 x1 x2 x3 x11 H retK
theorem L294_x (ρ : Addr → Option Value) (call : CallF) (yc : YieldF) (lim k : Nat) (J : CodeF) (x0 x1 x2 x3 : AV) (H : Heap) :
    evX (cx ρ) call yc false 294 lim k J c294 [x0, x1, x2, x3, (.tup []), (.tup []), (.tup []), (.tup []), (.tup []), (.tup []), (.tup []), (.tup []), (.tup []), (.tup []), (.tup []), (.tup []), (.tup []), (.tup []), (.tup []), (.tup []), (.tup []), (.tup []), (.tup []), (.tup []), (.tup []), (.tup []), (.tup []), (.tup []), (.tup []), (.tup []), (.tup []), (.tup []), (.tup []), (.tup []), (.tup []), (.tup []), (.tup []), (.tup []), (.tup []), (.tup []), (.tup []), (.tup []), (.tup []), (.tup []), (.tup []), (.tup []), (.tup []), (.tup []), (.tup []), (.tup []), (.tup []), (.tup []), (.tup [])] H (kk none (fun s H => retK (([] : List Nat).map fun t => s.getD t (.tup [])) H) [] retK []) =
  purK (binA Tryz.prog H .add 3 x1 (.int .i64 1)) fun x11 =>
  J (Code.at [1] c294) (sp 53 [(0, x0), (1, x1), (2, x2), (3, x3), (8, x11)]) H (kk none (fun s H => retK (([] : List Nat).map fun t => s.getD t (.tup [])) H) [] retK []) := by
  kernel_rfl
theorem G294 (ρ : Addr → Option Value) (call : CallF) (yc : YieldF) (lim k : Nat) (x0 x1 x2 x3 : AV) (H : Heap) :
    evL (cx ρ) call yc false 294 lim k c294 [x0, x1, x2, x3, (.tup []), (.tup []), (.tup []), (.tup []), (.tup []), (.tup []), (.tup []), (.tup []), (.tup []), (.tup []), (.tup []), (.tup []), (.tup []), (.tup []), (.tup []), (.tup []), (.tup []), (.tup []), (.tup []), (.tup []), (.tup []), (.tup []), (.tup []), (.tup []), (.tup []), (.tup []), (.tup []), (.tup []), (.tup []), (.tup []), (.tup []), (.tup []), (.tup []), (.tup []), (.tup []), (.tup []), (.tup []), (.tup []), (.tup []), (.tup []), (.tup []), (.tup []), (.tup []), (.tup []), (.tup []), (.tup []), (.tup []), (.tup []), (.tup [])] H (kk none (fun s H => retK (([] : List Nat).map fun t => s.getD t (.tup [])) H) [] retK []) = L294 ρ call yc lim k x0 x1 x2 x3 H := by
  rw [evL_X, L294_x]
  simp only [← evL_X, L294, N294_1_eq]
theorem E294 (ρ : Addr → Option Value) (k lim : Nat) (x0 x1 x2 x3 : AV) (H : Heap) : evCall (cx ρ) (k + 1) lim 294 [x0, x1, x2, x3] H = L294 ρ (evCall (cx ρ) k) (evCY (cx ρ) k).2 lim k x0 x1 x2 x3 H := by
  rw [evCall_body (cx ρ) k lim 294 _ H Tryz.f294 c294 [] (by kernel_rfl) (by kernel_rfl) (by kernel_rfl) (by kernel_rfl) (by kernel_rfl)]
  exact G294 ρ (evCall (cx ρ) k) (evCY (cx ρ) k).2 lim k x0 x1 x2 x3 H
-- (*haycroft/tail.Tail).Begin
noncomputable def c298 : Code := Code.of Tryz.prog 298
noncomputable def L298 (ρ : Addr → Option Value) (call : CallF) (yc : YieldF) (lim k : Nat) (x0 x1 : AV) (H : Heap) : Res :=
  purK (binA Tryz.prog H .eql 119 x0 .nilp) fun x7 =>
  condK x7
  (
    retK [(.int .i64 2)] H)
  (
    purK (binA Tryz.prog H .lss 3 x1 (.int .i64 0)) fun x10 =>
    purK (gPur (wantV x10 false) (some x1)) fun x12 =>
    purK (gPur (wantV x10 false) (some x0)) fun x13 =>
    purK (gPur (wantV x10 false) (nilChkA x13)) fun x14 =>
    purK (gPur (wantV x10 false) (addA 1 x14)) fun x15 =>
    purK (gPur (wantV x10 false) (ld1 ρ H x15)) fun x16 =>
    purK (gPur (wantV x10 false) (binA Tryz.prog H .geq 3 x12 x16)) fun x17 =>
    purK (pickA x10 (.bool true) x17) fun x18 =>
    condK x18
    (
      retK [(.int .i64 1)] H)
    (
      purK (nilChkA x0) fun x20 =>
      purK (addA 2 x20) fun x21 =>
      purK (ld1 ρ H x21) fun x22 =>
      resK (call lim 344 [x1] H) fun x25 H => bif (agn (ld1 ρ H x21) x22 && true) then
        resK (call lim 343 [x1, x25] H) fun x26 H => bif (agn (ld1 ρ H x21) x22 && true) then
          resK (call lim 162 [x22, (.int .i64 0), x26] H) fun x27 H =>
          retK [x27] H
        else none
      else none))
theorem G298 (ρ : Addr → Option Value) (call : CallF) (yc : YieldF) (lim k : Nat) (x0 x1 : AV) (H : Heap) :
    evL (cx ρ) call yc false 298 lim k c298 [x0, x1, (.tup []), (.tup []), (.tup []), (.tup []), (.tup []), (.tup []), (.tup []), (.tup []), (.tup []), (.tup []), (.tup []), (.tup []), (.tup []), (.tup []), (.tup []), (.tup []), (.tup []), (.tup []), (.tup []), (.tup []), (.tup []), (.tup []), (.tup []), (.tup []), (.tup []), (.tup [])] H (kk none (fun s H => retK (([4] : List Nat).map fun t => s.getD t (.tup [])) H) [] retK [4]) = L298 ρ call yc lim k x0 x1 H := by
  kernel_rfl
theorem E298 (ρ : Addr → Option Value) (k lim : Nat) (x0 x1 : AV) (H : Heap) : evCall (cx ρ) (k + 1) lim 298 [x0, x1] H = L298 ρ (evCall (cx ρ) k) (evCY (cx ρ) k).2 lim k x0 x1 H := by
  rw [evCall_body (cx ρ) k lim 298 _ H Tryz.f298 c298 [4] (by kernel_rfl) (by kernel_rfl) (by kernel_rfl) (by kernel_rfl) (by kernel_rfl)]
  exact G298 ρ (evCall (cx ρ) k) (evCY (cx ρ) k).2 lim k x0 x1 H
-- (*haycroft/cell.Row).CAS
noncomputable def c301 : Code := Code.of Tryz.prog 301
noncomputable def N301_1 (ρ : Addr → Option Value) (call : CallF) (yc : YieldF) (lim k : Nat) (x11 : AV) (H : Heap) (R : List AV → Heap → Res) : Res :=
  R [x11, (.int .i64 0)] H
theorem N301_1_eq (ρ : Addr → Option Value) (call : CallF) (yc : YieldF) (lim k : Nat) (x11 : AV) (H : Heap) (R : List AV → Heap → Res) :
    evL (cx ρ) call yc false 301 lim k (Code.at [1, 1, 1, 1] c301) (sp 37 [(11, x11)]) H (kk none (fun s H => R (([8, 9] : List Nat).map fun t => s.getD t (.tup [])) H) [] R [8, 9]) = N301_1 ρ call yc lim k x11 H R := by
  kernel_rfl
noncomputable def L301 (ρ : Addr → Option Value) (call : CallF) (yc : YieldF) (lim k : Nat) (x0 x1 x2 x3 : AV) (H : Heap) : Res :=
  resK (call lim 246 [x0, x1] H) fun x14 H =>
  purK (binA Tryz.prog H .neq 30 x14 (.int .i64 0)) fun x16 =>
  condK x16
  (
    retK [(.bool false), x14] H)
  (
    purK (nilChkA x0) fun x19 =>
    purK (addA 0 x19) fun x20 =>
    purK (ld1 ρ H x20) fun x21 =>
    purK (ixS 1 x21 x1) fun x23 =>
    resK (call lim 346 [x23, x2, x3] H) fun x26 H =>
    condK x26
    (
      purK (nilChkA x0) fun x29 =>
      purK (addA 1 x29) fun x30 =>
      resK (call lim 347 [x30, (.int .i64 1)] H) fun x31 H =>
      N301_1 ρ call yc lim k x26 H retK)
    (
      purK (nilChkA x0) fun x33 =>
      purK (addA 2 x33) fun x34 =>
      resK (call lim 347 [x34, (.int .i64 1)] H) fun x35 H =>
      N301_1 ρ call yc lim k x26 H retK))
theorem L301_x (ρ : Addr → Option Value) (call : CallF) (yc : YieldF) (lim k : Nat) (J : CodeF) (x0 x1 x2 x3 : AV) (H : Heap) :
    evX (cx ρ) call yc false 301 lim k J c301 [x0, x1, x2, x3, (.tup []), (.tup []), (.tup []), (.tup []), (.tup []), (.tup []), (.tup []), (.tup []), (.tup []), (.tup []), (.tup []), (.tup []), (.tup []), (.tup []), (.tup []), (.tup []), (.tup []), (.tup []), (.tup []), (.tup []), (.tup []), (.tup []), (.tup []), (.tup []), (.tup []), (.tup []), (.tup []), (.tup []), (.tup []), (.tup []), (.tup []), (.tup []), (.tup [])] H (kk none (fun s H => retK (([8, 9] : List Nat).map fun t => s.getD t (.tup [])) H) [] retK [8, 9]) =
  resK (call lim 246 [x0, x1] H) fun x14 H =>
  purK (binA Tryz.prog H .neq 30 x14 (.int .i64 0)) fun x16 =>
  condK x16
  (
    retK [(.bool false), x14] H)
  (
    purK (nilChkA x0) fun x19 =>
    purK (addA 0 x19) fun x20 =>
    purK (ld1 ρ H x20) fun x21 =>
    purK (ixS 1 x21 x1) fun x23 =>
    resK (call lim 346 [x23, x2, x3] H) fun x26 H =>
    condK x26
    (
      purK (nilChkA x0) fun x29 =>
      purK (addA 1 x29) fun x30 =>
      resK (call lim 347 [x30, (.int .i64 1)] H) fun x31 H =>
      J (Code.at [1, 1, 1, 1] c301) (sp 37 [(11, x26)]) H (kk none (fun s H => retK (([8, 9] : List Nat).map fun t => s.getD t (.tup [])) H) [] retK [8, 9]))
    (
      purK (nilChkA x0) fun x33 =>
      purK (addA 2 x33) fun x34 =>
      resK (call lim 347 [x34, (.int .i64 1)] H) fun x35 H =>
      J (Code.at [1, 1, 1, 1] c301) (sp 37 [(11, x26)]) H (kk none (fun s H => retK (([8, 9] : List Nat).map fun t => s.getD t (.tup [])) H) [] retK [8, 9]))) := by
  kernel_rfl
theorem G301 (ρ : Addr → Option Value) (call : CallF) (yc : YieldF) (lim k : Nat) (x0 x1 x2 x3 : AV) (H : Heap) :
    evL (cx ρ) call yc false 301 lim k c301 [x0, x1, x2, x3, (.tup []), (.tup []), (.tup []), (.tup []), (.tup []), (.tup []), (.tup []), (.tup []), (.tup []), (.tup []), (.tup []), (.tup []), (.tup []), (.tup []), (.tup []), (.tup []), (.tup []), (.tup []), (.tup []), (.tup []), (.tup []), (.tup []), (.tup []), (.tup []), (.tup []), (.tup []), (.tup []), (.tup []), (.tup []), (.tup []), (.tup []), (.tup []), (.tup [])] H (kk none (fun s H => retK (([8, 9] : List Nat).map fun t => s.getD t (.tup [])) H) [] retK [8, 9]) = L301 ρ call yc lim k x0 x1 x2 x3 H := by
  rw [evL_X, L301_x]
  simp only [← evL_X, L301, N301_1_eq]
theorem E301 (ρ : Addr → Option Value) (k lim : Nat) (x0 x1 x2 x3 : AV) (H : Heap) : evCall (cx ρ) (k + 1) lim 301 [x0, x1, x2, x3] H = L301 ρ (evCall (cx ρ) k) (evCY (cx ρ) k).2 lim k x0 x1 x2 x3 H := by
  rw [evCall_body (cx ρ) k lim 301 _ H Tryz.f301 c301 [8, 9] (by kernel_rfl) (by kernel_rfl) (by kernel_rfl) (by kernel_rfl) (by kernel_rfl)]
  exact G301 ρ (evCall (cx ρ) k) (evCY (cx ρ) k).2 lim k x0 x1 x2 x3 H
-- haycroft/mix.Bucket
noncomputable def c302 : Code := Code.of Tryz.prog 302
noncomputable def L302 (ρ : Addr → Option Value) (call : CallF) (yc : YieldF) (lim k : Nat) (x0 x1 : AV) (H : Heap) : Res :=
  resK (call lim 87 [x1] H) fun x6 H =>
  purK (unA .not x6) fun x7 =>
  condK x7
  (
    retK [(.int .i64 0)] H)
  (
    purK (binA Tryz.prog H .sub 3 x1 (.int .i64 1)) fun x10 =>
    purK (cvI .u64 x10) fun x11 =>
    purK (binA Tryz.prog H .and 22 x0 x11) fun x12 =>
    purK (cvI .i64 x12) fun x13 =>
    retK [x13] H)
theorem G302 (ρ : Addr → Option Value) (call : CallF) (yc : YieldF) (lim k : Nat) (x0 x1 : AV) (H : Heap) :
    evL (cx ρ) call yc false 302 lim k c302 [x0, x1, (.tup []), (.tup []), (.tup []), (.tup []), (.tup []), (.tup []), (.tup []), (.tup []), (.tup []), (.tup []), (.tup []), (.tup [])] H (kk none (fun s H => retK (([4] : List Nat).map fun t => s.getD t (.tup [])) H) [] retK [4]) = L302 ρ call yc lim k x0 x1 H := by
  kernel_rfl
theorem E302 (ρ : Addr → Option Value) (k lim : Nat) (x0 x1 : AV) (H : Heap) : evCall (cx ρ) (k + 1) lim 302 [x0, x1] H = L302 ρ (evCall (cx ρ) k) (evCY (cx ρ) k).2 lim k x0 x1 H := by
  rw [evCall_body (cx ρ) k lim 302 _ H Tryz.f302 c302 [4] (by kernel_rfl) (by kernel_rfl) (by kernel_rfl) (by kernel_rfl) (by kernel_rfl)]
  exact G302 ρ (evCall (cx ρ) k) (evCY (cx ρ) k).2 lim k x0 x1 H
-- (*haycroft/index.Index).Look$1
noncomputable def c303 : Code := Code.of Tryz.prog 303
noncomputable def L303 (ρ : Addr → Option Value) (call : CallF) (yc : YieldF) (lim k : Nat) (x0 x1 x2 : AV) (H : Heap) : Res :=
  purK (ld1 ρ H x1) fun x5 =>
  purK (nilChkA x5) fun x6 =>
  purK (addA 2 x6) fun x7 =>
  purK (ld1 ρ H x7) fun x8 =>
  purK (ld1 ρ H x2) fun x11 =>
  resK (call lim 97 [x8, x0] H) fun x10 H => bif (agn (ld1 ρ H x2) x11 && true) then
    resK (call lim 305 [x11] H) fun x12 H =>
    resK (call lim 304 [x10, x12] H) fun x13 H =>
    retK [x13] H
  else none
theorem G303 (ρ : Addr → Option Value) (call : CallF) (yc : YieldF) (lim k : Nat) (x0 x1 x2 : AV) (H : Heap) :
    evL (cx ρ) call yc false 303 lim k c303 [x0, x1, x2, (.tup []), (.tup []), (.tup []), (.tup []), (.tup []), (.tup []), (.tup []), (.tup []), (.tup []), (.tup []), (.tup [])] H (kk none (fun s H => retK (([4] : List Nat).map fun t => s.getD t (.tup [])) H) [] retK [4]) = L303 ρ call yc lim k x0 x1 x2 H := by
  kernel_rfl
theorem E303 (ρ : Addr → Option Value) (k lim : Nat) (x0 x1 x2 : AV) (H : Heap) : evCall (cx ρ) (k + 1) lim 303 [x0, x1, x2] H = L303 ρ (evCall (cx ρ) k) (evCY (cx ρ) k).2 lim k x0 x1 x2 H := by
  rw [evCall_body (cx ρ) k lim 303 _ H Tryz.f303 c303 [4] (by kernel_rfl) (by kernel_rfl) (by kernel_rfl) (by kernel_rfl) (by kernel_rfl)]
  exact G303 ρ (evCall (cx ρ) k) (evCY (cx ρ) k).2 lim k x0 x1 x2 H
-- haycroft/entry.Has
noncomputable def c304 : Code := Code.of Tryz.prog 304
noncomputable def L304 (ρ : Addr → Option Value) (call : CallF) (yc : YieldF) (lim k : Nat) (x0 x1 : AV) (H : Heap) : Res :=
  resK (call lim 273 [x0] H) fun x9 H =>
  purK (extA 0 x9) fun x10 =>
  purK (extA 1 x9) fun x11 =>
  effK H (some (.ptr H.sz 0 0, .new (newCells 366 false [.int .u64 0, .int .u64 0, .bool false]))) fun x5 H =>
  effK H (stA lim H 3 x5 x10) fun _ H =>
  purK (binA Tryz.prog H .eql 30 x11 (.int .i64 0)) fun x13 =>
  purK (gPur (wantV x13 true) (addA 1 x5)) fun x15 =>
  purK (gPur (wantV x13 true) (ld1 ρ H x15)) fun x16 =>
  purK (gPur (wantV x13 true) (some x1)) fun x17 =>
  purK (gPur (wantV x13 true) (binA Tryz.prog H .eql 22 x16 x17)) fun x18 =>
  purK (pickA x13 x18 (.bool false)) fun x19 =>
  retK [x19] H
theorem G304 (ρ : Addr → Option Value) (call : CallF) (yc : YieldF) (lim k : Nat) (x0 x1 : AV) (H : Heap) :
    evL (cx ρ) call yc false 304 lim k c304 [x0, x1, (.tup []), (.tup []), (.tup []), (.tup []), (.tup []), (.tup []), (.tup []), (.tup []), (.tup []), (.tup []), (.tup []), (.tup []), (.tup []), (.tup []), (.tup []), (.tup []), (.tup []), (.tup [])] H (kk none (fun s H => retK (([4] : List Nat).map fun t => s.getD t (.tup [])) H) [] retK [4]) = L304 ρ call yc lim k x0 x1 H := by
  kernel_rfl
theorem E304 (ρ : Addr → Option Value) (k lim : Nat) (x0 x1 : AV) (H : Heap) : evCall (cx ρ) (k + 1) lim 304 [x0, x1] H = L304 ρ (evCall (cx ρ) k) (evCY (cx ρ) k).2 lim k x0 x1 H := by
  rw [evCall_body (cx ρ) k lim 304 _ H Tryz.f304 c304 [4] (by kernel_rfl) (by kernel_rfl) (by kernel_rfl) (by kernel_rfl) (by kernel_rfl)]
  exact G304 ρ (evCall (cx ρ) k) (evCY (cx ρ) k).2 lim k x0 x1 H
end Go.Proofs.YtdiafdmgenefnaaGreat
