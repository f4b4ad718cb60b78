/- Functions, lifted. Printed by a program of this repo. -/
import Derived.Test.YtbnhlcgbigeceaaGreatLfTab
set_option linter.unusedVariables false
set_option linter.unusedSimpArgs false
set_option maxRecDepth 100000
set_option maxHeartbeats 4000000
namespace Go.Proofs.YtbnhlcgbigeceaaGreat
open Go.Ev Go.RowKit
-- (*sync/atomic.Uint64).Load
noncomputable def c150 : Code := Code.of Tryz.prog 150
noncomputable def L150 (ρ : Addr → Option Value) (call : CallF) (yc : YieldF) (lim k : Nat) (x0 : AV) (H : Heap) : Res :=
  purK (nilChkA x0) fun x4 =>
  purK (fieldAddrA Tryz.prog 227 x4 2) fun x5 =>
  resK (call lim 213 [x5] H) fun x6 H =>
  retK [x6] H
theorem G150 (ρ : Addr → Option Value) (call : CallF) (yc : YieldF) (lim k : Nat) (x0 : AV) (H : Heap) :
    evL (cx ρ) call yc false 150 lim k c150 [x0, (.tup []), (.tup []), (.tup []), (.tup []), (.tup []), (.tup [])] H (kk none (fun s H => retK (([2] : List Nat).map fun t => s.getD t (.tup [])) H) [] retK [2]) = L150 ρ call yc lim k x0 H := by
  kernel_rfl
theorem E150 (ρ : Addr → Option Value) (k lim : Nat) (x0 : AV) (H : Heap) : evCall (cx ρ) (k + 1) lim 150 [x0] H = L150 ρ (evCall (cx ρ) k) (evCY (cx ρ) k).2 lim k x0 H := by
  rw [evCall_body (cx ρ) k lim 150 _ H Tryz.f150 c150 [2] (by kernel_rfl) (by kernel_rfl) (by kernel_rfl) (by kernel_rfl) (by kernel_rfl)]
  exact G150 ρ (evCall (cx ρ) k) (evCY (cx ρ) k).2 lim k x0 H
-- haycroft/field.Right
noncomputable def c151 : Code := Code.of Tryz.prog 151
noncomputable def L151 (ρ : Addr → Option Value) (call : CallF) (yc : YieldF) (lim k : Nat) (x0 x1 : AV) (H : Heap) : Res :=
  purK (binA Tryz.prog H .geq 3 x0 (.int .i64 0)) fun x6 =>
  purK (gPur (wantV x6 true) (some x0)) fun x8 =>
  purK (gPur (wantV x6 true) (binA Tryz.prog H .lss 3 x8 (.int .i64 64))) fun x9 =>
  purK (pickA x6 x9 (.bool false)) fun x10 =>
  purK (gPur (wantV x10 true) (some x1)) fun x12 =>
  purK (gPur (wantV x10 true) (binA Tryz.prog H .geq 3 x12 (.int .i64 1))) fun x13 =>
  purK (pickA x10 x13 (.bool false)) fun x14 =>
  purK (gPur (wantV x14 true) (some x1)) fun x16 =>
  purK (gPur (wantV x14 true) (some x0)) fun x17 =>
  purK (gPur (wantV x14 true) (binA Tryz.prog H .sub 3 (.int .i64 64) x17)) fun x18 =>
  purK (gPur (wantV x14 true) (binA Tryz.prog H .leq 3 x16 x18)) fun x19 =>
  purK (pickA x14 x19 (.bool false)) fun x20 =>
  retK [x20] H
theorem G151 (ρ : Addr → Option Value) (call : CallF) (yc : YieldF) (lim k : Nat) (x0 x1 : AV) (H : Heap) :
    evL (cx ρ) call yc false 151 lim k c151 [x0, x1, (.tup []), (.tup []), (.tup []), (.tup []), (.tup []), (.tup []), (.tup []), (.tup []), (.tup []), (.tup []), (.tup []), (.tup []), (.tup []), (.tup []), (.tup []), (.tup []), (.tup []), (.tup []), (.tup [])] H (kk none (fun s H => retK (([4] : List Nat).map fun t => s.getD t (.tup [])) H) [] retK [4]) = L151 ρ call yc lim k x0 x1 H := by
  kernel_rfl
theorem E151 (ρ : Addr → Option Value) (k lim : Nat) (x0 x1 : AV) (H : Heap) : evCall (cx ρ) (k + 1) lim 151 [x0, x1] H = L151 ρ (evCall (cx ρ) k) (evCY (cx ρ) k).2 lim k x0 x1 H := by
  rw [evCall_body (cx ρ) k lim 151 _ H Tryz.f151 c151 [4] (by kernel_rfl) (by kernel_rfl) (by kernel_rfl) (by kernel_rfl) (by kernel_rfl)]
  exact G151 ρ (evCall (cx ρ) k) (evCY (cx ρ) k).2 lim k x0 x1 H
-- haycroft/image.Heard
noncomputable def c152 : Code := Code.of Tryz.prog 152
noncomputable def L152 (ρ : Addr → Option Value) (call : CallF) (yc : YieldF) (lim k : Nat) (x0 : AV) (H : Heap) : Res :=
  effK H (allocA (cx ρ) H 236) fun x2 H =>
  purK (lenBA (cx ρ) H 9 x0) fun x8 =>
  purK (binA Tryz.prog H .neq 3 x8 (.int .i64 32)) fun x9 =>
  condK x9
  (
    purK (buildA Tryz.prog 236 []) fun x10 =>
    effK H ((storeA (cx ρ) lim H 236 x2 x10).map skips) fun _ H =>
    (retC (cx ρ) [some 236, none]) [x2, (.int .i64 4)] H)
  (
    resK (call lim 126 [x0] H) fun x12 H =>
    purK (buildA Tryz.prog 313 [(0, x12)]) fun x13 =>
    effK H (boxA H 313 x13) fun x14 H =>
    resK (call lim 214 [x14] H) fun x16 H =>
    resK (call lim 214 [x14] H) fun x18 H =>
    resK (call lim 215 [x14] H) fun x20 H =>
    purK (buildA Tryz.prog 236 [(0, x16), (1, x18), (2, x20)]) fun x21 =>
    effK H (allocA (cx ρ) H 236) fun x5 H =>
    effK H ((storeA (cx ρ) lim H 236 x5 x21).map skips) fun _ H =>
    resK (call lim 214 [x14] H) fun x23 H =>
    purK (nilChkA x14) fun x25 =>
    purK (fieldAddrA Tryz.prog 313 x25 1) fun x26 =>
    purK (loadA (cx ρ) H 4 x26) fun x27 =>
    purK (gPur (wantV x27 false) (some x23)) fun x29 =>
    purK (gPur (wantV x27 false) (fieldAddrA Tryz.prog 236 x5 0)) fun x30 =>
    purK (gPur (wantV x27 false) (loadA (cx ρ) H 3 x30)) fun x31 =>
    purK (gPur (wantV x27 false) (binA Tryz.prog H .neq 3 x29 x31)) fun x32 =>
    purK (pickA x27 (.bool true) x32) fun x33 =>
    purK (gPur (wantV x33 false) (loadA (cx ρ) H 236 x5)) fun x35 =>
    resK (gRes (wantV x33 false) H (call lim 216 [x35] H)) fun x36 H =>
    purK (gPur (wantV x33 false) (unA .not x36)) fun x37 =>
    purK (pickA x33 (.bool true) x37) fun x38 =>
    condK x38
    (
      purK (buildA Tryz.prog 236 []) fun x39 =>
      effK H ((storeA (cx ρ) lim H 236 x2 x39).map skips) fun _ H =>
      (retC (cx ρ) [some 236, none]) [x2, (.int .i64 4)] H)
    (
      purK (loadA (cx ρ) H 236 x5) fun x40 =>
      effK H ((storeA (cx ρ) lim H 236 x2 x40).map skips) fun _ H =>
      (retC (cx ρ) [some 236, none]) [x2, (.int .i64 0)] H))
theorem G152 (ρ : Addr → Option Value) (call : CallF) (yc : YieldF) (lim k : Nat) (x0 : AV) (H : Heap) :
    evL (cx ρ) call yc false 152 lim k c152 [x0, (.tup []), (.tup []), (.tup []), (.tup []), (.tup []), (.tup []), (.tup []), (.tup []), (.tup []), (.tup []), (.tup []), (.tup []), (.tup []), (.tup []), (.tup []), (.tup []), (.tup []), (.tup []), (.tup []), (.tup []), (.tup []), (.tup []), (.tup []), (.tup []), (.tup []), (.tup []), (.tup []), (.tup []), (.tup []), (.tup []), (.tup []), (.tup []), (.tup []), (.tup []), (.tup []), (.tup []), (.tup []), (.tup []), (.tup []), (.tup [])] H (kk none (fun s H => (retC (cx ρ) [some 236, none]) (([2, 3] : List Nat).map fun t => s.getD t (.tup [])) H) [] (retC (cx ρ) [some 236, none]) [2, 3]) = L152 ρ call yc lim k x0 H := by
  kernel_rfl
theorem E152 (ρ : Addr → Option Value) (k lim : Nat) (x0 : AV) (H : Heap) : evCall (cx ρ) (k + 1) lim 152 [x0] H = L152 ρ (evCall (cx ρ) k) (evCY (cx ρ) k).2 lim k x0 H := by
  rw [evCall_cells (cx ρ) k lim 152 _ H Tryz.f152 c152 [2, 3] [some 236, none] (by kernel_rfl) (by kernel_rfl) (by kernel_rfl) (by kernel_rfl) (by kernel_rfl) (by kernel_rfl)]
  exact G152 ρ (evCall (cx ρ) k) (evCY (cx ρ) k).2 lim k x0 H
-- slices.SortStableFunc[[]haycroft/api.Commit,haycroft/api.Commit]
noncomputable def c153 : Code := Code.of Tryz.prog 153
noncomputable def L153 (ρ : Addr → Option Value) (call : CallF) (yc : YieldF) (lim k : Nat) (x0 x1 : AV) (H : Heap) : Res :=
  purK (lenBA (cx ρ) H 234 x0) fun x6 =>
  resK (call lim 217 [x0, x6, x1] H) fun x8 H =>
  retK [] H
theorem G153 (ρ : Addr → Option Value) (call : CallF) (yc : YieldF) (lim k : Nat) (x0 x1 : AV) (H : Heap) :
    evL (cx ρ) call yc false 153 lim k c153 [x0, x1, (.tup []), (.tup []), (.tup []), (.tup []), (.tup []), (.tup []), (.tup [])] H (kk none (fun s H => retK (([] : List Nat).map fun t => s.getD t (.tup [])) H) [] retK []) = L153 ρ call yc lim k x0 x1 H := by
  kernel_rfl
theorem E153 (ρ : Addr → Option Value) (k lim : Nat) (x0 x1 : AV) (H : Heap) : evCall (cx ρ) (k + 1) lim 153 [x0, x1] H = L153 ρ (evCall (cx ρ) k) (evCY (cx ρ) k).2 lim k x0 x1 H := by
  rw [evCall_body (cx ρ) k lim 153 _ H Tryz.f153 c153 [] (by kernel_rfl) (by kernel_rfl) (by kernel_rfl) (by kernel_rfl) (by kernel_rfl)]
  exact G153 ρ (evCall (cx ρ) k) (evCY (cx ρ) k).2 lim k x0 x1 H
-- haycroft/hlog.New
noncomputable def c159 : Code := Code.of Tryz.prog 159
noncomputable def L159 (ρ : Addr → Option Value) (call : CallF) (yc : YieldF) (lim k : Nat) (x0 x1 : AV) (H : Heap) : Res :=
  effK H (boxA H 52 x0) fun x2 H =>
  purK (binA Tryz.prog H .eql 54 x1 .nilp) fun x13 =>
  condK x13
  (
    retK [.nilp, (.int .i64 2)] H)
  (
    purK (fieldAddrA Tryz.prog 52 x2 0) fun x15 =>
    purK (loadA (cx ρ) H 3 x15) fun x16 =>
    purK (fieldAddrA Tryz.prog 52 x2 2) fun x17 =>
    purK (loadA (cx ρ) H 3 x17) fun x18 =>
    resK (call lim 225 [x16, x18] H) fun x19 H =>
    purK (extA 0 x19) fun x20 =>
    purK (extA 1 x19) fun x21 =>
    purK (fieldAddrA Tryz.prog 52 x2 0) fun x23 =>
    purK (loadA (cx ρ) H 3 x23) fun x24 =>
    purK (fieldAddrA Tryz.prog 52 x2 1) fun x25 =>
    purK (loadA (cx ρ) H 3 x25) fun x26 =>
    resK (call lim 226 [x24, x26] H) fun x27 H =>
    purK (extA 0 x27) fun x28 =>
    purK (extA 1 x27) fun x29 =>
    purK (fieldAddrA Tryz.prog 52 x2 5) fun x31 =>
    purK (loadA (cx ρ) H 3 x31) fun x32 =>
    resK (call lim 227 [x32] H) fun x33 H =>
    purK (extA 0 x33) fun x34 =>
    purK (extA 1 x33) fun x35 =>
    purK (binA Tryz.prog H .neq 28 x21 (.int .i64 0)) fun x37 =>
    purK (gPur (wantV x37 false) (some x29)) fun x39 =>
    purK (gPur (wantV x37 false) (binA Tryz.prog H .neq 28 x39 (.int .i64 0))) fun x40 =>
    purK (pickA x37 (.bool true) x40) fun x41 =>
    purK (gPur (wantV x41 false) (some x35)) fun x43 =>
    purK (gPur (wantV x41 false) (binA Tryz.prog H .neq 28 x43 (.int .i64 0))) fun x44 =>
    purK (pickA x41 (.bool true) x44) fun x45 =>
    condK x45
    (
      retK [.nilp, (.int .i64 1)] H)
    (
      resK (call lim 228 [] H) fun x48 H =>
      resK (call lim 229 [] H) fun x50 H =>
      effK H (some (makeMapA H)) fun x52 H =>
      effK H (some (makeMapA H)) fun x53 H =>
      purK (buildA Tryz.prog 153 [(0, x20), (1, x28), (2, x48), (3, x34), (4, x50), (5, x1), (6, x52), (7, x53)]) fun x54 =>
      effK H (boxA H 153 x54) fun x55 H =>
      resK (call lim 230 [x28, (.int .i64 0)] H) fun x57 H =>
      retK [x55, x57] H))
theorem G159 (ρ : Addr → Option Value) (call : CallF) (yc : YieldF) (lim k : Nat) (x0 x1 : AV) (H : Heap) :
    evL (cx ρ) call yc false 159 lim k c159 [x0, x1, (.tup []), (.tup []), (.tup []), (.tup []), (.tup []), (.tup []), (.tup []), (.tup []), (.tup []), (.tup []), (.tup []), (.tup []), (.tup []), (.tup []), (.tup []), (.tup []), (.tup []), (.tup []), (.tup []), (.tup []), (.tup []), (.tup []), (.tup []), (.tup []), (.tup []), (.tup []), (.tup []), (.tup []), (.tup []), (.tup []), (.tup []), (.tup []), (.tup []), (.tup []), (.tup []), (.tup []), (.tup []), (.tup []), (.tup []), (.tup []), (.tup []), (.tup []), (.tup []), (.tup []), (.tup []), (.tup []), (.tup []), (.tup []), (.tup []), (.tup []), (.tup []), (.tup []), (.tup []), (.tup []), (.tup []), (.tup [])] H (kk none (fun s H => retK (([4, 5] : List Nat).map fun t => s.getD t (.tup [])) H) [] retK [4, 5]) = L159 ρ call yc lim k x0 x1 H := by
  kernel_rfl
theorem E159 (ρ : Addr → Option Value) (k lim : Nat) (x0 x1 : AV) (H : Heap) : evCall (cx ρ) (k + 1) lim 159 [x0, x1] H = L159 ρ (evCall (cx ρ) k) (evCY (cx ρ) k).2 lim k x0 x1 H := by
  rw [evCall_body (cx ρ) k lim 159 _ H Tryz.f159 c159 [4, 5] (by kernel_rfl) (by kernel_rfl) (by kernel_rfl) (by kernel_rfl) (by kernel_rfl)]
  exact G159 ρ (evCall (cx ρ) k) (evCY (cx ρ) k).2 lim k x0 x1 H
-- haycroft/index.New
noncomputable def c160 : Code := Code.of Tryz.prog 160
noncomputable def L160 (ρ : Addr → Option Value) (call : CallF) (yc : YieldF) (lim k : Nat) (x0 x1 : AV) (H : Heap) : Res :=
  resK (call lim 91 [x0] H) fun x10 H =>
  purK (unA .not x10) fun x11 =>
  purK (gPur (wantV x11 false) (some x1)) fun x13 =>
  purK (gPur (wantV x11 false) (binA Tryz.prog H .lss 3 x13 (.int .i64 0))) fun x14 =>
  purK (pickA x11 (.bool true) x14) fun x15 =>
  purK (gPur (wantV x15 false) (some x1)) fun x17 =>
  purK (gPur (wantV x15 false) (binA Tryz.prog H .gtr 3 x17 (.int .i64 64))) fun x18 =>
  purK (pickA x15 (.bool true) x18) fun x19 =>
  condK x19
  (
    retK [.nilp, (.int .i64 1)] H)
  (
    purK (binA Tryz.prog H .add 3 x0 x1) fun x23 =>
    purK (binA Tryz.prog H .mul 3 x23 (.int .i64 8)) fun x24 =>
    resK (call lim 231 [x24] H) fun x25 H =>
    purK (extA 0 x25) fun x26 =>
    purK (extA 1 x25) fun x27 =>
    purK (binA Tryz.prog H .neq 28 x27 (.int .i64 0)) fun x29 =>
    condK x29
    (
      retK [.nilp, x27] H)
    (
      resK (call lim 231 [(.int .i64 1)] H) fun x32 H =>
      purK (extA 0 x32) fun x33 =>
      purK (extA 1 x32) fun x34 =>
      purK (binA Tryz.prog H .neq 28 x34 (.int .i64 0)) fun x36 =>
      condK x36
      (
        retK [.nilp, x34] H)
      (
        purK (buildA Tryz.prog 162 [(0, x0), (1, x1), (2, x26), (3, x33)]) fun x42 =>
        effK H (boxA H 162 x42) fun x43 H =>
        retK [x43, (.int .i64 0)] H)))
theorem G160 (ρ : Addr → Option Value) (call : CallF) (yc : YieldF) (lim k : Nat) (x0 x1 : AV) (H : Heap) :
    evL (cx ρ) call yc false 160 lim k c160 [x0, x1, (.tup []), (.tup []), (.tup []), (.tup []), (.tup []), (.tup []), (.tup []), (.tup []), (.tup []), (.tup []), (.tup []), (.tup []), (.tup []), (.tup []), (.tup []), (.tup []), (.tup []), (.tup []), (.tup []), (.tup []), (.tup []), (.tup []), (.tup []), (.tup []), (.tup []), (.tup []), (.tup []), (.tup []), (.tup []), (.tup []), (.tup []), (.tup []), (.tup []), (.tup []), (.tup []), (.tup []), (.tup []), (.tup []), (.tup []), (.tup []), (.tup []), (.tup [])] H (kk none (fun s H => retK (([4, 5] : List Nat).map fun t => s.getD t (.tup [])) H) [] retK [4, 5]) = L160 ρ call yc lim k x0 x1 H := by
  kernel_rfl
theorem E160 (ρ : Addr → Option Value) (k lim : Nat) (x0 x1 : AV) (H : Heap) : evCall (cx ρ) (k + 1) lim 160 [x0, x1] H = L160 ρ (evCall (cx ρ) k) (evCY (cx ρ) k).2 lim k x0 x1 H := by
  rw [evCall_body (cx ρ) k lim 160 _ H Tryz.f160 c160 [4, 5] (by kernel_rfl) (by kernel_rfl) (by kernel_rfl) (by kernel_rfl) (by kernel_rfl)]
  exact G160 ρ (evCall (cx ρ) k) (evCY (cx ρ) k).2 lim k x0 x1 H
-- haycroft/session.New
noncomputable def c161 : Code := Code.of Tryz.prog 161
noncomputable def L161 (ρ : Addr → Option Value) (call : CallF) (yc : YieldF) (lim k : Nat) (x0 x1 x2 : AV) (H : Heap) : Res :=
  purK (binA Tryz.prog H .eql 84 x0 .nilp) fun x10 =>
  purK (gPur (wantV x10 false) (some x1)) fun x12 =>
  purK (gPur (wantV x10 false) (binA Tryz.prog H .eql 95 x12 .nilp)) fun x13 =>
  purK (pickA x10 (.bool true) x13) fun x14 =>
  condK x14
  (
    retK [.nilp, (.int .i64 2)] H)
  (
    purK (binA Tryz.prog H .lss 3 x2 (.int .i64 0)) fun x17 =>
    purK (gPur (wantV x17 false) (some x2)) fun x19 =>
    purK (gPur (wantV x17 false) (binA Tryz.prog H .geq 3 x19 (.int .i64 8))) fun x20 =>
    purK (pickA x17 (.bool true) x20) fun x21 =>
    condK x21
    (
      retK [.nilp, (.int .i64 1)] H)
    (
      effK H (some (makeMapA H)) fun x25 H =>
      purK (buildA Tryz.prog 183 [(0, x0), (1, x1), (2, x2), (8, x25)]) fun x26 =>
      effK H (boxA H 183 x26) fun x27 H =>
      retK [x27, (.int .i64 0)] H))
theorem G161 (ρ : Addr → Option Value) (call : CallF) (yc : YieldF) (lim k : Nat) (x0 x1 x2 : AV) (H : Heap) :
    evL (cx ρ) call yc false 161 lim k c161 [x0, x1, x2, (.tup []), (.tup []), (.tup []), (.tup []), (.tup []), (.tup []), (.tup []), (.tup []), (.tup []), (.tup []), (.tup []), (.tup []), (.tup []), (.tup []), (.tup []), (.tup []), (.tup []), (.tup []), (.tup []), (.tup []), (.tup []), (.tup []), (.tup []), (.tup []), (.tup [])] H (kk none (fun s H => retK (([6, 7] : List Nat).map fun t => s.getD t (.tup [])) H) [] retK [6, 7]) = L161 ρ call yc lim k x0 x1 x2 H := by
  kernel_rfl
theorem E161 (ρ : Addr → Option Value) (k lim : Nat) (x0 x1 x2 : AV) (H : Heap) : evCall (cx ρ) (k + 1) lim 161 [x0, x1, x2] H = L161 ρ (evCall (cx ρ) k) (evCY (cx ρ) k).2 lim k x0 x1 x2 H := by
  rw [evCall_body (cx ρ) k lim 161 _ H Tryz.f161 c161 [6, 7] (by kernel_rfl) (by kernel_rfl) (by kernel_rfl) (by kernel_rfl) (by kernel_rfl)]
  exact G161 ρ (evCall (cx ρ) k) (evCY (cx ρ) k).2 lim k x0 x1 x2 H
-- haycroft/task.New
noncomputable def c162 : Code := Code.of Tryz.prog 162
noncomputable def L162 (ρ : Addr → Option Value) (call : CallF) (yc : YieldF) (lim k : Nat) (x0 x1 x2 x3 x4 : AV) (H : Heap) : Res :=
  effK H (boxA H 59 x3) fun x8 H =>
  purK (binA Tryz.prog H .eql 84 x0 .nilp) fun x14 =>
  purK (gPur (wantV x14 false) (some x1)) fun x16 =>
  purK (gPur (wantV x14 false) (binA Tryz.prog H .eql 95 x16 .nilp)) fun x17 =>
  purK (pickA x14 (.bool true) x17) fun x18 =>
  condK x18
  (
    retK [.nilp, (.int .i64 2)] H)
  (
    purK (loadA (cx ρ) H 59 x8) fun x19 =>
    resK (call lim 232 [x19] H) fun x20 H =>
    purK (binA Tryz.prog H .neq 28 x20 (.int .i64 0)) fun x22 =>
    condK x22
    (
      retK [.nilp, x20] H)
    (
      purK (loadA (cx ρ) H 59 x8) fun x27 =>
      purK (fieldAddrA Tryz.prog 59 x8 1) fun x28 =>
      purK (loadA (cx ρ) H 9 x28) fun x29 =>
      resK (call lim 35 [x29] H) fun x30 H => bif (agn (loadA (cx ρ) H 59 x8) x27 && true) then
        purK (buildA Tryz.prog 258 [(0, x0), (1, x1), (2, x2), (3, x27), (4, x30), (5, (.fn (.func 233) [] [])), (9, x4)]) fun x32 =>
        effK H (boxA H 258 x32) fun x33 H =>
        retK [x33, (.int .i64 0)] H
      else none))
theorem G162 (ρ : Addr → Option Value) (call : CallF) (yc : YieldF) (lim k : Nat) (x0 x1 x2 x3 x4 : AV) (H : Heap) :
    evL (cx ρ) call yc false 162 lim k c162 [x0, x1, x2, x3, x4, (.tup []), (.tup []), (.tup []), (.tup []), (.tup []), (.tup []), (.tup []), (.tup []), (.tup []), (.tup []), (.tup []), (.tup []), (.tup []), (.tup []), (.tup []), (.tup []), (.tup []), (.tup []), (.tup []), (.tup []), (.tup []), (.tup []), (.tup []), (.tup []), (.tup []), (.tup []), (.tup []), (.tup []), (.tup [])] H (kk none (fun s H => retK (([10, 11] : List Nat).map fun t => s.getD t (.tup [])) H) [] retK [10, 11]) = L162 ρ call yc lim k x0 x1 x2 x3 x4 H := by
  kernel_rfl
theorem E162 (ρ : Addr → Option Value) (k lim : Nat) (x0 x1 x2 x3 x4 : AV) (H : Heap) : evCall (cx ρ) (k + 1) lim 162 [x0, x1, x2, x3, x4] H = L162 ρ (evCall (cx ρ) k) (evCY (cx ρ) k).2 lim k x0 x1 x2 x3 x4 H := by
  rw [evCall_body (cx ρ) k lim 162 _ H Tryz.f162 c162 [10, 11] (by kernel_rfl) (by kernel_rfl) (by kernel_rfl) (by kernel_rfl) (by kernel_rfl)]
  exact G162 ρ (evCall (cx ρ) k) (evCY (cx ρ) k).2 lim k x0 x1 x2 x3 x4 H
-- (*haycroft/task.Task).Outcome
noncomputable def c163 : Code := Code.of Tryz.prog 163
noncomputable def L163 (ρ : Addr → Option Value) (call : CallF) (yc : YieldF) (lim k : Nat) (x0 : AV) (H : Heap) : Res :=
  effK H (allocA (cx ρ) H 256) fun x2 H =>
  purK (binA Tryz.prog H .eql 185 x0 .nilp) fun x5 =>
  condK x5
  (
    purK (buildA Tryz.prog 256 []) fun x6 =>
    effK H ((storeA (cx ρ) lim H 256 x2 x6).map skips) fun _ H =>
    (retC (cx ρ) [some 256, none]) [x2, (.bool false)] H)
  (
    purK (nilChkA x0) fun x8 =>
    purK (fieldAddrA Tryz.prog 258 x8 18) fun x9 =>
    purK (loadA (cx ρ) H 256 x9) fun x10 =>
    purK (nilChkA x0) fun x12 =>
    purK (fieldAddrA Tryz.prog 258 x12 17) fun x13 =>
    purK (loadA (cx ρ) H 4 x13) fun x14 =>
    effK H ((storeA (cx ρ) lim H 256 x2 x10).map skips) fun _ H => bif (agn (loadA (cx ρ) H 4 x13) x14 && true) then
      (retC (cx ρ) [some 256, none]) [x2, x14] H
    else none)
theorem G163 (ρ : Addr → Option Value) (call : CallF) (yc : YieldF) (lim k : Nat) (x0 : AV) (H : Heap) :
    evL (cx ρ) call yc false 163 lim k c163 [x0, (.tup []), (.tup []), (.tup []), (.tup []), (.tup []), (.tup []), (.tup []), (.tup []), (.tup []), (.tup []), (.tup []), (.tup []), (.tup []), (.tup [])] H (kk none (fun s H => (retC (cx ρ) [some 256, none]) (([2, 3] : List Nat).map fun t => s.getD t (.tup [])) H) [] (retC (cx ρ) [some 256, none]) [2, 3]) = L163 ρ call yc lim k x0 H := by
  kernel_rfl
theorem E163 (ρ : Addr → Option Value) (k lim : Nat) (x0 : AV) (H : Heap) : evCall (cx ρ) (k + 1) lim 163 [x0] H = L163 ρ (evCall (cx ρ) k) (evCY (cx ρ) k).2 lim k x0 H := by
  rw [evCall_cells (cx ρ) k lim 163 _ H Tryz.f163 c163 [2, 3] [some 256, none] (by kernel_rfl) (by kernel_rfl) (by kernel_rfl) (by kernel_rfl) (by kernel_rfl) (by kernel_rfl)]
  exact G163 ρ (evCall (cx ρ) k) (evCY (cx ρ) k).2 lim k x0 H
-- (*haycroft/task.Task).Held
noncomputable def c164 : Code := Code.of Tryz.prog 164
noncomputable def L164 (ρ : Addr → Option Value) (call : CallF) (yc : YieldF) (lim k : Nat) (x0 : AV) (H : Heap) : Res :=
  purK (binA Tryz.prog H .eql 185 x0 .nilp) fun x4 =>
  condK x4
  (
    retK [(.int .i64 0)] H)
  (
    purK (nilChkA x0) fun x6 =>
    purK (fieldAddrA Tryz.prog 258 x6 9) fun x7 =>
    purK (loadA (cx ρ) H 3 x7) fun x8 =>
    retK [x8] H)
theorem G164 (ρ : Addr → Option Value) (call : CallF) (yc : YieldF) (lim k : Nat) (x0 : AV) (H : Heap) :
    evL (cx ρ) call yc false 164 lim k c164 [x0, (.tup []), (.tup []), (.tup []), (.tup []), (.tup []), (.tup []), (.tup []), (.tup [])] H (kk none (fun s H => retK (([2] : List Nat).map fun t => s.getD t (.tup [])) H) [] retK [2]) = L164 ρ call yc lim k x0 H := by
  kernel_rfl
theorem E164 (ρ : Addr → Option Value) (k lim : Nat) (x0 : AV) (H : Heap) : evCall (cx ρ) (k + 1) lim 164 [x0] H = L164 ρ (evCall (cx ρ) k) (evCY (cx ρ) k).2 lim k x0 H := by
  rw [evCall_body (cx ρ) k lim 164 _ H Tryz.f164 c164 [2] (by kernel_rfl) (by kernel_rfl) (by kernel_rfl) (by kernel_rfl) (by kernel_rfl)]
  exact G164 ρ (evCall (cx ρ) k) (evCY (cx ρ) k).2 lim k x0 H
-- (*haycroft/task.Task).Lost
noncomputable def c165 : Code := Code.of Tryz.prog 165
noncomputable def L165 (ρ : Addr → Option Value) (call : CallF) (yc : YieldF) (lim k : Nat) (x0 : AV) (H : Heap) : Res :=
  purK (binA Tryz.prog H .eql 185 x0 .nilp) fun x4 =>
  condK x4
  (
    retK [(.int .i64 0)] H)
  (
    purK (nilChkA x0) fun x6 =>
    purK (fieldAddrA Tryz.prog 258 x6 19) fun x7 =>
    purK (loadA (cx ρ) H 3 x7) fun x8 =>
    retK [x8] H)
theorem G165 (ρ : Addr → Option Value) (call : CallF) (yc : YieldF) (lim k : Nat) (x0 : AV) (H : Heap) :
    evL (cx ρ) call yc false 165 lim k c165 [x0, (.tup []), (.tup []), (.tup []), (.tup []), (.tup []), (.tup []), (.tup []), (.tup [])] H (kk none (fun s H => retK (([2] : List Nat).map fun t => s.getD t (.tup [])) H) [] retK [2]) = L165 ρ call yc lim k x0 H := by
  kernel_rfl
theorem E165 (ρ : Addr → Option Value) (k lim : Nat) (x0 : AV) (H : Heap) : evCall (cx ρ) (k + 1) lim 165 [x0] H = L165 ρ (evCall (cx ρ) k) (evCY (cx ρ) k).2 lim k x0 H := by
  rw [evCall_body (cx ρ) k lim 165 _ H Tryz.f165 c165 [2] (by kernel_rfl) (by kernel_rfl) (by kernel_rfl) (by kernel_rfl) (by kernel_rfl)]
  exact G165 ρ (evCall (cx ρ) k) (evCY (cx ρ) k).2 lim k x0 H
-- (*haycroft/epoch.Table).there
noncomputable def c166 : Code := Code.of Tryz.prog 166
noncomputable def L166 (ρ : Addr → Option Value) (call : CallF) (yc : YieldF) (lim k : Nat) (x0 x1 : AV) (H : Heap) : Res :=
  purK (binA Tryz.prog H .neq 149 x0 .nilp) fun x6 =>
  purK (gPur (wantV x6 true) (some x1)) fun x8 =>
  purK (gPur (wantV x6 true) (binA Tryz.prog H .geq 3 x8 (.int .i64 0))) fun x9 =>
  purK (pickA x6 x9 (.bool false)) fun x10 =>
  purK (gPur (wantV x10 true) (some x1)) fun x12 =>
  purK (gPur (wantV x10 true) (some x0)) fun x13 =>
  purK (gPur (wantV x10 true) (nilChkA x13)) fun x14 =>
  purK (gPur (wantV x10 true) (fieldAddrA Tryz.prog 262 x14 0)) fun x15 =>
  purK (gPur (wantV x10 true) (loadA (cx ρ) H 160 x15)) fun x16 =>
  resK (gRes (wantV x10 true) H (call lim 202 [x16] H)) fun x17 H =>
  purK (gPur (wantV x10 true) (binA Tryz.prog H .sub 3 x17 (.int .i64 1))) fun x18 =>
  purK (gPur (wantV x10 true) (binA Tryz.prog H .lss 3 x12 x18)) fun x19 =>
  purK (pickA x10 x19 (.bool false)) fun x20 =>
  retK [x20] H
theorem G166 (ρ : Addr → Option Value) (call : CallF) (yc : YieldF) (lim k : Nat) (x0 x1 : AV) (H : Heap) :
    evL (cx ρ) call yc false 166 lim k c166 [x0, x1, (.tup []), (.tup []), (.tup []), (.tup []), (.tup []), (.tup []), (.tup []), (.tup []), (.tup []), (.tup []), (.tup []), (.tup []), (.tup []), (.tup []), (.tup []), (.tup []), (.tup []), (.tup []), (.tup [])] H (kk none (fun s H => retK (([4] : List Nat).map fun t => s.getD t (.tup [])) H) [] retK [4]) = L166 ρ call yc lim k x0 x1 H := by
  kernel_rfl
theorem E166 (ρ : Addr → Option Value) (k lim : Nat) (x0 x1 : AV) (H : Heap) : evCall (cx ρ) (k + 1) lim 166 [x0, x1] H = L166 ρ (evCall (cx ρ) k) (evCY (cx ρ) k).2 lim k x0 x1 H := by
  rw [evCall_body (cx ρ) k lim 166 _ H Tryz.f166 c166 [4] (by kernel_rfl) (by kernel_rfl) (by kernel_rfl) (by kernel_rfl) (by kernel_rfl)]
  exact G166 ρ (evCall (cx ρ) k) (evCY (cx ρ) k).2 lim k x0 x1 H
-- (*haycroft/epoch.Table).turn
noncomputable def c167 : Code := Code.of Tryz.prog 167
noncomputable def L167 (ρ : Addr → Option Value) (call : CallF) (yc : YieldF) (lim k : Nat) (x0 x1 x2 x3 x4 : AV) (H : Heap) : Res :=
  purK (binA Tryz.prog H .eql 149 x0 .nilp) fun x13 =>
  condK x13
  (
    retK [(.int .i64 2)] H)
  (
    resK (call lim 166 [x0, x1] H) fun x17 H =>
    purK (unA .not x17) fun x18 =>
    condK x18
    (
      retK [(.int .i64 1)] H)
    (
      resK (call lim 100 [x0, x1] H) fun x23 H =>
      purK (binA Tryz.prog H .gtr 22 x23 (.int .u64 0)) fun x24 =>
      purK (binA Tryz.prog H .neq 4 x2 x24) fun x25 =>
      condK x25
      (
        retK [x4] H)
      (
        purK (nilChkA x0) fun x28 =>
        purK (fieldAddrA Tryz.prog 262 x28 0) fun x29 =>
        purK (loadA (cx ρ) H 160 x29) fun x30 =>
        purK (binA Tryz.prog H .add 3 (.int .i64 1) x1) fun x32 =>
        resK (call lim 234 [x30, x32, x3] H) fun x34 H =>
        retK [x34] H)))
theorem G167 (ρ : Addr → Option Value) (call : CallF) (yc : YieldF) (lim k : Nat) (x0 x1 x2 x3 x4 : AV) (H : Heap) :
    evL (cx ρ) call yc false 167 lim k c167 [x0, x1, x2, x3, x4, (.tup []), (.tup []), (.tup []), (.tup []), (.tup []), (.tup []), (.tup []), (.tup []), (.tup []), (.tup []), (.tup []), (.tup []), (.tup []), (.tup []), (.tup []), (.tup []), (.tup []), (.tup []), (.tup []), (.tup []), (.tup []), (.tup []), (.tup []), (.tup []), (.tup []), (.tup []), (.tup []), (.tup []), (.tup []), (.tup [])] H (kk none (fun s H => retK (([10] : List Nat).map fun t => s.getD t (.tup [])) H) [] retK [10]) = L167 ρ call yc lim k x0 x1 x2 x3 x4 H := by
  kernel_rfl
theorem E167 (ρ : Addr → Option Value) (k lim : Nat) (x0 x1 x2 x3 x4 : AV) (H : Heap) : evCall (cx ρ) (k + 1) lim 167 [x0, x1, x2, x3, x4] H = L167 ρ (evCall (cx ρ) k) (evCY (cx ρ) k).2 lim k x0 x1 x2 x3 x4 H := by
  rw [evCall_body (cx ρ) k lim 167 _ H Tryz.f167 c167 [10] (by kernel_rfl) (by kernel_rfl) (by kernel_rfl) (by kernel_rfl) (by kernel_rfl)]
  exact G167 ρ (evCall (cx ρ) k) (evCY (cx ρ) k).2 lim k x0 x1 x2 x3 x4 H
-- (*haycroft/epoch.Table).Now
noncomputable def c168 : Code := Code.of Tryz.prog 168
noncomputable def L168 (ρ : Addr → Option Value) (call : CallF) (yc : YieldF) (lim k : Nat) (x0 : AV) (H : Heap) : Res :=
  purK (binA Tryz.prog H .eql 149 x0 .nilp) fun x4 =>
  condK x4
  (
    retK [(.int .u64 0)] H)
  (
    purK (nilChkA x0) fun x6 =>
    purK (fieldAddrA Tryz.prog 262 x6 0) fun x7 =>
    purK (loadA (cx ρ) H 160 x7) fun x8 =>
    resK (call lim 84 [x8, (.int .i64 0)] H) fun x9 H =>
    retK [x9] H)
theorem G168 (ρ : Addr → Option Value) (call : CallF) (yc : YieldF) (lim k : Nat) (x0 : AV) (H : Heap) :
    evL (cx ρ) call yc false 168 lim k c168 [x0, (.tup []), (.tup []), (.tup []), (.tup []), (.tup []), (.tup []), (.tup []), (.tup []), (.tup [])] H (kk none (fun s H => retK (([2] : List Nat).map fun t => s.getD t (.tup [])) H) [] retK [2]) = L168 ρ call yc lim k x0 H := by
  kernel_rfl
theorem E168 (ρ : Addr → Option Value) (k lim : Nat) (x0 : AV) (H : Heap) : evCall (cx ρ) (k + 1) lim 168 [x0] H = L168 ρ (evCall (cx ρ) k) (evCY (cx ρ) k).2 lim k x0 H := by
  rw [evCall_body (cx ρ) k lim 168 _ H Tryz.f168 c168 [2] (by kernel_rfl) (by kernel_rfl) (by kernel_rfl) (by kernel_rfl) (by kernel_rfl)]
  exact G168 ρ (evCall (cx ρ) k) (evCY (cx ρ) k).2 lim k x0 H
-- (*haycroft/drain.List).Ready
noncomputable def c170 : Code := Code.of Tryz.prog 170
noncomputable def N170_1 (ρ : Addr → Option Value) (call : CallF) (yc : YieldF) (lim k : Nat) (x0 x5 x6 : AV) (H : Heap) (R : List AV → Heap → Res) : Res :=
  purK (nilChkA x0) fun x35_1 =>
  purK (fieldAddrA Tryz.prog 333 x35_1 0) fun x36_1 =>
  effK H ((storeA (cx ρ) lim H 265 x36_1 x6).map skips) fun _ H =>
  R [x5] H
theorem N170_1_eq (ρ : Addr → Option Value) (call : CallF) (yc : YieldF) (lim k : Nat) (x0 x5 x6 : AV) (H : Heap) (R : List AV → Heap → Res) :
    evL (cx ρ) call yc false 170 lim k (Code.at [1, 1, 1, 1] c170) (sp 38 [(0, x0), (5, x5), (6, x6)]) H (kk none (fun s H => R (([4] : List Nat).map fun t => s.getD t (.tup [])) H) [] R [4]) = N170_1 ρ call yc lim k x0 x5 x6 H R := by
  kernel_rfl
noncomputable def N170_4 (ρ : Addr → Option Value) (call : CallF) (yc : YieldF) (lim k : Nat) (x0 x1 x5 x6 x14 x15 x16 : AV) (H : Heap) (kn : AV → AV → AV → AV → AV → AV → AV → Heap → Res) : Res :=
  purK (binA Tryz.prog H .add 3 x16 (.int .i64 1)) fun x32_1 =>
  kn x0 x1 x5 x6 x14 x15 x32_1 H
theorem N170_4_eq (ρ : Addr → Option Value) (call : CallF) (yc : YieldF) (lim k : Nat) (x0 x1 x5 x6 x14 x15 x16 : AV) (H : Heap) (kn : KS) (k0 : KS) (R : List AV → Heap → Res) :
    evL (cx ρ) call yc false 170 lim k (Code.at [1, 1, 1, 0, 1, 0, 0, 1, 1, 1] c170) (sp 38 [(0, x0), (1, x1), (5, x5), (6, x6), (14, x14), (15, x15), (16, x16)]) H (kk (some [0, 1, 5, 6, 14, 15, 16]) kn [(0, (some [0, 5, 6]), k0)] R [4]) = N170_4 ρ call yc lim k x0 x1 x5 x6 x14 x15 x16 H (fun x0 x1 x5 x6 x14 x15 x16 H => kn (sp 38 [(0, x0), (1, x1), (5, x5), (6, x6), (14, x14), (15, x15), (16, x16)]) H) := by
  kernel_rfl
noncomputable def N170_3b (ρ : Addr → Option Value) (call : CallF) (yc : YieldF) (lim k : Nat) (x0 x1 x5 x6 x14 x15 x16 : AV) (H : Heap) (kn : AV → AV → AV → AV → AV → AV → AV → Heap → Res) (k0 : AV → AV → AV → Heap → Res) : Res :=
  purK (binA Tryz.prog H .lss 3 x16 x15) fun x17_1 =>
  condK x17_1
  (
    purK (indexAddrA Tryz.prog 265 x14 x16) fun x18_1 =>
    purK (loadA (cx ρ) H 268 x18_1) fun x19_1 =>
    effK H (allocA (cx ρ) H 268) fun x8_1 H =>
    effK H ((storeA (cx ρ) lim H 268 x8_1 x19_1).map skips) fun _ H =>
    purK (fieldAddrA Tryz.prog 268 x8_1 0) fun x20_1 =>
    purK (loadA (cx ρ) H 22 x20_1) fun x21_1 =>
    purK (binA Tryz.prog H .leq 22 x21_1 x1) fun x23_1 =>
    condK x23_1
    (
      purK (loadA (cx ρ) H 268 x8_1) fun x25_1 =>
      effK H (buildSliceA (cx ρ) H 265 1 [(0, x25_1)]) fun x26_1 H =>
      effK H (builtinA (cx ρ) lim H .append #[265, 265] [x5, x26_1]) fun x27_1 H =>
      N170_4 ρ call yc lim k x0 x1 x27_1 x6 x14 x15 x16 H kn)
    (
      purK (loadA (cx ρ) H 268 x8_1) fun x29_1 =>
      effK H (buildSliceA (cx ρ) H 265 1 [(0, x29_1)]) fun x30_1 H =>
      effK H (builtinA (cx ρ) lim H .append #[265, 265] [x6, x30_1]) fun x31_1 H =>
      N170_4 ρ call yc lim k x0 x1 x5 x31_1 x14 x15 x16 H kn))
  (
    k0 x0 x5 x6 H)
theorem N170_3b_x (ρ : Addr → Option Value) (call : CallF) (yc : YieldF) (lim k : Nat) (J : CodeF) (x0 x1 x5 x6 x14 x15 x16 : AV) (H : Heap) (kn : KS) (k0 : KS) (R : List AV → Heap → Res) :
    evX (cx ρ) call yc false 170 lim k J (Code.at [1, 1, 1, 0, 1, 0, 0] c170) (sp 38 [(0, x0), (1, x1), (5, x5), (6, x6), (14, x14), (15, x15), (16, x16)]) H (kk (some [0, 1, 5, 6, 14, 15, 16]) kn [(0, (some [0, 5, 6]), k0)] R [4]) =
  purK (binA Tryz.prog H .lss 3 x16 x15) fun x17_1 =>
  condK x17_1
  (
    purK (indexAddrA Tryz.prog 265 x14 x16) fun x18_1 =>
    purK (loadA (cx ρ) H 268 x18_1) fun x19_1 =>
    effK H (allocA (cx ρ) H 268) fun x8_1 H =>
    effK H ((storeA (cx ρ) lim H 268 x8_1 x19_1).map skips) fun _ H =>
    purK (fieldAddrA Tryz.prog 268 x8_1 0) fun x20_1 =>
    purK (loadA (cx ρ) H 22 x20_1) fun x21_1 =>
    purK (binA Tryz.prog H .leq 22 x21_1 x1) fun x23_1 =>
    condK x23_1
    (
      purK (loadA (cx ρ) H 268 x8_1) fun x25_1 =>
      effK H (buildSliceA (cx ρ) H 265 1 [(0, x25_1)]) fun x26_1 H =>
      effK H (builtinA (cx ρ) lim H .append #[265, 265] [x5, x26_1]) fun x27_1 H =>
      J (Code.at [1, 1, 1, 0, 1, 0, 0, 1, 1, 1] c170) (sp 38 [(0, x0), (1, x1), (5, x27_1), (6, x6), (14, x14), (15, x15), (16, x16)]) H (kk (some [0, 1, 5, 6, 14, 15, 16]) kn [(0, (some [0, 5, 6]), k0)] R [4]))
    (
      purK (loadA (cx ρ) H 268 x8_1) fun x29_1 =>
      effK H (buildSliceA (cx ρ) H 265 1 [(0, x29_1)]) fun x30_1 H =>
      effK H (builtinA (cx ρ) lim H .append #[265, 265] [x6, x30_1]) fun x31_1 H =>
      J (Code.at [1, 1, 1, 0, 1, 0, 0, 1, 1, 1] c170) (sp 38 [(0, x0), (1, x1), (5, x5), (6, x31_1), (14, x14), (15, x15), (16, x16)]) H (kk (some [0, 1, 5, 6, 14, 15, 16]) kn [(0, (some [0, 5, 6]), k0)] R [4])))
  (
    k0 (sp 38 [(0, x0), (5, x5), (6, x6)]) H) := by
  kernel_rfl
theorem N170_3b_eq (ρ : Addr → Option Value) (call : CallF) (yc : YieldF) (lim k : Nat) (x0 x1 x5 x6 x14 x15 x16 : AV) (H : Heap) (kn : KS) (k0 : KS) (R : List AV → Heap → Res) :
    evL (cx ρ) call yc false 170 lim k (Code.at [1, 1, 1, 0, 1, 0, 0] c170) (sp 38 [(0, x0), (1, x1), (5, x5), (6, x6), (14, x14), (15, x15), (16, x16)]) H (kk (some [0, 1, 5, 6, 14, 15, 16]) kn [(0, (some [0, 5, 6]), k0)] R [4]) = N170_3b ρ call yc lim k x0 x1 x5 x6 x14 x15 x16 H (fun x0 x1 x5 x6 x14 x15 x16 H => kn (sp 38 [(0, x0), (1, x1), (5, x5), (6, x6), (14, x14), (15, x15), (16, x16)]) H) (fun x0 x5 x6 H => k0 (sp 38 [(0, x0), (5, x5), (6, x6)]) H) := by
  rw [evL_X, N170_3b_x]
  simp only [← evL_X, N170_3b, N170_4_eq]
noncomputable def N170_3 (ρ : Addr → Option Value) (call : CallF) (yc : YieldF) (lim k : Nat) (x0 x1 x5 x6 x14 x15 x16 : AV) (H : Heap) (k0 : AV → AV → AV → Heap → Res) : Res :=
  loopL (fun (x : AV × AV × AV) H kn => N170_3b ρ call yc lim k x0 x1 x.1 x.2.1 x14 x15 x.2.2 H (fun _ _ x5 x6 _ _ x16 H => kn (x5, x6, x16) H) k0) k (x5, x6, x16) H
theorem N170_3_eq (ρ : Addr → Option Value) (call : CallF) (yc : YieldF) (lim k : Nat) (x0 x1 x5 x6 x14 x15 x16 : AV) (H : Heap) (kn : KS) (k0 : KS) (R : List AV → Heap → Res) :
    evL (cx ρ) call yc false 170 lim k (Code.at [1, 1, 1, 0, 1, 0] c170) (sp 38 [(0, x0), (1, x1), (5, x5), (6, x6), (14, x14), (15, x15), (16, x16)]) H (kk (some [0, 5, 6]) kn [(0, (some [0, 5, 6]), k0)] R [4]) = N170_3 ρ call yc lim k x0 x1 x5 x6 x14 x15 x16 H (fun x0 x5 x6 H => k0 (sp 38 [(0, x0), (5, x5), (6, x6)]) H) := by
  have e : Code.at [1, 1, 1, 0, 1, 0] c170 = .loop (Code.at [1, 1, 1, 0, 1, 0, 0] c170) := by kernel_rfl
  rw [e]
  unfold N170_3
  exact loop_node [0, 1, 5, 6, 14, 15, 16] (fun x : AV × AV × AV => (sp 38 [(0, x0), (1, x1), (5, (x.1)), (6, (x.2.1)), (14, x14), (15, x15), (16, (x.2.2))])) (fun (x : AV × AV × AV) H kn => N170_3b ρ call yc lim k x0 x1 x.1 x.2.1 x14 x15 x.2.2 H (fun _ _ x5 x6 _ _ x16 H => kn (x5, x6, x16) H) (fun x0 x5 x6 H => k0 (sp 38 [(0, x0), (5, x5), (6, x6)]) H)) (by kernel_rfl) (fun x => by kernel_rfl) (fun x H kn => N170_3b_eq ρ call yc lim k x0 x1 (x.1) (x.2.1) x14 x15 (x.2.2) H kn k0 R) (x5, x6, x16) (sp 38 [(0, x0), (1, x1), (5, x5), (6, x6), (14, x14), (15, x15), (16, x16)]) H (by kernel_rfl)
noncomputable def N170_2 (ρ : Addr → Option Value) (call : CallF) (yc : YieldF) (lim k : Nat) (x0 x1 x5 x6 x14 x15 x16 : AV) (H : Heap) (kn : AV → AV → AV → Heap → Res) : Res :=
  N170_3 ρ call yc lim k x0 x1 x5 x6 x14 x15 x16 H kn
theorem N170_2_x (ρ : Addr → Option Value) (call : CallF) (yc : YieldF) (lim k : Nat) (J : CodeF) (x0 x1 x5 x6 x14 x15 x16 : AV) (H : Heap) (kn : KS) (R : List AV → Heap → Res) :
    evX (cx ρ) call yc false 170 lim k J (Code.at [1, 1, 1, 0, 1] c170) (sp 38 [(0, x0), (1, x1), (5, x5), (6, x6), (14, x14), (15, x15), (16, x16)]) H (kk (some [0, 5, 6]) kn [] R [4]) =
  J (Code.at [1, 1, 1, 0, 1, 0] c170) (sp 38 [(0, x0), (1, x1), (5, x5), (6, x6), (14, x14), (15, x15), (16, x16)]) H (kk (some [0, 5, 6]) kn [(0, (some [0, 5, 6]), kn)] R [4]) := by
  kernel_rfl
theorem N170_2_eq (ρ : Addr → Option Value) (call : CallF) (yc : YieldF) (lim k : Nat) (x0 x1 x5 x6 x14 x15 x16 : AV) (H : Heap) (kn : KS) (R : List AV → Heap → Res) :
    evL (cx ρ) call yc false 170 lim k (Code.at [1, 1, 1, 0, 1] c170) (sp 38 [(0, x0), (1, x1), (5, x5), (6, x6), (14, x14), (15, x15), (16, x16)]) H (kk (some [0, 5, 6]) kn [] R [4]) = N170_2 ρ call yc lim k x0 x1 x5 x6 x14 x15 x16 H (fun x0 x5 x6 H => kn (sp 38 [(0, x0), (5, x5), (6, x6)]) H) := by
  rw [evL_X, N170_2_x]
  simp only [← evL_X, N170_2, N170_3_eq]
noncomputable def L170 (ρ : Addr → Option Value) (call : CallF) (yc : YieldF) (lim k : Nat) (x0 x1 : AV) (H : Heap) : Res :=
  purK (binA Tryz.prog H .eql 150 x0 .nilp) fun x10 =>
  condK x10
  (
    retK [.nils] H)
  (
    purK (nilChkA x0) fun x12 =>
    purK (fieldAddrA Tryz.prog 333 x12 0) fun x13 =>
    purK (loadA (cx ρ) H 265 x13) fun x14 =>
    purK (lenBA (cx ρ) H 265 x14) fun x15 =>
    N170_2 ρ call yc lim k x0 x1 .nils .nils x14 x15 (.int .i64 0) H (fun x0_1 x5 x6 H =>
      N170_1 ρ call yc lim k x0_1 x5 x6 H retK))
theorem L170_x (ρ : Addr → Option Value) (call : CallF) (yc : YieldF) (lim k : Nat) (J : CodeF) (x0 x1 : AV) (H : Heap) :
    evX (cx ρ) call yc false 170 lim k J c170 [x0, x1, (.tup []), (.tup []), (.tup []), (.tup []), (.tup []), (.tup []), (.tup []), (.tup []), (.tup []), (.tup []), (.tup []), (.tup []), (.tup []), (.tup []), (.tup []), (.tup []), (.tup []), (.tup []), (.tup []), (.tup []), (.tup []), (.tup []), (.tup []), (.tup []), (.tup []), (.tup []), (.tup []), (.tup []), (.tup []), (.tup []), (.tup []), (.tup []), (.tup []), (.tup []), (.tup []), (.tup [])] H (kk none (fun s H => retK (([4] : List Nat).map fun t => s.getD t (.tup [])) H) [] retK [4]) =
  purK (binA Tryz.prog H .eql 150 x0 .nilp) fun x10 =>
  condK x10
  (
    retK [.nils] H)
  (
    purK (nilChkA x0) fun x12 =>
    purK (fieldAddrA Tryz.prog 333 x12 0) fun x13 =>
    purK (loadA (cx ρ) H 265 x13) fun x14 =>
    purK (lenBA (cx ρ) H 265 x14) fun x15 =>
    J (Code.at [1, 1, 1, 0, 1] c170) (sp 38 [(0, x0), (1, x1), (5, .nils), (6, .nils), (14, x14), (15, x15), (16, (.int .i64 0))]) H (kk (some [0, 5, 6]) (fun s H => J (Code.at [1, 1, 1, 1] c170) s H (kk none (fun s H => retK (([4] : List Nat).map fun t => s.getD t (.tup [])) H) [] retK [4])) [] retK [4])) := by
  kernel_rfl
theorem G170 (ρ : Addr → Option Value) (call : CallF) (yc : YieldF) (lim k : Nat) (x0 x1 : AV) (H : Heap) :
    evL (cx ρ) call yc false 170 lim k c170 [x0, x1, (.tup []), (.tup []), (.tup []), (.tup []), (.tup []), (.tup []), (.tup []), (.tup []), (.tup []), (.tup []), (.tup []), (.tup []), (.tup []), (.tup []), (.tup []), (.tup []), (.tup []), (.tup []), (.tup []), (.tup []), (.tup []), (.tup []), (.tup []), (.tup []), (.tup []), (.tup []), (.tup []), (.tup []), (.tup []), (.tup []), (.tup []), (.tup []), (.tup []), (.tup []), (.tup []), (.tup [])] H (kk none (fun s H => retK (([4] : List Nat).map fun t => s.getD t (.tup [])) H) [] retK [4]) = L170 ρ call yc lim k x0 x1 H := by
  rw [evL_X, L170_x]
  simp only [← evL_X, L170, N170_1_eq, N170_2_eq]
theorem E170 (ρ : Addr → Option Value) (k lim : Nat) (x0 x1 : AV) (H : Heap) : evCall (cx ρ) (k + 1) lim 170 [x0, x1] H = L170 ρ (evCall (cx ρ) k) (evCY (cx ρ) k).2 lim k x0 x1 H := by
  rw [evCall_body (cx ρ) k lim 170 _ H Tryz.f170 c170 [4] (by kernel_rfl) (by kernel_rfl) (by kernel_rfl) (by kernel_rfl) (by kernel_rfl)]
  exact G170 ρ (evCall (cx ρ) k) (evCY (cx ρ) k).2 lim k x0 x1 H
-- (*haycroft/epoch.Table).Safe
noncomputable def c171 : Code := Code.of Tryz.prog 171
noncomputable def N171_1 (ρ : Addr → Option Value) (call : CallF) (yc : YieldF) (lim k : Nat) (x3 : AV) (H : Heap) (R : List AV → Heap → Res) : Res :=
  purK (binA Tryz.prog H .sub 22 x3 (.int .u64 1)) fun x24_1 =>
  R [x24_1] H
theorem N171_1_eq (ρ : Addr → Option Value) (call : CallF) (yc : YieldF) (lim k : Nat) (x3 : AV) (H : Heap) (R : List AV → Heap → Res) :
    evL (cx ρ) call yc false 171 lim k (Code.at [1, 1, 1, 1] c171) (sp 25 [(3, x3)]) H (kk none (fun s H => R (([2] : List Nat).map fun t => s.getD t (.tup [])) H) [] R [2]) = N171_1 ρ call yc lim k x3 H R := by
  kernel_rfl
noncomputable def N171_3b (ρ : Addr → Option Value) (call : CallF) (yc : YieldF) (lim k : Nat) (x0 x3 x11 x12 x13 : AV) (H : Heap) (kn : AV → AV → AV → AV → AV → Heap → Res) (k0 : AV → Heap → Res) : Res :=
  purK (binA Tryz.prog H .lss 3 x13 x12) fun x14_1 =>
  condK x14_1
  (
    purK (indexAddrA Tryz.prog 60 x11 x13) fun x15_1 =>
    purK (loadA (cx ρ) H 3 x15_1) fun x16_1 =>
    resK (call lim 100 [x0, x16_1] H) fun x20_1 H =>
    purK (foldsA minA [x3, x20_1]) fun x21_1 =>
    purK (binA Tryz.prog H .add 3 x13 (.int .i64 1)) fun x22_1 =>
    kn x0 x21_1 x11 x12 x22_1 H)
  (
    k0 x3 H)
theorem N171_3b_eq (ρ : Addr → Option Value) (call : CallF) (yc : YieldF) (lim k : Nat) (x0 x3 x11 x12 x13 : AV) (H : Heap) (kn : KS) (k0 : KS) (R : List AV → Heap → Res) :
    evL (cx ρ) call yc false 171 lim k (Code.at [1, 1, 1, 0, 1, 0, 0] c171) (sp 25 [(0, x0), (3, x3), (11, x11), (12, x12), (13, x13)]) H (kk (some [0, 3, 11, 12, 13]) kn [(0, (some [3]), k0)] R [2]) = N171_3b ρ call yc lim k x0 x3 x11 x12 x13 H (fun x0 x3 x11 x12 x13 H => kn (sp 25 [(0, x0), (3, x3), (11, x11), (12, x12), (13, x13)]) H) (fun x3 H => k0 (sp 25 [(3, x3)]) H) := by
  kernel_rfl
noncomputable def N171_3 (ρ : Addr → Option Value) (call : CallF) (yc : YieldF) (lim k : Nat) (x0 x3 x11 x12 x13 : AV) (H : Heap) (k0 : AV → Heap → Res) : Res :=
  loopL (fun (x : AV × AV) H kn => N171_3b ρ call yc lim k x0 x.1 x11 x12 x.2 H (fun _ x3 _ _ x13 H => kn (x3, x13) H) k0) k (x3, x13) H
theorem N171_3_eq (ρ : Addr → Option Value) (call : CallF) (yc : YieldF) (lim k : Nat) (x0 x3 x11 x12 x13 : AV) (H : Heap) (kn : KS) (k0 : KS) (R : List AV → Heap → Res) :
    evL (cx ρ) call yc false 171 lim k (Code.at [1, 1, 1, 0, 1, 0] c171) (sp 25 [(0, x0), (3, x3), (11, x11), (12, x12), (13, x13)]) H (kk (some [3]) kn [(0, (some [3]), k0)] R [2]) = N171_3 ρ call yc lim k x0 x3 x11 x12 x13 H (fun x3 H => k0 (sp 25 [(3, x3)]) H) := by
  have e : Code.at [1, 1, 1, 0, 1, 0] c171 = .loop (Code.at [1, 1, 1, 0, 1, 0, 0] c171) := by kernel_rfl
  rw [e]
  unfold N171_3
  exact loop_node [0, 3, 11, 12, 13] (fun x : AV × AV => (sp 25 [(0, x0), (3, (x.1)), (11, x11), (12, x12), (13, (x.2))])) (fun (x : AV × AV) H kn => N171_3b ρ call yc lim k x0 x.1 x11 x12 x.2 H (fun _ x3 _ _ x13 H => kn (x3, x13) H) (fun x3 H => k0 (sp 25 [(3, x3)]) H)) (by kernel_rfl) (fun x => by kernel_rfl) (fun x H kn => N171_3b_eq ρ call yc lim k x0 (x.1) x11 x12 (x.2) H kn k0 R) (x3, x13) (sp 25 [(0, x0), (3, x3), (11, x11), (12, x12), (13, x13)]) H (by kernel_rfl)
noncomputable def N171_2 (ρ : Addr → Option Value) (call : CallF) (yc : YieldF) (lim k : Nat) (x0 x3 x11 x12 x13 : AV) (H : Heap) (kn : AV → Heap → Res) : Res :=
  N171_3 ρ call yc lim k x0 x3 x11 x12 x13 H kn
theorem N171_2_x (ρ : Addr → Option Value) (call : CallF) (yc : YieldF) (lim k : Nat) (J : CodeF) (x0 x3 x11 x12 x13 : AV) (H : Heap) (kn : KS) (R : List AV → Heap → Res) :
    evX (cx ρ) call yc false 171 lim k J (Code.at [1, 1, 1, 0, 1] c171) (sp 25 [(0, x0), (3, x3), (11, x11), (12, x12), (13, x13)]) H (kk (some [3]) kn [] R [2]) =
  J (Code.at [1, 1, 1, 0, 1, 0] c171) (sp 25 [(0, x0), (3, x3), (11, x11), (12, x12), (13, x13)]) H (kk (some [3]) kn [(0, (some [3]), kn)] R [2]) := by
  kernel_rfl
theorem N171_2_eq (ρ : Addr → Option Value) (call : CallF) (yc : YieldF) (lim k : Nat) (x0 x3 x11 x12 x13 : AV) (H : Heap) (kn : KS) (R : List AV → Heap → Res) :
    evL (cx ρ) call yc false 171 lim k (Code.at [1, 1, 1, 0, 1] c171) (sp 25 [(0, x0), (3, x3), (11, x11), (12, x12), (13, x13)]) H (kk (some [3]) kn [] R [2]) = N171_2 ρ call yc lim k x0 x3 x11 x12 x13 H (fun x3 H => kn (sp 25 [(3, x3)]) H) := by
  rw [evL_X, N171_2_x]
  simp only [← evL_X, N171_2, N171_3_eq]
noncomputable def L171 (ρ : Addr → Option Value) (call : CallF) (yc : YieldF) (lim k : Nat) (x0 : AV) (H : Heap) : Res :=
  purK (binA Tryz.prog H .eql 149 x0 .nilp) fun x7 =>
  condK x7
  (
    retK [(.int .u64 0)] H)
  (
    resK (call lim 168 [x0] H) fun x9 H =>
    resK (call lim 235 [x0] H) fun x11 H =>
    purK (lenBA (cx ρ) H 60 x11) fun x12 =>
    N171_2 ρ call yc lim k x0 x9 x11 x12 (.int .i64 0) H (fun x3 H =>
      N171_1 ρ call yc lim k x3 H retK))
theorem L171_x (ρ : Addr → Option Value) (call : CallF) (yc : YieldF) (lim k : Nat) (J : CodeF) (x0 : AV) (H : Heap) :
    evX (cx ρ) call yc false 171 lim k J c171 [x0, (.tup []), (.tup []), (.tup []), (.tup []), (.tup []), (.tup []), (.tup []), (.tup []), (.tup []), (.tup []), (.tup []), (.tup []), (.tup []), (.tup []), (.tup []), (.tup []), (.tup []), (.tup []), (.tup []), (.tup []), (.tup []), (.tup []), (.tup []), (.tup [])] H (kk none (fun s H => retK (([2] : List Nat).map fun t => s.getD t (.tup [])) H) [] retK [2]) =
  purK (binA Tryz.prog H .eql 149 x0 .nilp) fun x7 =>
  condK x7
  (
    retK [(.int .u64 0)] H)
  (
    resK (call lim 168 [x0] H) fun x9 H =>
    resK (call lim 235 [x0] H) fun x11 H =>
    purK (lenBA (cx ρ) H 60 x11) fun x12 =>
    J (Code.at [1, 1, 1, 0, 1] c171) (sp 25 [(0, x0), (3, x9), (11, x11), (12, x12), (13, (.int .i64 0))]) H (kk (some [3]) (fun s H => J (Code.at [1, 1, 1, 1] c171) s H (kk none (fun s H => retK (([2] : List Nat).map fun t => s.getD t (.tup [])) H) [] retK [2])) [] retK [2])) := by
  kernel_rfl
theorem G171 (ρ : Addr → Option Value) (call : CallF) (yc : YieldF) (lim k : Nat) (x0 : AV) (H : Heap) :
    evL (cx ρ) call yc false 171 lim k c171 [x0, (.tup []), (.tup []), (.tup []), (.tup []), (.tup []), (.tup []), (.tup []), (.tup []), (.tup []), (.tup []), (.tup []), (.tup []), (.tup []), (.tup []), (.tup []), (.tup []), (.tup []), (.tup []), (.tup []), (.tup []), (.tup []), (.tup []), (.tup []), (.tup [])] H (kk none (fun s H => retK (([2] : List Nat).map fun t => s.getD t (.tup [])) H) [] retK [2]) = L171 ρ call yc lim k x0 H := by
  rw [evL_X, L171_x]
  simp only [← evL_X, L171, N171_1_eq, N171_2_eq]
theorem E171 (ρ : Addr → Option Value) (k lim : Nat) (x0 : AV) (H : Heap) : evCall (cx ρ) (k + 1) lim 171 [x0] H = L171 ρ (evCall (cx ρ) k) (evCY (cx ρ) k).2 lim k x0 H := by
  rw [evCall_body (cx ρ) k lim 171 _ H Tryz.f171 c171 [2] (by kernel_rfl) (by kernel_rfl) (by kernel_rfl) (by kernel_rfl) (by kernel_rfl)]
  exact G171 ρ (evCall (cx ρ) k) (evCY (cx ρ) k).2 lim k x0 H
-- haycroft/marks.there
noncomputable def c181 : Code := Code.of Tryz.prog 181
noncomputable def L181 (ρ : Addr → Option Value) (call : CallF) (yc : YieldF) (lim k : Nat) (x0 : AV) (H : Heap) : Res :=
  purK (binA Tryz.prog H .geq 3 x0 (.int .i64 0)) fun x4 =>
  purK (gPur (wantV x4 true) (some x0)) fun x6 =>
  purK (gPur (wantV x4 true) (binA Tryz.prog H .lss 3 x6 (.int .i64 5))) fun x7 =>
  purK (pickA x4 x7 (.bool false)) fun x8 =>
  retK [x8] H
theorem G181 (ρ : Addr → Option Value) (call : CallF) (yc : YieldF) (lim k : Nat) (x0 : AV) (H : Heap) :
    evL (cx ρ) call yc false 181 lim k c181 [x0, (.tup []), (.tup []), (.tup []), (.tup []), (.tup []), (.tup []), (.tup []), (.tup [])] H (kk none (fun s H => retK (([2] : List Nat).map fun t => s.getD t (.tup [])) H) [] retK [2]) = L181 ρ call yc lim k x0 H := by
  kernel_rfl
theorem E181 (ρ : Addr → Option Value) (k lim : Nat) (x0 : AV) (H : Heap) : evCall (cx ρ) (k + 1) lim 181 [x0] H = L181 ρ (evCall (cx ρ) k) (evCY (cx ρ) k).2 lim k x0 H := by
  rw [evCall_body (cx ρ) k lim 181 _ H Tryz.f181 c181 [2] (by kernel_rfl) (by kernel_rfl) (by kernel_rfl) (by kernel_rfl) (by kernel_rfl)]
  exact G181 ρ (evCall (cx ρ) k) (evCY (cx ρ) k).2 lim k x0 H
-- haycroft/pages.mark
noncomputable def c200 : Code := Code.of Tryz.prog 200
noncomputable def L200 (ρ : Addr → Option Value) (call : CallF) (yc : YieldF) (lim k : Nat) (x0 : AV) (H : Heap) : Res :=
  purK (convXA (cx ρ) H 3 22 x0) fun x4 =>
  purK (binA Tryz.prog H .add 22 x4 (.int .u64 1)) fun x5 =>
  retK [x5] H
theorem G200 (ρ : Addr → Option Value) (call : CallF) (yc : YieldF) (lim k : Nat) (x0 : AV) (H : Heap) :
    evL (cx ρ) call yc false 200 lim k c200 [x0, (.tup []), (.tup []), (.tup []), (.tup []), (.tup [])] H (kk none (fun s H => retK (([2] : List Nat).map fun t => s.getD t (.tup [])) H) [] retK [2]) = L200 ρ call yc lim k x0 H := by
  kernel_rfl
theorem E200 (ρ : Addr → Option Value) (k lim : Nat) (x0 : AV) (H : Heap) : evCall (cx ρ) (k + 1) lim 200 [x0] H = L200 ρ (evCall (cx ρ) k) (evCY (cx ρ) k).2 lim k x0 H := by
  rw [evCall_body (cx ρ) k lim 200 _ H Tryz.f200 c200 [2] (by kernel_rfl) (by kernel_rfl) (by kernel_rfl) (by kernel_rfl) (by kernel_rfl)]
  exact G200 ρ (evCall (cx ρ) k) (evCY (cx ρ) k).2 lim k x0 H
-- (*haycroft/cell.Row).within
noncomputable def c201 : Code := Code.of Tryz.prog 201
noncomputable def N201_1 (ρ : Addr → Option Value) (call : CallF) (yc : YieldF) (lim k : Nat) (H : Heap) (R : List AV → Heap → Res) : Res :=
  R [(.int .i64 0)] H
theorem N201_1_eq (ρ : Addr → Option Value) (call : CallF) (yc : YieldF) (lim k : Nat) (H : Heap) (R : List AV → Heap → Res) :
    evL (cx ρ) call yc false 201 lim k (Code.at [1, 1] c201) (sp 25 []) H (kk none (fun s H => R (([6] : List Nat).map fun t => s.getD t (.tup [])) H) [] R [6]) = N201_1 ρ call yc lim k H R := by
  kernel_rfl
noncomputable def N201_2 (ρ : Addr → Option Value) (call : CallF) (yc : YieldF) (lim k : Nat) (x10 : AV) (H : Heap) (kn : Heap → Res) (R : List AV → Heap → Res) : Res :=
  condK x10
  (
    R [(.int .i64 1)] H)
  (
    kn H)
theorem N201_2_eq (ρ : Addr → Option Value) (call : CallF) (yc : YieldF) (lim k : Nat) (x10 : AV) (H : Heap) (kn : KS) (k0 : KS) (R : List AV → Heap → Res) :
    evL (cx ρ) call yc false 201 lim k (Code.at [1, 0, 0, 1, 1, 1] c201) (sp 25 [(10, x10)]) H (kk (some []) kn [(0, (some []), k0)] R [6]) = N201_2 ρ call yc lim k x10 H (fun H => kn (sp 25 []) H) R := by
  kernel_rfl
noncomputable def L201 (ρ : Addr → Option Value) (call : CallF) (yc : YieldF) (lim k : Nat) (x0 x1 x2 : AV) (H : Heap) : Res :=
  purK (binA Tryz.prog H .eql 160 x0 .nilp) fun x9 =>
  condK x9
  (
    retK [(.int .i64 2)] H)
  (
    purK (binA Tryz.prog H .lss 3 x2 (.int .i64 0)) fun x12 =>
    condK x12
    (
      N201_2 ρ call yc lim k x12 H (fun H =>
        N201_1 ρ call yc lim k H retK) retK)
    (
      purK (binA Tryz.prog H .lss 3 x1 (.int .i64 0)) fun x14 =>
      condK x14
      (
        N201_2 ρ call yc lim k x14 H (fun H =>
          N201_1 ρ call yc lim k H retK) retK)
      (
        resK (call lim 202 [x0] H) fun x17 H =>
        purK (binA Tryz.prog H .gtr 3 x2 x17) fun x18 =>
        condK x18
        (
          N201_2 ρ call yc lim k x18 H (fun H =>
            N201_1 ρ call yc lim k H retK) retK)
        (
          resK (call lim 202 [x0] H) fun x21 H =>
          purK (binA Tryz.prog H .sub 3 x21 x2) fun x23 =>
          purK (binA Tryz.prog H .gtr 3 x1 x23) fun x24 =>
          N201_2 ρ call yc lim k x24 H (fun H =>
            N201_1 ρ call yc lim k H retK) retK))))
theorem L201_x (ρ : Addr → Option Value) (call : CallF) (yc : YieldF) (lim k : Nat) (J : CodeF) (x0 x1 x2 : AV) (H : Heap) :
    evX (cx ρ) call yc false 201 lim k J c201 [x0, x1, x2, (.tup []), (.tup []), (.tup []), (.tup []), (.tup []), (.tup []), (.tup []), (.tup []), (.tup []), (.tup []), (.tup []), (.tup []), (.tup []), (.tup []), (.tup []), (.tup []), (.tup []), (.tup []), (.tup []), (.tup []), (.tup []), (.tup [])] H (kk none (fun s H => retK (([6] : List Nat).map fun t => s.getD t (.tup [])) H) [] retK [6]) =
  purK (binA Tryz.prog H .eql 160 x0 .nilp) fun x9 =>
  condK x9
  (
    retK [(.int .i64 2)] H)
  (
    purK (binA Tryz.prog H .lss 3 x2 (.int .i64 0)) fun x12 =>
    condK x12
    (
      J (Code.at [1, 0, 0, 1, 1, 1] c201) (sp 25 [(10, x12)]) H (kk (some []) (fun s H => J (Code.at [1, 1] c201) s H (kk none (fun s H => retK (([6] : List Nat).map fun t => s.getD t (.tup [])) H) [] retK [6])) [(0, (some []), (fun s H => J (Code.at [1, 1] c201) s H (kk none (fun s H => retK (([6] : List Nat).map fun t => s.getD t (.tup [])) H) [] retK [6])))] retK [6]))
    (
      purK (binA Tryz.prog H .lss 3 x1 (.int .i64 0)) fun x14 =>
      condK x14
      (
        J (Code.at [1, 0, 0, 1, 1, 1] c201) (sp 25 [(10, x14)]) H (kk (some []) (fun s H => J (Code.at [1, 1] c201) s H (kk none (fun s H => retK (([6] : List Nat).map fun t => s.getD t (.tup [])) H) [] retK [6])) [(0, (some []), (fun s H => J (Code.at [1, 1] c201) s H (kk none (fun s H => retK (([6] : List Nat).map fun t => s.getD t (.tup [])) H) [] retK [6])))] retK [6]))
      (
        resK (call lim 202 [x0] H) fun x17 H =>
        purK (binA Tryz.prog H .gtr 3 x2 x17) fun x18 =>
        condK x18
        (
          J (Code.at [1, 0, 0, 1, 1, 1] c201) (sp 25 [(10, x18)]) H (kk (some []) (fun s H => J (Code.at [1, 1] c201) s H (kk none (fun s H => retK (([6] : List Nat).map fun t => s.getD t (.tup [])) H) [] retK [6])) [(0, (some []), (fun s H => J (Code.at [1, 1] c201) s H (kk none (fun s H => retK (([6] : List Nat).map fun t => s.getD t (.tup [])) H) [] retK [6])))] retK [6]))
        (
          resK (call lim 202 [x0] H) fun x21 H =>
          purK (binA Tryz.prog H .sub 3 x21 x2) fun x23 =>
          purK (binA Tryz.prog H .gtr 3 x1 x23) fun x24 =>
          J (Code.at [1, 0, 0, 1, 1, 1] c201) (sp 25 [(10, x24)]) H (kk (some []) (fun s H => J (Code.at [1, 1] c201) s H (kk none (fun s H => retK (([6] : List Nat).map fun t => s.getD t (.tup [])) H) [] retK [6])) [(0, (some []), (fun s H => J (Code.at [1, 1] c201) s H (kk none (fun s H => retK (([6] : List Nat).map fun t => s.getD t (.tup [])) H) [] retK [6])))] retK [6]))))) := by
  kernel_rfl
theorem G201 (ρ : Addr → Option Value) (call : CallF) (yc : YieldF) (lim k : Nat) (x0 x1 x2 : AV) (H : Heap) :
    evL (cx ρ) call yc false 201 lim k c201 [x0, x1, x2, (.tup []), (.tup []), (.tup []), (.tup []), (.tup []), (.tup []), (.tup []), (.tup []), (.tup []), (.tup []), (.tup []), (.tup []), (.tup []), (.tup []), (.tup []), (.tup []), (.tup []), (.tup []), (.tup []), (.tup []), (.tup []), (.tup [])] H (kk none (fun s H => retK (([6] : List Nat).map fun t => s.getD t (.tup [])) H) [] retK [6]) = L201 ρ call yc lim k x0 x1 x2 H := by
  rw [evL_X, L201_x]
  simp only [← evL_X, L201, N201_1_eq, N201_2_eq]
theorem E201 (ρ : Addr → Option Value) (k lim : Nat) (x0 x1 x2 : AV) (H : Heap) : evCall (cx ρ) (k + 1) lim 201 [x0, x1, x2] H = L201 ρ (evCall (cx ρ) k) (evCY (cx ρ) k).2 lim k x0 x1 x2 H := by
  rw [evCall_body (cx ρ) k lim 201 _ H Tryz.f201 c201 [6] (by kernel_rfl) (by kernel_rfl) (by kernel_rfl) (by kernel_rfl) (by kernel_rfl)]
  exact G201 ρ (evCall (cx ρ) k) (evCY (cx ρ) k).2 lim k x0 x1 x2 H
-- (*haycroft/cell.Row).Len
noncomputable def c202 : Code := Code.of Tryz.prog 202
noncomputable def L202 (ρ : Addr → Option Value) (call : CallF) (yc : YieldF) (lim k : Nat) (x0 : AV) (H : Heap) : Res :=
  purK (binA Tryz.prog H .eql 160 x0 .nilp) fun x4 =>
  condK x4
  (
    retK [(.int .i64 0)] H)
  (
    purK (nilChkA x0) fun x6 =>
    purK (fieldAddrA Tryz.prog 232 x6 0) fun x7 =>
    purK (loadA (cx ρ) H 228 x7) fun x8 =>
    purK (lenBA (cx ρ) H 228 x8) fun x9 =>
    retK [x9] H)
theorem G202 (ρ : Addr → Option Value) (call : CallF) (yc : YieldF) (lim k : Nat) (x0 : AV) (H : Heap) :
    evL (cx ρ) call yc false 202 lim k c202 [x0, (.tup []), (.tup []), (.tup []), (.tup []), (.tup []), (.tup []), (.tup []), (.tup []), (.tup [])] H (kk none (fun s H => retK (([2] : List Nat).map fun t => s.getD t (.tup [])) H) [] retK [2]) = L202 ρ call yc lim k x0 H := by
  kernel_rfl
theorem E202 (ρ : Addr → Option Value) (k lim : Nat) (x0 : AV) (H : Heap) : evCall (cx ρ) (k + 1) lim 202 [x0] H = L202 ρ (evCall (cx ρ) k) (evCY (cx ρ) k).2 lim k x0 H := by
  rw [evCall_body (cx ρ) k lim 202 _ H Tryz.f202 c202 [2] (by kernel_rfl) (by kernel_rfl) (by kernel_rfl) (by kernel_rfl) (by kernel_rfl)]
  exact G202 ρ (evCall (cx ρ) k) (evCY (cx ρ) k).2 lim k x0 H
-- haycroft/field.Spread
noncomputable def c205 : Code := Code.of Tryz.prog 205
noncomputable def N205_1 (ρ : Addr → Option Value) (call : CallF) (yc : YieldF) (lim k : Nat) (x6 : AV) (H : Heap) (R : List AV → Heap → Res) : Res :=
  R [x6, (.int .i64 0)] H
theorem N205_1_eq (ρ : Addr → Option Value) (call : CallF) (yc : YieldF) (lim k : Nat) (x6 : AV) (H : Heap) (R : List AV → Heap → Res) :
    evL (cx ρ) call yc false 205 lim k (Code.at [1, 1, 1, 1, 1] c205) (sp 31 [(6, x6)]) H (kk none (fun s H => R (([4, 5] : List Nat).map fun t => s.getD t (.tup [])) H) [] R [4, 5]) = N205_1 ρ call yc lim k x6 H R := by
  kernel_rfl
noncomputable def N205_3b (ρ : Addr → Option Value) (call : CallF) (yc : YieldF) (lim k : Nat) (x0 x6 x7 x13 x14 x15 : AV) (H : Heap) (kn : AV → AV → AV → AV → AV → AV → Heap → Res) (k0 : AV → Heap → Res) : Res :=
  purK (binA Tryz.prog H .lss 3 x15 x14) fun x16_1 =>
  condK x16_1
  (
    purK (indexAddrA Tryz.prog 60 x13 x15) fun x17_1 =>
    purK (loadA (cx ρ) H 3 x17_1) fun x18_1 =>
    resK (call lim 86 [x0, x7, x18_1] H) fun x23_1 H =>
    effK H (buildSliceA (cx ρ) H 31 1 [(0, x23_1)]) fun x24_1 H =>
    effK H (builtinA (cx ρ) lim H .append #[31, 31] [x6, x24_1]) fun x25_1 H =>
    purK (binA Tryz.prog H .add 3 x7 x18_1) fun x28_1 =>
    purK (binA Tryz.prog H .add 3 x15 (.int .i64 1)) fun x29_1 =>
    kn x0 x25_1 x28_1 x13 x14 x29_1 H)
  (
    k0 x6 H)
theorem N205_3b_eq (ρ : Addr → Option Value) (call : CallF) (yc : YieldF) (lim k : Nat) (x0 x6 x7 x13 x14 x15 : AV) (H : Heap) (kn : KS) (k0 : KS) (R : List AV → Heap → Res) :
    evL (cx ρ) call yc false 205 lim k (Code.at [1, 1, 1, 1, 0, 1, 0, 0] c205) (sp 31 [(0, x0), (6, x6), (7, x7), (13, x13), (14, x14), (15, x15)]) H (kk (some [0, 6, 7, 13, 14, 15]) kn [(0, (some [6]), k0)] R [4, 5]) = N205_3b ρ call yc lim k x0 x6 x7 x13 x14 x15 H (fun x0 x6 x7 x13 x14 x15 H => kn (sp 31 [(0, x0), (6, x6), (7, x7), (13, x13), (14, x14), (15, x15)]) H) (fun x6 H => k0 (sp 31 [(6, x6)]) H) := by
  kernel_rfl
noncomputable def N205_3 (ρ : Addr → Option Value) (call : CallF) (yc : YieldF) (lim k : Nat) (x0 x6 x7 x13 x14 x15 : AV) (H : Heap) (k0 : AV → Heap → Res) : Res :=
  loopL (fun (x : AV × AV × AV) H kn => N205_3b ρ call yc lim k x0 x.1 x.2.1 x13 x14 x.2.2 H (fun _ x6 x7 _ _ x15 H => kn (x6, x7, x15) H) k0) k (x6, x7, x15) H
theorem N205_3_eq (ρ : Addr → Option Value) (call : CallF) (yc : YieldF) (lim k : Nat) (x0 x6 x7 x13 x14 x15 : AV) (H : Heap) (kn : KS) (k0 : KS) (R : List AV → Heap → Res) :
    evL (cx ρ) call yc false 205 lim k (Code.at [1, 1, 1, 1, 0, 1, 0] c205) (sp 31 [(0, x0), (6, x6), (7, x7), (13, x13), (14, x14), (15, x15)]) H (kk (some [6]) kn [(0, (some [6]), k0)] R [4, 5]) = N205_3 ρ call yc lim k x0 x6 x7 x13 x14 x15 H (fun x6 H => k0 (sp 31 [(6, x6)]) H) := by
  have e : Code.at [1, 1, 1, 1, 0, 1, 0] c205 = .loop (Code.at [1, 1, 1, 1, 0, 1, 0, 0] c205) := by kernel_rfl
  rw [e]
  unfold N205_3
  exact loop_node [0, 6, 7, 13, 14, 15] (fun x : AV × AV × AV => (sp 31 [(0, x0), (6, (x.1)), (7, (x.2.1)), (13, x13), (14, x14), (15, (x.2.2))])) (fun (x : AV × AV × AV) H kn => N205_3b ρ call yc lim k x0 x.1 x.2.1 x13 x14 x.2.2 H (fun _ x6 x7 _ _ x15 H => kn (x6, x7, x15) H) (fun x6 H => k0 (sp 31 [(6, x6)]) H)) (by kernel_rfl) (fun x => by kernel_rfl) (fun x H kn => N205_3b_eq ρ call yc lim k x0 (x.1) (x.2.1) x13 x14 (x.2.2) H kn k0 R) (x6, x7, x15) (sp 31 [(0, x0), (6, x6), (7, x7), (13, x13), (14, x14), (15, x15)]) H (by kernel_rfl)
noncomputable def N205_2 (ρ : Addr → Option Value) (call : CallF) (yc : YieldF) (lim k : Nat) (x0 x6 x7 x13 x14 x15 : AV) (H : Heap) (kn : AV → Heap → Res) : Res :=
  N205_3 ρ call yc lim k x0 x6 x7 x13 x14 x15 H kn
theorem N205_2_x (ρ : Addr → Option Value) (call : CallF) (yc : YieldF) (lim k : Nat) (J : CodeF) (x0 x6 x7 x13 x14 x15 : AV) (H : Heap) (kn : KS) (R : List AV → Heap → Res) :
    evX (cx ρ) call yc false 205 lim k J (Code.at [1, 1, 1, 1, 0, 1] c205) (sp 31 [(0, x0), (6, x6), (7, x7), (13, x13), (14, x14), (15, x15)]) H (kk (some [6]) kn [] R [4, 5]) =
  J (Code.at [1, 1, 1, 1, 0, 1, 0] c205) (sp 31 [(0, x0), (6, x6), (7, x7), (13, x13), (14, x14), (15, x15)]) H (kk (some [6]) kn [(0, (some [6]), kn)] R [4, 5]) := by
  kernel_rfl
theorem N205_2_eq (ρ : Addr → Option Value) (call : CallF) (yc : YieldF) (lim k : Nat) (x0 x6 x7 x13 x14 x15 : AV) (H : Heap) (kn : KS) (R : List AV → Heap → Res) :
    evL (cx ρ) call yc false 205 lim k (Code.at [1, 1, 1, 1, 0, 1] c205) (sp 31 [(0, x0), (6, x6), (7, x7), (13, x13), (14, x14), (15, x15)]) H (kk (some [6]) kn [] R [4, 5]) = N205_2 ρ call yc lim k x0 x6 x7 x13 x14 x15 H (fun x6 H => kn (sp 31 [(6, x6)]) H) := by
  rw [evL_X, N205_2_x]
  simp only [← evL_X, N205_2, N205_3_eq]
noncomputable def L205 (ρ : Addr → Option Value) (call : CallF) (yc : YieldF) (lim k : Nat) (x0 x1 : AV) (H : Heap) : Res :=
  resK (call lim 270 [x1] H) fun x11 H =>
  purK (unA .not x11) fun x12 =>
  condK x12
  (
    retK [.nils, (.int .i64 1)] H)
  (
    purK (lenBA (cx ρ) H 60 x1) fun x14 =>
    N205_2 ρ call yc lim k x0 .nils (.int .i64 0) x1 x14 (.int .i64 0) H (fun x6 H =>
      N205_1 ρ call yc lim k x6 H retK))
theorem L205_x (ρ : Addr → Option Value) (call : CallF) (yc : YieldF) (lim k : Nat) (J : CodeF) (x0 x1 : AV) (H : Heap) :
    evX (cx ρ) call yc false 205 lim k J c205 [x0, x1, (.tup []), (.tup []), (.tup []), (.tup []), (.tup []), (.tup []), (.tup []), (.tup []), (.tup []), (.tup []), (.tup []), (.tup []), (.tup []), (.tup []), (.tup []), (.tup []), (.tup []), (.tup []), (.tup []), (.tup []), (.tup []), (.tup []), (.tup []), (.tup []), (.tup []), (.tup []), (.tup []), (.tup []), (.tup [])] H (kk none (fun s H => retK (([4, 5] : List Nat).map fun t => s.getD t (.tup [])) H) [] retK [4, 5]) =
  resK (call lim 270 [x1] H) fun x11 H =>
  purK (unA .not x11) fun x12 =>
  condK x12
  (
    retK [.nils, (.int .i64 1)] H)
  (
    purK (lenBA (cx ρ) H 60 x1) fun x14 =>
    J (Code.at [1, 1, 1, 1, 0, 1] c205) (sp 31 [(0, x0), (6, .nils), (7, (.int .i64 0)), (13, x1), (14, x14), (15, (.int .i64 0))]) H (kk (some [6]) (fun s H => J (Code.at [1, 1, 1, 1, 1] c205) s H (kk none (fun s H => retK (([4, 5] : List Nat).map fun t => s.getD t (.tup [])) H) [] retK [4, 5])) [] retK [4, 5])) := by
  kernel_rfl
theorem G205 (ρ : Addr → Option Value) (call : CallF) (yc : YieldF) (lim k : Nat) (x0 x1 : AV) (H : Heap) :
    evL (cx ρ) call yc false 205 lim k c205 [x0, x1, (.tup []), (.tup []), (.tup []), (.tup []), (.tup []), (.tup []), (.tup []), (.tup []), (.tup []), (.tup []), (.tup []), (.tup []), (.tup []), (.tup []), (.tup []), (.tup []), (.tup []), (.tup []), (.tup []), (.tup []), (.tup []), (.tup []), (.tup []), (.tup []), (.tup []), (.tup []), (.tup []), (.tup []), (.tup [])] H (kk none (fun s H => retK (([4, 5] : List Nat).map fun t => s.getD t (.tup [])) H) [] retK [4, 5]) = L205 ρ call yc lim k x0 x1 H := by
  rw [evL_X, L205_x]
  simp only [← evL_X, L205, N205_1_eq, N205_2_eq]
theorem E205 (ρ : Addr → Option Value) (k lim : Nat) (x0 x1 : AV) (H : Heap) : evCall (cx ρ) (k + 1) lim 205 [x0, x1] H = L205 ρ (evCall (cx ρ) k) (evCY (cx ρ) k).2 lim k x0 x1 H := by
  rw [evCall_body (cx ρ) k lim 205 _ H Tryz.f205 c205 [4, 5] (by kernel_rfl) (by kernel_rfl) (by kernel_rfl) (by kernel_rfl) (by kernel_rfl)]
  exact G205 ρ (evCall (cx ρ) k) (evCY (cx ρ) k).2 lim k x0 x1 H
-- haycroft/field.Join
noncomputable def c206 : Code := Code.of Tryz.prog 206
noncomputable def N206_1 (ρ : Addr → Option Value) (call : CallF) (yc : YieldF) (lim k : Nat) (x6 : AV) (H : Heap) (R : List AV → Heap → Res) : Res :=
  R [x6, (.int .i64 0)] H
theorem N206_1_eq (ρ : Addr → Option Value) (call : CallF) (yc : YieldF) (lim k : Nat) (x6 : AV) (H : Heap) (R : List AV → Heap → Res) :
    evL (cx ρ) call yc false 206 lim k (Code.at [1, 1, 1, 1, 1] c206) (sp 49 [(6, x6)]) H (kk none (fun s H => R (([4, 5] : List Nat).map fun t => s.getD t (.tup [])) H) [] R [4, 5]) = N206_1 ρ call yc lim k x6 H R := by
  kernel_rfl
noncomputable def N206_3b (ρ : Addr → Option Value) (call : CallF) (yc : YieldF) (lim k : Nat) (x0 x6 x7 x22 x23 x24 : AV) (H : Heap) (kn : AV → AV → AV → AV → AV → AV → Heap → Res) (k0 : AV → Heap → Res) (R : List AV → Heap → Res) : Res :=
  purK (binA Tryz.prog H .lss 3 x24 x23) fun x25_1 =>
  condK x25_1
  (
    purK (indexAddrA Tryz.prog 60 x22 x24) fun x27_1 =>
    purK (loadA (cx ρ) H 3 x27_1) fun x28_1 =>
    purK (indexAddrA Tryz.prog 31 x0 x24) fun x35_1 =>
    purK (loadA (cx ρ) H 22 x35_1) fun x36_1 =>
    resK (call lim 271 [x6, x7, x28_1, x36_1] H) fun x37_1 H =>
    purK (extA 0 x37_1) fun x38_1 =>
    purK (extA 1 x37_1) fun x39_1 =>
    purK (binA Tryz.prog H .neq 28 x39_1 (.int .i64 0)) fun x41_1 =>
    condK x41_1
    (
      R [(.int .u64 0), x39_1] H)
    (
      purK (binA Tryz.prog H .add 3 x7 x28_1) fun x46_1 =>
      purK (binA Tryz.prog H .add 3 x24 (.int .i64 1)) fun x47_1 =>
      kn x0 x38_1 x46_1 x22 x23 x47_1 H))
  (
    k0 x6 H)
theorem N206_3b_eq (ρ : Addr → Option Value) (call : CallF) (yc : YieldF) (lim k : Nat) (x0 x6 x7 x22 x23 x24 : AV) (H : Heap) (kn : KS) (k0 : KS) (R : List AV → Heap → Res) :
    evL (cx ρ) call yc false 206 lim k (Code.at [1, 1, 1, 1, 0, 1, 0, 0] c206) (sp 49 [(0, x0), (6, x6), (7, x7), (22, x22), (23, x23), (24, x24)]) H (kk (some [0, 6, 7, 22, 23, 24]) kn [(0, (some [6]), k0)] R [4, 5]) = N206_3b ρ call yc lim k x0 x6 x7 x22 x23 x24 H (fun x0 x6 x7 x22 x23 x24 H => kn (sp 49 [(0, x0), (6, x6), (7, x7), (22, x22), (23, x23), (24, x24)]) H) (fun x6 H => k0 (sp 49 [(6, x6)]) H) R := by
  kernel_rfl
noncomputable def N206_3 (ρ : Addr → Option Value) (call : CallF) (yc : YieldF) (lim k : Nat) (x0 x6 x7 x22 x23 x24 : AV) (H : Heap) (k0 : AV → Heap → Res) (R : List AV → Heap → Res) : Res :=
  loopL (fun (x : AV × AV × AV) H kn => N206_3b ρ call yc lim k x0 x.1 x.2.1 x22 x23 x.2.2 H (fun _ x6 x7 _ _ x24 H => kn (x6, x7, x24) H) k0 R) k (x6, x7, x24) H
theorem N206_3_eq (ρ : Addr → Option Value) (call : CallF) (yc : YieldF) (lim k : Nat) (x0 x6 x7 x22 x23 x24 : AV) (H : Heap) (kn : KS) (k0 : KS) (R : List AV → Heap → Res) :
    evL (cx ρ) call yc false 206 lim k (Code.at [1, 1, 1, 1, 0, 1, 0] c206) (sp 49 [(0, x0), (6, x6), (7, x7), (22, x22), (23, x23), (24, x24)]) H (kk (some [6]) kn [(0, (some [6]), k0)] R [4, 5]) = N206_3 ρ call yc lim k x0 x6 x7 x22 x23 x24 H (fun x6 H => k0 (sp 49 [(6, x6)]) H) R := by
  have e : Code.at [1, 1, 1, 1, 0, 1, 0] c206 = .loop (Code.at [1, 1, 1, 1, 0, 1, 0, 0] c206) := by kernel_rfl
  rw [e]
  unfold N206_3
  exact loop_node [0, 6, 7, 22, 23, 24] (fun x : AV × AV × AV => (sp 49 [(0, x0), (6, (x.1)), (7, (x.2.1)), (22, x22), (23, x23), (24, (x.2.2))])) (fun (x : AV × AV × AV) H kn => N206_3b ρ call yc lim k x0 x.1 x.2.1 x22 x23 x.2.2 H (fun _ x6 x7 _ _ x24 H => kn (x6, x7, x24) H) (fun x6 H => k0 (sp 49 [(6, x6)]) H) R) (by kernel_rfl) (fun x => by kernel_rfl) (fun x H kn => N206_3b_eq ρ call yc lim k x0 (x.1) (x.2.1) x22 x23 (x.2.2) H kn k0 R) (x6, x7, x24) (sp 49 [(0, x0), (6, x6), (7, x7), (22, x22), (23, x23), (24, x24)]) H (by kernel_rfl)
noncomputable def N206_2 (ρ : Addr → Option Value) (call : CallF) (yc : YieldF) (lim k : Nat) (x0 x6 x7 x22 x23 x24 : AV) (H : Heap) (kn : AV → Heap → Res) (R : List AV → Heap → Res) : Res :=
  N206_3 ρ call yc lim k x0 x6 x7 x22 x23 x24 H kn R
theorem N206_2_x (ρ : Addr → Option Value) (call : CallF) (yc : YieldF) (lim k : Nat) (J : CodeF) (x0 x6 x7 x22 x23 x24 : AV) (H : Heap) (kn : KS) (R : List AV → Heap → Res) :
    evX (cx ρ) call yc false 206 lim k J (Code.at [1, 1, 1, 1, 0, 1] c206) (sp 49 [(0, x0), (6, x6), (7, x7), (22, x22), (23, x23), (24, x24)]) H (kk (some [6]) kn [] R [4, 5]) =
  J (Code.at [1, 1, 1, 1, 0, 1, 0] c206) (sp 49 [(0, x0), (6, x6), (7, x7), (22, x22), (23, x23), (24, x24)]) H (kk (some [6]) kn [(0, (some [6]), kn)] R [4, 5]) := by
  kernel_rfl
theorem N206_2_eq (ρ : Addr → Option Value) (call : CallF) (yc : YieldF) (lim k : Nat) (x0 x6 x7 x22 x23 x24 : AV) (H : Heap) (kn : KS) (R : List AV → Heap → Res) :
    evL (cx ρ) call yc false 206 lim k (Code.at [1, 1, 1, 1, 0, 1] c206) (sp 49 [(0, x0), (6, x6), (7, x7), (22, x22), (23, x23), (24, x24)]) H (kk (some [6]) kn [] R [4, 5]) = N206_2 ρ call yc lim k x0 x6 x7 x22 x23 x24 H (fun x6 H => kn (sp 49 [(6, x6)]) H) R := by
  rw [evL_X, N206_2_x]
  simp only [← evL_X, N206_2, N206_3_eq]
noncomputable def L206 (ρ : Addr → Option Value) (call : CallF) (yc : YieldF) (lim k : Nat) (x0 x1 : AV) (H : Heap) : Res :=
  purK (lenBA (cx ρ) H 31 x0) fun x13 =>
  purK (lenBA (cx ρ) H 60 x1) fun x15 =>
  purK (binA Tryz.prog H .neq 3 x13 x15) fun x16 =>
  purK (gPur (wantV x16 false) (some x1)) fun x18 =>
  resK (gRes (wantV x16 false) H (call lim 270 [x18] H)) fun x19 H =>
  purK (gPur (wantV x16 false) (unA .not x19)) fun x20 =>
  purK (pickA x16 (.bool true) x20) fun x21 =>
  condK x21
  (
    retK [(.int .u64 0), (.int .i64 1)] H)
  (
    purK (lenBA (cx ρ) H 60 x1) fun x23 =>
    N206_2 ρ call yc lim k x0 (.int .u64 0) (.int .i64 0) x1 x23 (.int .i64 0) H (fun x6 H =>
      N206_1 ρ call yc lim k x6 H retK) retK)
theorem L206_x (ρ : Addr → Option Value) (call : CallF) (yc : YieldF) (lim k : Nat) (J : CodeF) (x0 x1 : AV) (H : Heap) :
    evX (cx ρ) call yc false 206 lim k J c206 [x0, x1, (.tup []), (.tup []), (.tup []), (.tup []), (.tup []), (.tup []), (.tup []), (.tup []), (.tup []), (.tup []), (.tup []), (.tup []), (.tup []), (.tup []), (.tup []), (.tup []), (.tup []), (.tup []), (.tup []), (.tup []), (.tup []), (.tup []), (.tup []), (.tup []), (.tup []), (.tup []), (.tup []), (.tup []), (.tup []), (.tup []), (.tup []), (.tup []), (.tup []), (.tup []), (.tup []), (.tup []), (.tup []), (.tup []), (.tup []), (.tup []), (.tup []), (.tup []), (.tup []), (.tup []), (.tup []), (.tup []), (.tup [])] H (kk none (fun s H => retK (([4, 5] : List Nat).map fun t => s.getD t (.tup [])) H) [] retK [4, 5]) =
  purK (lenBA (cx ρ) H 31 x0) fun x13 =>
  purK (lenBA (cx ρ) H 60 x1) fun x15 =>
  purK (binA Tryz.prog H .neq 3 x13 x15) fun x16 =>
  purK (gPur (wantV x16 false) (some x1)) fun x18 =>
  resK (gRes (wantV x16 false) H (call lim 270 [x18] H)) fun x19 H =>
  purK (gPur (wantV x16 false) (unA .not x19)) fun x20 =>
  purK (pickA x16 (.bool true) x20) fun x21 =>
  condK x21
  (
    retK [(.int .u64 0), (.int .i64 1)] H)
  (
    purK (lenBA (cx ρ) H 60 x1) fun x23 =>
    J (Code.at [1, 1, 1, 1, 0, 1] c206) (sp 49 [(0, x0), (6, (.int .u64 0)), (7, (.int .i64 0)), (22, x1), (23, x23), (24, (.int .i64 0))]) H (kk (some [6]) (fun s H => J (Code.at [1, 1, 1, 1, 1] c206) s H (kk none (fun s H => retK (([4, 5] : List Nat).map fun t => s.getD t (.tup [])) H) [] retK [4, 5])) [] retK [4, 5])) := by
  kernel_rfl
theorem G206 (ρ : Addr → Option Value) (call : CallF) (yc : YieldF) (lim k : Nat) (x0 x1 : AV) (H : Heap) :
    evL (cx ρ) call yc false 206 lim k c206 [x0, x1, (.tup []), (.tup []), (.tup []), (.tup []), (.tup []), (.tup []), (.tup []), (.tup []), (.tup []), (.tup []), (.tup []), (.tup []), (.tup []), (.tup []), (.tup []), (.tup []), (.tup []), (.tup []), (.tup []), (.tup []), (.tup []), (.tup []), (.tup []), (.tup []), (.tup []), (.tup []), (.tup []), (.tup []), (.tup []), (.tup []), (.tup []), (.tup []), (.tup []), (.tup []), (.tup []), (.tup []), (.tup []), (.tup []), (.tup []), (.tup []), (.tup []), (.tup []), (.tup []), (.tup []), (.tup []), (.tup []), (.tup [])] H (kk none (fun s H => retK (([4, 5] : List Nat).map fun t => s.getD t (.tup [])) H) [] retK [4, 5]) = L206 ρ call yc lim k x0 x1 H := by
  rw [evL_X, L206_x]
  simp only [← evL_X, L206, N206_1_eq, N206_2_eq]
theorem E206 (ρ : Addr → Option Value) (k lim : Nat) (x0 x1 : AV) (H : Heap) : evCall (cx ρ) (k + 1) lim 206 [x0, x1] H = L206 ρ (evCall (cx ρ) k) (evCY (cx ρ) k).2 lim k x0 x1 H := by
  rw [evCall_body (cx ρ) k lim 206 _ H Tryz.f206 c206 [4, 5] (by kernel_rfl) (by kernel_rfl) (by kernel_rfl) (by kernel_rfl) (by kernel_rfl)]
  exact G206 ρ (evCall (cx ρ) k) (evCY (cx ρ) k).2 lim k x0 x1 H
-- haycroft/header.bit
noncomputable def c207 : Code := Code.of Tryz.prog 207
noncomputable def L207 (ρ : Addr → Option Value) (call : CallF) (yc : YieldF) (lim k : Nat) (x0 : AV) (H : Heap) : Res :=
  condK x0
  (
    retK [(.int .u64 1)] H)
  (
    retK [(.int .u64 0)] H)
theorem G207 (ρ : Addr → Option Value) (call : CallF) (yc : YieldF) (lim k : Nat) (x0 : AV) (H : Heap) :
    evL (cx ρ) call yc false 207 lim k c207 [x0, (.tup []), (.tup []), (.tup [])] H (kk none (fun s H => retK (([2] : List Nat).map fun t => s.getD t (.tup [])) H) [] retK [2]) = L207 ρ call yc lim k x0 H := by
  kernel_rfl
theorem E207 (ρ : Addr → Option Value) (k lim : Nat) (x0 : AV) (H : Heap) : evCall (cx ρ) (k + 1) lim 207 [x0] H = L207 ρ (evCall (cx ρ) k) (evCY (cx ρ) k).2 lim k x0 H := by
  rw [evCall_body (cx ρ) k lim 207 _ H Tryz.f207 c207 [2] (by kernel_rfl) (by kernel_rfl) (by kernel_rfl) (by kernel_rfl) (by kernel_rfl)]
  exact G207 ρ (evCall (cx ρ) k) (evCY (cx ρ) k).2 lim k x0 H
-- slices.stableCmpFunc[haycroft/api.Commit]
noncomputable def c217 : Code := Code.of Tryz.prog 217
noncomputable def N217_7 (ρ : Addr → Option Value) (call : CallF) (yc : YieldF) (lim k : Nat) (x0 x1 x2 x6 : AV) (H : Heap) (kn : AV → AV → AV → AV → Heap → Res) : Res :=
  purK (binA Tryz.prog H .mul 3 x6 (.int .i64 2)) fun x62_1 =>
  kn x0 x1 x2 x62_1 H
theorem N217_7_eq (ρ : Addr → Option Value) (call : CallF) (yc : YieldF) (lim k : Nat) (x0 x1 x2 x6 : AV) (H : Heap) (kn : KS) (k3 : KS) (R : List AV → Heap → Res) :
    evL (cx ρ) call yc false 217 lim k (Code.at [1, 1, 1, 1, 0, 0, 1, 0, 1, 1, 1] c217) (sp 63 [(0, x0), (1, x1), (2, x2), (6, x6)]) H (kk (some [0, 1, 2, 6]) kn [(3, (some [0, 1, 2, 6]), k3), (2, none, (fun s H => R (([] : List Nat).map fun t => s.getD t (.tup [])) H))] R []) = N217_7 ρ call yc lim k x0 x1 x2 x6 H (fun x0 x1 x2 x6 H => kn (sp 63 [(0, x0), (1, x1), (2, x2), (6, x6)]) H) := by
  kernel_rfl
noncomputable def N217_6 (ρ : Addr → Option Value) (call : CallF) (yc : YieldF) (lim k : Nat) (x0 x1 x2 x6 x7 : AV) (H : Heap) (kn : AV → AV → AV → AV → Heap → Res) : Res :=
  purK (binA Tryz.prog H .add 3 x7 x6) fun x51_1 =>
  purK (binA Tryz.prog H .lss 3 x51_1 x1) fun x54_1 =>
  condK x54_1
  (
    resK (call lim 275 [x0, x7, x51_1, x1, x2] H) fun x60_1 H =>
    N217_7 ρ call yc lim k x0 x1 x2 x6 H kn)
  (
    N217_7 ρ call yc lim k x0 x1 x2 x6 H kn)
theorem N217_6_x (ρ : Addr → Option Value) (call : CallF) (yc : YieldF) (lim k : Nat) (J : CodeF) (x0 x1 x2 x6 x7 : AV) (H : Heap) (kn : KS) (k3 : KS) (R : List AV → Heap → Res) :
    evX (cx ρ) call yc false 217 lim k J (Code.at [1, 1, 1, 1, 0, 0, 1, 0, 1, 1] c217) (sp 63 [(0, x0), (1, x1), (2, x2), (6, x6), (7, x7)]) H (kk (some [0, 1, 2, 6]) kn [(3, (some [0, 1, 2, 6]), k3), (2, none, (fun s H => R (([] : List Nat).map fun t => s.getD t (.tup [])) H))] R []) =
  purK (binA Tryz.prog H .add 3 x7 x6) fun x51_1 =>
  purK (binA Tryz.prog H .lss 3 x51_1 x1) fun x54_1 =>
  condK x54_1
  (
    resK (call lim 275 [x0, x7, x51_1, x1, x2] H) fun x60_1 H =>
    J (Code.at [1, 1, 1, 1, 0, 0, 1, 0, 1, 1, 1] c217) (sp 63 [(0, x0), (1, x1), (2, x2), (6, x6)]) H (kk (some [0, 1, 2, 6]) kn [(3, (some [0, 1, 2, 6]), k3), (2, none, (fun s H => R (([] : List Nat).map fun t => s.getD t (.tup [])) H))] R []))
  (
    J (Code.at [1, 1, 1, 1, 0, 0, 1, 0, 1, 1, 1] c217) (sp 63 [(0, x0), (1, x1), (2, x2), (6, x6)]) H (kk (some [0, 1, 2, 6]) kn [(3, (some [0, 1, 2, 6]), k3), (2, none, (fun s H => R (([] : List Nat).map fun t => s.getD t (.tup [])) H))] R [])) := by
  kernel_rfl
theorem N217_6_eq (ρ : Addr → Option Value) (call : CallF) (yc : YieldF) (lim k : Nat) (x0 x1 x2 x6 x7 : AV) (H : Heap) (kn : KS) (k3 : KS) (R : List AV → Heap → Res) :
    evL (cx ρ) call yc false 217 lim k (Code.at [1, 1, 1, 1, 0, 0, 1, 0, 1, 1] c217) (sp 63 [(0, x0), (1, x1), (2, x2), (6, x6), (7, x7)]) H (kk (some [0, 1, 2, 6]) kn [(3, (some [0, 1, 2, 6]), k3), (2, none, (fun s H => R (([] : List Nat).map fun t => s.getD t (.tup [])) H))] R []) = N217_6 ρ call yc lim k x0 x1 x2 x6 x7 H (fun x0 x1 x2 x6 H => kn (sp 63 [(0, x0), (1, x1), (2, x2), (6, x6)]) H) := by
  rw [evL_X, N217_6_x]
  simp only [← evL_X, N217_6, N217_7_eq]
noncomputable def N217_8b (ρ : Addr → Option Value) (call : CallF) (yc : YieldF) (lim k : Nat) (x0 x1 x2 x6 x7 x8 : AV) (H : Heap) (kn : AV → AV → AV → AV → AV → AV → Heap → Res) (k4 : AV → AV → AV → AV → AV → Heap → Res) : Res :=
  purK (binA Tryz.prog H .leq 3 x8 x1) fun x35_1 =>
  condK x35_1
  (
    purK (binA Tryz.prog H .add 3 x7 x6) fun x40_1 =>
    resK (call lim 275 [x0, x7, x40_1, x8, x2] H) fun x43_1 H =>
    purK (binA Tryz.prog H .mul 3 (.int .i64 2) x6) fun x47_1 =>
    purK (binA Tryz.prog H .add 3 x8 x47_1) fun x48_1 =>
    kn x0 x1 x2 x6 x8 x48_1 H)
  (
    k4 x0 x1 x2 x6 x7 H)
theorem N217_8b_eq (ρ : Addr → Option Value) (call : CallF) (yc : YieldF) (lim k : Nat) (x0 x1 x2 x6 x7 x8 : AV) (H : Heap) (kn : KS) (k4 : KS) (k3 : KS) (R : List AV → Heap → Res) :
    evL (cx ρ) call yc false 217 lim k (Code.at [1, 1, 1, 1, 0, 0, 1, 0, 1, 0, 0, 0] c217) (sp 63 [(0, x0), (1, x1), (2, x2), (6, x6), (7, x7), (8, x8)]) H (kk (some [0, 1, 2, 6, 7, 8]) kn [(4, (some [0, 1, 2, 6, 7]), k4), (3, (some [0, 1, 2, 6]), k3), (2, none, (fun s H => R (([] : List Nat).map fun t => s.getD t (.tup [])) H))] R []) = N217_8b ρ call yc lim k x0 x1 x2 x6 x7 x8 H (fun x0 x1 x2 x6 x7 x8 H => kn (sp 63 [(0, x0), (1, x1), (2, x2), (6, x6), (7, x7), (8, x8)]) H) (fun x0 x1 x2 x6 x7 H => k4 (sp 63 [(0, x0), (1, x1), (2, x2), (6, x6), (7, x7)]) H) := by
  kernel_rfl
noncomputable def N217_8 (ρ : Addr → Option Value) (call : CallF) (yc : YieldF) (lim k : Nat) (x0 x1 x2 x6 x7 x8 : AV) (H : Heap) (k4 : AV → AV → AV → AV → AV → Heap → Res) : Res :=
  loopL (fun (x : AV × AV) H kn => N217_8b ρ call yc lim k x0 x1 x2 x6 x.1 x.2 H (fun _ _ _ _ x7 x8 H => kn (x7, x8) H) k4) k (x7, x8) H
theorem N217_8_eq (ρ : Addr → Option Value) (call : CallF) (yc : YieldF) (lim k : Nat) (x0 x1 x2 x6 x7 x8 : AV) (H : Heap) (kn : KS) (k4 : KS) (k3 : KS) (R : List AV → Heap → Res) :
    evL (cx ρ) call yc false 217 lim k (Code.at [1, 1, 1, 1, 0, 0, 1, 0, 1, 0, 0] c217) (sp 63 [(0, x0), (1, x1), (2, x2), (6, x6), (7, x7), (8, x8)]) H (kk (some [0, 1, 2, 6, 7]) kn [(4, (some [0, 1, 2, 6, 7]), k4), (3, (some [0, 1, 2, 6]), k3), (2, none, (fun s H => R (([] : List Nat).map fun t => s.getD t (.tup [])) H))] R []) = N217_8 ρ call yc lim k x0 x1 x2 x6 x7 x8 H (fun x0 x1 x2 x6 x7 H => k4 (sp 63 [(0, x0), (1, x1), (2, x2), (6, x6), (7, x7)]) H) := by
  have e : Code.at [1, 1, 1, 1, 0, 0, 1, 0, 1, 0, 0] c217 = .loop (Code.at [1, 1, 1, 1, 0, 0, 1, 0, 1, 0, 0, 0] c217) := by kernel_rfl
  rw [e]
  unfold N217_8
  exact loop_node [0, 1, 2, 6, 7, 8] (fun x : AV × AV => (sp 63 [(0, x0), (1, x1), (2, x2), (6, x6), (7, (x.1)), (8, (x.2))])) (fun (x : AV × AV) H kn => N217_8b ρ call yc lim k x0 x1 x2 x6 x.1 x.2 H (fun _ _ _ _ x7 x8 H => kn (x7, x8) H) (fun x0 x1 x2 x6 x7 H => k4 (sp 63 [(0, x0), (1, x1), (2, x2), (6, x6), (7, x7)]) H)) (by kernel_rfl) (fun x => by kernel_rfl) (fun x H kn => N217_8b_eq ρ call yc lim k x0 x1 x2 x6 (x.1) (x.2) H kn k4 k3 R) (x7, x8) (sp 63 [(0, x0), (1, x1), (2, x2), (6, x6), (7, x7), (8, x8)]) H (by kernel_rfl)
noncomputable def N217_5 (ρ : Addr → Option Value) (call : CallF) (yc : YieldF) (lim k : Nat) (x0 x1 x2 x6 x7 x8 : AV) (H : Heap) (kn : AV → AV → AV → AV → Heap → Res) : Res :=
  N217_8 ρ call yc lim k x0 x1 x2 x6 x7 x8 H (fun x0_1 x1_1 x2_1 x6_1 x7_1 H =>
    N217_6 ρ call yc lim k x0_1 x1_1 x2_1 x6_1 x7_1 H kn)
theorem N217_5_x (ρ : Addr → Option Value) (call : CallF) (yc : YieldF) (lim k : Nat) (J : CodeF) (x0 x1 x2 x6 x7 x8 : AV) (H : Heap) (kn : KS) (k3 : KS) (R : List AV → Heap → Res) :
    evX (cx ρ) call yc false 217 lim k J (Code.at [1, 1, 1, 1, 0, 0, 1, 0, 1] c217) (sp 63 [(0, x0), (1, x1), (2, x2), (6, x6), (7, x7), (8, x8)]) H (kk (some [0, 1, 2, 6]) kn [(3, (some [0, 1, 2, 6]), k3), (2, none, (fun s H => R (([] : List Nat).map fun t => s.getD t (.tup [])) H))] R []) =
  J (Code.at [1, 1, 1, 1, 0, 0, 1, 0, 1, 0, 0] c217) (sp 63 [(0, x0), (1, x1), (2, x2), (6, x6), (7, x7), (8, x8)]) H (kk (some [0, 1, 2, 6, 7]) (fun s H => J (Code.at [1, 1, 1, 1, 0, 0, 1, 0, 1, 1] c217) s H (kk (some [0, 1, 2, 6]) kn [(3, (some [0, 1, 2, 6]), k3), (2, none, (fun s H => R (([] : List Nat).map fun t => s.getD t (.tup [])) H))] R [])) [(4, (some [0, 1, 2, 6, 7]), (fun s H => J (Code.at [1, 1, 1, 1, 0, 0, 1, 0, 1, 1] c217) s H (kk (some [0, 1, 2, 6]) kn [(3, (some [0, 1, 2, 6]), k3), (2, none, (fun s H => R (([] : List Nat).map fun t => s.getD t (.tup [])) H))] R []))), (3, (some [0, 1, 2, 6]), k3), (2, none, (fun s H => R (([] : List Nat).map fun t => s.getD t (.tup [])) H))] R []) := by
  kernel_rfl
theorem N217_5_eq (ρ : Addr → Option Value) (call : CallF) (yc : YieldF) (lim k : Nat) (x0 x1 x2 x6 x7 x8 : AV) (H : Heap) (kn : KS) (k3 : KS) (R : List AV → Heap → Res) :
    evL (cx ρ) call yc false 217 lim k (Code.at [1, 1, 1, 1, 0, 0, 1, 0, 1] c217) (sp 63 [(0, x0), (1, x1), (2, x2), (6, x6), (7, x7), (8, x8)]) H (kk (some [0, 1, 2, 6]) kn [(3, (some [0, 1, 2, 6]), k3), (2, none, (fun s H => R (([] : List Nat).map fun t => s.getD t (.tup [])) H))] R []) = N217_5 ρ call yc lim k x0 x1 x2 x6 x7 x8 H (fun x0 x1 x2 x6 H => kn (sp 63 [(0, x0), (1, x1), (2, x2), (6, x6)]) H) := by
  rw [evL_X, N217_5_x]
  simp only [← evL_X, N217_5, N217_6_eq, N217_8_eq]
noncomputable def N217_4b (ρ : Addr → Option Value) (call : CallF) (yc : YieldF) (lim k : Nat) (x0 x1 x2 x6 : AV) (H : Heap) (kn : AV → AV → AV → AV → Heap → Res) (R : List AV → Heap → Res) : Res :=
  purK (binA Tryz.prog H .lss 3 x6 x1) fun x30_1 =>
  condK x30_1
  (
    purK (binA Tryz.prog H .mul 3 (.int .i64 2) x6) fun x32_1 =>
    N217_5 ρ call yc lim k x0 x1 x2 x6 (.int .i64 0) x32_1 H kn)
  (
    R [] H)
theorem N217_4b_x (ρ : Addr → Option Value) (call : CallF) (yc : YieldF) (lim k : Nat) (J : CodeF) (x0 x1 x2 x6 : AV) (H : Heap) (kn : KS) (R : List AV → Heap → Res) :
    evX (cx ρ) call yc false 217 lim k J (Code.at [1, 1, 1, 1, 0, 0] c217) (sp 63 [(0, x0), (1, x1), (2, x2), (6, x6)]) H (kk (some [0, 1, 2, 6]) kn [(2, none, (fun s H => R (([] : List Nat).map fun t => s.getD t (.tup [])) H))] R []) =
  purK (binA Tryz.prog H .lss 3 x6 x1) fun x30_1 =>
  condK x30_1
  (
    purK (binA Tryz.prog H .mul 3 (.int .i64 2) x6) fun x32_1 =>
    J (Code.at [1, 1, 1, 1, 0, 0, 1, 0, 1] c217) (sp 63 [(0, x0), (1, x1), (2, x2), (6, x6), (7, (.int .i64 0)), (8, x32_1)]) H (kk (some [0, 1, 2, 6]) kn [(3, (some [0, 1, 2, 6]), kn), (2, none, (fun s H => R (([] : List Nat).map fun t => s.getD t (.tup [])) H))] R []))
  (
    R [] H) := by
  kernel_rfl
theorem N217_4b_eq (ρ : Addr → Option Value) (call : CallF) (yc : YieldF) (lim k : Nat) (x0 x1 x2 x6 : AV) (H : Heap) (kn : KS) (R : List AV → Heap → Res) :
    evL (cx ρ) call yc false 217 lim k (Code.at [1, 1, 1, 1, 0, 0] c217) (sp 63 [(0, x0), (1, x1), (2, x2), (6, x6)]) H (kk (some [0, 1, 2, 6]) kn [(2, none, (fun s H => R (([] : List Nat).map fun t => s.getD t (.tup [])) H))] R []) = N217_4b ρ call yc lim k x0 x1 x2 x6 H (fun x0 x1 x2 x6 H => kn (sp 63 [(0, x0), (1, x1), (2, x2), (6, x6)]) H) R := by
  rw [evL_X, N217_4b_x]
  simp only [← evL_X, N217_4b, N217_5_eq]
noncomputable def N217_4 (ρ : Addr → Option Value) (call : CallF) (yc : YieldF) (lim k : Nat) (x0 x1 x2 x6 : AV) (H : Heap) (R : List AV → Heap → Res) : Res :=
  loopL (fun (x : AV) H kn => N217_4b ρ call yc lim k x0 x1 x2 x H (fun _ _ _ x6 H => kn x6 H) R) k x6 H
theorem N217_4_eq (ρ : Addr → Option Value) (call : CallF) (yc : YieldF) (lim k : Nat) (x0 x1 x2 x6 : AV) (H : Heap) (R : List AV → Heap → Res) :
    evL (cx ρ) call yc false 217 lim k (Code.at [1, 1, 1, 1, 0] c217) (sp 63 [(0, x0), (1, x1), (2, x2), (6, x6)]) H (kk none (fun s H => R (([] : List Nat).map fun t => s.getD t (.tup [])) H) [(2, none, (fun s H => R (([] : List Nat).map fun t => s.getD t (.tup [])) H))] R []) = N217_4 ρ call yc lim k x0 x1 x2 x6 H R := by
  have e : Code.at [1, 1, 1, 1, 0] c217 = .loop (Code.at [1, 1, 1, 1, 0, 0] c217) := by kernel_rfl
  rw [e]
  unfold N217_4
  exact loop_node [0, 1, 2, 6] (fun x : AV => (sp 63 [(0, x0), (1, x1), (2, x2), (6, (x))])) (fun (x : AV) H kn => N217_4b ρ call yc lim k x0 x1 x2 x H (fun _ _ _ x6 H => kn x6 H) R) (by kernel_rfl) (fun x => by kernel_rfl) (fun x H kn => N217_4b_eq ρ call yc lim k x0 x1 x2 (x) H kn R) x6 (sp 63 [(0, x0), (1, x1), (2, x2), (6, x6)]) H (by kernel_rfl)
noncomputable def N217_3 (ρ : Addr → Option Value) (call : CallF) (yc : YieldF) (lim k : Nat) (x0 x1 x2 x6 : AV) (H : Heap) (R : List AV → Heap → Res) : Res :=
  N217_4 ρ call yc lim k x0 x1 x2 x6 H R
theorem N217_3_x (ρ : Addr → Option Value) (call : CallF) (yc : YieldF) (lim k : Nat) (J : CodeF) (x0 x1 x2 x6 : AV) (H : Heap) (R : List AV → Heap → Res) :
    evX (cx ρ) call yc false 217 lim k J (Code.at [1, 1, 1, 1] c217) (sp 63 [(0, x0), (1, x1), (2, x2), (6, x6)]) H (kk none (fun s H => R (([] : List Nat).map fun t => s.getD t (.tup [])) H) [] R []) =
  J (Code.at [1, 1, 1, 1, 0] c217) (sp 63 [(0, x0), (1, x1), (2, x2), (6, x6)]) H (kk none (fun s H => R (([] : List Nat).map fun t => s.getD t (.tup [])) H) [(2, none, (fun s H => R (([] : List Nat).map fun t => s.getD t (.tup [])) H))] R []) := by
  kernel_rfl
theorem N217_3_eq (ρ : Addr → Option Value) (call : CallF) (yc : YieldF) (lim k : Nat) (x0 x1 x2 x6 : AV) (H : Heap) (R : List AV → Heap → Res) :
    evL (cx ρ) call yc false 217 lim k (Code.at [1, 1, 1, 1] c217) (sp 63 [(0, x0), (1, x1), (2, x2), (6, x6)]) H (kk none (fun s H => R (([] : List Nat).map fun t => s.getD t (.tup [])) H) [] R []) = N217_3 ρ call yc lim k x0 x1 x2 x6 H R := by
  rw [evL_X, N217_3_x]
  simp only [← evL_X, N217_3, N217_4_eq]
noncomputable def N217_2 (ρ : Addr → Option Value) (call : CallF) (yc : YieldF) (lim k : Nat) (x0 x1 x2 x6 x7 : AV) (H : Heap) (R : List AV → Heap → Res) : Res :=
  resK (call lim 274 [x0, x7, x1, x2] H) fun x27_1 H =>
  N217_3 ρ call yc lim k x0 x1 x2 x6 H R
theorem N217_2_x (ρ : Addr → Option Value) (call : CallF) (yc : YieldF) (lim k : Nat) (J : CodeF) (x0 x1 x2 x6 x7 : AV) (H : Heap) (R : List AV → Heap → Res) :
    evX (cx ρ) call yc false 217 lim k J (Code.at [1, 1, 1] c217) (sp 63 [(0, x0), (1, x1), (2, x2), (6, x6), (7, x7)]) H (kk none (fun s H => R (([] : List Nat).map fun t => s.getD t (.tup [])) H) [] R []) =
  resK (call lim 274 [x0, x7, x1, x2] H) fun x27_1 H =>
  J (Code.at [1, 1, 1, 1] c217) (sp 63 [(0, x0), (1, x1), (2, x2), (6, x6)]) H (kk none (fun s H => R (([] : List Nat).map fun t => s.getD t (.tup [])) H) [] R []) := by
  kernel_rfl
theorem N217_2_eq (ρ : Addr → Option Value) (call : CallF) (yc : YieldF) (lim k : Nat) (x0 x1 x2 x6 x7 : AV) (H : Heap) (R : List AV → Heap → Res) :
    evL (cx ρ) call yc false 217 lim k (Code.at [1, 1, 1] c217) (sp 63 [(0, x0), (1, x1), (2, x2), (6, x6), (7, x7)]) H (kk none (fun s H => R (([] : List Nat).map fun t => s.getD t (.tup [])) H) [] R []) = N217_2 ρ call yc lim k x0 x1 x2 x6 x7 H R := by
  rw [evL_X, N217_2_x]
  simp only [← evL_X, N217_2, N217_3_eq]
noncomputable def N217_9b (ρ : Addr → Option Value) (call : CallF) (yc : YieldF) (lim k : Nat) (x0 x1 x2 x6 x7 x8 : AV) (H : Heap) (kn : AV → AV → AV → AV → AV → AV → Heap → Res) (k0 : AV → AV → AV → AV → AV → Heap → Res) : Res :=
  purK (binA Tryz.prog H .leq 3 x8 x1) fun x13_1 =>
  condK x13_1
  (
    resK (call lim 274 [x0, x7, x8, x2] H) fun x18_1 H =>
    purK (binA Tryz.prog H .add 3 x8 x6) fun x22_1 =>
    kn x0 x1 x2 x6 x8 x22_1 H)
  (
    k0 x0 x1 x2 x6 x7 H)
theorem N217_9b_eq (ρ : Addr → Option Value) (call : CallF) (yc : YieldF) (lim k : Nat) (x0 x1 x2 x6 x7 x8 : AV) (H : Heap) (kn : KS) (k0 : KS) (R : List AV → Heap → Res) :
    evL (cx ρ) call yc false 217 lim k (Code.at [1, 1, 0, 0, 0] c217) (sp 63 [(0, x0), (1, x1), (2, x2), (6, x6), (7, x7), (8, x8)]) H (kk (some [0, 1, 2, 6, 7, 8]) kn [(0, (some [0, 1, 2, 6, 7]), k0)] R []) = N217_9b ρ call yc lim k x0 x1 x2 x6 x7 x8 H (fun x0 x1 x2 x6 x7 x8 H => kn (sp 63 [(0, x0), (1, x1), (2, x2), (6, x6), (7, x7), (8, x8)]) H) (fun x0 x1 x2 x6 x7 H => k0 (sp 63 [(0, x0), (1, x1), (2, x2), (6, x6), (7, x7)]) H) := by
  kernel_rfl
noncomputable def N217_9 (ρ : Addr → Option Value) (call : CallF) (yc : YieldF) (lim k : Nat) (x0 x1 x2 x6 x7 x8 : AV) (H : Heap) (k0 : AV → AV → AV → AV → AV → Heap → Res) : Res :=
  loopL (fun (x : AV × AV) H kn => N217_9b ρ call yc lim k x0 x1 x2 x6 x.1 x.2 H (fun _ _ _ _ x7 x8 H => kn (x7, x8) H) k0) k (x7, x8) H
theorem N217_9_eq (ρ : Addr → Option Value) (call : CallF) (yc : YieldF) (lim k : Nat) (x0 x1 x2 x6 x7 x8 : AV) (H : Heap) (kn : KS) (k0 : KS) (R : List AV → Heap → Res) :
    evL (cx ρ) call yc false 217 lim k (Code.at [1, 1, 0, 0] c217) (sp 63 [(0, x0), (1, x1), (2, x2), (6, x6), (7, x7), (8, x8)]) H (kk (some [0, 1, 2, 6, 7]) kn [(0, (some [0, 1, 2, 6, 7]), k0)] R []) = N217_9 ρ call yc lim k x0 x1 x2 x6 x7 x8 H (fun x0 x1 x2 x6 x7 H => k0 (sp 63 [(0, x0), (1, x1), (2, x2), (6, x6), (7, x7)]) H) := by
  have e : Code.at [1, 1, 0, 0] c217 = .loop (Code.at [1, 1, 0, 0, 0] c217) := by kernel_rfl
  rw [e]
  unfold N217_9
  exact loop_node [0, 1, 2, 6, 7, 8] (fun x : AV × AV => (sp 63 [(0, x0), (1, x1), (2, x2), (6, x6), (7, (x.1)), (8, (x.2))])) (fun (x : AV × AV) H kn => N217_9b ρ call yc lim k x0 x1 x2 x6 x.1 x.2 H (fun _ _ _ _ x7 x8 H => kn (x7, x8) H) (fun x0 x1 x2 x6 x7 H => k0 (sp 63 [(0, x0), (1, x1), (2, x2), (6, x6), (7, x7)]) H)) (by kernel_rfl) (fun x => by kernel_rfl) (fun x H kn => N217_9b_eq ρ call yc lim k x0 x1 x2 x6 (x.1) (x.2) H kn k0 R) (x7, x8) (sp 63 [(0, x0), (1, x1), (2, x2), (6, x6), (7, x7), (8, x8)]) H (by kernel_rfl)
noncomputable def N217_1 (ρ : Addr → Option Value) (call : CallF) (yc : YieldF) (lim k : Nat) (x0 x1 x2 x6 x7 x8 : AV) (H : Heap) (R : List AV → Heap → Res) : Res :=
  N217_9 ρ call yc lim k x0 x1 x2 x6 x7 x8 H (fun x0_1 x1_1 x2_1 x6_1 x7_1 H =>
    N217_2 ρ call yc lim k x0_1 x1_1 x2_1 x6_1 x7_1 H R)
theorem N217_1_x (ρ : Addr → Option Value) (call : CallF) (yc : YieldF) (lim k : Nat) (J : CodeF) (x0 x1 x2 x6 x7 x8 : AV) (H : Heap) (R : List AV → Heap → Res) :
    evX (cx ρ) call yc false 217 lim k J (Code.at [1, 1] c217) (sp 63 [(0, x0), (1, x1), (2, x2), (6, x6), (7, x7), (8, x8)]) H (kk none (fun s H => R (([] : List Nat).map fun t => s.getD t (.tup [])) H) [] R []) =
  J (Code.at [1, 1, 0, 0] c217) (sp 63 [(0, x0), (1, x1), (2, x2), (6, x6), (7, x7), (8, x8)]) H (kk (some [0, 1, 2, 6, 7]) (fun s H => J (Code.at [1, 1, 1] c217) s H (kk none (fun s H => R (([] : List Nat).map fun t => s.getD t (.tup [])) H) [] R [])) [(0, (some [0, 1, 2, 6, 7]), (fun s H => J (Code.at [1, 1, 1] c217) s H (kk none (fun s H => R (([] : List Nat).map fun t => s.getD t (.tup [])) H) [] R [])))] R []) := by
  kernel_rfl
theorem N217_1_eq (ρ : Addr → Option Value) (call : CallF) (yc : YieldF) (lim k : Nat) (x0 x1 x2 x6 x7 x8 : AV) (H : Heap) (R : List AV → Heap → Res) :
    evL (cx ρ) call yc false 217 lim k (Code.at [1, 1] c217) (sp 63 [(0, x0), (1, x1), (2, x2), (6, x6), (7, x7), (8, x8)]) H (kk none (fun s H => R (([] : List Nat).map fun t => s.getD t (.tup [])) H) [] R []) = N217_1 ρ call yc lim k x0 x1 x2 x6 x7 x8 H R := by
  rw [evL_X, N217_1_x]
  simp only [← evL_X, N217_1, N217_2_eq, N217_9_eq]
noncomputable def L217 (ρ : Addr → Option Value) (call : CallF) (yc : YieldF) (lim k : Nat) (x0 x1 x2 : AV) (H : Heap) : Res :=
  N217_1 ρ call yc lim k x0 x1 x2 (.int .i64 20) (.int .i64 0) (.int .i64 20) H retK
theorem L217_x (ρ : Addr → Option Value) (call : CallF) (yc : YieldF) (lim k : Nat) (J : CodeF) (x0 x1 x2 : AV) (H : Heap) :
    evX (cx ρ) call yc false 217 lim k J c217 [x0, x1, x2, (.tup []), (.tup []), (.tup []), (.tup []), (.tup []), (.tup []), (.tup []), (.tup []), (.tup []), (.tup []), (.tup []), (.tup []), (.tup []), (.tup []), (.tup []), (.tup []), (.tup []), (.tup []), (.tup []), (.tup []), (.tup []), (.tup []), (.tup []), (.tup []), (.tup []), (.tup []), (.tup []), (.tup []), (.tup []), (.tup []), (.tup []), (.tup []), (.tup []), (.tup []), (.tup []), (.tup []), (.tup []), (.tup []), (.tup []), (.tup []), (.tup []), (.tup []), (.tup []), (.tup []), (.tup []), (.tup []), (.tup []), (.tup []), (.tup []), (.tup []), (.tup []), (.tup []), (.tup []), (.tup []), (.tup []), (.tup []), (.tup []), (.tup []), (.tup []), (.tup [])] H (kk none (fun s H => retK (([] : List Nat).map fun t => s.getD t (.tup [])) H) [] retK []) =
  J (Code.at [1, 1] c217) (sp 63 [(0, x0), (1, x1), (2, x2), (6, (.int .i64 20)), (7, (.int .i64 0)), (8, (.int .i64 20))]) H (kk none (fun s H => retK (([] : List Nat).map fun t => s.getD t (.tup [])) H) [] retK []) := by
  kernel_rfl
theorem G217 (ρ : Addr → Option Value) (call : CallF) (yc : YieldF) (lim k : Nat) (x0 x1 x2 : AV) (H : Heap) :
    evL (cx ρ) call yc false 217 lim k c217 [x0, x1, x2, (.tup []), (.tup []), (.tup []), (.tup []), (.tup []), (.tup []), (.tup []), (.tup []), (.tup []), (.tup []), (.tup []), (.tup []), (.tup []), (.tup []), (.tup []), (.tup []), (.tup []), (.tup []), (.tup []), (.tup []), (.tup []), (.tup []), (.tup []), (.tup []), (.tup []), (.tup []), (.tup []), (.tup []), (.tup []), (.tup []), (.tup []), (.tup []), (.tup []), (.tup []), (.tup []), (.tup []), (.tup []), (.tup []), (.tup []), (.tup []), (.tup []), (.tup []), (.tup []), (.tup []), (.tup []), (.tup []), (.tup []), (.tup []), (.tup []), (.tup []), (.tup []), (.tup []), (.tup []), (.tup []), (.tup []), (.tup []), (.tup []), (.tup []), (.tup []), (.tup [])] H (kk none (fun s H => retK (([] : List Nat).map fun t => s.getD t (.tup [])) H) [] retK []) = L217 ρ call yc lim k x0 x1 x2 H := by
  rw [evL_X, L217_x]
  simp only [← evL_X, L217, N217_1_eq]
theorem E217 (ρ : Addr → Option Value) (k lim : Nat) (x0 x1 x2 : AV) (H : Heap) : evCall (cx ρ) (k + 1) lim 217 [x0, x1, x2] H = L217 ρ (evCall (cx ρ) k) (evCY (cx ρ) k).2 lim k x0 x1 x2 H := by
  rw [evCall_body (cx ρ) k lim 217 _ H Tryz.f217 c217 [] (by kernel_rfl) (by kernel_rfl) (by kernel_rfl) (by kernel_rfl) (by kernel_rfl)]
  exact G217 ρ (evCall (cx ρ) k) (evCY (cx ρ) k).2 lim k x0 x1 x2 H
-- haycroft/tail.New
noncomputable def c225 : Code := Code.of Tryz.prog 225
noncomputable def L225 (ρ : Addr → Option Value) (call : CallF) (yc : YieldF) (lim k : Nat) (x0 x1 : AV) (H : Heap) : Res :=
  resK (call lim 89 [x0] H) fun x10 H =>
  purK (unA .not x10) fun x11 =>
  purK (gPur (wantV x11 false) (some x1)) fun x13 =>
  purK (gPur (wantV x11 false) (binA Tryz.prog H .lss 3 x13 (.int .i64 1))) fun x14 =>
  purK (pickA x11 (.bool true) x14) fun x15 =>
  purK (gPur (wantV x15 false) (some x1)) fun x17 =>
  purK (gPur (wantV x15 false) (binA Tryz.prog H .gtr 3 x17 (.int .i64 64))) fun x18 =>
  purK (pickA x15 (.bool true) x18) fun x19 =>
  condK x19
  (
    retK [.nilp, (.int .i64 1)] H)
  (
    resK (call lim 231 [(.int .i64 1)] H) fun x21 H =>
    purK (extA 0 x21) fun x22 =>
    purK (extA 1 x21) fun x23 =>
    purK (binA Tryz.prog H .neq 28 x23 (.int .i64 0)) fun x25 =>
    condK x25
    (
      retK [.nilp, x23] H)
    (
      purK (buildA Tryz.prog 307 [(0, x0), (1, x1), (2, x22)]) fun x30 =>
      effK H (boxA H 307 x30) fun x31 H =>
      resK (call lim 278 [x31, (.int .i64 0)] H) fun x34 H =>
      retK [x31, x34] H))
theorem G225 (ρ : Addr → Option Value) (call : CallF) (yc : YieldF) (lim k : Nat) (x0 x1 : AV) (H : Heap) :
    evL (cx ρ) call yc false 225 lim k c225 [x0, x1, (.tup []), (.tup []), (.tup []), (.tup []), (.tup []), (.tup []), (.tup []), (.tup []), (.tup []), (.tup []), (.tup []), (.tup []), (.tup []), (.tup []), (.tup []), (.tup []), (.tup []), (.tup []), (.tup []), (.tup []), (.tup []), (.tup []), (.tup []), (.tup []), (.tup []), (.tup []), (.tup []), (.tup []), (.tup []), (.tup []), (.tup []), (.tup []), (.tup [])] H (kk none (fun s H => retK (([4, 5] : List Nat).map fun t => s.getD t (.tup [])) H) [] retK [4, 5]) = L225 ρ call yc lim k x0 x1 H := by
  kernel_rfl
theorem E225 (ρ : Addr → Option Value) (k lim : Nat) (x0 x1 : AV) (H : Heap) : evCall (cx ρ) (k + 1) lim 225 [x0, x1] H = L225 ρ (evCall (cx ρ) k) (evCY (cx ρ) k).2 lim k x0 x1 H := by
  rw [evCall_body (cx ρ) k lim 225 _ H Tryz.f225 c225 [4, 5] (by kernel_rfl) (by kernel_rfl) (by kernel_rfl) (by kernel_rfl) (by kernel_rfl)]
  exact G225 ρ (evCall (cx ρ) k) (evCY (cx ρ) k).2 lim k x0 x1 H
-- haycroft/pages.New
noncomputable def c226 : Code := Code.of Tryz.prog 226
noncomputable def L226 (ρ : Addr → Option Value) (call : CallF) (yc : YieldF) (lim k : Nat) (x0 x1 : AV) (H : Heap) : Res :=
  resK (call lim 89 [x0] H) fun x10 H =>
  purK (unA .not x10) fun x11 =>
  purK (gPur (wantV x11 false) (some x1)) fun x13 =>
  purK (gPur (wantV x11 false) (binA Tryz.prog H .lss 3 x13 (.int .i64 2))) fun x14 =>
  purK (pickA x11 (.bool true) x14) fun x15 =>
  purK (gPur (wantV x15 false) (some x1)) fun x17 =>
  purK (gPur (wantV x15 false) (binA Tryz.prog H .gtr 3 x17 (.int .i64 8))) fun x18 =>
  purK (pickA x15 (.bool true) x18) fun x19 =>
  condK x19
  (
    retK [.nilp, (.int .i64 1)] H)
  (
    resK (call lim 58 [x0] H) fun x23 H =>
    purK (binA Tryz.prog H .mul 3 x1 x23) fun x24 =>
    resK (call lim 231 [x24] H) fun x25 H =>
    purK (extA 0 x25) fun x26 =>
    purK (extA 1 x25) fun x27 =>
    purK (binA Tryz.prog H .neq 28 x27 (.int .i64 0)) fun x29 =>
    condK x29
    (
      retK [.nilp, x27] H)
    (
      resK (call lim 231 [x1] H) fun x33 H =>
      purK (extA 0 x33) fun x34 =>
      purK (extA 1 x33) fun x35 =>
      purK (binA Tryz.prog H .neq 28 x35 (.int .i64 0)) fun x37 =>
      condK x37
      (
        retK [.nilp, x35] H)
      (
        purK (buildA Tryz.prog 199 [(0, x0), (1, x26), (2, x34)]) fun x42 =>
        effK H (boxA H 199 x42) fun x43 H =>
        retK [x43, (.int .i64 0)] H)))
theorem G226 (ρ : Addr → Option Value) (call : CallF) (yc : YieldF) (lim k : Nat) (x0 x1 : AV) (H : Heap) :
    evL (cx ρ) call yc false 226 lim k c226 [x0, x1, (.tup []), (.tup []), (.tup []), (.tup []), (.tup []), (.tup []), (.tup []), (.tup []), (.tup []), (.tup []), (.tup []), (.tup []), (.tup []), (.tup []), (.tup []), (.tup []), (.tup []), (.tup []), (.tup []), (.tup []), (.tup []), (.tup []), (.tup []), (.tup []), (.tup []), (.tup []), (.tup []), (.tup []), (.tup []), (.tup []), (.tup []), (.tup []), (.tup []), (.tup []), (.tup []), (.tup []), (.tup []), (.tup []), (.tup []), (.tup []), (.tup []), (.tup [])] H (kk none (fun s H => retK (([4, 5] : List Nat).map fun t => s.getD t (.tup [])) H) [] retK [4, 5]) = L226 ρ call yc lim k x0 x1 H := by
  kernel_rfl
theorem E226 (ρ : Addr → Option Value) (k lim : Nat) (x0 x1 : AV) (H : Heap) : evCall (cx ρ) (k + 1) lim 226 [x0, x1] H = L226 ρ (evCall (cx ρ) k) (evCY (cx ρ) k).2 lim k x0 x1 H := by
  rw [evCall_body (cx ρ) k lim 226 _ H Tryz.f226 c226 [4, 5] (by kernel_rfl) (by kernel_rfl) (by kernel_rfl) (by kernel_rfl) (by kernel_rfl)]
  exact G226 ρ (evCall (cx ρ) k) (evCY (cx ρ) k).2 lim k x0 x1 H
-- haycroft/epoch.New
noncomputable def c227 : Code := Code.of Tryz.prog 227
noncomputable def L227 (ρ : Addr → Option Value) (call : CallF) (yc : YieldF) (lim k : Nat) (x0 : AV) (H : Heap) : Res :=
  purK (binA Tryz.prog H .lss 3 x0 (.int .i64 1)) fun x7 =>
  purK (gPur (wantV x7 false) (some x0)) fun x9 =>
  purK (gPur (wantV x7 false) (binA Tryz.prog H .gtr 3 x9 (.int .i64 8))) fun x10 =>
  purK (pickA x7 (.bool true) x10) fun x11 =>
  condK x11
  (
    retK [.nilp, (.int .i64 1)] H)
  (
    purK (binA Tryz.prog H .add 3 (.int .i64 1) x0) fun x14 =>
    resK (call lim 231 [x14] H) fun x15 H =>
    purK (extA 0 x15) fun x16 =>
    purK (extA 1 x15) fun x17 =>
    purK (binA Tryz.prog H .neq 28 x17 (.int .i64 0)) fun x19 =>
    condK x19
    (
      retK [.nilp, x17] H)
    (
      resK (call lim 234 [x16, (.int .i64 0), (.int .u64 1)] H) fun x22 H =>
      purK (buildA Tryz.prog 262 [(0, x16)]) fun x24 =>
      effK H (boxA H 262 x24) fun x25 H =>
      retK [x25, (.int .i64 0)] H))
theorem G227 (ρ : Addr → Option Value) (call : CallF) (yc : YieldF) (lim k : Nat) (x0 : AV) (H : Heap) :
    evL (cx ρ) call yc false 227 lim k c227 [x0, (.tup []), (.tup []), (.tup []), (.tup []), (.tup []), (.tup []), (.tup []), (.tup []), (.tup []), (.tup []), (.tup []), (.tup []), (.tup []), (.tup []), (.tup []), (.tup []), (.tup []), (.tup []), (.tup []), (.tup []), (.tup []), (.tup []), (.tup []), (.tup []), (.tup [])] H (kk none (fun s H => retK (([2, 3] : List Nat).map fun t => s.getD t (.tup [])) H) [] retK [2, 3]) = L227 ρ call yc lim k x0 H := by
  kernel_rfl
theorem E227 (ρ : Addr → Option Value) (k lim : Nat) (x0 : AV) (H : Heap) : evCall (cx ρ) (k + 1) lim 227 [x0] H = L227 ρ (evCall (cx ρ) k) (evCY (cx ρ) k).2 lim k x0 H := by
  rw [evCall_body (cx ρ) k lim 227 _ H Tryz.f227 c227 [2, 3] (by kernel_rfl) (by kernel_rfl) (by kernel_rfl) (by kernel_rfl) (by kernel_rfl)]
  exact G227 ρ (evCall (cx ρ) k) (evCY (cx ρ) k).2 lim k x0 H
-- haycroft/marks.New
noncomputable def c228 : Code := Code.of Tryz.prog 228
noncomputable def L228 (ρ : Addr → Option Value) (call : CallF) (yc : YieldF) (lim k : Nat) (H : Heap) : Res :=
  resK (call lim 231 [(.int .i64 5)] H) fun x4 H =>
  purK (extA 0 x4) fun x5 =>
  purK (extA 1 x4) fun x6 =>
  purK (buildA Tryz.prog 285 [(0, x5)]) fun x8 =>
  effK H (boxA H 285 x8) fun x9 H =>
  retK [x9] H
theorem G228 (ρ : Addr → Option Value) (call : CallF) (yc : YieldF) (lim k : Nat) (H : Heap) :
    evL (cx ρ) call yc false 228 lim k c228 [(.tup []), (.tup []), (.tup []), (.tup []), (.tup []), (.tup []), (.tup []), (.tup []), (.tup []), (.tup [])] H (kk none (fun s H => retK (([0] : List Nat).map fun t => s.getD t (.tup [])) H) [] retK [0]) = L228 ρ call yc lim k H := by
  kernel_rfl
theorem E228 (ρ : Addr → Option Value) (k lim : Nat) (H : Heap) : evCall (cx ρ) (k + 1) lim 228 [] H = L228 ρ (evCall (cx ρ) k) (evCY (cx ρ) k).2 lim k H := by
  rw [evCall_body (cx ρ) k lim 228 _ H Tryz.f228 c228 [0] (by kernel_rfl) (by kernel_rfl) (by kernel_rfl) (by kernel_rfl) (by kernel_rfl)]
  exact G228 ρ (evCall (cx ρ) k) (evCY (cx ρ) k).2 lim k H
-- haycroft/drain.New
noncomputable def c229 : Code := Code.of Tryz.prog 229
noncomputable def L229 (ρ : Addr → Option Value) (call : CallF) (yc : YieldF) (lim k : Nat) (H : Heap) : Res :=
  purK (buildA Tryz.prog 333 []) fun x1 =>
  effK H (boxA H 333 x1) fun x2 H =>
  retK [x2] H
theorem G229 (ρ : Addr → Option Value) (call : CallF) (yc : YieldF) (lim k : Nat) (H : Heap) :
    evL (cx ρ) call yc false 229 lim k c229 [(.tup []), (.tup []), (.tup [])] H (kk none (fun s H => retK (([0] : List Nat).map fun t => s.getD t (.tup [])) H) [] retK [0]) = L229 ρ call yc lim k H := by
  kernel_rfl
theorem E229 (ρ : Addr → Option Value) (k lim : Nat) (H : Heap) : evCall (cx ρ) (k + 1) lim 229 [] H = L229 ρ (evCall (cx ρ) k) (evCY (cx ρ) k).2 lim k H := by
  rw [evCall_body (cx ρ) k lim 229 _ H Tryz.f229 c229 [0] (by kernel_rfl) (by kernel_rfl) (by kernel_rfl) (by kernel_rfl) (by kernel_rfl)]
  exact G229 ρ (evCall (cx ρ) k) (evCY (cx ρ) k).2 lim k H
-- (*haycroft/pages.Buffer).Open
noncomputable def c230 : Code := Code.of Tryz.prog 230
noncomputable def L230 (ρ : Addr → Option Value) (call : CallF) (yc : YieldF) (lim k : Nat) (x0 x1 : AV) (H : Heap) : Res :=
  purK (binA Tryz.prog H .eql 122 x0 .nilp) fun x11 =>
  condK x11
  (
    retK [(.int .i64 2)] H)
  (
    purK (binA Tryz.prog H .lss 3 x1 (.int .i64 0)) fun x14 =>
    condK x14
    (
      retK [(.int .i64 1)] H)
    (
      resK (call lim 122 [x0, x1] H) fun x18 H =>
      condK x18
      (
        retK [(.int .i64 8)] H)
      (
        resK (call lim 124 [x0, x1] H) fun x21 H =>
        purK (nilChkA x0) fun x24 =>
        purK (fieldAddrA Tryz.prog 199 x24 2) fun x25 =>
        purK (loadA (cx ρ) H 160 x25) fun x26 =>
        resK (call lim 200 [x1] H) fun x29 H => bif (agn (loadA (cx ρ) H 160 x25) x26 && true) then
          resK (call lim 282 [x26, x21, (.int .u64 0), x29] H) fun x30 H =>
          purK (extA 0 x30) fun x31 =>
          purK (extA 1 x30) fun x32 =>
          purK (unA .not x31) fun x34 =>
          condK x34
          (
            retK [(.int .i64 10)] H)
          (
            purK (nilChkA x0) fun x36 =>
            purK (fieldAddrA Tryz.prog 199 x36 0) fun x37 =>
            purK (loadA (cx ρ) H 3 x37) fun x38 =>
            resK (call lim 58 [x38] H) fun x39 H =>
            purK (nilChkA x0) fun x41 =>
            purK (fieldAddrA Tryz.prog 199 x41 1) fun x42 =>
            purK (loadA (cx ρ) H 160 x42) fun x43 =>
            purK (binA Tryz.prog H .mul 3 x21 x39) fun x46 =>
            effK H (makeSliceA (cx ρ) H 31 x39 x39) fun x48 H => bif (agn (binA Tryz.prog H .mul 3 x21 x39) x46 && (agn (loadA (cx ρ) H 160 x42) x43 && true)) then
              resK (call lim 281 [x43, x46, x48] H) fun x49 H =>
              retK [x49] H
            else none)
        else none)))
theorem G230 (ρ : Addr → Option Value) (call : CallF) (yc : YieldF) (lim k : Nat) (x0 x1 : AV) (H : Heap) :
    evL (cx ρ) call yc false 230 lim k c230 [x0, x1, (.tup []), (.tup []), (.tup []), (.tup []), (.tup []), (.tup []), (.tup []), (.tup []), (.tup []), (.tup []), (.tup []), (.tup []), (.tup []), (.tup []), (.tup []), (.tup []), (.tup []), (.tup []), (.tup []), (.tup []), (.tup []), (.tup []), (.tup []), (.tup []), (.tup []), (.tup []), (.tup []), (.tup []), (.tup []), (.tup []), (.tup []), (.tup []), (.tup []), (.tup []), (.tup []), (.tup []), (.tup []), (.tup []), (.tup []), (.tup []), (.tup []), (.tup []), (.tup []), (.tup []), (.tup []), (.tup []), (.tup []), (.tup [])] H (kk none (fun s H => retK (([4] : List Nat).map fun t => s.getD t (.tup [])) H) [] retK [4]) = L230 ρ call yc lim k x0 x1 H := by
  kernel_rfl
theorem E230 (ρ : Addr → Option Value) (k lim : Nat) (x0 x1 : AV) (H : Heap) : evCall (cx ρ) (k + 1) lim 230 [x0, x1] H = L230 ρ (evCall (cx ρ) k) (evCY (cx ρ) k).2 lim k x0 x1 H := by
  rw [evCall_body (cx ρ) k lim 230 _ H Tryz.f230 c230 [4] (by kernel_rfl) (by kernel_rfl) (by kernel_rfl) (by kernel_rfl) (by kernel_rfl)]
  exact G230 ρ (evCall (cx ρ) k) (evCY (cx ρ) k).2 lim k x0 x1 H
-- haycroft/cell.New
noncomputable def c231 : Code := Code.of Tryz.prog 231
noncomputable def L231 (ρ : Addr → Option Value) (call : CallF) (yc : YieldF) (lim k : Nat) (x0 : AV) (H : Heap) : Res :=
  purK (binA Tryz.prog H .lss 3 x0 (.int .i64 1)) fun x5 =>
  purK (gPur (wantV x5 false) (some x0)) fun x7 =>
  purK (gPur (wantV x5 false) (binA Tryz.prog H .gtr 3 x7 (.int .i64 65536))) fun x8 =>
  purK (pickA x5 (.bool true) x8) fun x9 =>
  condK x9
  (
    retK [.nilp, (.int .i64 1)] H)
  (
    effK H (makeSliceA (cx ρ) H 228 x0 x0) fun x11 H =>
    purK (buildA Tryz.prog 232 [(0, x11)]) fun x12 =>
    effK H (boxA H 232 x12) fun x13 H =>
    retK [x13, (.int .i64 0)] H)
theorem G231 (ρ : Addr → Option Value) (call : CallF) (yc : YieldF) (lim k : Nat) (x0 : AV) (H : Heap) :
    evL (cx ρ) call yc false 231 lim k c231 [x0, (.tup []), (.tup []), (.tup []), (.tup []), (.tup []), (.tup []), (.tup []), (.tup []), (.tup []), (.tup []), (.tup []), (.tup []), (.tup [])] H (kk none (fun s H => retK (([2, 3] : List Nat).map fun t => s.getD t (.tup [])) H) [] retK [2, 3]) = L231 ρ call yc lim k x0 H := by
  kernel_rfl
theorem E231 (ρ : Addr → Option Value) (k lim : Nat) (x0 : AV) (H : Heap) : evCall (cx ρ) (k + 1) lim 231 [x0] H = L231 ρ (evCall (cx ρ) k) (evCY (cx ρ) k).2 lim k x0 H := by
  rw [evCall_body (cx ρ) k lim 231 _ H Tryz.f231 c231 [2, 3] (by kernel_rfl) (by kernel_rfl) (by kernel_rfl) (by kernel_rfl) (by kernel_rfl)]
  exact G231 ρ (evCall (cx ρ) k) (evCY (cx ρ) k).2 lim k x0 H
-- haycroft/task.Right
noncomputable def c232 : Code := Code.of Tryz.prog 232
noncomputable def N232_1 (ρ : Addr → Option Value) (call : CallF) (yc : YieldF) (lim k : Nat) (H : Heap) (R : List AV → Heap → Res) : Res :=
  R [(.int .i64 0)] H
theorem N232_1_eq (ρ : Addr → Option Value) (call : CallF) (yc : YieldF) (lim k : Nat) (H : Heap) (R : List AV → Heap → Res) :
    evL (cx ρ) call yc false 232 lim k (Code.at [1, 1] c232) (sp 29 []) H (kk none (fun s H => R (([2] : List Nat).map fun t => s.getD t (.tup [])) H) [] R [2]) = N232_1 ρ call yc lim k H R := by
  kernel_rfl
noncomputable def N232_3 (ρ : Addr → Option Value) (call : CallF) (yc : YieldF) (lim k : Nat) (x15 : AV) (H : Heap) (kn : Heap → Res) (R : List AV → Heap → Res) : Res :=
  condK x15
  (
    R [(.int .i64 5)] H)
  (
    kn H)
theorem N232_3_eq (ρ : Addr → Option Value) (call : CallF) (yc : YieldF) (lim k : Nat) (x15 : AV) (H : Heap) (kn : KS) (k0 : KS) (R : List AV → Heap → Res) :
    evL (cx ρ) call yc false 232 lim k (Code.at [1, 0, 0, 1, 1, 1] c232) (sp 29 [(15, x15)]) H (kk (some []) kn [(0, (some []), k0)] R [2]) = N232_3 ρ call yc lim k x15 H (fun H => kn (sp 29 []) H) R := by
  kernel_rfl
noncomputable def N232_2 (ρ : Addr → Option Value) (call : CallF) (yc : YieldF) (lim k : Nat) (x1 x3 : AV) (H : Heap) (kn : Heap → Res) (R : List AV → Heap → Res) : Res :=
  condK x3
  (
    R [(.int .i64 1)] H)
  (
    purK (fieldAddrA Tryz.prog 59 x1 1) fun x16_1 =>
    purK (loadA (cx ρ) H 9 x16_1) fun x17_1 =>
    purK (lenBA (cx ρ) H 9 x17_1) fun x18_1 =>
    purK (binA Tryz.prog H .gtr 3 x18_1 (.int .i64 64)) fun x19_1 =>
    condK x19_1
    (
      N232_3 ρ call yc lim k x19_1 H kn R)
    (
      purK (fieldAddrA Tryz.prog 59 x1 0) fun x20_1 =>
      purK (loadA (cx ρ) H 3 x20_1) fun x21_1 =>
      purK (binA Tryz.prog H .eql 3 x21_1 (.int .i64 2)) fun x22_1 =>
      purK (gPur (wantV x22_1 true) (fieldAddrA Tryz.prog 59 x1 2)) fun x24_1 =>
      purK (gPur (wantV x22_1 true) (loadA (cx ρ) H 9 x24_1)) fun x25_1 =>
      purK (gPur (wantV x22_1 true) (lenBA (cx ρ) H 9 x25_1)) fun x26_1 =>
      purK (gPur (wantV x22_1 true) (binA Tryz.prog H .gtr 3 x26_1 (.int .i64 128))) fun x27_1 =>
      purK (pickA x22_1 x27_1 (.bool false)) fun x28_1 =>
      N232_3 ρ call yc lim k x28_1 H kn R))
theorem N232_2_x (ρ : Addr → Option Value) (call : CallF) (yc : YieldF) (lim k : Nat) (J : CodeF) (x1 x3 : AV) (H : Heap) (kn : KS) (k0 : KS) (R : List AV → Heap → Res) :
    evX (cx ρ) call yc false 232 lim k J (Code.at [1, 0, 0, 1] c232) (sp 29 [(1, x1), (3, x3)]) H (kk (some []) kn [(0, (some []), k0)] R [2]) =
  condK x3
  (
    R [(.int .i64 1)] H)
  (
    purK (fieldAddrA Tryz.prog 59 x1 1) fun x16_1 =>
    purK (loadA (cx ρ) H 9 x16_1) fun x17_1 =>
    purK (lenBA (cx ρ) H 9 x17_1) fun x18_1 =>
    purK (binA Tryz.prog H .gtr 3 x18_1 (.int .i64 64)) fun x19_1 =>
    condK x19_1
    (
      J (Code.at [1, 0, 0, 1, 1, 1] c232) (sp 29 [(15, x19_1)]) H (kk (some []) kn [(0, (some []), k0)] R [2]))
    (
      purK (fieldAddrA Tryz.prog 59 x1 0) fun x20_1 =>
      purK (loadA (cx ρ) H 3 x20_1) fun x21_1 =>
      purK (binA Tryz.prog H .eql 3 x21_1 (.int .i64 2)) fun x22_1 =>
      purK (gPur (wantV x22_1 true) (fieldAddrA Tryz.prog 59 x1 2)) fun x24_1 =>
      purK (gPur (wantV x22_1 true) (loadA (cx ρ) H 9 x24_1)) fun x25_1 =>
      purK (gPur (wantV x22_1 true) (lenBA (cx ρ) H 9 x25_1)) fun x26_1 =>
      purK (gPur (wantV x22_1 true) (binA Tryz.prog H .gtr 3 x26_1 (.int .i64 128))) fun x27_1 =>
      purK (pickA x22_1 x27_1 (.bool false)) fun x28_1 =>
      J (Code.at [1, 0, 0, 1, 1, 1] c232) (sp 29 [(15, x28_1)]) H (kk (some []) kn [(0, (some []), k0)] R [2]))) := by
  kernel_rfl
theorem N232_2_eq (ρ : Addr → Option Value) (call : CallF) (yc : YieldF) (lim k : Nat) (x1 x3 : AV) (H : Heap) (kn : KS) (k0 : KS) (R : List AV → Heap → Res) :
    evL (cx ρ) call yc false 232 lim k (Code.at [1, 0, 0, 1] c232) (sp 29 [(1, x1), (3, x3)]) H (kk (some []) kn [(0, (some []), k0)] R [2]) = N232_2 ρ call yc lim k x1 x3 H (fun H => kn (sp 29 []) H) R := by
  rw [evL_X, N232_2_x]
  simp only [← evL_X, N232_2, N232_3_eq]
noncomputable def L232 (ρ : Addr → Option Value) (call : CallF) (yc : YieldF) (lim k : Nat) (x0 : AV) (H : Heap) : Res :=
  effK H (boxA H 59 x0) fun x1 H =>
  purK (fieldAddrA Tryz.prog 59 x1 0) fun x4 =>
  purK (loadA (cx ρ) H 3 x4) fun x5 =>
  purK (binA Tryz.prog H .lss 3 x5 (.int .i64 1)) fun x6 =>
  purK (gPur (wantV x6 false) (fieldAddrA Tryz.prog 59 x1 0)) fun x8 =>
  purK (gPur (wantV x6 false) (loadA (cx ρ) H 3 x8)) fun x9 =>
  purK (gPur (wantV x6 false) (binA Tryz.prog H .gtr 3 x9 (.int .i64 4))) fun x10 =>
  purK (pickA x6 (.bool true) x10) fun x11 =>
  condK x11
  (
    N232_2 ρ call yc lim k x1 x11 H (fun H =>
      N232_1 ρ call yc lim k H retK) retK)
  (
    purK (fieldAddrA Tryz.prog 59 x1 1) fun x12 =>
    purK (loadA (cx ρ) H 9 x12) fun x13 =>
    purK (binA Tryz.prog H .eql 9 x13 (.str (ByteArray.mk #[]))) fun x14 =>
    N232_2 ρ call yc lim k x1 x14 H (fun H =>
      N232_1 ρ call yc lim k H retK) retK)
theorem L232_x (ρ : Addr → Option Value) (call : CallF) (yc : YieldF) (lim k : Nat) (J : CodeF) (x0 : AV) (H : Heap) :
    evX (cx ρ) call yc false 232 lim k J c232 [x0, (.tup []), (.tup []), (.tup []), (.tup []), (.tup []), (.tup []), (.tup []), (.tup []), (.tup []), (.tup []), (.tup []), (.tup []), (.tup []), (.tup []), (.tup []), (.tup []), (.tup []), (.tup []), (.tup []), (.tup []), (.tup []), (.tup []), (.tup []), (.tup []), (.tup []), (.tup []), (.tup []), (.tup [])] H (kk none (fun s H => retK (([2] : List Nat).map fun t => s.getD t (.tup [])) H) [] retK [2]) =
  effK H (boxA H 59 x0) fun x1 H =>
  purK (fieldAddrA Tryz.prog 59 x1 0) fun x4 =>
  purK (loadA (cx ρ) H 3 x4) fun x5 =>
  purK (binA Tryz.prog H .lss 3 x5 (.int .i64 1)) fun x6 =>
  purK (gPur (wantV x6 false) (fieldAddrA Tryz.prog 59 x1 0)) fun x8 =>
  purK (gPur (wantV x6 false) (loadA (cx ρ) H 3 x8)) fun x9 =>
  purK (gPur (wantV x6 false) (binA Tryz.prog H .gtr 3 x9 (.int .i64 4))) fun x10 =>
  purK (pickA x6 (.bool true) x10) fun x11 =>
  condK x11
  (
    J (Code.at [1, 0, 0, 1] c232) (sp 29 [(1, x1), (3, x11)]) H (kk (some []) (fun s H => J (Code.at [1, 1] c232) s H (kk none (fun s H => retK (([2] : List Nat).map fun t => s.getD t (.tup [])) H) [] retK [2])) [(0, (some []), (fun s H => J (Code.at [1, 1] c232) s H (kk none (fun s H => retK (([2] : List Nat).map fun t => s.getD t (.tup [])) H) [] retK [2])))] retK [2]))
  (
    purK (fieldAddrA Tryz.prog 59 x1 1) fun x12 =>
    purK (loadA (cx ρ) H 9 x12) fun x13 =>
    purK (binA Tryz.prog H .eql 9 x13 (.str (ByteArray.mk #[]))) fun x14 =>
    J (Code.at [1, 0, 0, 1] c232) (sp 29 [(1, x1), (3, x14)]) H (kk (some []) (fun s H => J (Code.at [1, 1] c232) s H (kk none (fun s H => retK (([2] : List Nat).map fun t => s.getD t (.tup [])) H) [] retK [2])) [(0, (some []), (fun s H => J (Code.at [1, 1] c232) s H (kk none (fun s H => retK (([2] : List Nat).map fun t => s.getD t (.tup [])) H) [] retK [2])))] retK [2])) := by
  kernel_rfl
theorem G232 (ρ : Addr → Option Value) (call : CallF) (yc : YieldF) (lim k : Nat) (x0 : AV) (H : Heap) :
    evL (cx ρ) call yc false 232 lim k c232 [x0, (.tup []), (.tup []), (.tup []), (.tup []), (.tup []), (.tup []), (.tup []), (.tup []), (.tup []), (.tup []), (.tup []), (.tup []), (.tup []), (.tup []), (.tup []), (.tup []), (.tup []), (.tup []), (.tup []), (.tup []), (.tup []), (.tup []), (.tup []), (.tup []), (.tup []), (.tup []), (.tup []), (.tup [])] H (kk none (fun s H => retK (([2] : List Nat).map fun t => s.getD t (.tup [])) H) [] retK [2]) = L232 ρ call yc lim k x0 H := by
  rw [evL_X, L232_x]
  simp only [← evL_X, L232, N232_1_eq, N232_2_eq]
theorem E232 (ρ : Addr → Option Value) (k lim : Nat) (x0 : AV) (H : Heap) : evCall (cx ρ) (k + 1) lim 232 [x0] H = L232 ρ (evCall (cx ρ) k) (evCY (cx ρ) k).2 lim k x0 H := by
  rw [evCall_body (cx ρ) k lim 232 _ H Tryz.f232 c232 [2] (by kernel_rfl) (by kernel_rfl) (by kernel_rfl) (by kernel_rfl) (by kernel_rfl)]
  exact G232 ρ (evCall (cx ρ) k) (evCY (cx ρ) k).2 lim k x0 H
-- (*haycroft/task.Task).look
noncomputable def c233 : Code := Code.of Tryz.prog 233
noncomputable def L233 (ρ : Addr → Option Value) (call : CallF) (yc : YieldF) (lim k : Nat) (x0 : AV) (H : Heap) : Res :=
  mkK H (allocA (cx ρ) H 93) true fun x4 H =>
  purK (nilChkA x0) fun x8 =>
  purK (fieldAddrA Tryz.prog 258 x8 1) fun x9 =>
  purK (loadA (cx ρ) H 95 x9) fun x10 =>
  purK (nilChkA x0) fun x12 =>
  purK (fieldAddrA Tryz.prog 258 x12 4) fun x13 =>
  purK (loadA (cx ρ) H 22 x13) fun x14 =>
  resK (call lim 34 [x10, x14] H) fun x15 H =>
  purK (extA 0 x15) fun x16 =>
  purK (extA 1 x15) fun x17 =>
  effK H ((storeA (cx ρ) lim H 93 x4 x16).map skips) fun _ H =>
  purK (binA Tryz.prog H .neq 28 x17 (.int .i64 0)) fun x19 =>
  condK x19
  (
    resK (call lim 169 [x17] H) fun x21 H =>
    purK (extA 0 x21) fun x22 =>
    purK (extA 1 x21) fun x23 =>
    retK [x22, x23] H)
  (
    purK (fieldAddrA Tryz.prog 93 x4 0) fun x24 =>
    purK (loadA (cx ρ) H 3 x24) fun x25 =>
    purK (binA Tryz.prog H .neq 3 x25 (.int .i64 1)) fun x26 =>
    condK x26
    (
      purK (loadA (cx ρ) H 93 x4) fun x28 =>
      resK (call lim 283 [x0, x28] H) fun x29 H =>
      purK (extA 0 x29) fun x30 =>
      purK (extA 1 x29) fun x31 =>
      retK [x30, x31] H)
    (
      purK (fieldAddrA Tryz.prog 93 x4 1) fun x34 =>
      purK (loadA (cx ρ) H 3 x34) fun x35 =>
      purK (fieldAddrA Tryz.prog 93 x4 2) fun x36 =>
      purK (loadA (cx ρ) H 22 x36) fun x37 =>
      purK (nilChkA x0) fun x38 =>
      purK (fieldAddrA Tryz.prog 258 x38 6) fun x39 =>
      effK H ((storeA (cx ρ) lim H 3 x39 x35).map skips) fun _ H => bif (agn (loadA (cx ρ) H 22 x36) x37 && true) then
        purK (nilChkA x0) fun x40 =>
        purK (fieldAddrA Tryz.prog 258 x40 7) fun x41 =>
        effK H ((storeA (cx ρ) lim H 22 x41 x37).map skips) fun _ H =>
        purK (fieldAddrA Tryz.prog 93 x4 2) fun x43 =>
        purK (loadA (cx ρ) H 22 x43) fun x44 =>
        resK (call lim 86 [x44, (.int .i64 0), (.int .i64 48)] H) fun x45 H =>
        purK (nilChkA x0) fun x46 =>
        purK (fieldAddrA Tryz.prog 258 x46 10) fun x47 =>
        effK H ((storeA (cx ρ) lim H 22 x47 x45).map skips) fun _ H =>
        purK (nilChkA x0) fun x50 =>
        purK (fieldAddrA Tryz.prog 258 x50 10) fun x51 =>
        purK (loadA (cx ρ) H 22 x51) fun x52 =>
        purK (nilChkA x0) fun x53 =>
        purK (fieldAddrA Tryz.prog 258 x53 11) fun x54 =>
        effK H ((storeA (cx ρ) lim H 22 x54 x52).map skips) fun _ H =>
        purK (nilChkA x0) fun x57 =>
        purK (fieldAddrA Tryz.prog 258 x57 10) fun x58 =>
        purK (loadA (cx ρ) H 22 x58) fun x59 =>
        purK (binA Tryz.prog H .eql 22 x59 (.int .u64 0)) fun x60 =>
        condK x60
        (
          resK (call lim 284 [x0] H) fun x62 H =>
          purK (extA 0 x62) fun x63 =>
          purK (extA 1 x62) fun x64 =>
          retK [x63, x64] H)
        (
          resK (call lim 239 [x0, (.int .i64 4)] H) fun x67 H =>
          condK x67
          (
            resK (call lim 241 [x0, (.fn (.func 242) [] [])] H) fun x69 H =>
            purK (extA 0 x69) fun x70 =>
            purK (extA 1 x69) fun x71 =>
            retK [x70, x71] H)
          (
            resK (call lim 241 [x0, (.fn (.func 285) [] [])] H) fun x73 H =>
            purK (extA 0 x73) fun x74 =>
            purK (extA 1 x73) fun x75 =>
            retK [x74, x75] H))
      else none))
theorem G233 (ρ : Addr → Option Value) (call : CallF) (yc : YieldF) (lim k : Nat) (x0 : AV) (H : Heap) :
    evL (cx ρ) call yc false 233 lim k c233 [x0, (.tup []), (.tup []), (.tup []), (.tup []), (.tup []), (.tup []), (.tup []), (.tup []), (.tup []), (.tup []), (.tup []), (.tup []), (.tup []), (.tup []), (.tup []), (.tup []), (.tup []), (.tup []), (.tup []), (.tup []), (.tup []), (.tup []), (.tup []), (.tup []), (.tup []), (.tup []), (.tup []), (.tup []), (.tup []), (.tup []), (.tup []), (.tup []), (.tup []), (.tup []), (.tup []), (.tup []), (.tup []), (.tup []), (.tup []), (.tup []), (.tup []), (.tup []), (.tup []), (.tup []), (.tup []), (.tup []), (.tup []), (.tup []), (.tup []), (.tup []), (.tup []), (.tup []), (.tup []), (.tup []), (.tup []), (.tup []), (.tup []), (.tup []), (.tup []), (.tup []), (.tup []), (.tup []), (.tup []), (.tup []), (.tup []), (.tup []), (.tup []), (.tup []), (.tup []), (.tup []), (.tup []), (.tup []), (.tup []), (.tup []), (.tup [])] H (kk none (fun s H => retK (([2, 3] : List Nat).map fun t => s.getD t (.tup [])) H) [] retK [2, 3]) = L233 ρ call yc lim k x0 H := by
  kernel_rfl
theorem E233 (ρ : Addr → Option Value) (k lim : Nat) (x0 : AV) (H : Heap) : evCall (cx ρ) (k + 1) lim 233 [x0] H = L233 ρ (evCall (cx ρ) k) (evCY (cx ρ) k).2 lim k x0 H := by
  rw [evCall_body (cx ρ) k lim 233 _ H Tryz.f233 c233 [2, 3] (by kernel_rfl) (by kernel_rfl) (by kernel_rfl) (by kernel_rfl) (by kernel_rfl)]
  exact G233 ρ (evCall (cx ρ) k) (evCY (cx ρ) k).2 lim k x0 H
-- (*haycroft/cell.Row).Store
noncomputable def c234 : Code := Code.of Tryz.prog 234
noncomputable def N234_1 (ρ : Addr → Option Value) (call : CallF) (yc : YieldF) (lim k : Nat) (x7 : AV) (H : Heap) (R : List AV → Heap → Res) : Res :=
  R [x7] H
theorem N234_1_eq (ρ : Addr → Option Value) (call : CallF) (yc : YieldF) (lim k : Nat) (x7 : AV) (H : Heap) (R : List AV → Heap → Res) :
    evL (cx ρ) call yc false 234 lim k (Code.at [1, 1, 1] c234) (sp 22 [(7, x7)]) H (kk none (fun s H => R (([6] : List Nat).map fun t => s.getD t (.tup [])) H) [] R [6]) = N234_1 ρ call yc lim k x7 H R := by
  kernel_rfl
noncomputable def L234 (ρ : Addr → Option Value) (call : CallF) (yc : YieldF) (lim k : Nat) (x0 x1 x2 : AV) (H : Heap) : Res :=
  resK (call lim 286 [x0, x1] H) fun x10 H =>
  purK (binA Tryz.prog H .eql 28 x10 (.int .i64 0)) fun x12 =>
  condK x12
  (
    purK (nilChkA x0) fun x14 =>
    purK (fieldAddrA Tryz.prog 232 x14 0) fun x15 =>
    purK (loadA (cx ρ) H 228 x15) fun x16 =>
    purK (indexAddrA Tryz.prog 228 x16 x1) fun x18 =>
    resK (call lim 287 [x18, x2] H) fun x20 H =>
    N234_1 ρ call yc lim k x10 H retK)
  (
    N234_1 ρ call yc lim k x10 H retK)
theorem L234_x (ρ : Addr → Option Value) (call : CallF) (yc : YieldF) (lim k : Nat) (J : CodeF) (x0 x1 x2 : AV) (H : Heap) :
    evX (cx ρ) call yc false 234 lim k J c234 [x0, x1, x2, (.tup []), (.tup []), (.tup []), (.tup []), (.tup []), (.tup []), (.tup []), (.tup []), (.tup []), (.tup []), (.tup []), (.tup []), (.tup []), (.tup []), (.tup []), (.tup []), (.tup []), (.tup []), (.tup [])] H (kk none (fun s H => retK (([6] : List Nat).map fun t => s.getD t (.tup [])) H) [] retK [6]) =
  resK (call lim 286 [x0, x1] H) fun x10 H =>
  purK (binA Tryz.prog H .eql 28 x10 (.int .i64 0)) fun x12 =>
  condK x12
  (
    purK (nilChkA x0) fun x14 =>
    purK (fieldAddrA Tryz.prog 232 x14 0) fun x15 =>
    purK (loadA (cx ρ) H 228 x15) fun x16 =>
    purK (indexAddrA Tryz.prog 228 x16 x1) fun x18 =>
    resK (call lim 287 [x18, x2] H) fun x20 H =>
    J (Code.at [1, 1, 1] c234) (sp 22 [(7, x10)]) H (kk none (fun s H => retK (([6] : List Nat).map fun t => s.getD t (.tup [])) H) [] retK [6]))
  (
    J (Code.at [1, 1, 1] c234) (sp 22 [(7, x10)]) H (kk none (fun s H => retK (([6] : List Nat).map fun t => s.getD t (.tup [])) H) [] retK [6])) := by
  kernel_rfl
theorem G234 (ρ : Addr → Option Value) (call : CallF) (yc : YieldF) (lim k : Nat) (x0 x1 x2 : AV) (H : Heap) :
    evL (cx ρ) call yc false 234 lim k c234 [x0, x1, x2, (.tup []), (.tup []), (.tup []), (.tup []), (.tup []), (.tup []), (.tup []), (.tup []), (.tup []), (.tup []), (.tup []), (.tup []), (.tup []), (.tup []), (.tup []), (.tup []), (.tup []), (.tup []), (.tup [])] H (kk none (fun s H => retK (([6] : List Nat).map fun t => s.getD t (.tup [])) H) [] retK [6]) = L234 ρ call yc lim k x0 x1 x2 H := by
  rw [evL_X, L234_x]
  simp only [← evL_X, L234, N234_1_eq]
theorem E234 (ρ : Addr → Option Value) (k lim : Nat) (x0 x1 x2 : AV) (H : Heap) : evCall (cx ρ) (k + 1) lim 234 [x0, x1, x2] H = L234 ρ (evCall (cx ρ) k) (evCY (cx ρ) k).2 lim k x0 x1 x2 H := by
  rw [evCall_body (cx ρ) k lim 234 _ H Tryz.f234 c234 [6] (by kernel_rfl) (by kernel_rfl) (by kernel_rfl) (by kernel_rfl) (by kernel_rfl)]
  exact G234 ρ (evCall (cx ρ) k) (evCY (cx ρ) k).2 lim k x0 x1 x2 H
-- (*haycroft/epoch.Table).In
noncomputable def c235 : Code := Code.of Tryz.prog 235
noncomputable def N235_1 (ρ : Addr → Option Value) (call : CallF) (yc : YieldF) (lim k : Nat) (x3 : AV) (H : Heap) (R : List AV → Heap → Res) : Res :=
  R [x3] H
theorem N235_1_eq (ρ : Addr → Option Value) (call : CallF) (yc : YieldF) (lim k : Nat) (x3 : AV) (H : Heap) (R : List AV → Heap → Res) :
    evL (cx ρ) call yc false 235 lim k (Code.at [1, 1, 1] c235) (sp 19 [(3, x3)]) H (kk none (fun s H => R (([2] : List Nat).map fun t => s.getD t (.tup [])) H) [] R [2]) = N235_1 ρ call yc lim k x3 H R := by
  kernel_rfl
noncomputable def N235_4 (ρ : Addr → Option Value) (call : CallF) (yc : YieldF) (lim k : Nat) (x0 x3 x4 : AV) (H : Heap) (kn : AV → AV → AV → Heap → Res) : Res :=
  purK (binA Tryz.prog H .add 3 x4 (.int .i64 1)) fun x9_1 =>
  kn x0 x3 x9_1 H
theorem N235_4_eq (ρ : Addr → Option Value) (call : CallF) (yc : YieldF) (lim k : Nat) (x0 x3 x4 : AV) (H : Heap) (kn : KS) (k0 : KS) (R : List AV → Heap → Res) :
    evL (cx ρ) call yc false 235 lim k (Code.at [1, 1, 0, 1, 0, 0, 1, 1] c235) (sp 19 [(0, x0), (3, x3), (4, x4)]) H (kk (some [0, 3, 4]) kn [(0, (some [3]), k0)] R [2]) = N235_4 ρ call yc lim k x0 x3 x4 H (fun x0 x3 x4 H => kn (sp 19 [(0, x0), (3, x3), (4, x4)]) H) := by
  kernel_rfl
noncomputable def N235_3b (ρ : Addr → Option Value) (call : CallF) (yc : YieldF) (lim k : Nat) (x0 x3 x4 : AV) (H : Heap) (kn : AV → AV → AV → Heap → Res) (k0 : AV → Heap → Res) : Res :=
  resK (call lim 166 [x0, x4] H) fun x7_1 H =>
  condK x7_1
  (
    resK (call lim 100 [x0, x4] H) fun x12_1 H =>
    purK (binA Tryz.prog H .gtr 22 x12_1 (.int .u64 0)) fun x13_1 =>
    condK x13_1
    (
      effK H (buildSliceA (cx ρ) H 60 1 [(0, x4)]) fun x16_1 H =>
      effK H (builtinA (cx ρ) lim H .append #[60, 60] [x3, x16_1]) fun x17_1 H =>
      N235_4 ρ call yc lim k x0 x17_1 x4 H kn)
    (
      N235_4 ρ call yc lim k x0 x3 x4 H kn))
  (
    k0 x3 H)
theorem N235_3b_x (ρ : Addr → Option Value) (call : CallF) (yc : YieldF) (lim k : Nat) (J : CodeF) (x0 x3 x4 : AV) (H : Heap) (kn : KS) (k0 : KS) (R : List AV → Heap → Res) :
    evX (cx ρ) call yc false 235 lim k J (Code.at [1, 1, 0, 1, 0, 0] c235) (sp 19 [(0, x0), (3, x3), (4, x4)]) H (kk (some [0, 3, 4]) kn [(0, (some [3]), k0)] R [2]) =
  resK (call lim 166 [x0, x4] H) fun x7_1 H =>
  condK x7_1
  (
    resK (call lim 100 [x0, x4] H) fun x12_1 H =>
    purK (binA Tryz.prog H .gtr 22 x12_1 (.int .u64 0)) fun x13_1 =>
    condK x13_1
    (
      effK H (buildSliceA (cx ρ) H 60 1 [(0, x4)]) fun x16_1 H =>
      effK H (builtinA (cx ρ) lim H .append #[60, 60] [x3, x16_1]) fun x17_1 H =>
      J (Code.at [1, 1, 0, 1, 0, 0, 1, 1] c235) (sp 19 [(0, x0), (3, x17_1), (4, x4)]) H (kk (some [0, 3, 4]) kn [(0, (some [3]), k0)] R [2]))
    (
      J (Code.at [1, 1, 0, 1, 0, 0, 1, 1] c235) (sp 19 [(0, x0), (3, x3), (4, x4)]) H (kk (some [0, 3, 4]) kn [(0, (some [3]), k0)] R [2])))
  (
    k0 (sp 19 [(3, x3)]) H) := by
  kernel_rfl
theorem N235_3b_eq (ρ : Addr → Option Value) (call : CallF) (yc : YieldF) (lim k : Nat) (x0 x3 x4 : AV) (H : Heap) (kn : KS) (k0 : KS) (R : List AV → Heap → Res) :
    evL (cx ρ) call yc false 235 lim k (Code.at [1, 1, 0, 1, 0, 0] c235) (sp 19 [(0, x0), (3, x3), (4, x4)]) H (kk (some [0, 3, 4]) kn [(0, (some [3]), k0)] R [2]) = N235_3b ρ call yc lim k x0 x3 x4 H (fun x0 x3 x4 H => kn (sp 19 [(0, x0), (3, x3), (4, x4)]) H) (fun x3 H => k0 (sp 19 [(3, x3)]) H) := by
  rw [evL_X, N235_3b_x]
  simp only [← evL_X, N235_3b, N235_4_eq]
noncomputable def N235_3 (ρ : Addr → Option Value) (call : CallF) (yc : YieldF) (lim k : Nat) (x0 x3 x4 : AV) (H : Heap) (k0 : AV → Heap → Res) : Res :=
  loopL (fun (x : AV × AV) H kn => N235_3b ρ call yc lim k x0 x.1 x.2 H (fun _ x3 x4 H => kn (x3, x4) H) k0) k (x3, x4) H
theorem N235_3_eq (ρ : Addr → Option Value) (call : CallF) (yc : YieldF) (lim k : Nat) (x0 x3 x4 : AV) (H : Heap) (kn : KS) (k0 : KS) (R : List AV → Heap → Res) :
    evL (cx ρ) call yc false 235 lim k (Code.at [1, 1, 0, 1, 0] c235) (sp 19 [(0, x0), (3, x3), (4, x4)]) H (kk (some [3]) kn [(0, (some [3]), k0)] R [2]) = N235_3 ρ call yc lim k x0 x3 x4 H (fun x3 H => k0 (sp 19 [(3, x3)]) H) := by
  have e : Code.at [1, 1, 0, 1, 0] c235 = .loop (Code.at [1, 1, 0, 1, 0, 0] c235) := by kernel_rfl
  rw [e]
  unfold N235_3
  exact loop_node [0, 3, 4] (fun x : AV × AV => (sp 19 [(0, x0), (3, (x.1)), (4, (x.2))])) (fun (x : AV × AV) H kn => N235_3b ρ call yc lim k x0 x.1 x.2 H (fun _ x3 x4 H => kn (x3, x4) H) (fun x3 H => k0 (sp 19 [(3, x3)]) H)) (by kernel_rfl) (fun x => by kernel_rfl) (fun x H kn => N235_3b_eq ρ call yc lim k x0 (x.1) (x.2) H kn k0 R) (x3, x4) (sp 19 [(0, x0), (3, x3), (4, x4)]) H (by kernel_rfl)
noncomputable def N235_2 (ρ : Addr → Option Value) (call : CallF) (yc : YieldF) (lim k : Nat) (x0 x3 x4 : AV) (H : Heap) (kn : AV → Heap → Res) : Res :=
  N235_3 ρ call yc lim k x0 x3 x4 H kn
theorem N235_2_x (ρ : Addr → Option Value) (call : CallF) (yc : YieldF) (lim k : Nat) (J : CodeF) (x0 x3 x4 : AV) (H : Heap) (kn : KS) (R : List AV → Heap → Res) :
    evX (cx ρ) call yc false 235 lim k J (Code.at [1, 1, 0, 1] c235) (sp 19 [(0, x0), (3, x3), (4, x4)]) H (kk (some [3]) kn [] R [2]) =
  J (Code.at [1, 1, 0, 1, 0] c235) (sp 19 [(0, x0), (3, x3), (4, x4)]) H (kk (some [3]) kn [(0, (some [3]), kn)] R [2]) := by
  kernel_rfl
theorem N235_2_eq (ρ : Addr → Option Value) (call : CallF) (yc : YieldF) (lim k : Nat) (x0 x3 x4 : AV) (H : Heap) (kn : KS) (R : List AV → Heap → Res) :
    evL (cx ρ) call yc false 235 lim k (Code.at [1, 1, 0, 1] c235) (sp 19 [(0, x0), (3, x3), (4, x4)]) H (kk (some [3]) kn [] R [2]) = N235_2 ρ call yc lim k x0 x3 x4 H (fun x3 H => kn (sp 19 [(3, x3)]) H) := by
  rw [evL_X, N235_2_x]
  simp only [← evL_X, N235_2, N235_3_eq]
noncomputable def L235 (ρ : Addr → Option Value) (call : CallF) (yc : YieldF) (lim k : Nat) (x0 : AV) (H : Heap) : Res :=
  N235_2 ρ call yc lim k x0 .nils (.int .i64 0) H (fun x3 H =>
    N235_1 ρ call yc lim k x3 H retK)
theorem L235_x (ρ : Addr → Option Value) (call : CallF) (yc : YieldF) (lim k : Nat) (J : CodeF) (x0 : AV) (H : Heap) :
    evX (cx ρ) call yc false 235 lim k J c235 [x0, (.tup []), (.tup []), (.tup []), (.tup []), (.tup []), (.tup []), (.tup []), (.tup []), (.tup []), (.tup []), (.tup []), (.tup []), (.tup []), (.tup []), (.tup []), (.tup []), (.tup []), (.tup [])] H (kk none (fun s H => retK (([2] : List Nat).map fun t => s.getD t (.tup [])) H) [] retK [2]) =
  J (Code.at [1, 1, 0, 1] c235) (sp 19 [(0, x0), (3, .nils), (4, (.int .i64 0))]) H (kk (some [3]) (fun s H => J (Code.at [1, 1, 1] c235) s H (kk none (fun s H => retK (([2] : List Nat).map fun t => s.getD t (.tup [])) H) [] retK [2])) [] retK [2]) := by
  kernel_rfl
theorem G235 (ρ : Addr → Option Value) (call : CallF) (yc : YieldF) (lim k : Nat) (x0 : AV) (H : Heap) :
    evL (cx ρ) call yc false 235 lim k c235 [x0, (.tup []), (.tup []), (.tup []), (.tup []), (.tup []), (.tup []), (.tup []), (.tup []), (.tup []), (.tup []), (.tup []), (.tup []), (.tup []), (.tup []), (.tup []), (.tup []), (.tup []), (.tup [])] H (kk none (fun s H => retK (([2] : List Nat).map fun t => s.getD t (.tup [])) H) [] retK [2]) = L235 ρ call yc lim k x0 H := by
  rw [evL_X, L235_x]
  simp only [← evL_X, L235, N235_1_eq, N235_2_eq]
theorem E235 (ρ : Addr → Option Value) (k lim : Nat) (x0 : AV) (H : Heap) : evCall (cx ρ) (k + 1) lim 235 [x0] H = L235 ρ (evCall (cx ρ) k) (evCY (cx ρ) k).2 lim k x0 H := by
  rw [evCall_body (cx ρ) k lim 235 _ H Tryz.f235 c235 [2] (by kernel_rfl) (by kernel_rfl) (by kernel_rfl) (by kernel_rfl) (by kernel_rfl)]
  exact G235 ρ (evCall (cx ρ) k) (evCY (cx ρ) k).2 lim k x0 H
-- (*haycroft/task.Task).is
noncomputable def c239 : Code := Code.of Tryz.prog 239
noncomputable def L239 (ρ : Addr → Option Value) (call : CallF) (yc : YieldF) (lim k : Nat) (x0 x1 : AV) (H : Heap) : Res :=
  purK (nilChkA x0) fun x6 =>
  purK (fieldAddrA Tryz.prog 258 x6 3) fun x7 =>
  purK (fieldAddrA Tryz.prog 59 x7 0) fun x8 =>
  purK (loadA (cx ρ) H 3 x8) fun x9 =>
  purK (binA Tryz.prog H .eql 3 x9 x1) fun x11 =>
  retK [x11] H
theorem G239 (ρ : Addr → Option Value) (call : CallF) (yc : YieldF) (lim k : Nat) (x0 x1 : AV) (H : Heap) :
    evL (cx ρ) call yc false 239 lim k c239 [x0, x1, (.tup []), (.tup []), (.tup []), (.tup []), (.tup []), (.tup []), (.tup []), (.tup []), (.tup []), (.tup [])] H (kk none (fun s H => retK (([4] : List Nat).map fun t => s.getD t (.tup [])) H) [] retK [4]) = L239 ρ call yc lim k x0 x1 H := by
  kernel_rfl
theorem E239 (ρ : Addr → Option Value) (k lim : Nat) (x0 x1 : AV) (H : Heap) : evCall (cx ρ) (k + 1) lim 239 [x0, x1] H = L239 ρ (evCall (cx ρ) k) (evCY (cx ρ) k).2 lim k x0 x1 H := by
  rw [evCall_body (cx ρ) k lim 239 _ H Tryz.f239 c239 [4] (by kernel_rfl) (by kernel_rfl) (by kernel_rfl) (by kernel_rfl) (by kernel_rfl)]
  exact G239 ρ (evCall (cx ρ) k) (evCY (cx ρ) k).2 lim k x0 x1 H
-- (*haycroft/task.Task).ends
noncomputable def c240 : Code := Code.of Tryz.prog 240
noncomputable def L240 (ρ : Addr → Option Value) (call : CallF) (yc : YieldF) (lim k : Nat) (x0 x1 x2 : AV) (H : Heap) : Res :=
  purK (buildA Tryz.prog 256 [(0, x1), (1, x2)]) fun x12 =>
  purK (nilChkA x0) fun x13 =>
  purK (fieldAddrA Tryz.prog 258 x13 17) fun x14 =>
  effK H ((storeA (cx ρ) lim H 4 x14 (.bool true)).map skips) fun _ H =>
  purK (nilChkA x0) fun x15 =>
  purK (fieldAddrA Tryz.prog 258 x15 18) fun x16 =>
  effK H ((storeA (cx ρ) lim H 256 x16 x12).map skips) fun _ H =>
  retK [(.int .i64 2), (.int .i64 0)] H
theorem G240 (ρ : Addr → Option Value) (call : CallF) (yc : YieldF) (lim k : Nat) (x0 x1 x2 : AV) (H : Heap) :
    evL (cx ρ) call yc false 240 lim k c240 [x0, x1, x2, (.tup []), (.tup []), (.tup []), (.tup []), (.tup []), (.tup []), (.tup []), (.tup []), (.tup []), (.tup []), (.tup []), (.tup []), (.tup []), (.tup [])] H (kk none (fun s H => retK (([6, 7] : List Nat).map fun t => s.getD t (.tup [])) H) [] retK [6, 7]) = L240 ρ call yc lim k x0 x1 x2 H := by
  kernel_rfl
theorem E240 (ρ : Addr → Option Value) (k lim : Nat) (x0 x1 x2 : AV) (H : Heap) : evCall (cx ρ) (k + 1) lim 240 [x0, x1, x2] H = L240 ρ (evCall (cx ρ) k) (evCY (cx ρ) k).2 lim k x0 x1 x2 H := by
  rw [evCall_body (cx ρ) k lim 240 _ H Tryz.f240 c240 [6, 7] (by kernel_rfl) (by kernel_rfl) (by kernel_rfl) (by kernel_rfl) (by kernel_rfl)]
  exact G240 ρ (evCall (cx ρ) k) (evCY (cx ρ) k).2 lim k x0 x1 x2 H
-- (*haycroft/task.Task).more
noncomputable def c241 : Code := Code.of Tryz.prog 241
noncomputable def L241 (ρ : Addr → Option Value) (call : CallF) (yc : YieldF) (lim k : Nat) (x0 x1 : AV) (H : Heap) : Res :=
  purK (nilChkA x0) fun x8 =>
  purK (fieldAddrA Tryz.prog 258 x8 5) fun x9 =>
  effK H ((storeA (cx ρ) lim H 252 x9 x1).map skips) fun _ H =>
  retK [(.int .i64 1), (.int .i64 0)] H
theorem G241 (ρ : Addr → Option Value) (call : CallF) (yc : YieldF) (lim k : Nat) (x0 x1 : AV) (H : Heap) :
    evL (cx ρ) call yc false 241 lim k c241 [x0, x1, (.tup []), (.tup []), (.tup []), (.tup []), (.tup []), (.tup []), (.tup []), (.tup [])] H (kk none (fun s H => retK (([4, 5] : List Nat).map fun t => s.getD t (.tup [])) H) [] retK [4, 5]) = L241 ρ call yc lim k x0 x1 H := by
  kernel_rfl
theorem E241 (ρ : Addr → Option Value) (k lim : Nat) (x0 x1 : AV) (H : Heap) : evCall (cx ρ) (k + 1) lim 241 [x0, x1] H = L241 ρ (evCall (cx ρ) k) (evCY (cx ρ) k).2 lim k x0 x1 H := by
  rw [evCall_body (cx ρ) k lim 241 _ H Tryz.f241 c241 [4, 5] (by kernel_rfl) (by kernel_rfl) (by kernel_rfl) (by kernel_rfl) (by kernel_rfl)]
  exact G241 ρ (evCall (cx ρ) k) (evCY (cx ρ) k).2 lim k x0 x1 H
-- (*haycroft/task.Task).take
noncomputable def c242 : Code := Code.of Tryz.prog 242
noncomputable def L242 (ρ : Addr → Option Value) (call : CallF) (yc : YieldF) (lim k : Nat) (x0 : AV) (H : Heap) : Res :=
  resK (call lim 288 [x0] H) fun x9 H =>
  effK H (allocA (cx ρ) H 27) fun x4 H =>
  effK H ((storeA (cx ρ) lim H 27 x4 x9).map skips) fun _ H =>
  purK (nilChkA x0) fun x12 =>
  purK (fieldAddrA Tryz.prog 258 x12 0) fun x13 =>
  purK (loadA (cx ρ) H 84 x13) fun x14 =>
  purK (fieldAddrA Tryz.prog 27 x4 1) fun x15 =>
  purK (loadA (cx ρ) H 9 x15) fun x16 =>
  purK (lenBA (cx ρ) H 9 x16) fun x17 =>
  purK (fieldAddrA Tryz.prog 27 x4 2) fun x18 =>
  purK (loadA (cx ρ) H 9 x18) fun x19 =>
  purK (lenBA (cx ρ) H 9 x19) fun x20 =>
  resK (call lim 61 [x17, x20] H) fun x21 H => bif (agn (loadA (cx ρ) H 84 x13) x14 && true) then
    resK (call lim 289 [x14, x21] H) fun x22 H =>
    purK (extA 0 x22) fun x23 =>
    purK (extA 1 x22) fun x24 =>
    purK (extA 2 x22) fun x25 =>
    purK (binA Tryz.prog H .neq 28 x25 (.int .i64 0)) fun x27 =>
    condK x27
    (
      resK (call lim 169 [x25] H) fun x29 H =>
      purK (extA 0 x29) fun x30 =>
      purK (extA 1 x29) fun x31 =>
      retK [x30, x31] H)
    (
      purK (binA Tryz.prog H .eql 3 x24 (.int .i64 1)) fun x34 =>
      condK x34
      (
        purK (nilChkA x0) fun x37 =>
        purK (fieldAddrA Tryz.prog 258 x37 12) fun x38 =>
        effK H ((storeA (cx ρ) lim H 22 x38 x23).map skips) fun _ H =>
        resK (call lim 241 [x0, (.fn (.func 290) [] [])] H) fun x40 H =>
        purK (extA 0 x40) fun x41 =>
        purK (extA 1 x40) fun x42 =>
        retK [x41, x42] H)
      (
        purK (binA Tryz.prog H .eql 3 x24 (.int .i64 2)) fun x44 =>
        condK x44
        (
          resK (call lim 241 [x0, (.fn (.func 291) [] [])] H) fun x46 H =>
          purK (extA 0 x46) fun x47 =>
          purK (extA 1 x46) fun x48 =>
          retK [x47, x48] H)
        (
          purK (binA Tryz.prog H .eql 3 x24 (.int .i64 4)) fun x50 =>
          condK x50
          (
            resK (call lim 240 [x0, (.int .i64 9), (.str (ByteArray.mk #[]))] H) fun x52 H =>
            purK (extA 0 x52) fun x53 =>
            purK (extA 1 x52) fun x54 =>
            retK [x53, x54] H)
          (
            resK (call lim 292 [x0, (.fn (.func 242) [] [])] H) fun x56 H =>
            purK (extA 0 x56) fun x57 =>
            purK (extA 1 x56) fun x58 =>
            retK [x57, x58] H))))
  else none
theorem G242 (ρ : Addr → Option Value) (call : CallF) (yc : YieldF) (lim k : Nat) (x0 : AV) (H : Heap) :
    evL (cx ρ) call yc false 242 lim k c242 [x0, (.tup []), (.tup []), (.tup []), (.tup []), (.tup []), (.tup []), (.tup []), (.tup []), (.tup []), (.tup []), (.tup []), (.tup []), (.tup []), (.tup []), (.tup []), (.tup []), (.tup []), (.tup []), (.tup []), (.tup []), (.tup []), (.tup []), (.tup []), (.tup []), (.tup []), (.tup []), (.tup []), (.tup []), (.tup []), (.tup []), (.tup []), (.tup []), (.tup []), (.tup []), (.tup []), (.tup []), (.tup []), (.tup []), (.tup []), (.tup []), (.tup []), (.tup []), (.tup []), (.tup []), (.tup []), (.tup []), (.tup []), (.tup []), (.tup []), (.tup []), (.tup []), (.tup []), (.tup []), (.tup []), (.tup []), (.tup []), (.tup []), (.tup [])] H (kk none (fun s H => retK (([2, 3] : List Nat).map fun t => s.getD t (.tup [])) H) [] retK [2, 3]) = L242 ρ call yc lim k x0 H := by
  kernel_rfl
theorem E242 (ρ : Addr → Option Value) (k lim : Nat) (x0 : AV) (H : Heap) : evCall (cx ρ) (k + 1) lim 242 [x0] H = L242 ρ (evCall (cx ρ) k) (evCY (cx ρ) k).2 lim k x0 H := by
  rw [evCall_body (cx ρ) k lim 242 _ H Tryz.f242 c242 [2, 3] (by kernel_rfl) (by kernel_rfl) (by kernel_rfl) (by kernel_rfl) (by kernel_rfl)]
  exact G242 ρ (evCall (cx ρ) k) (evCY (cx ρ) k).2 lim k x0 H
-- (*haycroft/cell.Row).Add
noncomputable def c246 : Code := Code.of Tryz.prog 246
noncomputable def L246 (ρ : Addr → Option Value) (call : CallF) (yc : YieldF) (lim k : Nat) (x0 x1 x2 : AV) (H : Heap) : Res :=
  resK (call lim 286 [x0, x1] H) fun x11 H =>
  purK (binA Tryz.prog H .neq 28 x11 (.int .i64 0)) fun x13 =>
  condK x13
  (
    retK [(.int .u64 0), x11] H)
  (
    purK (nilChkA x0) fun x16 =>
    purK (fieldAddrA Tryz.prog 232 x16 0) fun x17 =>
    purK (loadA (cx ρ) H 228 x17) fun x18 =>
    purK (indexAddrA Tryz.prog 228 x18 x1) fun x20 =>
    resK (call lim 295 [x20, x2] H) fun x22 H =>
    purK (binA Tryz.prog H .sub 22 x22 x2) fun x24 =>
    retK [x24, (.int .i64 0)] H)
theorem G246 (ρ : Addr → Option Value) (call : CallF) (yc : YieldF) (lim k : Nat) (x0 x1 x2 : AV) (H : Heap) :
    evL (cx ρ) call yc false 246 lim k c246 [x0, x1, x2, (.tup []), (.tup []), (.tup []), (.tup []), (.tup []), (.tup []), (.tup []), (.tup []), (.tup []), (.tup []), (.tup []), (.tup []), (.tup []), (.tup []), (.tup []), (.tup []), (.tup []), (.tup []), (.tup []), (.tup []), (.tup []), (.tup [])] H (kk none (fun s H => retK (([6, 7] : List Nat).map fun t => s.getD t (.tup [])) H) [] retK [6, 7]) = L246 ρ call yc lim k x0 x1 x2 H := by
  kernel_rfl
theorem E246 (ρ : Addr → Option Value) (k lim : Nat) (x0 x1 x2 : AV) (H : Heap) : evCall (cx ρ) (k + 1) lim 246 [x0, x1, x2] H = L246 ρ (evCall (cx ρ) k) (evCY (cx ρ) k).2 lim k x0 x1 x2 H := by
  rw [evCall_body (cx ρ) k lim 246 _ H Tryz.f246 c246 [6, 7] (by kernel_rfl) (by kernel_rfl) (by kernel_rfl) (by kernel_rfl) (by kernel_rfl)]
  exact G246 ρ (evCall (cx ρ) k) (evCY (cx ρ) k).2 lim k x0 x1 x2 H
-- haycroft/field.fit
noncomputable def c270 : Code := Code.of Tryz.prog 270
noncomputable def N270_1 (ρ : Addr → Option Value) (call : CallF) (yc : YieldF) (lim k : Nat) (H : Heap) (R : List AV → Heap → Res) : Res :=
  R [(.bool true)] H
theorem N270_1_eq (ρ : Addr → Option Value) (call : CallF) (yc : YieldF) (lim k : Nat) (H : Heap) (R : List AV → Heap → Res) :
    evL (cx ρ) call yc false 270 lim k (Code.at [1, 1, 1] c270) (sp 23 []) H (kk none (fun s H => R (([2] : List Nat).map fun t => s.getD t (.tup [])) H) [] R [2]) = N270_1 ρ call yc lim k H R := by
  kernel_rfl
noncomputable def N270_3b (ρ : Addr → Option Value) (call : CallF) (yc : YieldF) (lim k : Nat) (x3 x6 x7 x8 : AV) (H : Heap) (kn : AV → AV → AV → AV → Heap → Res) (k0 : Heap → Res) (R : List AV → Heap → Res) : Res :=
  purK (binA Tryz.prog H .lss 3 x8 x7) fun x9_1 =>
  condK x9_1
  (
    purK (indexAddrA Tryz.prog 60 x6 x8) fun x10_1 =>
    purK (loadA (cx ρ) H 3 x10_1) fun x11_1 =>
    purK (binA Tryz.prog H .lss 3 x11_1 (.int .i64 1)) fun x13_1 =>
    purK (gPur (wantV x13_1 false) (some x11_1)) fun x15_1 =>
    purK (gPur (wantV x13_1 false) (some x3)) fun x16_1 =>
    purK (gPur (wantV x13_1 false) (binA Tryz.prog H .gtr 3 x15_1 x16_1)) fun x17_1 =>
    purK (pickA x13_1 (.bool true) x17_1) fun x18_1 =>
    condK x18_1
    (
      R [(.bool false)] H)
    (
      purK (binA Tryz.prog H .sub 3 x3 x11_1) fun x21_1 =>
      purK (binA Tryz.prog H .add 3 x8 (.int .i64 1)) fun x22_1 =>
      kn x21_1 x6 x7 x22_1 H))
  (
    k0 H)
theorem N270_3b_eq (ρ : Addr → Option Value) (call : CallF) (yc : YieldF) (lim k : Nat) (x3 x6 x7 x8 : AV) (H : Heap) (kn : KS) (k0 : KS) (R : List AV → Heap → Res) :
    evL (cx ρ) call yc false 270 lim k (Code.at [1, 1, 0, 1, 0, 0] c270) (sp 23 [(3, x3), (6, x6), (7, x7), (8, x8)]) H (kk (some [3, 6, 7, 8]) kn [(0, (some []), k0)] R [2]) = N270_3b ρ call yc lim k x3 x6 x7 x8 H (fun x3 x6 x7 x8 H => kn (sp 23 [(3, x3), (6, x6), (7, x7), (8, x8)]) H) (fun H => k0 (sp 23 []) H) R := by
  kernel_rfl
noncomputable def N270_3 (ρ : Addr → Option Value) (call : CallF) (yc : YieldF) (lim k : Nat) (x3 x6 x7 x8 : AV) (H : Heap) (k0 : Heap → Res) (R : List AV → Heap → Res) : Res :=
  loopL (fun (x : AV × AV) H kn => N270_3b ρ call yc lim k x.1 x6 x7 x.2 H (fun x3 _ _ x8 H => kn (x3, x8) H) k0 R) k (x3, x8) H
theorem N270_3_eq (ρ : Addr → Option Value) (call : CallF) (yc : YieldF) (lim k : Nat) (x3 x6 x7 x8 : AV) (H : Heap) (kn : KS) (k0 : KS) (R : List AV → Heap → Res) :
    evL (cx ρ) call yc false 270 lim k (Code.at [1, 1, 0, 1, 0] c270) (sp 23 [(3, x3), (6, x6), (7, x7), (8, x8)]) H (kk (some []) kn [(0, (some []), k0)] R [2]) = N270_3 ρ call yc lim k x3 x6 x7 x8 H (fun H => k0 (sp 23 []) H) R := by
  have e : Code.at [1, 1, 0, 1, 0] c270 = .loop (Code.at [1, 1, 0, 1, 0, 0] c270) := by kernel_rfl
  rw [e]
  unfold N270_3
  exact loop_node [3, 6, 7, 8] (fun x : AV × AV => (sp 23 [(3, (x.1)), (6, x6), (7, x7), (8, (x.2))])) (fun (x : AV × AV) H kn => N270_3b ρ call yc lim k x.1 x6 x7 x.2 H (fun x3 _ _ x8 H => kn (x3, x8) H) (fun H => k0 (sp 23 []) H) R) (by kernel_rfl) (fun x => by kernel_rfl) (fun x H kn => N270_3b_eq ρ call yc lim k (x.1) x6 x7 (x.2) H kn k0 R) (x3, x8) (sp 23 [(3, x3), (6, x6), (7, x7), (8, x8)]) H (by kernel_rfl)
noncomputable def N270_2 (ρ : Addr → Option Value) (call : CallF) (yc : YieldF) (lim k : Nat) (x3 x6 x7 x8 : AV) (H : Heap) (kn : Heap → Res) (R : List AV → Heap → Res) : Res :=
  N270_3 ρ call yc lim k x3 x6 x7 x8 H kn R
theorem N270_2_x (ρ : Addr → Option Value) (call : CallF) (yc : YieldF) (lim k : Nat) (J : CodeF) (x3 x6 x7 x8 : AV) (H : Heap) (kn : KS) (R : List AV → Heap → Res) :
    evX (cx ρ) call yc false 270 lim k J (Code.at [1, 1, 0, 1] c270) (sp 23 [(3, x3), (6, x6), (7, x7), (8, x8)]) H (kk (some []) kn [] R [2]) =
  J (Code.at [1, 1, 0, 1, 0] c270) (sp 23 [(3, x3), (6, x6), (7, x7), (8, x8)]) H (kk (some []) kn [(0, (some []), kn)] R [2]) := by
  kernel_rfl
theorem N270_2_eq (ρ : Addr → Option Value) (call : CallF) (yc : YieldF) (lim k : Nat) (x3 x6 x7 x8 : AV) (H : Heap) (kn : KS) (R : List AV → Heap → Res) :
    evL (cx ρ) call yc false 270 lim k (Code.at [1, 1, 0, 1] c270) (sp 23 [(3, x3), (6, x6), (7, x7), (8, x8)]) H (kk (some []) kn [] R [2]) = N270_2 ρ call yc lim k x3 x6 x7 x8 H (fun H => kn (sp 23 []) H) R := by
  rw [evL_X, N270_2_x]
  simp only [← evL_X, N270_2, N270_3_eq]
noncomputable def L270 (ρ : Addr → Option Value) (call : CallF) (yc : YieldF) (lim k : Nat) (x0 : AV) (H : Heap) : Res :=
  purK (lenBA (cx ρ) H 60 x0) fun x7 =>
  N270_2 ρ call yc lim k (.int .i64 64) x0 x7 (.int .i64 0) H (fun H =>
    N270_1 ρ call yc lim k H retK) retK
theorem L270_x (ρ : Addr → Option Value) (call : CallF) (yc : YieldF) (lim k : Nat) (J : CodeF) (x0 : AV) (H : Heap) :
    evX (cx ρ) call yc false 270 lim k J c270 [x0, (.tup []), (.tup []), (.tup []), (.tup []), (.tup []), (.tup []), (.tup []), (.tup []), (.tup []), (.tup []), (.tup []), (.tup []), (.tup []), (.tup []), (.tup []), (.tup []), (.tup []), (.tup []), (.tup []), (.tup []), (.tup []), (.tup [])] H (kk none (fun s H => retK (([2] : List Nat).map fun t => s.getD t (.tup [])) H) [] retK [2]) =
  purK (lenBA (cx ρ) H 60 x0) fun x7 =>
  J (Code.at [1, 1, 0, 1] c270) (sp 23 [(3, (.int .i64 64)), (6, x0), (7, x7), (8, (.int .i64 0))]) H (kk (some []) (fun s H => J (Code.at [1, 1, 1] c270) s H (kk none (fun s H => retK (([2] : List Nat).map fun t => s.getD t (.tup [])) H) [] retK [2])) [] retK [2]) := by
  kernel_rfl
theorem G270 (ρ : Addr → Option Value) (call : CallF) (yc : YieldF) (lim k : Nat) (x0 : AV) (H : Heap) :
    evL (cx ρ) call yc false 270 lim k c270 [x0, (.tup []), (.tup []), (.tup []), (.tup []), (.tup []), (.tup []), (.tup []), (.tup []), (.tup []), (.tup []), (.tup []), (.tup []), (.tup []), (.tup []), (.tup []), (.tup []), (.tup []), (.tup []), (.tup []), (.tup []), (.tup []), (.tup [])] H (kk none (fun s H => retK (([2] : List Nat).map fun t => s.getD t (.tup [])) H) [] retK [2]) = L270 ρ call yc lim k x0 H := by
  rw [evL_X, L270_x]
  simp only [← evL_X, L270, N270_1_eq, N270_2_eq]
theorem E270 (ρ : Addr → Option Value) (k lim : Nat) (x0 : AV) (H : Heap) : evCall (cx ρ) (k + 1) lim 270 [x0] H = L270 ρ (evCall (cx ρ) k) (evCY (cx ρ) k).2 lim k x0 H := by
  rw [evCall_body (cx ρ) k lim 270 _ H Tryz.f270 c270 [2] (by kernel_rfl) (by kernel_rfl) (by kernel_rfl) (by kernel_rfl) (by kernel_rfl)]
  exact G270 ρ (evCall (cx ρ) k) (evCY (cx ρ) k).2 lim k x0 H
-- haycroft/field.Put
noncomputable def c271 : Code := Code.of Tryz.prog 271
noncomputable def L271 (ρ : Addr → Option Value) (call : CallF) (yc : YieldF) (lim k : Nat) (x0 x1 x2 x3 : AV) (H : Heap) : Res :=
  resK (call lim 151 [x1, x2] H) fun x13 H =>
  purK (unA .not x13) fun x14 =>
  condK x14
  (
    retK [(.int .u64 0), (.int .i64 1)] H)
  (
    resK (call lim 131 [x2] H) fun x18 H =>
    purK (binA Tryz.prog H .gtr 22 x3 x18) fun x19 =>
    condK x19
    (
      retK [(.int .u64 0), (.int .i64 13)] H)
    (
      purK (binA Tryz.prog H .shl 22 x3 x1) fun x28 =>
      resK (call lim 131 [x2] H) fun x22 H => bif (agn (binA Tryz.prog H .shl 22 x3 x1) x28 && true) then
        purK (binA Tryz.prog H .shl 22 x22 x1) fun x24 =>
        purK (binA Tryz.prog H .andNot 22 x0 x24) fun x25 =>
        purK (binA Tryz.prog H .or 22 x25 x28) fun x29 =>
        retK [x29, (.int .i64 0)] H
      else none))
theorem G271 (ρ : Addr → Option Value) (call : CallF) (yc : YieldF) (lim k : Nat) (x0 x1 x2 x3 : AV) (H : Heap) :
    evL (cx ρ) call yc false 271 lim k c271 [x0, x1, x2, x3, (.tup []), (.tup []), (.tup []), (.tup []), (.tup []), (.tup []), (.tup []), (.tup []), (.tup []), (.tup []), (.tup []), (.tup []), (.tup []), (.tup []), (.tup []), (.tup []), (.tup []), (.tup []), (.tup []), (.tup []), (.tup []), (.tup []), (.tup []), (.tup []), (.tup []), (.tup [])] H (kk none (fun s H => retK (([8, 9] : List Nat).map fun t => s.getD t (.tup [])) H) [] retK [8, 9]) = L271 ρ call yc lim k x0 x1 x2 x3 H := by
  kernel_rfl
theorem E271 (ρ : Addr → Option Value) (k lim : Nat) (x0 x1 x2 x3 : AV) (H : Heap) : evCall (cx ρ) (k + 1) lim 271 [x0, x1, x2, x3] H = L271 ρ (evCall (cx ρ) k) (evCY (cx ρ) k).2 lim k x0 x1 x2 x3 H := by
  rw [evCall_body (cx ρ) k lim 271 _ H Tryz.f271 c271 [8, 9] (by kernel_rfl) (by kernel_rfl) (by kernel_rfl) (by kernel_rfl) (by kernel_rfl)]
  exact G271 ρ (evCall (cx ρ) k) (evCY (cx ρ) k).2 lim k x0 x1 x2 x3 H
-- slices.insertionSortCmpFunc[haycroft/api.Commit]
noncomputable def c274 : Code := Code.of Tryz.prog 274
noncomputable def N274_3 (ρ : Addr → Option Value) (call : CallF) (yc : YieldF) (lim k : Nat) (x0 x1 x2 x3 x8 : AV) (H : Heap) (kn : AV → AV → AV → AV → AV → Heap → Res) : Res :=
  purK (binA Tryz.prog H .add 3 x8 (.int .i64 1)) fun x16_1 =>
  kn x0 x1 x2 x3 x16_1 H
theorem N274_3_eq (ρ : Addr → Option Value) (call : CallF) (yc : YieldF) (lim k : Nat) (x0 x1 x2 x3 x8 : AV) (H : Heap) (kn : KS) (R : List AV → Heap → Res) :
    evL (cx ρ) call yc false 274 lim k (Code.at [1, 0, 0, 1, 1] c274) (sp 53 [(0, x0), (1, x1), (2, x2), (3, x3), (8, x8)]) H (kk (some [0, 1, 2, 3, 8]) kn [(0, none, (fun s H => R (([] : List Nat).map fun t => s.getD t (.tup [])) H))] R []) = N274_3 ρ call yc lim k x0 x1 x2 x3 x8 H (fun x0 x1 x2 x3 x8 H => kn (sp 53 [(0, x0), (1, x1), (2, x2), (3, x3), (8, x8)]) H) := by
  kernel_rfl
noncomputable def N274_5b (ρ : Addr → Option Value) (call : CallF) (yc : YieldF) (lim k : Nat) (x0 x1 x2 x3 x8 x9 : AV) (H : Heap) (kn : AV → AV → AV → AV → AV → AV → Heap → Res) (k2 : AV → AV → AV → AV → AV → Heap → Res) : Res :=
  purK (binA Tryz.prog H .gtr 3 x9 x1) fun x20_1 =>
  boolK (wantV x20_1 true) fun b1 => purK (bif b1 then some x3 else some (.tup [])) fun x22_1 =>
  boolK (wantV x20_1 true) fun b2 => purK (bif b2 then some x0 else some (.tup [])) fun x23_1 =>
  boolK (wantV x20_1 true) fun b3 => purK (bif b3 then some x9 else some (.tup [])) fun x24_1 =>
  boolK (wantV x20_1 true) fun b4 => purK (bif b4 then indexAddrA Tryz.prog 234 x23_1 x24_1 else some (.tup [])) fun x25_1 =>
  boolK (wantV x20_1 true) fun b5 => purK (bif b5 then loadA (cx ρ) H 236 x25_1 else some (.tup [])) fun x26_1 =>
  boolK (wantV x20_1 true) fun b6 => purK (bif b6 then some x0 else some (.tup [])) fun x27_1 =>
  boolK (wantV x20_1 true) fun b7 => purK (bif b7 then some x9 else some (.tup [])) fun x28_1 =>
  boolK (wantV x20_1 true) fun b8 => purK (bif b8 then binA Tryz.prog H .sub 3 x28_1 (.int .i64 1) else some (.tup [])) fun x29_1 =>
  boolK (wantV x20_1 true) fun b9 => purK (bif b9 then indexAddrA Tryz.prog 234 x27_1 x29_1 else some (.tup [])) fun x30_1 =>
  boolK (wantV x20_1 true) fun b10 => purK (bif b10 then loadA (cx ρ) H 236 x30_1 else some (.tup [])) fun x31_1 =>
  boolK (wantV x20_1 true) fun b11 => resK (gRes (some b11) H (valR call noY lim x22_1 [x26_1, x31_1] H)) fun x32_1 H => bif !b11 || ((!b10 || true) && ((!b8 || true) && ((!b5 || true) && true))) then
    purK (gPur (wantV x20_1 true) (binA Tryz.prog H .lss 3 x32_1 (.int .i64 0))) fun x33_1 =>
    purK (pickA x20_1 x33_1 (.bool false)) fun x34_1 =>
    condK x34_1
    (
      purK (binA Tryz.prog H .sub 3 x9 (.int .i64 1)) fun x41_1 =>
      purK (binA Tryz.prog H .sub 3 x9 (.int .i64 1)) fun x44_1 =>
      purK (indexAddrA Tryz.prog 234 x0 x44_1) fun x45_1 =>
      purK (loadA (cx ρ) H 236 x45_1) fun x46_1 =>
      purK (indexAddrA Tryz.prog 234 x0 x9) fun x49_1 =>
      purK (loadA (cx ρ) H 236 x49_1) fun x50_1 =>
      purK (indexAddrA Tryz.prog 234 x0 x9) fun x51_1 =>
      effK H ((storeA (cx ρ) lim H 236 x51_1 x46_1).map skips) fun _ H => bif (agn (binA Tryz.prog H .sub 3 x9 (.int .i64 1)) x41_1 && true) then
        purK (indexAddrA Tryz.prog 234 x0 x41_1) fun x52_1 =>
        effK H ((storeA (cx ρ) lim H 236 x52_1 x50_1).map skips) fun _ H =>
        purK (binA Tryz.prog H .sub 3 x9 (.int .i64 1)) fun x36_1 =>
        kn x0 x1 x2 x3 x8 x36_1 H
      else none)
    (
      k2 x0 x1 x2 x3 x8 H)
  else none
theorem N274_5b_eq (ρ : Addr → Option Value) (call : CallF) (yc : YieldF) (lim k : Nat) (x0 x1 x2 x3 x8 x9 : AV) (H : Heap) (kn : KS) (k2 : KS) (k1 : KS) (R : List AV → Heap → Res) :
    evL (cx ρ) call yc false 274 lim k (Code.at [1, 0, 0, 1, 0, 0, 1, 0, 0] c274) (sp 53 [(0, x0), (1, x1), (2, x2), (3, x3), (8, x8), (9, x9)]) H (kk (some [0, 1, 2, 3, 8, 9]) kn [(2, (some [0, 1, 2, 3, 8]), k2), (1, (some [0, 1, 2, 3, 8]), k1), (0, none, (fun s H => R (([] : List Nat).map fun t => s.getD t (.tup [])) H))] R []) = N274_5b ρ call yc lim k x0 x1 x2 x3 x8 x9 H (fun x0 x1 x2 x3 x8 x9 H => kn (sp 53 [(0, x0), (1, x1), (2, x2), (3, x3), (8, x8), (9, x9)]) H) (fun x0 x1 x2 x3 x8 H => k2 (sp 53 [(0, x0), (1, x1), (2, x2), (3, x3), (8, x8)]) H) := by
  kernel_rfl
noncomputable def N274_5 (ρ : Addr → Option Value) (call : CallF) (yc : YieldF) (lim k : Nat) (x0 x1 x2 x3 x8 x9 : AV) (H : Heap) (k2 : AV → AV → AV → AV → AV → Heap → Res) : Res :=
  loopL (fun (x : AV) H kn => N274_5b ρ call yc lim k x0 x1 x2 x3 x8 x H (fun _ _ _ _ _ x9 H => kn x9 H) k2) k x9 H
theorem N274_5_eq (ρ : Addr → Option Value) (call : CallF) (yc : YieldF) (lim k : Nat) (x0 x1 x2 x3 x8 x9 : AV) (H : Heap) (kn : KS) (k2 : KS) (k1 : KS) (R : List AV → Heap → Res) :
    evL (cx ρ) call yc false 274 lim k (Code.at [1, 0, 0, 1, 0, 0, 1, 0] c274) (sp 53 [(0, x0), (1, x1), (2, x2), (3, x3), (8, x8), (9, x9)]) H (kk (some [0, 1, 2, 3, 8]) kn [(2, (some [0, 1, 2, 3, 8]), k2), (1, (some [0, 1, 2, 3, 8]), k1), (0, none, (fun s H => R (([] : List Nat).map fun t => s.getD t (.tup [])) H))] R []) = N274_5 ρ call yc lim k x0 x1 x2 x3 x8 x9 H (fun x0 x1 x2 x3 x8 H => k2 (sp 53 [(0, x0), (1, x1), (2, x2), (3, x3), (8, x8)]) H) := by
  have e : Code.at [1, 0, 0, 1, 0, 0, 1, 0] c274 = .loop (Code.at [1, 0, 0, 1, 0, 0, 1, 0, 0] c274) := by kernel_rfl
  rw [e]
  unfold N274_5
  exact loop_node [0, 1, 2, 3, 8, 9] (fun x : AV => (sp 53 [(0, x0), (1, x1), (2, x2), (3, x3), (8, x8), (9, (x))])) (fun (x : AV) H kn => N274_5b ρ call yc lim k x0 x1 x2 x3 x8 x H (fun _ _ _ _ _ x9 H => kn x9 H) (fun x0 x1 x2 x3 x8 H => k2 (sp 53 [(0, x0), (1, x1), (2, x2), (3, x3), (8, x8)]) H)) (by kernel_rfl) (fun x => by kernel_rfl) (fun x H kn => N274_5b_eq ρ call yc lim k x0 x1 x2 x3 x8 (x) H kn k2 k1 R) x9 (sp 53 [(0, x0), (1, x1), (2, x2), (3, x3), (8, x8), (9, x9)]) H (by kernel_rfl)
noncomputable def N274_4 (ρ : Addr → Option Value) (call : CallF) (yc : YieldF) (lim k : Nat) (x0 x1 x2 x3 x8 x9 : AV) (H : Heap) (kn : AV → AV → AV → AV → AV → Heap → Res) : Res :=
  N274_5 ρ call yc lim k x0 x1 x2 x3 x8 x9 H kn
theorem N274_4_x (ρ : Addr → Option Value) (call : CallF) (yc : YieldF) (lim k : Nat) (J : CodeF) (x0 x1 x2 x3 x8 x9 : AV) (H : Heap) (kn : KS) (k1 : KS) (R : List AV → Heap → Res) :
    evX (cx ρ) call yc false 274 lim k J (Code.at [1, 0, 0, 1, 0, 0, 1] c274) (sp 53 [(0, x0), (1, x1), (2, x2), (3, x3), (8, x8), (9, x9)]) H (kk (some [0, 1, 2, 3, 8]) kn [(1, (some [0, 1, 2, 3, 8]), k1), (0, none, (fun s H => R (([] : List Nat).map fun t => s.getD t (.tup [])) H))] R []) =
  J (Code.at [1, 0, 0, 1, 0, 0, 1, 0] c274) (sp 53 [(0, x0), (1, x1), (2, x2), (3, x3), (8, x8), (9, x9)]) H (kk (some [0, 1, 2, 3, 8]) kn [(2, (some [0, 1, 2, 3, 8]), kn), (1, (some [0, 1, 2, 3, 8]), k1), (0, none, (fun s H => R (([] : List Nat).map fun t => s.getD t (.tup [])) H))] R []) := by
  kernel_rfl
theorem N274_4_eq (ρ : Addr → Option Value) (call : CallF) (yc : YieldF) (lim k : Nat) (x0 x1 x2 x3 x8 x9 : AV) (H : Heap) (kn : KS) (k1 : KS) (R : List AV → Heap → Res) :
    evL (cx ρ) call yc false 274 lim k (Code.at [1, 0, 0, 1, 0, 0, 1] c274) (sp 53 [(0, x0), (1, x1), (2, x2), (3, x3), (8, x8), (9, x9)]) H (kk (some [0, 1, 2, 3, 8]) kn [(1, (some [0, 1, 2, 3, 8]), k1), (0, none, (fun s H => R (([] : List Nat).map fun t => s.getD t (.tup [])) H))] R []) = N274_4 ρ call yc lim k x0 x1 x2 x3 x8 x9 H (fun x0 x1 x2 x3 x8 H => kn (sp 53 [(0, x0), (1, x1), (2, x2), (3, x3), (8, x8)]) H) := by
  rw [evL_X, N274_4_x]
  simp only [← evL_X, N274_4, N274_5_eq]
noncomputable def N274_2b (ρ : Addr → Option Value) (call : CallF) (yc : YieldF) (lim k : Nat) (x0 x1 x2 x3 x8 : AV) (H : Heap) (kn : AV → AV → AV → AV → AV → Heap → Res) (R : List AV → Heap → Res) : Res :=
  purK (binA Tryz.prog H .lss 3 x8 x2) fun x14_1 =>
  condK x14_1
  (
    N274_4 ρ call yc lim k x0 x1 x2 x3 x8 x8 H (fun x0_1 x1_1 x2_1 x3_1 x8_1 H =>
      N274_3 ρ call yc lim k x0_1 x1_1 x2_1 x3_1 x8_1 H kn))
  (
    R [] H)
theorem N274_2b_x (ρ : Addr → Option Value) (call : CallF) (yc : YieldF) (lim k : Nat) (J : CodeF) (x0 x1 x2 x3 x8 : AV) (H : Heap) (kn : KS) (R : List AV → Heap → Res) :
    evX (cx ρ) call yc false 274 lim k J (Code.at [1, 0, 0] c274) (sp 53 [(0, x0), (1, x1), (2, x2), (3, x3), (8, x8)]) H (kk (some [0, 1, 2, 3, 8]) kn [(0, none, (fun s H => R (([] : List Nat).map fun t => s.getD t (.tup [])) H))] R []) =
  purK (binA Tryz.prog H .lss 3 x8 x2) fun x14_1 =>
  condK x14_1
  (
    J (Code.at [1, 0, 0, 1, 0, 0, 1] c274) (sp 53 [(0, x0), (1, x1), (2, x2), (3, x3), (8, x8), (9, x8)]) H (kk (some [0, 1, 2, 3, 8]) (fun s H => J (Code.at [1, 0, 0, 1, 1] c274) s H (kk (some [0, 1, 2, 3, 8]) kn [(0, none, (fun s H => R (([] : List Nat).map fun t => s.getD t (.tup [])) H))] R [])) [(1, (some [0, 1, 2, 3, 8]), (fun s H => J (Code.at [1, 0, 0, 1, 1] c274) s H (kk (some [0, 1, 2, 3, 8]) kn [(0, none, (fun s H => R (([] : List Nat).map fun t => s.getD t (.tup [])) H))] R []))), (0, none, (fun s H => R (([] : List Nat).map fun t => s.getD t (.tup [])) H))] R []))
  (
    R [] H) := by
  kernel_rfl
theorem N274_2b_eq (ρ : Addr → Option Value) (call : CallF) (yc : YieldF) (lim k : Nat) (x0 x1 x2 x3 x8 : AV) (H : Heap) (kn : KS) (R : List AV → Heap → Res) :
    evL (cx ρ) call yc false 274 lim k (Code.at [1, 0, 0] c274) (sp 53 [(0, x0), (1, x1), (2, x2), (3, x3), (8, x8)]) H (kk (some [0, 1, 2, 3, 8]) kn [(0, none, (fun s H => R (([] : List Nat).map fun t => s.getD t (.tup [])) H))] R []) = N274_2b ρ call yc lim k x0 x1 x2 x3 x8 H (fun x0 x1 x2 x3 x8 H => kn (sp 53 [(0, x0), (1, x1), (2, x2), (3, x3), (8, x8)]) H) R := by
  rw [evL_X, N274_2b_x]
  simp only [← evL_X, N274_2b, N274_3_eq, N274_4_eq]
noncomputable def N274_2 (ρ : Addr → Option Value) (call : CallF) (yc : YieldF) (lim k : Nat) (x0 x1 x2 x3 x8 : AV) (H : Heap) (R : List AV → Heap → Res) : Res :=
  loopL (fun (x : AV) H kn => N274_2b ρ call yc lim k x0 x1 x2 x3 x H (fun _ _ _ _ x8 H => kn x8 H) R) k x8 H
theorem N274_2_eq (ρ : Addr → Option Value) (call : CallF) (yc : YieldF) (lim k : Nat) (x0 x1 x2 x3 x8 : AV) (H : Heap) (R : List AV → Heap → Res) :
    evL (cx ρ) call yc false 274 lim k (Code.at [1, 0] c274) (sp 53 [(0, x0), (1, x1), (2, x2), (3, x3), (8, x8)]) H (kk none (fun s H => R (([] : List Nat).map fun t => s.getD t (.tup [])) H) [(0, none, (fun s H => R (([] : List Nat).map fun t => s.getD t (.tup [])) H))] R []) = N274_2 ρ call yc lim k x0 x1 x2 x3 x8 H R := by
  have e : Code.at [1, 0] c274 = .loop (Code.at [1, 0, 0] c274) := by kernel_rfl
  rw [e]
  unfold N274_2
  exact loop_node [0, 1, 2, 3, 8] (fun x : AV => (sp 53 [(0, x0), (1, x1), (2, x2), (3, x3), (8, (x))])) (fun (x : AV) H kn => N274_2b ρ call yc lim k x0 x1 x2 x3 x H (fun _ _ _ _ x8 H => kn x8 H) R) (by kernel_rfl) (fun x => by kernel_rfl) (fun x H kn => N274_2b_eq ρ call yc lim k x0 x1 x2 x3 (x) H kn R) x8 (sp 53 [(0, x0), (1, x1), (2, x2), (3, x3), (8, x8)]) H (by kernel_rfl)
noncomputable def N274_1 (ρ : Addr → Option Value) (call : CallF) (yc : YieldF) (lim k : Nat) (x0 x1 x2 x3 x8 : AV) (H : Heap) (R : List AV → Heap → Res) : Res :=
  N274_2 ρ call yc lim k x0 x1 x2 x3 x8 H R
theorem N274_1_x (ρ : Addr → Option Value) (call : CallF) (yc : YieldF) (lim k : Nat) (J : CodeF) (x0 x1 x2 x3 x8 : AV) (H : Heap) (R : List AV → Heap → Res) :
    evX (cx ρ) call yc false 274 lim k J (Code.at [1] c274) (sp 53 [(0, x0), (1, x1), (2, x2), (3, x3), (8, x8)]) H (kk none (fun s H => R (([] : List Nat).map fun t => s.getD t (.tup [])) H) [] R []) =
  J (Code.at [1, 0] c274) (sp 53 [(0, x0), (1, x1), (2, x2), (3, x3), (8, x8)]) H (kk none (fun s H => R (([] : List Nat).map fun t => s.getD t (.tup [])) H) [(0, none, (fun s H => R (([] : List Nat).map fun t => s.getD t (.tup [])) H))] R []) := by
  kernel_rfl
theorem N274_1_eq (ρ : Addr → Option Value) (call : CallF) (yc : YieldF) (lim k : Nat) (x0 x1 x2 x3 x8 : AV) (H : Heap) (R : List AV → Heap → Res) :
    evL (cx ρ) call yc false 274 lim k (Code.at [1] c274) (sp 53 [(0, x0), (1, x1), (2, x2), (3, x3), (8, x8)]) H (kk none (fun s H => R (([] : List Nat).map fun t => s.getD t (.tup [])) H) [] R []) = N274_1 ρ call yc lim k x0 x1 x2 x3 x8 H R := by
  rw [evL_X, N274_1_x]
  simp only [← evL_X, N274_1, N274_2_eq]
noncomputable def L274 (ρ : Addr → Option Value) (call : CallF) (yc : YieldF) (lim k : Nat) (x0 x1 x2 x3 : AV) (H : Heap) : Res :=
  purK (binA Tryz.prog H .add 3 x1 (.int .i64 1)) fun x11 =>
  N274_1 ρ call yc lim k x0 x1 x2 x3 x11 H retK
theorem L274_x (ρ : Addr → Option Value) (call : CallF) (yc : YieldF) (lim k : Nat) (J : CodeF) (x0 x1 x2 x3 : AV) (H : Heap) :
    evX (cx ρ) call yc false 274 lim k J c274 [x0, x1, x2, x3, (.tup []), (.tup []), (.tup []), (.tup []), (.tup []), (.tup []), (.tup []), (.tup []), (.tup []), (.tup []), (.tup []), (.tup []), (.tup []), (.tup []), (.tup []), (.tup []), (.tup []), (.tup []), (.tup []), (.tup []), (.tup []), (.tup []), (.tup []), (.tup []), (.tup []), (.tup []), (.tup []), (.tup []), (.tup []), (.tup []), (.tup []), (.tup []), (.tup []), (.tup []), (.tup []), (.tup []), (.tup []), (.tup []), (.tup []), (.tup []), (.tup []), (.tup []), (.tup []), (.tup []), (.tup []), (.tup []), (.tup []), (.tup []), (.tup [])] H (kk none (fun s H => retK (([] : List Nat).map fun t => s.getD t (.tup [])) H) [] retK []) =
  purK (binA Tryz.prog H .add 3 x1 (.int .i64 1)) fun x11 =>
  J (Code.at [1] c274) (sp 53 [(0, x0), (1, x1), (2, x2), (3, x3), (8, x11)]) H (kk none (fun s H => retK (([] : List Nat).map fun t => s.getD t (.tup [])) H) [] retK []) := by
  kernel_rfl
theorem G274 (ρ : Addr → Option Value) (call : CallF) (yc : YieldF) (lim k : Nat) (x0 x1 x2 x3 : AV) (H : Heap) :
    evL (cx ρ) call yc false 274 lim k c274 [x0, x1, x2, x3, (.tup []), (.tup []), (.tup []), (.tup []), (.tup []), (.tup []), (.tup []), (.tup []), (.tup []), (.tup []), (.tup []), (.tup []), (.tup []), (.tup []), (.tup []), (.tup []), (.tup []), (.tup []), (.tup []), (.tup []), (.tup []), (.tup []), (.tup []), (.tup []), (.tup []), (.tup []), (.tup []), (.tup []), (.tup []), (.tup []), (.tup []), (.tup []), (.tup []), (.tup []), (.tup []), (.tup []), (.tup []), (.tup []), (.tup []), (.tup []), (.tup []), (.tup []), (.tup []), (.tup []), (.tup []), (.tup []), (.tup []), (.tup []), (.tup [])] H (kk none (fun s H => retK (([] : List Nat).map fun t => s.getD t (.tup [])) H) [] retK []) = L274 ρ call yc lim k x0 x1 x2 x3 H := by
  rw [evL_X, L274_x]
  simp only [← evL_X, L274, N274_1_eq]
theorem E274 (ρ : Addr → Option Value) (k lim : Nat) (x0 x1 x2 x3 : AV) (H : Heap) : evCall (cx ρ) (k + 1) lim 274 [x0, x1, x2, x3] H = L274 ρ (evCall (cx ρ) k) (evCY (cx ρ) k).2 lim k x0 x1 x2 x3 H := by
  rw [evCall_body (cx ρ) k lim 274 _ H Tryz.f274 c274 [] (by kernel_rfl) (by kernel_rfl) (by kernel_rfl) (by kernel_rfl) (by kernel_rfl)]
  exact G274 ρ (evCall (cx ρ) k) (evCY (cx ρ) k).2 lim k x0 x1 x2 x3 H
-- (*haycroft/tail.Tail).Begin
noncomputable def c278 : Code := Code.of Tryz.prog 278
noncomputable def L278 (ρ : Addr → Option Value) (call : CallF) (yc : YieldF) (lim k : Nat) (x0 x1 : AV) (H : Heap) : Res :=
  purK (binA Tryz.prog H .eql 147 x0 .nilp) fun x7 =>
  condK x7
  (
    retK [(.int .i64 2)] H)
  (
    purK (binA Tryz.prog H .lss 3 x1 (.int .i64 0)) fun x10 =>
    purK (gPur (wantV x10 false) (some x1)) fun x12 =>
    purK (gPur (wantV x10 false) (some x0)) fun x13 =>
    purK (gPur (wantV x10 false) (nilChkA x13)) fun x14 =>
    purK (gPur (wantV x10 false) (fieldAddrA Tryz.prog 307 x14 1)) fun x15 =>
    purK (gPur (wantV x10 false) (loadA (cx ρ) H 3 x15)) fun x16 =>
    purK (gPur (wantV x10 false) (binA Tryz.prog H .geq 3 x12 x16)) fun x17 =>
    purK (pickA x10 (.bool true) x17) fun x18 =>
    condK x18
    (
      retK [(.int .i64 1)] H)
    (
      purK (nilChkA x0) fun x20 =>
      purK (fieldAddrA Tryz.prog 307 x20 2) fun x21 =>
      purK (loadA (cx ρ) H 160 x21) fun x22 =>
      resK (call lim 308 [x1] H) fun x25 H => bif (agn (loadA (cx ρ) H 160 x21) x22 && true) then
        resK (call lim 307 [x1, x25] H) fun x26 H => bif (agn (loadA (cx ρ) H 160 x21) x22 && true) then
          resK (call lim 234 [x22, (.int .i64 0), x26] H) fun x27 H =>
          retK [x27] H
        else none
      else none))
theorem G278 (ρ : Addr → Option Value) (call : CallF) (yc : YieldF) (lim k : Nat) (x0 x1 : AV) (H : Heap) :
    evL (cx ρ) call yc false 278 lim k c278 [x0, x1, (.tup []), (.tup []), (.tup []), (.tup []), (.tup []), (.tup []), (.tup []), (.tup []), (.tup []), (.tup []), (.tup []), (.tup []), (.tup []), (.tup []), (.tup []), (.tup []), (.tup []), (.tup []), (.tup []), (.tup []), (.tup []), (.tup []), (.tup []), (.tup []), (.tup []), (.tup [])] H (kk none (fun s H => retK (([4] : List Nat).map fun t => s.getD t (.tup [])) H) [] retK [4]) = L278 ρ call yc lim k x0 x1 H := by
  kernel_rfl
theorem E278 (ρ : Addr → Option Value) (k lim : Nat) (x0 x1 : AV) (H : Heap) : evCall (cx ρ) (k + 1) lim 278 [x0, x1] H = L278 ρ (evCall (cx ρ) k) (evCY (cx ρ) k).2 lim k x0 x1 H := by
  rw [evCall_body (cx ρ) k lim 278 _ H Tryz.f278 c278 [4] (by kernel_rfl) (by kernel_rfl) (by kernel_rfl) (by kernel_rfl) (by kernel_rfl)]
  exact G278 ρ (evCall (cx ρ) k) (evCY (cx ρ) k).2 lim k x0 x1 H
-- (*haycroft/cell.Row).Fill
noncomputable def c281 : Code := Code.of Tryz.prog 281
noncomputable def N281_1 (ρ : Addr → Option Value) (call : CallF) (yc : YieldF) (lim k : Nat) (H : Heap) (R : List AV → Heap → Res) : Res :=
  R [(.int .i64 0)] H
theorem N281_1_eq (ρ : Addr → Option Value) (call : CallF) (yc : YieldF) (lim k : Nat) (H : Heap) (R : List AV → Heap → Res) :
    evL (cx ρ) call yc false 281 lim k (Code.at [1, 1, 1] c281) (sp 36 []) H (kk none (fun s H => R (([6] : List Nat).map fun t => s.getD t (.tup [])) H) [] R [6]) = N281_1 ρ call yc lim k H R := by
  kernel_rfl
noncomputable def N281_3b (ρ : Addr → Option Value) (call : CallF) (yc : YieldF) (lim k : Nat) (x0 x1 x18 x19 x20 : AV) (H : Heap) (kn : AV → AV → AV → AV → AV → Heap → Res) (k0 : Heap → Res) : Res :=
  purK (binA Tryz.prog H .lss 3 x20 x19) fun x21_1 =>
  condK x21_1
  (
    purK (indexAddrA Tryz.prog 31 x18 x20) fun x23_1 =>
    purK (loadA (cx ρ) H 22 x23_1) fun x24_1 =>
    purK (nilChkA x0) fun x26_1 =>
    purK (fieldAddrA Tryz.prog 232 x26_1 0) fun x27_1 =>
    purK (loadA (cx ρ) H 228 x27_1) fun x28_1 =>
    purK (binA Tryz.prog H .add 3 x1 x20) fun x31_1 =>
    purK (indexAddrA Tryz.prog 228 x28_1 x31_1) fun x32_1 =>
    resK (call lim 287 [x32_1, x24_1] H) fun x34_1 H =>
    purK (binA Tryz.prog H .add 3 x20 (.int .i64 1)) fun x35_1 =>
    kn x0 x1 x18 x19 x35_1 H)
  (
    k0 H)
theorem N281_3b_eq (ρ : Addr → Option Value) (call : CallF) (yc : YieldF) (lim k : Nat) (x0 x1 x18 x19 x20 : AV) (H : Heap) (kn : KS) (k0 : KS) (R : List AV → Heap → Res) :
    evL (cx ρ) call yc false 281 lim k (Code.at [1, 1, 0, 1, 0, 0] c281) (sp 36 [(0, x0), (1, x1), (18, x18), (19, x19), (20, x20)]) H (kk (some [0, 1, 18, 19, 20]) kn [(0, (some []), k0)] R [6]) = N281_3b ρ call yc lim k x0 x1 x18 x19 x20 H (fun x0 x1 x18 x19 x20 H => kn (sp 36 [(0, x0), (1, x1), (18, x18), (19, x19), (20, x20)]) H) (fun H => k0 (sp 36 []) H) := by
  kernel_rfl
noncomputable def N281_3 (ρ : Addr → Option Value) (call : CallF) (yc : YieldF) (lim k : Nat) (x0 x1 x18 x19 x20 : AV) (H : Heap) (k0 : Heap → Res) : Res :=
  loopL (fun (x : AV) H kn => N281_3b ρ call yc lim k x0 x1 x18 x19 x H (fun _ _ _ _ x20 H => kn x20 H) k0) k x20 H
theorem N281_3_eq (ρ : Addr → Option Value) (call : CallF) (yc : YieldF) (lim k : Nat) (x0 x1 x18 x19 x20 : AV) (H : Heap) (kn : KS) (k0 : KS) (R : List AV → Heap → Res) :
    evL (cx ρ) call yc false 281 lim k (Code.at [1, 1, 0, 1, 0] c281) (sp 36 [(0, x0), (1, x1), (18, x18), (19, x19), (20, x20)]) H (kk (some []) kn [(0, (some []), k0)] R [6]) = N281_3 ρ call yc lim k x0 x1 x18 x19 x20 H (fun H => k0 (sp 36 []) H) := by
  have e : Code.at [1, 1, 0, 1, 0] c281 = .loop (Code.at [1, 1, 0, 1, 0, 0] c281) := by kernel_rfl
  rw [e]
  unfold N281_3
  exact loop_node [0, 1, 18, 19, 20] (fun x : AV => (sp 36 [(0, x0), (1, x1), (18, x18), (19, x19), (20, (x))])) (fun (x : AV) H kn => N281_3b ρ call yc lim k x0 x1 x18 x19 x H (fun _ _ _ _ x20 H => kn x20 H) (fun H => k0 (sp 36 []) H)) (by kernel_rfl) (fun x => by kernel_rfl) (fun x H kn => N281_3b_eq ρ call yc lim k x0 x1 x18 x19 (x) H kn k0 R) x20 (sp 36 [(0, x0), (1, x1), (18, x18), (19, x19), (20, x20)]) H (by kernel_rfl)
noncomputable def N281_2 (ρ : Addr → Option Value) (call : CallF) (yc : YieldF) (lim k : Nat) (x0 x1 x18 x19 x20 : AV) (H : Heap) (kn : Heap → Res) : Res :=
  N281_3 ρ call yc lim k x0 x1 x18 x19 x20 H kn
theorem N281_2_x (ρ : Addr → Option Value) (call : CallF) (yc : YieldF) (lim k : Nat) (J : CodeF) (x0 x1 x18 x19 x20 : AV) (H : Heap) (kn : KS) (R : List AV → Heap → Res) :
    evX (cx ρ) call yc false 281 lim k J (Code.at [1, 1, 0, 1] c281) (sp 36 [(0, x0), (1, x1), (18, x18), (19, x19), (20, x20)]) H (kk (some []) kn [] R [6]) =
  J (Code.at [1, 1, 0, 1, 0] c281) (sp 36 [(0, x0), (1, x1), (18, x18), (19, x19), (20, x20)]) H (kk (some []) kn [(0, (some []), kn)] R [6]) := by
  kernel_rfl
theorem N281_2_eq (ρ : Addr → Option Value) (call : CallF) (yc : YieldF) (lim k : Nat) (x0 x1 x18 x19 x20 : AV) (H : Heap) (kn : KS) (R : List AV → Heap → Res) :
    evL (cx ρ) call yc false 281 lim k (Code.at [1, 1, 0, 1] c281) (sp 36 [(0, x0), (1, x1), (18, x18), (19, x19), (20, x20)]) H (kk (some []) kn [] R [6]) = N281_2 ρ call yc lim k x0 x1 x18 x19 x20 H (fun H => kn (sp 36 []) H) := by
  rw [evL_X, N281_2_x]
  simp only [← evL_X, N281_2, N281_3_eq]
noncomputable def L281 (ρ : Addr → Option Value) (call : CallF) (yc : YieldF) (lim k : Nat) (x0 x1 x2 : AV) (H : Heap) : Res :=
  purK (lenBA (cx ρ) H 31 x2) fun x13 =>
  resK (call lim 201 [x0, x1, x13] H) fun x14 H =>
  purK (binA Tryz.prog H .neq 28 x14 (.int .i64 0)) fun x16 =>
  condK x16
  (
    retK [x14] H)
  (
    purK (lenBA (cx ρ) H 31 x2) fun x19 =>
    N281_2 ρ call yc lim k x0 x1 x2 x19 (.int .i64 0) H (fun H =>
      N281_1 ρ call yc lim k H retK))
theorem L281_x (ρ : Addr → Option Value) (call : CallF) (yc : YieldF) (lim k : Nat) (J : CodeF) (x0 x1 x2 : AV) (H : Heap) :
    evX (cx ρ) call yc false 281 lim k J c281 [x0, x1, x2, (.tup []), (.tup []), (.tup []), (.tup []), (.tup []), (.tup []), (.tup []), (.tup []), (.tup []), (.tup []), (.tup []), (.tup []), (.tup []), (.tup []), (.tup []), (.tup []), (.tup []), (.tup []), (.tup []), (.tup []), (.tup []), (.tup []), (.tup []), (.tup []), (.tup []), (.tup []), (.tup []), (.tup []), (.tup []), (.tup []), (.tup []), (.tup []), (.tup [])] H (kk none (fun s H => retK (([6] : List Nat).map fun t => s.getD t (.tup [])) H) [] retK [6]) =
  purK (lenBA (cx ρ) H 31 x2) fun x13 =>
  resK (call lim 201 [x0, x1, x13] H) fun x14 H =>
  purK (binA Tryz.prog H .neq 28 x14 (.int .i64 0)) fun x16 =>
  condK x16
  (
    retK [x14] H)
  (
    purK (lenBA (cx ρ) H 31 x2) fun x19 =>
    J (Code.at [1, 1, 0, 1] c281) (sp 36 [(0, x0), (1, x1), (18, x2), (19, x19), (20, (.int .i64 0))]) H (kk (some []) (fun s H => J (Code.at [1, 1, 1] c281) s H (kk none (fun s H => retK (([6] : List Nat).map fun t => s.getD t (.tup [])) H) [] retK [6])) [] retK [6])) := by
  kernel_rfl
theorem G281 (ρ : Addr → Option Value) (call : CallF) (yc : YieldF) (lim k : Nat) (x0 x1 x2 : AV) (H : Heap) :
    evL (cx ρ) call yc false 281 lim k c281 [x0, x1, x2, (.tup []), (.tup []), (.tup []), (.tup []), (.tup []), (.tup []), (.tup []), (.tup []), (.tup []), (.tup []), (.tup []), (.tup []), (.tup []), (.tup []), (.tup []), (.tup []), (.tup []), (.tup []), (.tup []), (.tup []), (.tup []), (.tup []), (.tup []), (.tup []), (.tup []), (.tup []), (.tup []), (.tup []), (.tup []), (.tup []), (.tup []), (.tup []), (.tup [])] H (kk none (fun s H => retK (([6] : List Nat).map fun t => s.getD t (.tup [])) H) [] retK [6]) = L281 ρ call yc lim k x0 x1 x2 H := by
  rw [evL_X, L281_x]
  simp only [← evL_X, L281, N281_1_eq, N281_2_eq]
theorem E281 (ρ : Addr → Option Value) (k lim : Nat) (x0 x1 x2 : AV) (H : Heap) : evCall (cx ρ) (k + 1) lim 281 [x0, x1, x2] H = L281 ρ (evCall (cx ρ) k) (evCY (cx ρ) k).2 lim k x0 x1 x2 H := by
  rw [evCall_body (cx ρ) k lim 281 _ H Tryz.f281 c281 [6] (by kernel_rfl) (by kernel_rfl) (by kernel_rfl) (by kernel_rfl) (by kernel_rfl)]
  exact G281 ρ (evCall (cx ρ) k) (evCY (cx ρ) k).2 lim k x0 x1 x2 H
-- (*haycroft/cell.Row).CAS
noncomputable def c282 : Code := Code.of Tryz.prog 282
noncomputable def N282_1 (ρ : Addr → Option Value) (call : CallF) (yc : YieldF) (lim k : Nat) (x11 : AV) (H : Heap) (R : List AV → Heap → Res) : Res :=
  R [x11, (.int .i64 0)] H
theorem N282_1_eq (ρ : Addr → Option Value) (call : CallF) (yc : YieldF) (lim k : Nat) (x11 : AV) (H : Heap) (R : List AV → Heap → Res) :
    evL (cx ρ) call yc false 282 lim k (Code.at [1, 1, 1, 1] c282) (sp 37 [(11, x11)]) H (kk none (fun s H => R (([8, 9] : List Nat).map fun t => s.getD t (.tup [])) H) [] R [8, 9]) = N282_1 ρ call yc lim k x11 H R := by
  kernel_rfl
noncomputable def L282 (ρ : Addr → Option Value) (call : CallF) (yc : YieldF) (lim k : Nat) (x0 x1 x2 x3 : AV) (H : Heap) : Res :=
  resK (call lim 286 [x0, x1] H) fun x14 H =>
  purK (binA Tryz.prog H .neq 28 x14 (.int .i64 0)) fun x16 =>
  condK x16
  (
    retK [(.bool false), x14] H)
  (
    purK (nilChkA x0) fun x19 =>
    purK (fieldAddrA Tryz.prog 232 x19 0) fun x20 =>
    purK (loadA (cx ρ) H 228 x20) fun x21 =>
    purK (indexAddrA Tryz.prog 228 x21 x1) fun x23 =>
    resK (call lim 310 [x23, x2, x3] H) fun x26 H =>
    condK x26
    (
      purK (nilChkA x0) fun x29 =>
      purK (fieldAddrA Tryz.prog 232 x29 1) fun x30 =>
      resK (call lim 311 [x30, (.int .i64 1)] H) fun x31 H =>
      N282_1 ρ call yc lim k x26 H retK)
    (
      purK (nilChkA x0) fun x33 =>
      purK (fieldAddrA Tryz.prog 232 x33 2) fun x34 =>
      resK (call lim 311 [x34, (.int .i64 1)] H) fun x35 H =>
      N282_1 ρ call yc lim k x26 H retK))
theorem L282_x (ρ : Addr → Option Value) (call : CallF) (yc : YieldF) (lim k : Nat) (J : CodeF) (x0 x1 x2 x3 : AV) (H : Heap) :
    evX (cx ρ) call yc false 282 lim k J c282 [x0, x1, x2, x3, (.tup []), (.tup []), (.tup []), (.tup []), (.tup []), (.tup []), (.tup []), (.tup []), (.tup []), (.tup []), (.tup []), (.tup []), (.tup []), (.tup []), (.tup []), (.tup []), (.tup []), (.tup []), (.tup []), (.tup []), (.tup []), (.tup []), (.tup []), (.tup []), (.tup []), (.tup []), (.tup []), (.tup []), (.tup []), (.tup []), (.tup []), (.tup []), (.tup [])] H (kk none (fun s H => retK (([8, 9] : List Nat).map fun t => s.getD t (.tup [])) H) [] retK [8, 9]) =
  resK (call lim 286 [x0, x1] H) fun x14 H =>
  purK (binA Tryz.prog H .neq 28 x14 (.int .i64 0)) fun x16 =>
  condK x16
  (
    retK [(.bool false), x14] H)
  (
    purK (nilChkA x0) fun x19 =>
    purK (fieldAddrA Tryz.prog 232 x19 0) fun x20 =>
    purK (loadA (cx ρ) H 228 x20) fun x21 =>
    purK (indexAddrA Tryz.prog 228 x21 x1) fun x23 =>
    resK (call lim 310 [x23, x2, x3] H) fun x26 H =>
    condK x26
    (
      purK (nilChkA x0) fun x29 =>
      purK (fieldAddrA Tryz.prog 232 x29 1) fun x30 =>
      resK (call lim 311 [x30, (.int .i64 1)] H) fun x31 H =>
      J (Code.at [1, 1, 1, 1] c282) (sp 37 [(11, x26)]) H (kk none (fun s H => retK (([8, 9] : List Nat).map fun t => s.getD t (.tup [])) H) [] retK [8, 9]))
    (
      purK (nilChkA x0) fun x33 =>
      purK (fieldAddrA Tryz.prog 232 x33 2) fun x34 =>
      resK (call lim 311 [x34, (.int .i64 1)] H) fun x35 H =>
      J (Code.at [1, 1, 1, 1] c282) (sp 37 [(11, x26)]) H (kk none (fun s H => retK (([8, 9] : List Nat).map fun t => s.getD t (.tup [])) H) [] retK [8, 9]))) := by
  kernel_rfl
theorem G282 (ρ : Addr → Option Value) (call : CallF) (yc : YieldF) (lim k : Nat) (x0 x1 x2 x3 : AV) (H : Heap) :
    evL (cx ρ) call yc false 282 lim k c282 [x0, x1, x2, x3, (.tup []), (.tup []), (.tup []), (.tup []), (.tup []), (.tup []), (.tup []), (.tup []), (.tup []), (.tup []), (.tup []), (.tup []), (.tup []), (.tup []), (.tup []), (.tup []), (.tup []), (.tup []), (.tup []), (.tup []), (.tup []), (.tup []), (.tup []), (.tup []), (.tup []), (.tup []), (.tup []), (.tup []), (.tup []), (.tup []), (.tup []), (.tup []), (.tup [])] H (kk none (fun s H => retK (([8, 9] : List Nat).map fun t => s.getD t (.tup [])) H) [] retK [8, 9]) = L282 ρ call yc lim k x0 x1 x2 x3 H := by
  rw [evL_X, L282_x]
  simp only [← evL_X, L282, N282_1_eq]
theorem E282 (ρ : Addr → Option Value) (k lim : Nat) (x0 x1 x2 x3 : AV) (H : Heap) : evCall (cx ρ) (k + 1) lim 282 [x0, x1, x2, x3] H = L282 ρ (evCall (cx ρ) k) (evCY (cx ρ) k).2 lim k x0 x1 x2 x3 H := by
  rw [evCall_body (cx ρ) k lim 282 _ H Tryz.f282 c282 [8, 9] (by kernel_rfl) (by kernel_rfl) (by kernel_rfl) (by kernel_rfl) (by kernel_rfl)]
  exact G282 ρ (evCall (cx ρ) k) (evCY (cx ρ) k).2 lim k x0 x1 x2 x3 H
-- (*haycroft/task.Task).missing
noncomputable def c283 : Code := Code.of Tryz.prog 283
noncomputable def L283 (ρ : Addr → Option Value) (call : CallF) (yc : YieldF) (lim k : Nat) (x0 x1 : AV) (H : Heap) : Res :=
  effK H (boxA H 93 x1) fun x3 H =>
  resK (call lim 239 [x0, (.int .i64 1)] H) fun x7 H =>
  purK (gPur (wantV x7 false) (some x0)) fun x9 =>
  resK (gRes (wantV x7 false) H (call lim 239 [x9, (.int .i64 4)] H)) fun x10 H =>
  purK (pickA x7 (.bool true) x10) fun x11 =>
  condK x11
  (
    resK (call lim 284 [x0] H) fun x13 H =>
    purK (extA 0 x13) fun x14 =>
    purK (extA 1 x13) fun x15 =>
    retK [x14, x15] H)
  (
    purK (fieldAddrA Tryz.prog 93 x3 1) fun x18 =>
    purK (loadA (cx ρ) H 3 x18) fun x19 =>
    purK (fieldAddrA Tryz.prog 93 x3 3) fun x20 =>
    purK (loadA (cx ρ) H 3 x20) fun x21 =>
    purK (nilChkA x0) fun x22 =>
    purK (fieldAddrA Tryz.prog 258 x22 6) fun x23 =>
    effK H ((storeA (cx ρ) lim H 3 x23 x19).map skips) fun _ H => bif (agn (loadA (cx ρ) H 3 x20) x21 && true) then
      purK (nilChkA x0) fun x24 =>
      purK (fieldAddrA Tryz.prog 258 x24 8) fun x25 =>
      effK H ((storeA (cx ρ) lim H 3 x25 x21).map skips) fun _ H =>
      purK (fieldAddrA Tryz.prog 93 x3 0) fun x27 =>
      purK (loadA (cx ρ) H 3 x27) fun x28 =>
      purK (binA Tryz.prog H .eql 3 x28 (.int .i64 2)) fun x29 =>
      condK x29
      (
        resK (call lim 241 [x0, (.fn (.func 312) [] [])] H) fun x31 H =>
        purK (extA 0 x31) fun x32 =>
        purK (extA 1 x31) fun x33 =>
        retK [x32, x33] H)
      (
        purK (nilChkA x0) fun x36 =>
        purK (fieldAddrA Tryz.prog 258 x36 9) fun x37 =>
        purK (loadA (cx ρ) H 3 x37) fun x38 =>
        purK (binA Tryz.prog H .gtr 3 x38 (.int .i64 0)) fun x39 =>
        condK x39
        (
          resK (call lim 241 [x0, (.fn (.func 313) [] [])] H) fun x41 H =>
          purK (extA 0 x41) fun x42 =>
          purK (extA 1 x41) fun x43 =>
          retK [x42, x43] H)
        (
          resK (call lim 241 [x0, (.fn (.func 314) [] [])] H) fun x45 H =>
          purK (extA 0 x45) fun x46 =>
          purK (extA 1 x45) fun x47 =>
          retK [x46, x47] H))
    else none)
theorem G283 (ρ : Addr → Option Value) (call : CallF) (yc : YieldF) (lim k : Nat) (x0 x1 : AV) (H : Heap) :
    evL (cx ρ) call yc false 283 lim k c283 [x0, x1, (.tup []), (.tup []), (.tup []), (.tup []), (.tup []), (.tup []), (.tup []), (.tup []), (.tup []), (.tup []), (.tup []), (.tup []), (.tup []), (.tup []), (.tup []), (.tup []), (.tup []), (.tup []), (.tup []), (.tup []), (.tup []), (.tup []), (.tup []), (.tup []), (.tup []), (.tup []), (.tup []), (.tup []), (.tup []), (.tup []), (.tup []), (.tup []), (.tup []), (.tup []), (.tup []), (.tup []), (.tup []), (.tup []), (.tup []), (.tup []), (.tup []), (.tup []), (.tup []), (.tup []), (.tup []), (.tup [])] H (kk none (fun s H => retK (([4, 5] : List Nat).map fun t => s.getD t (.tup [])) H) [] retK [4, 5]) = L283 ρ call yc lim k x0 x1 H := by
  kernel_rfl
theorem E283 (ρ : Addr → Option Value) (k lim : Nat) (x0 x1 : AV) (H : Heap) : evCall (cx ρ) (k + 1) lim 283 [x0, x1] H = L283 ρ (evCall (cx ρ) k) (evCY (cx ρ) k).2 lim k x0 x1 H := by
  rw [evCall_body (cx ρ) k lim 283 _ H Tryz.f283 c283 [4, 5] (by kernel_rfl) (by kernel_rfl) (by kernel_rfl) (by kernel_rfl) (by kernel_rfl)]
  exact G283 ρ (evCall (cx ρ) k) (evCY (cx ρ) k).2 lim k x0 x1 H
-- (*haycroft/task.Task).absent
noncomputable def c284 : Code := Code.of Tryz.prog 284
noncomputable def L284 (ρ : Addr → Option Value) (call : CallF) (yc : YieldF) (lim k : Nat) (x0 : AV) (H : Heap) : Res :=
  purK (nilChkA x0) fun x5 =>
  purK (fieldAddrA Tryz.prog 258 x5 3) fun x6 =>
  purK (fieldAddrA Tryz.prog 59 x6 0) fun x7 =>
  purK (loadA (cx ρ) H 3 x7) fun x8 =>
  purK (binA Tryz.prog H .eql 3 x8 (.int .i64 1)) fun x10 =>
  condK x10
  (
    resK (call lim 240 [x0, (.int .i64 7), (.str (ByteArray.mk #[]))] H) fun x12 H =>
    purK (extA 0 x12) fun x13 =>
    purK (extA 1 x12) fun x14 =>
    retK [x13, x14] H)
  (
    purK (binA Tryz.prog H .eql 3 x8 (.int .i64 4)) fun x16 =>
    condK x16
    (
      resK (call lim 240 [x0, (.int .i64 0), (.str (ByteArray.mk #[]))] H) fun x18 H =>
      purK (extA 0 x18) fun x19 =>
      purK (extA 1 x18) fun x20 =>
      retK [x19, x20] H)
    (
      purK (nilChkA x0) fun x22 =>
      purK (fieldAddrA Tryz.prog 258 x22 13) fun x23 =>
      effK H ((storeA (cx ρ) lim H 9 x23 (.str (ByteArray.mk #[]))).map skips) fun _ H =>
      resK (call lim 241 [x0, (.fn (.func 242) [] [])] H) fun x25 H =>
      purK (extA 0 x25) fun x26 =>
      purK (extA 1 x25) fun x27 =>
      retK [x26, x27] H))
theorem G284 (ρ : Addr → Option Value) (call : CallF) (yc : YieldF) (lim k : Nat) (x0 : AV) (H : Heap) :
    evL (cx ρ) call yc false 284 lim k c284 [x0, (.tup []), (.tup []), (.tup []), (.tup []), (.tup []), (.tup []), (.tup []), (.tup []), (.tup []), (.tup []), (.tup []), (.tup []), (.tup []), (.tup []), (.tup []), (.tup []), (.tup []), (.tup []), (.tup []), (.tup []), (.tup []), (.tup []), (.tup []), (.tup []), (.tup []), (.tup []), (.tup [])] H (kk none (fun s H => retK (([2, 3] : List Nat).map fun t => s.getD t (.tup [])) H) [] retK [2, 3]) = L284 ρ call yc lim k x0 H := by
  kernel_rfl
theorem E284 (ρ : Addr → Option Value) (k lim : Nat) (x0 : AV) (H : Heap) : evCall (cx ρ) (k + 1) lim 284 [x0] H = L284 ρ (evCall (cx ρ) k) (evCY (cx ρ) k).2 lim k x0 H := by
  rw [evCall_body (cx ρ) k lim 284 _ H Tryz.f284 c284 [2, 3] (by kernel_rfl) (by kernel_rfl) (by kernel_rfl) (by kernel_rfl) (by kernel_rfl)]
  exact G284 ρ (evCall (cx ρ) k) (evCY (cx ρ) k).2 lim k x0 H
-- (*haycroft/cell.Row).may
noncomputable def c286 : Code := Code.of Tryz.prog 286
noncomputable def L286 (ρ : Addr → Option Value) (call : CallF) (yc : YieldF) (lim k : Nat) (x0 x1 : AV) (H : Heap) : Res :=
  purK (binA Tryz.prog H .eql 160 x0 .nilp) fun x7 =>
  condK x7
  (
    retK [(.int .i64 2)] H)
  (
    resK (call lim 149 [x0, x1] H) fun x11 H =>
    purK (unA .not x11) fun x12 =>
    condK x12
    (
      retK [(.int .i64 1)] H)
    (
      retK [(.int .i64 0)] H))
theorem G286 (ρ : Addr → Option Value) (call : CallF) (yc : YieldF) (lim k : Nat) (x0 x1 : AV) (H : Heap) :
    evL (cx ρ) call yc false 286 lim k c286 [x0, x1, (.tup []), (.tup []), (.tup []), (.tup []), (.tup []), (.tup []), (.tup []), (.tup []), (.tup []), (.tup []), (.tup [])] H (kk none (fun s H => retK (([4] : List Nat).map fun t => s.getD t (.tup [])) H) [] retK [4]) = L286 ρ call yc lim k x0 x1 H := by
  kernel_rfl
theorem E286 (ρ : Addr → Option Value) (k lim : Nat) (x0 x1 : AV) (H : Heap) : evCall (cx ρ) (k + 1) lim 286 [x0, x1] H = L286 ρ (evCall (cx ρ) k) (evCY (cx ρ) k).2 lim k x0 x1 H := by
  rw [evCall_body (cx ρ) k lim 286 _ H Tryz.f286 c286 [4] (by kernel_rfl) (by kernel_rfl) (by kernel_rfl) (by kernel_rfl) (by kernel_rfl)]
  exact G286 ρ (evCall (cx ρ) k) (evCY (cx ρ) k).2 lim k x0 x1 H
-- (*sync/atomic.Uint64).Store
noncomputable def c287 : Code := Code.of Tryz.prog 287
noncomputable def L287 (ρ : Addr → Option Value) (call : CallF) (yc : YieldF) (lim k : Nat) (x0 x1 : AV) (H : Heap) : Res :=
  purK (nilChkA x0) fun x5 =>
  purK (fieldAddrA Tryz.prog 227 x5 2) fun x6 =>
  resK (call lim 317 [x6, x1] H) fun x8 H =>
  retK [] H
theorem G287 (ρ : Addr → Option Value) (call : CallF) (yc : YieldF) (lim k : Nat) (x0 x1 : AV) (H : Heap) :
    evL (cx ρ) call yc false 287 lim k c287 [x0, x1, (.tup []), (.tup []), (.tup []), (.tup []), (.tup []), (.tup []), (.tup [])] H (kk none (fun s H => retK (([] : List Nat).map fun t => s.getD t (.tup [])) H) [] retK []) = L287 ρ call yc lim k x0 x1 H := by
  kernel_rfl
theorem E287 (ρ : Addr → Option Value) (k lim : Nat) (x0 x1 : AV) (H : Heap) : evCall (cx ρ) (k + 1) lim 287 [x0, x1] H = L287 ρ (evCall (cx ρ) k) (evCY (cx ρ) k).2 lim k x0 x1 H := by
  rw [evCall_body (cx ρ) k lim 287 _ H Tryz.f287 c287 [] (by kernel_rfl) (by kernel_rfl) (by kernel_rfl) (by kernel_rfl) (by kernel_rfl)]
  exact G287 ρ (evCall (cx ρ) k) (evCY (cx ρ) k).2 lim k x0 x1 H
-- (*haycroft/task.Task).record
noncomputable def c288 : Code := Code.of Tryz.prog 288
noncomputable def N288_1 (ρ : Addr → Option Value) (call : CallF) (yc : YieldF) (lim k : Nat) (x2 x3 : AV) (H : Heap) (R : List AV → Heap → Res) : Res :=
  purK (loadA (cx ρ) H 27 x3) fun x43_1 =>
  effK H ((storeA (cx ρ) lim H 27 x2 x43_1).map skips) fun _ H =>
  R [x2] H
theorem N288_1_eq (ρ : Addr → Option Value) (call : CallF) (yc : YieldF) (lim k : Nat) (x2 x3 : AV) (H : Heap) (R : List AV → Heap → Res) :
    evL (cx ρ) call yc false 288 lim k (Code.at [1, 1, 1] c288) (sp 44 [(2, x2), (3, x3)]) H (kk none (fun s H => R (([2] : List Nat).map fun t => s.getD t (.tup [])) H) [] R [2]) = N288_1 ρ call yc lim k x2 x3 H R := by
  kernel_rfl
noncomputable def L288 (ρ : Addr → Option Value) (call : CallF) (yc : YieldF) (lim k : Nat) (x0 : AV) (H : Heap) : Res :=
  effK H (allocA (cx ρ) H 27) fun x2 H =>
  purK (nilChkA x0) fun x5 =>
  purK (fieldAddrA Tryz.prog 258 x5 11) fun x6 =>
  purK (loadA (cx ρ) H 22 x6) fun x7 =>
  purK (buildA Tryz.prog 25 [(0, x7)]) fun x8 =>
  purK (nilChkA x0) fun x10 =>
  purK (fieldAddrA Tryz.prog 258 x10 3) fun x11 =>
  purK (fieldAddrA Tryz.prog 59 x11 1) fun x12 =>
  purK (loadA (cx ρ) H 9 x12) fun x13 =>
  purK (buildA Tryz.prog 27 [(0, x8), (1, x13)]) fun x14 =>
  mkK H (allocA (cx ρ) H 27) true fun x3 H => bif (agn (loadA (cx ρ) H 9 x12) x13 && (agn (loadA (cx ρ) H 22 x6) x7 && true)) then
    effK H ((storeA (cx ρ) lim H 27 x3 x14).map skips) fun _ H =>
    purK (nilChkA x0) fun x16 =>
    purK (fieldAddrA Tryz.prog 258 x16 3) fun x17 =>
    purK (fieldAddrA Tryz.prog 59 x17 0) fun x18 =>
    purK (loadA (cx ρ) H 3 x18) fun x19 =>
    purK (binA Tryz.prog H .eql 3 x19 (.int .i64 2)) fun x23 =>
    condK x23
    (
      purK (nilChkA x0) fun x25 =>
      purK (fieldAddrA Tryz.prog 258 x25 3) fun x26 =>
      purK (fieldAddrA Tryz.prog 59 x26 2) fun x27 =>
      purK (loadA (cx ρ) H 9 x27) fun x28 =>
      purK (fieldAddrA Tryz.prog 27 x3 2) fun x29 =>
      effK H ((storeA (cx ρ) lim H 9 x29 x28).map skips) fun _ H =>
      N288_1 ρ call yc lim k x2 x3 H (retC (cx ρ) [some 27]))
    (
      purK (binA Tryz.prog H .eql 3 x19 (.int .i64 3)) fun x31 =>
      condK x31
      (
        purK (nilChkA x0) fun x33 =>
        purK (fieldAddrA Tryz.prog 258 x33 13) fun x34 =>
        purK (loadA (cx ρ) H 9 x34) fun x35 =>
        purK (nilChkA x0) fun x37 =>
        purK (fieldAddrA Tryz.prog 258 x37 3) fun x38 =>
        purK (fieldAddrA Tryz.prog 59 x38 3) fun x39 =>
        purK (loadA (cx ρ) H 22 x39) fun x40 =>
        resK (call lim 318 [x35, x40] H) fun x41 H =>
        purK (fieldAddrA Tryz.prog 27 x3 2) fun x42 =>
        effK H ((storeA (cx ρ) lim H 9 x42 x41).map skips) fun _ H =>
        N288_1 ρ call yc lim k x2 x3 H (retC (cx ρ) [some 27]))
      (
        purK (fieldAddrA Tryz.prog 27 x3 0) fun x20 =>
        purK (fieldAddrA Tryz.prog 25 x20 1) fun x21 =>
        effK H ((storeA (cx ρ) lim H 4 x21 (.bool true)).map skips) fun _ H =>
        N288_1 ρ call yc lim k x2 x3 H (retC (cx ρ) [some 27])))
  else none
theorem L288_x (ρ : Addr → Option Value) (call : CallF) (yc : YieldF) (lim k : Nat) (J : CodeF) (x0 : AV) (H : Heap) :
    evX (cx ρ) call yc false 288 lim k J c288 [x0, (.tup []), (.tup []), (.tup []), (.tup []), (.tup []), (.tup []), (.tup []), (.tup []), (.tup []), (.tup []), (.tup []), (.tup []), (.tup []), (.tup []), (.tup []), (.tup []), (.tup []), (.tup []), (.tup []), (.tup []), (.tup []), (.tup []), (.tup []), (.tup []), (.tup []), (.tup []), (.tup []), (.tup []), (.tup []), (.tup []), (.tup []), (.tup []), (.tup []), (.tup []), (.tup []), (.tup []), (.tup []), (.tup []), (.tup []), (.tup []), (.tup []), (.tup []), (.tup [])] H (kk none (fun s H => (retC (cx ρ) [some 27]) (([2] : List Nat).map fun t => s.getD t (.tup [])) H) [] (retC (cx ρ) [some 27]) [2]) =
  effK H (allocA (cx ρ) H 27) fun x2 H =>
  purK (nilChkA x0) fun x5 =>
  purK (fieldAddrA Tryz.prog 258 x5 11) fun x6 =>
  purK (loadA (cx ρ) H 22 x6) fun x7 =>
  purK (buildA Tryz.prog 25 [(0, x7)]) fun x8 =>
  purK (nilChkA x0) fun x10 =>
  purK (fieldAddrA Tryz.prog 258 x10 3) fun x11 =>
  purK (fieldAddrA Tryz.prog 59 x11 1) fun x12 =>
  purK (loadA (cx ρ) H 9 x12) fun x13 =>
  purK (buildA Tryz.prog 27 [(0, x8), (1, x13)]) fun x14 =>
  mkK H (allocA (cx ρ) H 27) true fun x3 H => bif (agn (loadA (cx ρ) H 9 x12) x13 && (agn (loadA (cx ρ) H 22 x6) x7 && true)) then
    effK H ((storeA (cx ρ) lim H 27 x3 x14).map skips) fun _ H =>
    purK (nilChkA x0) fun x16 =>
    purK (fieldAddrA Tryz.prog 258 x16 3) fun x17 =>
    purK (fieldAddrA Tryz.prog 59 x17 0) fun x18 =>
    purK (loadA (cx ρ) H 3 x18) fun x19 =>
    purK (binA Tryz.prog H .eql 3 x19 (.int .i64 2)) fun x23 =>
    condK x23
    (
      purK (nilChkA x0) fun x25 =>
      purK (fieldAddrA Tryz.prog 258 x25 3) fun x26 =>
      purK (fieldAddrA Tryz.prog 59 x26 2) fun x27 =>
      purK (loadA (cx ρ) H 9 x27) fun x28 =>
      purK (fieldAddrA Tryz.prog 27 x3 2) fun x29 =>
      effK H ((storeA (cx ρ) lim H 9 x29 x28).map skips) fun _ H =>
      J (Code.at [1, 1, 1] c288) (sp 44 [(2, x2), (3, x3)]) H (kk none (fun s H => (retC (cx ρ) [some 27]) (([2] : List Nat).map fun t => s.getD t (.tup [])) H) [] (retC (cx ρ) [some 27]) [2]))
    (
      purK (binA Tryz.prog H .eql 3 x19 (.int .i64 3)) fun x31 =>
      condK x31
      (
        purK (nilChkA x0) fun x33 =>
        purK (fieldAddrA Tryz.prog 258 x33 13) fun x34 =>
        purK (loadA (cx ρ) H 9 x34) fun x35 =>
        purK (nilChkA x0) fun x37 =>
        purK (fieldAddrA Tryz.prog 258 x37 3) fun x38 =>
        purK (fieldAddrA Tryz.prog 59 x38 3) fun x39 =>
        purK (loadA (cx ρ) H 22 x39) fun x40 =>
        resK (call lim 318 [x35, x40] H) fun x41 H =>
        purK (fieldAddrA Tryz.prog 27 x3 2) fun x42 =>
        effK H ((storeA (cx ρ) lim H 9 x42 x41).map skips) fun _ H =>
        J (Code.at [1, 1, 1] c288) (sp 44 [(2, x2), (3, x3)]) H (kk none (fun s H => (retC (cx ρ) [some 27]) (([2] : List Nat).map fun t => s.getD t (.tup [])) H) [] (retC (cx ρ) [some 27]) [2]))
      (
        purK (fieldAddrA Tryz.prog 27 x3 0) fun x20 =>
        purK (fieldAddrA Tryz.prog 25 x20 1) fun x21 =>
        effK H ((storeA (cx ρ) lim H 4 x21 (.bool true)).map skips) fun _ H =>
        J (Code.at [1, 1, 1] c288) (sp 44 [(2, x2), (3, x3)]) H (kk none (fun s H => (retC (cx ρ) [some 27]) (([2] : List Nat).map fun t => s.getD t (.tup [])) H) [] (retC (cx ρ) [some 27]) [2])))
  else none := by
  kernel_rfl
theorem G288 (ρ : Addr → Option Value) (call : CallF) (yc : YieldF) (lim k : Nat) (x0 : AV) (H : Heap) :
    evL (cx ρ) call yc false 288 lim k c288 [x0, (.tup []), (.tup []), (.tup []), (.tup []), (.tup []), (.tup []), (.tup []), (.tup []), (.tup []), (.tup []), (.tup []), (.tup []), (.tup []), (.tup []), (.tup []), (.tup []), (.tup []), (.tup []), (.tup []), (.tup []), (.tup []), (.tup []), (.tup []), (.tup []), (.tup []), (.tup []), (.tup []), (.tup []), (.tup []), (.tup []), (.tup []), (.tup []), (.tup []), (.tup []), (.tup []), (.tup []), (.tup []), (.tup []), (.tup []), (.tup []), (.tup []), (.tup []), (.tup [])] H (kk none (fun s H => (retC (cx ρ) [some 27]) (([2] : List Nat).map fun t => s.getD t (.tup [])) H) [] (retC (cx ρ) [some 27]) [2]) = L288 ρ call yc lim k x0 H := by
  rw [evL_X, L288_x]
  simp only [← evL_X, L288, N288_1_eq]
theorem E288 (ρ : Addr → Option Value) (k lim : Nat) (x0 : AV) (H : Heap) : evCall (cx ρ) (k + 1) lim 288 [x0] H = L288 ρ (evCall (cx ρ) k) (evCY (cx ρ) k).2 lim k x0 H := by
  rw [evCall_cells (cx ρ) k lim 288 _ H Tryz.f288 c288 [2] [some 27] (by kernel_rfl) (by kernel_rfl) (by kernel_rfl) (by kernel_rfl) (by kernel_rfl) (by kernel_rfl)]
  exact G288 ρ (evCall (cx ρ) k) (evCY (cx ρ) k).2 lim k x0 H
-- (*haycroft/hlog.Log).Take
noncomputable def c289 : Code := Code.of Tryz.prog 289
noncomputable def L289 (ρ : Addr → Option Value) (call : CallF) (yc : YieldF) (lim k : Nat) (x0 x1 : AV) (H : Heap) : Res :=
  purK (binA Tryz.prog H .eql 84 x0 .nilp) fun x8 =>
  condK x8
  (
    retK [(.int .u64 0), (.int .i64 0), (.int .i64 2)] H)
  (
    purK (nilChkA x0) fun x10 =>
    purK (fieldAddrA Tryz.prog 153 x10 0) fun x11 =>
    purK (loadA (cx ρ) H 147 x11) fun x12 =>
    resK (call lim 319 [x12, x1] H) fun x14 H =>
    purK (extA 0 x14) fun x15 =>
    purK (extA 1 x14) fun x16 =>
    purK (extA 2 x14) fun x17 =>
    retK [x15, x16, x17] H)
theorem G289 (ρ : Addr → Option Value) (call : CallF) (yc : YieldF) (lim k : Nat) (x0 x1 : AV) (H : Heap) :
    evL (cx ρ) call yc false 289 lim k c289 [x0, x1, (.tup []), (.tup []), (.tup []), (.tup []), (.tup []), (.tup []), (.tup []), (.tup []), (.tup []), (.tup []), (.tup []), (.tup []), (.tup []), (.tup []), (.tup []), (.tup [])] H (kk none (fun s H => retK (([4, 5, 6] : List Nat).map fun t => s.getD t (.tup [])) H) [] retK [4, 5, 6]) = L289 ρ call yc lim k x0 x1 H := by
  kernel_rfl
theorem E289 (ρ : Addr → Option Value) (k lim : Nat) (x0 x1 : AV) (H : Heap) : evCall (cx ρ) (k + 1) lim 289 [x0, x1] H = L289 ρ (evCall (cx ρ) k) (evCY (cx ρ) k).2 lim k x0 x1 H := by
  rw [evCall_body (cx ρ) k lim 289 _ H Tryz.f289 c289 [4, 5, 6] (by kernel_rfl) (by kernel_rfl) (by kernel_rfl) (by kernel_rfl) (by kernel_rfl)]
  exact G289 ρ (evCall (cx ρ) k) (evCY (cx ρ) k).2 lim k x0 x1 H
-- (*haycroft/task.Task).fill
noncomputable def c290 : Code := Code.of Tryz.prog 290
noncomputable def L290 (ρ : Addr → Option Value) (call : CallF) (yc : YieldF) (lim k : Nat) (x0 : AV) (H : Heap) : Res :=
  resK (call lim 288 [x0] H) fun x9 H =>
  resK (call lim 320 [x9] H) fun x10 H =>
  purK (extA 0 x10) fun x11 =>
  purK (extA 1 x10) fun x12 =>
  purK (binA Tryz.prog H .neq 28 x12 (.int .i64 0)) fun x14 =>
  condK x14
  (
    resK (call lim 169 [x12] H) fun x16 H =>
    purK (extA 0 x16) fun x17 =>
    purK (extA 1 x16) fun x18 =>
    retK [x17, x18] H)
  (
    purK (nilChkA x0) fun x20 =>
    purK (fieldAddrA Tryz.prog 258 x20 0) fun x21 =>
    purK (loadA (cx ρ) H 84 x21) fun x22 =>
    purK (nilChkA x0) fun x25 =>
    purK (fieldAddrA Tryz.prog 258 x25 12) fun x26 =>
    purK (loadA (cx ρ) H 22 x26) fun x27 =>
    resK (call lim 53 [x22] H) fun x23 H => bif (agn (loadA (cx ρ) H 22 x26) x27 && true) then
      resK (call lim 321 [x23, x27, x11] H) fun x29 H =>
      purK (binA Tryz.prog H .neq 28 x29 (.int .i64 0)) fun x31 =>
      condK x31
      (
        resK (call lim 169 [x29] H) fun x33 H =>
        purK (extA 0 x33) fun x34 =>
        purK (extA 1 x33) fun x35 =>
        retK [x34, x35] H)
      (
        resK (call lim 241 [x0, (.fn (.func 322) [] [])] H) fun x37 H =>
        purK (extA 0 x37) fun x38 =>
        purK (extA 1 x37) fun x39 =>
        retK [x38, x39] H)
    else none)
theorem G290 (ρ : Addr → Option Value) (call : CallF) (yc : YieldF) (lim k : Nat) (x0 : AV) (H : Heap) :
    evL (cx ρ) call yc false 290 lim k c290 [x0, (.tup []), (.tup []), (.tup []), (.tup []), (.tup []), (.tup []), (.tup []), (.tup []), (.tup []), (.tup []), (.tup []), (.tup []), (.tup []), (.tup []), (.tup []), (.tup []), (.tup []), (.tup []), (.tup []), (.tup []), (.tup []), (.tup []), (.tup []), (.tup []), (.tup []), (.tup []), (.tup []), (.tup []), (.tup []), (.tup []), (.tup []), (.tup []), (.tup []), (.tup []), (.tup []), (.tup []), (.tup []), (.tup []), (.tup [])] H (kk none (fun s H => retK (([2, 3] : List Nat).map fun t => s.getD t (.tup [])) H) [] retK [2, 3]) = L290 ρ call yc lim k x0 H := by
  kernel_rfl
theorem E290 (ρ : Addr → Option Value) (k lim : Nat) (x0 : AV) (H : Heap) : evCall (cx ρ) (k + 1) lim 290 [x0] H = L290 ρ (evCall (cx ρ) k) (evCY (cx ρ) k).2 lim k x0 H := by
  rw [evCall_body (cx ρ) k lim 290 _ H Tryz.f290 c290 [2, 3] (by kernel_rfl) (by kernel_rfl) (by kernel_rfl) (by kernel_rfl) (by kernel_rfl)]
  exact G290 ρ (evCall (cx ρ) k) (evCY (cx ρ) k).2 lim k x0 H
-- (*sync/atomic.Uint64).Add
noncomputable def c295 : Code := Code.of Tryz.prog 295
noncomputable def L295 (ρ : Addr → Option Value) (call : CallF) (yc : YieldF) (lim k : Nat) (x0 x1 : AV) (H : Heap) : Res :=
  purK (nilChkA x0) fun x6 =>
  purK (fieldAddrA Tryz.prog 227 x6 2) fun x7 =>
  resK (call lim 334 [x7, x1] H) fun x9 H =>
  retK [x9] H
theorem G295 (ρ : Addr → Option Value) (call : CallF) (yc : YieldF) (lim k : Nat) (x0 x1 : AV) (H : Heap) :
    evL (cx ρ) call yc false 295 lim k c295 [x0, x1, (.tup []), (.tup []), (.tup []), (.tup []), (.tup []), (.tup []), (.tup []), (.tup [])] H (kk none (fun s H => retK (([4] : List Nat).map fun t => s.getD t (.tup [])) H) [] retK [4]) = L295 ρ call yc lim k x0 x1 H := by
  kernel_rfl
theorem E295 (ρ : Addr → Option Value) (k lim : Nat) (x0 x1 : AV) (H : Heap) : evCall (cx ρ) (k + 1) lim 295 [x0, x1] H = L295 ρ (evCall (cx ρ) k) (evCY (cx ρ) k).2 lim k x0 x1 H := by
  rw [evCall_body (cx ρ) k lim 295 _ H Tryz.f295 c295 [4] (by kernel_rfl) (by kernel_rfl) (by kernel_rfl) (by kernel_rfl) (by kernel_rfl)]
  exact G295 ρ (evCall (cx ρ) k) (evCY (cx ρ) k).2 lim k x0 x1 H
-- haycroft/place.First
noncomputable def c306 : Code := Code.of Tryz.prog 306
noncomputable def L306 (ρ : Addr → Option Value) (call : CallF) (yc : YieldF) (lim k : Nat) (x0 x1 : AV) (H : Heap) : Res :=
  resK (call lim 342 [x0, x1, (.int .i64 0)] H) fun x10 H =>
  purK (extA 0 x10) fun x11 =>
  purK (extA 1 x10) fun x12 =>
  retK [x11] H
theorem G306 (ρ : Addr → Option Value) (call : CallF) (yc : YieldF) (lim k : Nat) (x0 x1 : AV) (H : Heap) :
    evL (cx ρ) call yc false 306 lim k c306 [x0, x1, (.tup []), (.tup []), (.tup []), (.tup []), (.tup []), (.tup []), (.tup []), (.tup []), (.tup []), (.tup []), (.tup []), (.tup [])] H (kk none (fun s H => retK (([4] : List Nat).map fun t => s.getD t (.tup [])) H) [] retK [4]) = L306 ρ call yc lim k x0 x1 H := by
  kernel_rfl
theorem E306 (ρ : Addr → Option Value) (k lim : Nat) (x0 x1 : AV) (H : Heap) : evCall (cx ρ) (k + 1) lim 306 [x0, x1] H = L306 ρ (evCall (cx ρ) k) (evCY (cx ρ) k).2 lim k x0 x1 H := by
  rw [evCall_body (cx ρ) k lim 306 _ H Tryz.f306 c306 [4] (by kernel_rfl) (by kernel_rfl) (by kernel_rfl) (by kernel_rfl) (by kernel_rfl)]
  exact G306 ρ (evCall (cx ρ) k) (evCY (cx ρ) k).2 lim k x0 x1 H
-- haycroft/tail.pack
noncomputable def c307 : Code := Code.of Tryz.prog 307
noncomputable def L307 (ρ : Addr → Option Value) (call : CallF) (yc : YieldF) (lim k : Nat) (x0 x1 : AV) (H : Heap) : Res :=
  purK (convXA (cx ρ) H 3 22 x0) fun x6 =>
  purK (binA Tryz.prog H .shl 22 x6 (.int .u64 32)) fun x7 =>
  purK (convXA (cx ρ) H 3 22 x1) fun x9 =>
  purK (binA Tryz.prog H .or 22 x7 x9) fun x10 =>
  retK [x10] H
theorem G307 (ρ : Addr → Option Value) (call : CallF) (yc : YieldF) (lim k : Nat) (x0 x1 : AV) (H : Heap) :
    evL (cx ρ) call yc false 307 lim k c307 [x0, x1, (.tup []), (.tup []), (.tup []), (.tup []), (.tup []), (.tup []), (.tup []), (.tup []), (.tup [])] H (kk none (fun s H => retK (([4] : List Nat).map fun t => s.getD t (.tup [])) H) [] retK [4]) = L307 ρ call yc lim k x0 x1 H := by
  kernel_rfl
theorem E307 (ρ : Addr → Option Value) (k lim : Nat) (x0 x1 : AV) (H : Heap) : evCall (cx ρ) (k + 1) lim 307 [x0, x1] H = L307 ρ (evCall (cx ρ) k) (evCY (cx ρ) k).2 lim k x0 x1 H := by
  rw [evCall_body (cx ρ) k lim 307 _ H Tryz.f307 c307 [4] (by kernel_rfl) (by kernel_rfl) (by kernel_rfl) (by kernel_rfl) (by kernel_rfl)]
  exact G307 ρ (evCall (cx ρ) k) (evCY (cx ρ) k).2 lim k x0 x1 H
-- haycroft/tail.first
noncomputable def c308 : Code := Code.of Tryz.prog 308
noncomputable def L308 (ρ : Addr → Option Value) (call : CallF) (yc : YieldF) (lim k : Nat) (x0 : AV) (H : Heap) : Res :=
  purK (binA Tryz.prog H .eql 3 x0 (.int .i64 0)) fun x4 =>
  condK x4
  (
    retK [(.int .i64 1)] H)
  (
    retK [(.int .i64 0)] H)
theorem G308 (ρ : Addr → Option Value) (call : CallF) (yc : YieldF) (lim k : Nat) (x0 : AV) (H : Heap) :
    evL (cx ρ) call yc false 308 lim k c308 [x0, (.tup []), (.tup []), (.tup []), (.tup [])] H (kk none (fun s H => retK (([2] : List Nat).map fun t => s.getD t (.tup [])) H) [] retK [2]) = L308 ρ call yc lim k x0 H := by
  kernel_rfl
theorem E308 (ρ : Addr → Option Value) (k lim : Nat) (x0 : AV) (H : Heap) : evCall (cx ρ) (k + 1) lim 308 [x0] H = L308 ρ (evCall (cx ρ) k) (evCY (cx ρ) k).2 lim k x0 H := by
  rw [evCall_body (cx ρ) k lim 308 _ H Tryz.f308 c308 [2] (by kernel_rfl) (by kernel_rfl) (by kernel_rfl) (by kernel_rfl) (by kernel_rfl)]
  exact G308 ρ (evCall (cx ρ) k) (evCY (cx ρ) k).2 lim k x0 H
-- (*sync/atomic.Uint64).CompareAndSwap
noncomputable def c310 : Code := Code.of Tryz.prog 310
noncomputable def L310 (ρ : Addr → Option Value) (call : CallF) (yc : YieldF) (lim k : Nat) (x0 x1 x2 : AV) (H : Heap) : Res :=
  purK (nilChkA x0) fun x8 =>
  purK (fieldAddrA Tryz.prog 227 x8 2) fun x9 =>
  resK (call lim 343 [x9, x1, x2] H) fun x12 H =>
  retK [x12] H
theorem G310 (ρ : Addr → Option Value) (call : CallF) (yc : YieldF) (lim k : Nat) (x0 x1 x2 : AV) (H : Heap) :
    evL (cx ρ) call yc false 310 lim k c310 [x0, x1, x2, (.tup []), (.tup []), (.tup []), (.tup []), (.tup []), (.tup []), (.tup []), (.tup []), (.tup []), (.tup [])] H (kk none (fun s H => retK (([6] : List Nat).map fun t => s.getD t (.tup [])) H) [] retK [6]) = L310 ρ call yc lim k x0 x1 x2 H := by
  kernel_rfl
theorem E310 (ρ : Addr → Option Value) (k lim : Nat) (x0 x1 x2 : AV) (H : Heap) : evCall (cx ρ) (k + 1) lim 310 [x0, x1, x2] H = L310 ρ (evCall (cx ρ) k) (evCY (cx ρ) k).2 lim k x0 x1 x2 H := by
  rw [evCall_body (cx ρ) k lim 310 _ H Tryz.f310 c310 [6] (by kernel_rfl) (by kernel_rfl) (by kernel_rfl) (by kernel_rfl) (by kernel_rfl)]
  exact G310 ρ (evCall (cx ρ) k) (evCY (cx ρ) k).2 lim k x0 x1 x2 H
-- (*sync/atomic.Int64).Add
noncomputable def c311 : Code := Code.of Tryz.prog 311
noncomputable def L311 (ρ : Addr → Option Value) (call : CallF) (yc : YieldF) (lim k : Nat) (x0 x1 : AV) (H : Heap) : Res :=
  purK (nilChkA x0) fun x6 =>
  purK (fieldAddrA Tryz.prog 230 x6 2) fun x7 =>
  resK (call lim 344 [x7, x1] H) fun x9 H =>
  retK [x9] H
theorem G311 (ρ : Addr → Option Value) (call : CallF) (yc : YieldF) (lim k : Nat) (x0 x1 : AV) (H : Heap) :
    evL (cx ρ) call yc false 311 lim k c311 [x0, x1, (.tup []), (.tup []), (.tup []), (.tup []), (.tup []), (.tup []), (.tup []), (.tup [])] H (kk none (fun s H => retK (([4] : List Nat).map fun t => s.getD t (.tup [])) H) [] retK [4]) = L311 ρ call yc lim k x0 x1 H := by
  kernel_rfl
theorem E311 (ρ : Addr → Option Value) (k lim : Nat) (x0 x1 : AV) (H : Heap) : evCall (cx ρ) (k + 1) lim 311 [x0, x1] H = L311 ρ (evCall (cx ρ) k) (evCY (cx ρ) k).2 lim k x0 x1 H := by
  rw [evCall_body (cx ρ) k lim 311 _ H Tryz.f311 c311 [4] (by kernel_rfl) (by kernel_rfl) (by kernel_rfl) (by kernel_rfl) (by kernel_rfl)]
  exact G311 ρ (evCall (cx ρ) k) (evCY (cx ρ) k).2 lim k x0 x1 H
-- (*haycroft/task.Task).claim
noncomputable def c312 : Code := Code.of Tryz.prog 312
noncomputable def L312 (ρ : Addr → Option Value) (call : CallF) (yc : YieldF) (lim k : Nat) (x0 : AV) (H : Heap) : Res :=
  purK (nilChkA x0) fun x8 =>
  purK (fieldAddrA Tryz.prog 258 x8 1) fun x9 =>
  purK (loadA (cx ρ) H 95 x9) fun x10 =>
  purK (nilChkA x0) fun x12 =>
  purK (fieldAddrA Tryz.prog 258 x12 6) fun x13 =>
  purK (loadA (cx ρ) H 3 x13) fun x14 =>
  purK (nilChkA x0) fun x16 =>
  purK (fieldAddrA Tryz.prog 258 x16 4) fun x17 =>
  purK (loadA (cx ρ) H 22 x17) fun x18 =>
  resK (call lim 345 [x10, x14, x18] H) fun x19 H =>
  purK (extA 0 x19) fun x20 =>
  purK (extA 1 x19) fun x21 =>
  purK (binA Tryz.prog H .neq 28 x21 (.int .i64 0)) fun x23 =>
  condK x23
  (
    resK (call lim 169 [x21] H) fun x25 H =>
    purK (extA 0 x25) fun x26 =>
    purK (extA 1 x25) fun x27 =>
    retK [x26, x27] H)
  (
    resK (call lim 241 [x0, (.fn (.func 233) [] [])] H) fun x29 H =>
    purK (extA 0 x29) fun x30 =>
    purK (extA 1 x29) fun x31 =>
    retK [x30, x31] H)
theorem G312 (ρ : Addr → Option Value) (call : CallF) (yc : YieldF) (lim k : Nat) (x0 : AV) (H : Heap) :
    evL (cx ρ) call yc false 312 lim k c312 [x0, (.tup []), (.tup []), (.tup []), (.tup []), (.tup []), (.tup []), (.tup []), (.tup []), (.tup []), (.tup []), (.tup []), (.tup []), (.tup []), (.tup []), (.tup []), (.tup []), (.tup []), (.tup []), (.tup []), (.tup []), (.tup []), (.tup []), (.tup []), (.tup []), (.tup []), (.tup []), (.tup []), (.tup []), (.tup []), (.tup []), (.tup [])] H (kk none (fun s H => retK (([2, 3] : List Nat).map fun t => s.getD t (.tup [])) H) [] retK [2, 3]) = L312 ρ call yc lim k x0 H := by
  kernel_rfl
theorem E312 (ρ : Addr → Option Value) (k lim : Nat) (x0 : AV) (H : Heap) : evCall (cx ρ) (k + 1) lim 312 [x0] H = L312 ρ (evCall (cx ρ) k) (evCY (cx ρ) k).2 lim k x0 H := by
  rw [evCall_body (cx ρ) k lim 312 _ H Tryz.f312 c312 [2, 3] (by kernel_rfl) (by kernel_rfl) (by kernel_rfl) (by kernel_rfl) (by kernel_rfl)]
  exact G312 ρ (evCall (cx ρ) k) (evCY (cx ρ) k).2 lim k x0 H
-- (*haycroft/tail.Tail).Take
noncomputable def c319 : Code := Code.of Tryz.prog 319
noncomputable def L319 (ρ : Addr → Option Value) (call : CallF) (yc : YieldF) (lim k : Nat) (x0 x1 : AV) (H : Heap) : Res :=
  purK (binA Tryz.prog H .eql 147 x0 .nilp) fun x12 =>
  condK x12
  (
    retK [(.int .u64 0), (.int .i64 0), (.int .i64 2)] H)
  (
    purK (binA Tryz.prog H .lss 3 x1 (.int .i64 1)) fun x15 =>
    condK x15
    (
      retK [(.int .u64 0), (.int .i64 0), (.int .i64 1)] H)
    (
      resK (call lim 335 [x0] H) fun x19 H =>
      purK (binA Tryz.prog H .gtr 3 x1 x19) fun x20 =>
      condK x20
      (
        retK [(.int .u64 0), (.int .i64 0), (.int .i64 5)] H)
      (
        resK (call lim 356 [x0] H) fun x23 H =>
        condK x23
        (
          resK (call lim 357 [x0, (.int .i64 3)] H) fun x25 H =>
          retK [(.int .u64 0), x25, (.int .i64 0)] H)
        (
          purK (nilChkA x0) fun x28 =>
          purK (fieldAddrA Tryz.prog 307 x28 2) fun x29 =>
          purK (loadA (cx ρ) H 160 x29) fun x30 =>
          purK (convXA (cx ρ) H 3 22 x1) fun x32 =>
          resK (call lim 246 [x30, (.int .i64 0), x32] H) fun x33 H =>
          purK (extA 0 x33) fun x34 =>
          purK (extA 1 x33) fun x35 =>
          purK (binA Tryz.prog H .neq 28 x35 (.int .i64 0)) fun x37 =>
          condK x37
          (
            retK [(.int .u64 0), (.int .i64 0), x35] H)
          (
            resK (call lim 131 [(.int .i64 32)] H) fun x40 H =>
            purK (binA Tryz.prog H .and 22 x34 x40) fun x41 =>
            purK (convXA (cx ρ) H 22 3 x41) fun x42 =>
            purK (binA Tryz.prog H .add 3 x42 x1) fun x45 =>
            resK (call lim 335 [x0] H) fun x47 H =>
            purK (binA Tryz.prog H .gtr 3 x45 x47) fun x48 =>
            condK x48
            (
              resK (call lim 357 [x0, (.int .i64 2)] H) fun x50 H =>
              retK [(.int .u64 0), x50, (.int .i64 0)] H)
            (
              purK (nilChkA x0) fun x52 =>
              purK (fieldAddrA Tryz.prog 307 x52 0) fun x53 =>
              purK (loadA (cx ρ) H 3 x53) fun x54 =>
              purK (binA Tryz.prog H .shr 22 x34 (.int .u64 32)) fun x56 =>
              purK (convXA (cx ρ) H 22 3 x56) fun x57 =>
              resK (call lim 306 [x54, x57] H) fun x58 H =>
              purK (convXA (cx ρ) H 3 22 x42) fun x60 =>
              purK (binA Tryz.prog H .add 22 x58 x60) fun x61 =>
              retK [x61, (.int .i64 1), (.int .i64 0)] H))))))
theorem G319 (ρ : Addr → Option Value) (call : CallF) (yc : YieldF) (lim k : Nat) (x0 x1 : AV) (H : Heap) :
    evL (cx ρ) call yc false 319 lim k c319 [x0, x1, (.tup []), (.tup []), (.tup []), (.tup []), (.tup []), (.tup []), (.tup []), (.tup []), (.tup []), (.tup []), (.tup []), (.tup []), (.tup []), (.tup []), (.tup []), (.tup []), (.tup []), (.tup []), (.tup []), (.tup []), (.tup []), (.tup []), (.tup []), (.tup []), (.tup []), (.tup []), (.tup []), (.tup []), (.tup []), (.tup []), (.tup []), (.tup []), (.tup []), (.tup []), (.tup []), (.tup []), (.tup []), (.tup []), (.tup []), (.tup []), (.tup []), (.tup []), (.tup []), (.tup []), (.tup []), (.tup []), (.tup []), (.tup []), (.tup []), (.tup []), (.tup []), (.tup []), (.tup []), (.tup []), (.tup []), (.tup []), (.tup []), (.tup []), (.tup []), (.tup [])] H (kk none (fun s H => retK (([4, 5, 6] : List Nat).map fun t => s.getD t (.tup [])) H) [] retK [4, 5, 6]) = L319 ρ call yc lim k x0 x1 H := by
  kernel_rfl
theorem E319 (ρ : Addr → Option Value) (k lim : Nat) (x0 x1 : AV) (H : Heap) : evCall (cx ρ) (k + 1) lim 319 [x0, x1] H = L319 ρ (evCall (cx ρ) k) (evCY (cx ρ) k).2 lim k x0 x1 H := by
  rw [evCall_body (cx ρ) k lim 319 _ H Tryz.f319 c319 [4, 5, 6] (by kernel_rfl) (by kernel_rfl) (by kernel_rfl) (by kernel_rfl) (by kernel_rfl)]
  exact G319 ρ (evCall (cx ρ) k) (evCY (cx ρ) k).2 lim k x0 x1 H
-- haycroft/record.Words
noncomputable def c320 : Code := Code.of Tryz.prog 320
noncomputable def L320 (ρ : Addr → Option Value) (call : CallF) (yc : YieldF) (lim k : Nat) (x0 : AV) (H : Heap) : Res :=
  effK H (boxA H 27 x0) fun x1 H =>
  purK (loadA (cx ρ) H 27 x1) fun x10 =>
  resK (call lim 66 [x10] H) fun x11 H =>
  purK (binA Tryz.prog H .neq 28 x11 (.int .i64 0)) fun x13 =>
  condK x13
  (
    retK [.nils, x11] H)
  (
    purK (fieldAddrA Tryz.prog 27 x1 0) fun x16 =>
    purK (loadA (cx ρ) H 25 x16) fun x17 =>
    resK (call lim 132 [x17] H) fun x18 H =>
    purK (extA 0 x18) fun x19 =>
    purK (extA 1 x18) fun x20 =>
    purK (fieldAddrA Tryz.prog 27 x1 1) fun x22 =>
    purK (loadA (cx ρ) H 9 x22) fun x23 =>
    purK (lenBA (cx ρ) H 9 x23) fun x24 =>
    purK (fieldAddrA Tryz.prog 27 x1 2) fun x25 =>
    purK (loadA (cx ρ) H 9 x25) fun x26 =>
    purK (lenBA (cx ρ) H 9 x26) fun x27 =>
    resK (call lim 129 [x24, x27] H) fun x28 H =>
    purK (extA 0 x28) fun x29 =>
    purK (extA 1 x28) fun x30 =>
    effK H (buildSliceA (cx ρ) H 31 3 [(0, x19), (1, (.int .u64 0)), (2, x29)]) fun x33 H =>
    purK (fieldAddrA Tryz.prog 27 x1 1) fun x34 =>
    purK (loadA (cx ρ) H 9 x34) fun x35 =>
    resK (call lim 126 [x35] H) fun x36 H =>
    effK H (builtinA (cx ρ) lim H .append #[31, 31] [x33, x36]) fun x37 H =>
    purK (fieldAddrA Tryz.prog 27 x1 2) fun x39 =>
    purK (loadA (cx ρ) H 9 x39) fun x40 =>
    resK (call lim 126 [x40] H) fun x41 H =>
    effK H (builtinA (cx ρ) lim H .append #[31, 31] [x37, x41]) fun x42 H =>
    retK [x42, (.int .i64 0)] H)
theorem G320 (ρ : Addr → Option Value) (call : CallF) (yc : YieldF) (lim k : Nat) (x0 : AV) (H : Heap) :
    evL (cx ρ) call yc false 320 lim k c320 [x0, (.tup []), (.tup []), (.tup []), (.tup []), (.tup []), (.tup []), (.tup []), (.tup []), (.tup []), (.tup []), (.tup []), (.tup []), (.tup []), (.tup []), (.tup []), (.tup []), (.tup []), (.tup []), (.tup []), (.tup []), (.tup []), (.tup []), (.tup []), (.tup []), (.tup []), (.tup []), (.tup []), (.tup []), (.tup []), (.tup []), (.tup []), (.tup []), (.tup []), (.tup []), (.tup []), (.tup []), (.tup []), (.tup []), (.tup []), (.tup []), (.tup []), (.tup [])] H (kk none (fun s H => retK (([2, 3] : List Nat).map fun t => s.getD t (.tup [])) H) [] retK [2, 3]) = L320 ρ call yc lim k x0 H := by
  kernel_rfl
theorem E320 (ρ : Addr → Option Value) (k lim : Nat) (x0 : AV) (H : Heap) : evCall (cx ρ) (k + 1) lim 320 [x0] H = L320 ρ (evCall (cx ρ) k) (evCY (cx ρ) k).2 lim k x0 H := by
  rw [evCall_body (cx ρ) k lim 320 _ H Tryz.f320 c320 [2, 3] (by kernel_rfl) (by kernel_rfl) (by kernel_rfl) (by kernel_rfl) (by kernel_rfl)]
  exact G320 ρ (evCall (cx ρ) k) (evCY (cx ρ) k).2 lim k x0 H
-- (*haycroft/pages.Buffer).Fill
noncomputable def c321 : Code := Code.of Tryz.prog 321
noncomputable def L321 (ρ : Addr → Option Value) (call : CallF) (yc : YieldF) (lim k : Nat) (x0 x1 x2 : AV) (H : Heap) : Res :=
  purK (lenBA (cx ρ) H 31 x2) fun x13 =>
  resK (call lim 347 [x0, x1, x13] H) fun x14 H =>
  purK (extA 0 x14) fun x15 =>
  purK (extA 1 x14) fun x16 =>
  purK (binA Tryz.prog H .neq 28 x16 (.int .i64 0)) fun x18 =>
  condK x18
  (
    retK [x16] H)
  (
    purK (nilChkA x0) fun x21 =>
    purK (fieldAddrA Tryz.prog 199 x21 1) fun x22 =>
    purK (loadA (cx ρ) H 160 x22) fun x23 =>
    resK (call lim 281 [x23, x15, x2] H) fun x26 H =>
    retK [x26] H)
theorem G321 (ρ : Addr → Option Value) (call : CallF) (yc : YieldF) (lim k : Nat) (x0 x1 x2 : AV) (H : Heap) :
    evL (cx ρ) call yc false 321 lim k c321 [x0, x1, x2, (.tup []), (.tup []), (.tup []), (.tup []), (.tup []), (.tup []), (.tup []), (.tup []), (.tup []), (.tup []), (.tup []), (.tup []), (.tup []), (.tup []), (.tup []), (.tup []), (.tup []), (.tup []), (.tup []), (.tup []), (.tup []), (.tup []), (.tup []), (.tup [])] H (kk none (fun s H => retK (([6] : List Nat).map fun t => s.getD t (.tup [])) H) [] retK [6]) = L321 ρ call yc lim k x0 x1 x2 H := by
  kernel_rfl
theorem E321 (ρ : Addr → Option Value) (k lim : Nat) (x0 x1 x2 : AV) (H : Heap) : evCall (cx ρ) (k + 1) lim 321 [x0, x1, x2] H = L321 ρ (evCall (cx ρ) k) (evCY (cx ρ) k).2 lim k x0 x1 x2 H := by
  rw [evCall_body (cx ρ) k lim 321 _ H Tryz.f321 c321 [6] (by kernel_rfl) (by kernel_rfl) (by kernel_rfl) (by kernel_rfl) (by kernel_rfl)]
  exact G321 ρ (evCall (cx ρ) k) (evCY (cx ρ) k).2 lim k x0 x1 x2 H
-- (*haycroft/task.Task).publish
noncomputable def c322 : Code := Code.of Tryz.prog 322
noncomputable def L322 (ρ : Addr → Option Value) (call : CallF) (yc : YieldF) (lim k : Nat) (x0 : AV) (H : Heap) : Res :=
  purK (nilChkA x0) fun x11 =>
  purK (fieldAddrA Tryz.prog 258 x11 1) fun x12 =>
  purK (loadA (cx ρ) H 95 x12) fun x13 =>
  purK (nilChkA x0) fun x15 =>
  purK (fieldAddrA Tryz.prog 258 x15 6) fun x16 =>
  purK (loadA (cx ρ) H 3 x16) fun x17 =>
  purK (nilChkA x0) fun x19 =>
  purK (fieldAddrA Tryz.prog 258 x19 7) fun x20 =>
  purK (loadA (cx ρ) H 22 x20) fun x21 =>
  purK (nilChkA x0) fun x23 =>
  purK (fieldAddrA Tryz.prog 258 x23 12) fun x24 =>
  purK (loadA (cx ρ) H 22 x24) fun x25 =>
  resK (call lim 358 [x13, x17, x21, x25] H) fun x26 H =>
  purK (extA 0 x26) fun x27 =>
  purK (extA 1 x26) fun x28 =>
  purK (binA Tryz.prog H .neq 28 x28 (.int .i64 0)) fun x30 =>
  condK x30
  (
    resK (call lim 169 [x28] H) fun x32 H =>
    purK (extA 0 x32) fun x33 =>
    purK (extA 1 x32) fun x34 =>
    retK [x33, x34] H)
  (
    condK x27
    (
      resK (call lim 240 [x0, (.int .i64 0), (.str (ByteArray.mk #[]))] H) fun x37 H =>
      purK (extA 0 x37) fun x38 =>
      purK (extA 1 x37) fun x39 =>
      retK [x38, x39] H)
    (
      resK (call lim 288 [x0] H) fun x41 H =>
      effK H (allocA (cx ρ) H 27) fun x6 H =>
      effK H ((storeA (cx ρ) lim H 27 x6 x41).map skips) fun _ H =>
      purK (fieldAddrA Tryz.prog 27 x6 0) fun x42 =>
      purK (fieldAddrA Tryz.prog 25 x42 2) fun x43 =>
      effK H ((storeA (cx ρ) lim H 4 x43 (.bool true)).map skips) fun _ H =>
      purK (fieldAddrA Tryz.prog 27 x6 0) fun x45 =>
      purK (loadA (cx ρ) H 25 x45) fun x46 =>
      resK (call lim 132 [x46] H) fun x47 H =>
      purK (extA 0 x47) fun x48 =>
      purK (extA 1 x47) fun x49 =>
      purK (binA Tryz.prog H .neq 28 x49 (.int .i64 0)) fun x51 =>
      condK x51
      (
        resK (call lim 169 [x49] H) fun x53 H =>
        purK (extA 0 x53) fun x54 =>
        purK (extA 1 x53) fun x55 =>
        retK [x54, x55] H)
      (
        purK (nilChkA x0) fun x57 =>
        purK (fieldAddrA Tryz.prog 258 x57 0) fun x58 =>
        purK (loadA (cx ρ) H 84 x58) fun x59 =>
        purK (nilChkA x0) fun x62 =>
        purK (fieldAddrA Tryz.prog 258 x62 12) fun x63 =>
        purK (loadA (cx ρ) H 22 x63) fun x64 =>
        resK (call lim 53 [x59] H) fun x60 H => bif (agn (loadA (cx ρ) H 22 x63) x64 && true) then
          resK (call lim 359 [x60, x64, x48] H) fun x66 H =>
          purK (binA Tryz.prog H .neq 28 x66 (.int .i64 0)) fun x68 =>
          condK x68
          (
            resK (call lim 169 [x66] H) fun x70 H =>
            purK (extA 0 x70) fun x71 =>
            purK (extA 1 x70) fun x72 =>
            retK [x71, x72] H)
          (
            purK (nilChkA x0) fun x74 =>
            purK (fieldAddrA Tryz.prog 258 x74 19) fun x75 =>
            purK (loadA (cx ρ) H 3 x75) fun x76 =>
            purK (binA Tryz.prog H .add 3 x76 (.int .i64 1)) fun x77 =>
            purK (nilChkA x0) fun x78 =>
            purK (fieldAddrA Tryz.prog 258 x78 19) fun x79 =>
            effK H ((storeA (cx ρ) lim H 3 x79 x77).map skips) fun _ H =>
            resK (call lim 324 [x0] H) fun x81 H =>
            resK (call lim 241 [x0, (.fn (.func 233) [] [])] H) fun x83 H =>
            purK (extA 0 x83) fun x84 =>
            purK (extA 1 x83) fun x85 =>
            retK [x84, x85] H)
        else none)))
theorem G322 (ρ : Addr → Option Value) (call : CallF) (yc : YieldF) (lim k : Nat) (x0 : AV) (H : Heap) :
    evL (cx ρ) call yc false 322 lim k c322 [x0, (.tup []), (.tup []), (.tup []), (.tup []), (.tup []), (.tup []), (.tup []), (.tup []), (.tup []), (.tup []), (.tup []), (.tup []), (.tup []), (.tup []), (.tup []), (.tup []), (.tup []), (.tup []), (.tup []), (.tup []), (.tup []), (.tup []), (.tup []), (.tup []), (.tup []), (.tup []), (.tup []), (.tup []), (.tup []), (.tup []), (.tup []), (.tup []), (.tup []), (.tup []), (.tup []), (.tup []), (.tup []), (.tup []), (.tup []), (.tup []), (.tup []), (.tup []), (.tup []), (.tup []), (.tup []), (.tup []), (.tup []), (.tup []), (.tup []), (.tup []), (.tup []), (.tup []), (.tup []), (.tup []), (.tup []), (.tup []), (.tup []), (.tup []), (.tup []), (.tup []), (.tup []), (.tup []), (.tup []), (.tup []), (.tup []), (.tup []), (.tup []), (.tup []), (.tup []), (.tup []), (.tup []), (.tup []), (.tup []), (.tup []), (.tup []), (.tup []), (.tup []), (.tup []), (.tup []), (.tup []), (.tup []), (.tup []), (.tup []), (.tup []), (.tup [])] H (kk none (fun s H => retK (([2, 3] : List Nat).map fun t => s.getD t (.tup [])) H) [] retK [2, 3]) = L322 ρ call yc lim k x0 H := by
  kernel_rfl
theorem E322 (ρ : Addr → Option Value) (k lim : Nat) (x0 : AV) (H : Heap) : evCall (cx ρ) (k + 1) lim 322 [x0] H = L322 ρ (evCall (cx ρ) k) (evCY (cx ρ) k).2 lim k x0 H := by
  rw [evCall_body (cx ρ) k lim 322 _ H Tryz.f322 c322 [2, 3] (by kernel_rfl) (by kernel_rfl) (by kernel_rfl) (by kernel_rfl) (by kernel_rfl)]
  exact G322 ρ (evCall (cx ρ) k) (evCY (cx ρ) k).2 lim k x0 H
-- (*haycroft/tail.Tail).size
noncomputable def c335 : Code := Code.of Tryz.prog 335
noncomputable def L335 (ρ : Addr → Option Value) (call : CallF) (yc : YieldF) (lim k : Nat) (x0 : AV) (H : Heap) : Res :=
  purK (nilChkA x0) fun x4 =>
  purK (fieldAddrA Tryz.prog 307 x4 0) fun x5 =>
  purK (loadA (cx ρ) H 3 x5) fun x6 =>
  resK (call lim 58 [x6] H) fun x7 H =>
  retK [x7] H
theorem G335 (ρ : Addr → Option Value) (call : CallF) (yc : YieldF) (lim k : Nat) (x0 : AV) (H : Heap) :
    evL (cx ρ) call yc false 335 lim k c335 [x0, (.tup []), (.tup []), (.tup []), (.tup []), (.tup []), (.tup []), (.tup [])] H (kk none (fun s H => retK (([2] : List Nat).map fun t => s.getD t (.tup [])) H) [] retK [2]) = L335 ρ call yc lim k x0 H := by
  kernel_rfl
theorem E335 (ρ : Addr → Option Value) (k lim : Nat) (x0 : AV) (H : Heap) : evCall (cx ρ) (k + 1) lim 335 [x0] H = L335 ρ (evCall (cx ρ) k) (evCY (cx ρ) k).2 lim k x0 H := by
  rw [evCall_body (cx ρ) k lim 335 _ H Tryz.f335 c335 [2] (by kernel_rfl) (by kernel_rfl) (by kernel_rfl) (by kernel_rfl) (by kernel_rfl)]
  exact G335 ρ (evCall (cx ρ) k) (evCY (cx ρ) k).2 lim k x0 H
-- haycroft/place.Of
noncomputable def c342 : Code := Code.of Tryz.prog 342
noncomputable def N342_1 (ρ : Addr → Option Value) (call : CallF) (yc : YieldF) (lim k : Nat) (x0 x1 x2 : AV) (H : Heap) (R : List AV → Heap → Res) : Res :=
  purK (convXA (cx ρ) H 3 22 x1) fun x27_1 =>
  purK (binA Tryz.prog H .shl 22 x27_1 x0) fun x29_1 =>
  purK (convXA (cx ρ) H 3 22 x2) fun x31_1 =>
  purK (binA Tryz.prog H .or 22 x29_1 x31_1) fun x32_1 =>
  R [x32_1, (.int .i64 0)] H
theorem N342_1_eq (ρ : Addr → Option Value) (call : CallF) (yc : YieldF) (lim k : Nat) (x0 x1 x2 : AV) (H : Heap) (R : List AV → Heap → Res) :
    evL (cx ρ) call yc false 342 lim k (Code.at [1, 1] c342) (sp 33 [(0, x0), (1, x1), (2, x2)]) H (kk none (fun s H => R (([6, 7] : List Nat).map fun t => s.getD t (.tup [])) H) [] R [6, 7]) = N342_1 ρ call yc lim k x0 x1 x2 H R := by
  kernel_rfl
noncomputable def N342_2 (ρ : Addr → Option Value) (call : CallF) (yc : YieldF) (lim k : Nat) (x0 x1 x2 x8 : AV) (H : Heap) (kn : AV → AV → AV → Heap → Res) (R : List AV → Heap → Res) : Res :=
  condK x8
  (
    R [(.int .u64 0), (.int .i64 1)] H)
  (
    purK (convXA (cx ρ) H 3 22 x1) fun x22_1 =>
    purK (binA Tryz.prog H .shr 22 (.int .u64 281474976710655) x0) fun x24_1 =>
    purK (binA Tryz.prog H .gtr 22 x22_1 x24_1) fun x25_1 =>
    condK x25_1
    (
      R [(.int .u64 0), (.int .i64 13)] H)
    (
      kn x0 x1 x2 H))
theorem N342_2_eq (ρ : Addr → Option Value) (call : CallF) (yc : YieldF) (lim k : Nat) (x0 x1 x2 x8 : AV) (H : Heap) (kn : KS) (k0 : KS) (R : List AV → Heap → Res) :
    evL (cx ρ) call yc false 342 lim k (Code.at [1, 0, 0, 1] c342) (sp 33 [(0, x0), (1, x1), (2, x2), (8, x8)]) H (kk (some [0, 1, 2]) kn [(0, (some [0, 1, 2]), k0)] R [6, 7]) = N342_2 ρ call yc lim k x0 x1 x2 x8 H (fun x0 x1 x2 H => kn (sp 33 [(0, x0), (1, x1), (2, x2)]) H) R := by
  kernel_rfl
noncomputable def L342 (ρ : Addr → Option Value) (call : CallF) (yc : YieldF) (lim k : Nat) (x0 x1 x2 : AV) (H : Heap) : Res :=
  resK (call lim 89 [x0] H) fun x10 H =>
  purK (unA .not x10) fun x11 =>
  condK x11
  (
    N342_2 ρ call yc lim k x0 x1 x2 x11 H (fun x0_1 x1_1 x2_1 H =>
      N342_1 ρ call yc lim k x0_1 x1_1 x2_1 H retK) retK)
  (
    purK (binA Tryz.prog H .lss 3 x1 (.int .i64 0)) fun x13 =>
    condK x13
    (
      N342_2 ρ call yc lim k x0 x1 x2 x13 H (fun x0_2 x1_2 x2_2 H =>
        N342_1 ρ call yc lim k x0_2 x1_2 x2_2 H retK) retK)
    (
      purK (binA Tryz.prog H .lss 3 x2 (.int .i64 0)) fun x15 =>
      condK x15
      (
        N342_2 ρ call yc lim k x0 x1 x2 x15 H (fun x0_3 x1_3 x2_3 H =>
          N342_1 ρ call yc lim k x0_3 x1_3 x2_3 H retK) retK)
      (
        resK (call lim 58 [x0] H) fun x18 H =>
        purK (binA Tryz.prog H .geq 3 x2 x18) fun x19 =>
        N342_2 ρ call yc lim k x0 x1 x2 x19 H (fun x0_4 x1_4 x2_4 H =>
          N342_1 ρ call yc lim k x0_4 x1_4 x2_4 H retK) retK)))
theorem L342_x (ρ : Addr → Option Value) (call : CallF) (yc : YieldF) (lim k : Nat) (J : CodeF) (x0 x1 x2 : AV) (H : Heap) :
    evX (cx ρ) call yc false 342 lim k J c342 [x0, x1, x2, (.tup []), (.tup []), (.tup []), (.tup []), (.tup []), (.tup []), (.tup []), (.tup []), (.tup []), (.tup []), (.tup []), (.tup []), (.tup []), (.tup []), (.tup []), (.tup []), (.tup []), (.tup []), (.tup []), (.tup []), (.tup []), (.tup []), (.tup []), (.tup []), (.tup []), (.tup []), (.tup []), (.tup []), (.tup []), (.tup [])] H (kk none (fun s H => retK (([6, 7] : List Nat).map fun t => s.getD t (.tup [])) H) [] retK [6, 7]) =
  resK (call lim 89 [x0] H) fun x10 H =>
  purK (unA .not x10) fun x11 =>
  condK x11
  (
    J (Code.at [1, 0, 0, 1] c342) (sp 33 [(0, x0), (1, x1), (2, x2), (8, x11)]) H (kk (some [0, 1, 2]) (fun s H => J (Code.at [1, 1] c342) s H (kk none (fun s H => retK (([6, 7] : List Nat).map fun t => s.getD t (.tup [])) H) [] retK [6, 7])) [(0, (some [0, 1, 2]), (fun s H => J (Code.at [1, 1] c342) s H (kk none (fun s H => retK (([6, 7] : List Nat).map fun t => s.getD t (.tup [])) H) [] retK [6, 7])))] retK [6, 7]))
  (
    purK (binA Tryz.prog H .lss 3 x1 (.int .i64 0)) fun x13 =>
    condK x13
    (
      J (Code.at [1, 0, 0, 1] c342) (sp 33 [(0, x0), (1, x1), (2, x2), (8, x13)]) H (kk (some [0, 1, 2]) (fun s H => J (Code.at [1, 1] c342) s H (kk none (fun s H => retK (([6, 7] : List Nat).map fun t => s.getD t (.tup [])) H) [] retK [6, 7])) [(0, (some [0, 1, 2]), (fun s H => J (Code.at [1, 1] c342) s H (kk none (fun s H => retK (([6, 7] : List Nat).map fun t => s.getD t (.tup [])) H) [] retK [6, 7])))] retK [6, 7]))
    (
      purK (binA Tryz.prog H .lss 3 x2 (.int .i64 0)) fun x15 =>
      condK x15
      (
        J (Code.at [1, 0, 0, 1] c342) (sp 33 [(0, x0), (1, x1), (2, x2), (8, x15)]) H (kk (some [0, 1, 2]) (fun s H => J (Code.at [1, 1] c342) s H (kk none (fun s H => retK (([6, 7] : List Nat).map fun t => s.getD t (.tup [])) H) [] retK [6, 7])) [(0, (some [0, 1, 2]), (fun s H => J (Code.at [1, 1] c342) s H (kk none (fun s H => retK (([6, 7] : List Nat).map fun t => s.getD t (.tup [])) H) [] retK [6, 7])))] retK [6, 7]))
      (
        resK (call lim 58 [x0] H) fun x18 H =>
        purK (binA Tryz.prog H .geq 3 x2 x18) fun x19 =>
        J (Code.at [1, 0, 0, 1] c342) (sp 33 [(0, x0), (1, x1), (2, x2), (8, x19)]) H (kk (some [0, 1, 2]) (fun s H => J (Code.at [1, 1] c342) s H (kk none (fun s H => retK (([6, 7] : List Nat).map fun t => s.getD t (.tup [])) H) [] retK [6, 7])) [(0, (some [0, 1, 2]), (fun s H => J (Code.at [1, 1] c342) s H (kk none (fun s H => retK (([6, 7] : List Nat).map fun t => s.getD t (.tup [])) H) [] retK [6, 7])))] retK [6, 7])))) := by
  kernel_rfl
theorem G342 (ρ : Addr → Option Value) (call : CallF) (yc : YieldF) (lim k : Nat) (x0 x1 x2 : AV) (H : Heap) :
    evL (cx ρ) call yc false 342 lim k c342 [x0, x1, x2, (.tup []), (.tup []), (.tup []), (.tup []), (.tup []), (.tup []), (.tup []), (.tup []), (.tup []), (.tup []), (.tup []), (.tup []), (.tup []), (.tup []), (.tup []), (.tup []), (.tup []), (.tup []), (.tup []), (.tup []), (.tup []), (.tup []), (.tup []), (.tup []), (.tup []), (.tup []), (.tup []), (.tup []), (.tup []), (.tup [])] H (kk none (fun s H => retK (([6, 7] : List Nat).map fun t => s.getD t (.tup [])) H) [] retK [6, 7]) = L342 ρ call yc lim k x0 x1 x2 H := by
  rw [evL_X, L342_x]
  simp only [← evL_X, L342, N342_1_eq, N342_2_eq]
theorem E342 (ρ : Addr → Option Value) (k lim : Nat) (x0 x1 x2 : AV) (H : Heap) : evCall (cx ρ) (k + 1) lim 342 [x0, x1, x2] H = L342 ρ (evCall (cx ρ) k) (evCY (cx ρ) k).2 lim k x0 x1 x2 H := by
  rw [evCall_body (cx ρ) k lim 342 _ H Tryz.f342 c342 [6, 7] (by kernel_rfl) (by kernel_rfl) (by kernel_rfl) (by kernel_rfl) (by kernel_rfl)]
  exact G342 ρ (evCall (cx ρ) k) (evCY (cx ρ) k).2 lim k x0 x1 x2 H
-- (*haycroft/index.Index).Claim
noncomputable def c345 : Code := Code.of Tryz.prog 345
noncomputable def L345 (ρ : Addr → Option Value) (call : CallF) (yc : YieldF) (lim k : Nat) (x0 x1 x2 : AV) (H : Heap) : Res :=
  resK (call lim 366 [x0, x1] H) fun x13 H =>
  purK (binA Tryz.prog H .neq 28 x13 (.int .i64 0)) fun x15 =>
  condK x15
  (
    retK [(.bool false), x13] H)
  (
    resK (call lim 77 [x2] H) fun x19 H =>
    resK (call lim 367 [x19] H) fun x20 H =>
    purK (extA 0 x20) fun x21 =>
    purK (extA 1 x20) fun x22 =>
    purK (binA Tryz.prog H .neq 28 x22 (.int .i64 0)) fun x24 =>
    condK x24
    (
      retK [(.bool false), x22] H)
    (
      purK (nilChkA x0) fun x27 =>
      purK (fieldAddrA Tryz.prog 162 x27 2) fun x28 =>
      purK (loadA (cx ρ) H 160 x28) fun x29 =>
      resK (call lim 282 [x29, x1, (.int .u64 0), x21] H) fun x32 H =>
      purK (extA 0 x32) fun x33 =>
      purK (extA 1 x32) fun x34 =>
      retK [x33, x34] H))
theorem G345 (ρ : Addr → Option Value) (call : CallF) (yc : YieldF) (lim k : Nat) (x0 x1 x2 : AV) (H : Heap) :
    evL (cx ρ) call yc false 345 lim k c345 [x0, x1, x2, (.tup []), (.tup []), (.tup []), (.tup []), (.tup []), (.tup []), (.tup []), (.tup []), (.tup []), (.tup []), (.tup []), (.tup []), (.tup []), (.tup []), (.tup []), (.tup []), (.tup []), (.tup []), (.tup []), (.tup []), (.tup []), (.tup []), (.tup []), (.tup []), (.tup []), (.tup []), (.tup []), (.tup []), (.tup []), (.tup []), (.tup []), (.tup [])] H (kk none (fun s H => retK (([6, 7] : List Nat).map fun t => s.getD t (.tup [])) H) [] retK [6, 7]) = L345 ρ call yc lim k x0 x1 x2 H := by
  kernel_rfl
theorem E345 (ρ : Addr → Option Value) (k lim : Nat) (x0 x1 x2 : AV) (H : Heap) : evCall (cx ρ) (k + 1) lim 345 [x0, x1, x2] H = L345 ρ (evCall (cx ρ) k) (evCY (cx ρ) k).2 lim k x0 x1 x2 H := by
  rw [evCall_body (cx ρ) k lim 345 _ H Tryz.f345 c345 [6, 7] (by kernel_rfl) (by kernel_rfl) (by kernel_rfl) (by kernel_rfl) (by kernel_rfl)]
  exact G345 ρ (evCall (cx ρ) k) (evCY (cx ρ) k).2 lim k x0 x1 x2 H
-- (*haycroft/pages.Buffer).run
noncomputable def c347 : Code := Code.of Tryz.prog 347
noncomputable def L347 (ρ : Addr → Option Value) (call : CallF) (yc : YieldF) (lim k : Nat) (x0 x1 x2 : AV) (H : Heap) : Res :=
  resK (call lim 369 [x0, x1] H) fun x13 H =>
  purK (extA 0 x13) fun x14 =>
  purK (extA 1 x13) fun x15 =>
  purK (binA Tryz.prog H .neq 28 x15 (.int .i64 0)) fun x18 =>
  condK x18
  (
    retK [(.int .i64 0), x15] H)
  (
    purK (nilChkA x0) fun x22 =>
    purK (fieldAddrA Tryz.prog 199 x22 0) fun x23 =>
    purK (loadA (cx ρ) H 3 x23) fun x24 =>
    resK (call lim 370 [x24, x1, x2] H) fun x27 H =>
    purK (unA .not x27) fun x28 =>
    condK x28
    (
      retK [(.int .i64 0), (.int .i64 1)] H)
    (
      retK [x14, (.int .i64 0)] H))
theorem G347 (ρ : Addr → Option Value) (call : CallF) (yc : YieldF) (lim k : Nat) (x0 x1 x2 : AV) (H : Heap) :
    evL (cx ρ) call yc false 347 lim k c347 [x0, x1, x2, (.tup []), (.tup []), (.tup []), (.tup []), (.tup []), (.tup []), (.tup []), (.tup []), (.tup []), (.tup []), (.tup []), (.tup []), (.tup []), (.tup []), (.tup []), (.tup []), (.tup []), (.tup []), (.tup []), (.tup []), (.tup []), (.tup []), (.tup []), (.tup []), (.tup []), (.tup []), (.tup [])] H (kk none (fun s H => retK (([6, 7] : List Nat).map fun t => s.getD t (.tup [])) H) [] retK [6, 7]) = L347 ρ call yc lim k x0 x1 x2 H := by
  kernel_rfl
theorem E347 (ρ : Addr → Option Value) (k lim : Nat) (x0 x1 x2 : AV) (H : Heap) : evCall (cx ρ) (k + 1) lim 347 [x0, x1, x2] H = L347 ρ (evCall (cx ρ) k) (evCY (cx ρ) k).2 lim k x0 x1 x2 H := by
  rw [evCall_body (cx ρ) k lim 347 _ H Tryz.f347 c347 [6, 7] (by kernel_rfl) (by kernel_rfl) (by kernel_rfl) (by kernel_rfl) (by kernel_rfl)]
  exact G347 ρ (evCall (cx ρ) k) (evCY (cx ρ) k).2 lim k x0 x1 x2 H
-- (*haycroft/tail.Tail).Over
noncomputable def c356 : Code := Code.of Tryz.prog 356
noncomputable def L356 (ρ : Addr → Option Value) (call : CallF) (yc : YieldF) (lim k : Nat) (x0 : AV) (H : Heap) : Res :=
  purK (binA Tryz.prog H .eql 147 x0 .nilp) fun x6 =>
  condK x6
  (
    retK [(.bool false)] H)
  (
    resK (call lim 144 [x0] H) fun x9 H =>
    purK (extA 0 x9) fun x10 =>
    purK (extA 1 x9) fun x11 =>
    resK (call lim 335 [x0] H) fun x14 H =>
    purK (binA Tryz.prog H .gtr 3 x11 x14) fun x15 =>
    retK [x15] H)
theorem G356 (ρ : Addr → Option Value) (call : CallF) (yc : YieldF) (lim k : Nat) (x0 : AV) (H : Heap) :
    evL (cx ρ) call yc false 356 lim k c356 [x0, (.tup []), (.tup []), (.tup []), (.tup []), (.tup []), (.tup []), (.tup []), (.tup []), (.tup []), (.tup []), (.tup []), (.tup []), (.tup []), (.tup []), (.tup [])] H (kk none (fun s H => retK (([2] : List Nat).map fun t => s.getD t (.tup [])) H) [] retK [2]) = L356 ρ call yc lim k x0 H := by
  kernel_rfl
theorem E356 (ρ : Addr → Option Value) (k lim : Nat) (x0 : AV) (H : Heap) : evCall (cx ρ) (k + 1) lim 356 [x0] H = L356 ρ (evCall (cx ρ) k) (evCY (cx ρ) k).2 lim k x0 H := by
  rw [evCall_body (cx ρ) k lim 356 _ H Tryz.f356 c356 [2] (by kernel_rfl) (by kernel_rfl) (by kernel_rfl) (by kernel_rfl) (by kernel_rfl)]
  exact G356 ρ (evCall (cx ρ) k) (evCY (cx ρ) k).2 lim k x0 H
-- (*haycroft/index.Index).Turn
noncomputable def c358 : Code := Code.of Tryz.prog 358
noncomputable def L358 (ρ : Addr → Option Value) (call : CallF) (yc : YieldF) (lim k : Nat) (x0 x1 x2 x3 : AV) (H : Heap) : Res :=
  resK (call lim 366 [x0, x1] H) fun x15 H =>
  purK (binA Tryz.prog H .neq 28 x15 (.int .i64 0)) fun x17 =>
  condK x17
  (
    retK [(.bool false), x15] H)
  (
    resK (call lim 375 [x2, x3] H) fun x22 H =>
    purK (extA 0 x22) fun x23 =>
    purK (extA 1 x22) fun x24 =>
    purK (binA Tryz.prog H .neq 28 x24 (.int .i64 0)) fun x26 =>
    condK x26
    (
      retK [(.bool false), x24] H)
    (
      purK (nilChkA x0) fun x29 =>
      purK (fieldAddrA Tryz.prog 162 x29 2) fun x30 =>
      purK (loadA (cx ρ) H 160 x30) fun x31 =>
      resK (call lim 282 [x31, x1, x2, x23] H) fun x35 H =>
      purK (extA 0 x35) fun x36 =>
      purK (extA 1 x35) fun x37 =>
      retK [x36, x37] H))
theorem G358 (ρ : Addr → Option Value) (call : CallF) (yc : YieldF) (lim k : Nat) (x0 x1 x2 x3 : AV) (H : Heap) :
    evL (cx ρ) call yc false 358 lim k c358 [x0, x1, x2, x3, (.tup []), (.tup []), (.tup []), (.tup []), (.tup []), (.tup []), (.tup []), (.tup []), (.tup []), (.tup []), (.tup []), (.tup []), (.tup []), (.tup []), (.tup []), (.tup []), (.tup []), (.tup []), (.tup []), (.tup []), (.tup []), (.tup []), (.tup []), (.tup []), (.tup []), (.tup []), (.tup []), (.tup []), (.tup []), (.tup []), (.tup []), (.tup []), (.tup []), (.tup [])] H (kk none (fun s H => retK (([8, 9] : List Nat).map fun t => s.getD t (.tup [])) H) [] retK [8, 9]) = L358 ρ call yc lim k x0 x1 x2 x3 H := by
  kernel_rfl
theorem E358 (ρ : Addr → Option Value) (k lim : Nat) (x0 x1 x2 x3 : AV) (H : Heap) : evCall (cx ρ) (k + 1) lim 358 [x0, x1, x2, x3] H = L358 ρ (evCall (cx ρ) k) (evCY (cx ρ) k).2 lim k x0 x1 x2 x3 H := by
  rw [evCall_body (cx ρ) k lim 358 _ H Tryz.f358 c358 [8, 9] (by kernel_rfl) (by kernel_rfl) (by kernel_rfl) (by kernel_rfl) (by kernel_rfl)]
  exact G358 ρ (evCall (cx ρ) k) (evCY (cx ρ) k).2 lim k x0 x1 x2 x3 H
-- (*haycroft/index.Index).may
noncomputable def c366 : Code := Code.of Tryz.prog 366
noncomputable def L366 (ρ : Addr → Option Value) (call : CallF) (yc : YieldF) (lim k : Nat) (x0 x1 : AV) (H : Heap) : Res :=
  purK (binA Tryz.prog H .eql 95 x0 .nilp) fun x7 =>
  condK x7
  (
    retK [(.int .i64 2)] H)
  (
    resK (call lim 147 [x0, x1] H) fun x11 H =>
    purK (unA .not x11) fun x12 =>
    condK x12
    (
      retK [(.int .i64 1)] H)
    (
      retK [(.int .i64 0)] H))
theorem G366 (ρ : Addr → Option Value) (call : CallF) (yc : YieldF) (lim k : Nat) (x0 x1 : AV) (H : Heap) :
    evL (cx ρ) call yc false 366 lim k c366 [x0, x1, (.tup []), (.tup []), (.tup []), (.tup []), (.tup []), (.tup []), (.tup []), (.tup []), (.tup []), (.tup []), (.tup [])] H (kk none (fun s H => retK (([4] : List Nat).map fun t => s.getD t (.tup [])) H) [] retK [4]) = L366 ρ call yc lim k x0 x1 H := by
  kernel_rfl
theorem E366 (ρ : Addr → Option Value) (k lim : Nat) (x0 x1 : AV) (H : Heap) : evCall (cx ρ) (k + 1) lim 366 [x0, x1] H = L366 ρ (evCall (cx ρ) k) (evCY (cx ρ) k).2 lim k x0 x1 H := by
  rw [evCall_body (cx ρ) k lim 366 _ H Tryz.f366 c366 [4] (by kernel_rfl) (by kernel_rfl) (by kernel_rfl) (by kernel_rfl) (by kernel_rfl)]
  exact G366 ρ (evCall (cx ρ) k) (evCY (cx ρ) k).2 lim k x0 x1 H
end Go.Proofs.YtbnhlcgbigeceaaGreat
