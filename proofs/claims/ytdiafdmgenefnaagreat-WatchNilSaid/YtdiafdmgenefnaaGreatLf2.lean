/- Functions, lifted. Printed by a program of this repo. -/
import Derived.Test.YtdiafdmgenefnaaGreatLfTab
set_option linter.unusedVariables false
set_option linter.unusedSimpArgs false
set_option maxRecDepth 100000
set_option maxHeartbeats 4000000
namespace Go.Proofs.YtdiafdmgenefnaaGreat
open Go.Ev Go.RowKit
-- haycroft/store.fresh
noncomputable def c91 : Code := Code.of Tryz.prog 91
noncomputable def N91_1 (ρ : Addr → Option Value) (call : CallF) (yc : YieldF) (lim k : Nat) (x9 : AV) (H : Heap) (R : List AV → Heap → Res) : Res :=
  R [x9, (.int .i64 0)] H
theorem N91_1_eq (ρ : Addr → Option Value) (call : CallF) (yc : YieldF) (lim k : Nat) (x9 : AV) (H : Heap) (R : List AV → Heap → Res) :
    evL (cx ρ) call yc false 91 lim k (Code.at [1, 1, 1, 1, 1, 1, 1] c91) (sp 64 [(9, x9)]) H (kk none (fun s H => R (([4, 5] : List Nat).map fun t => s.getD t (.tup [])) H) [] R [4, 5]) = N91_1 ρ call yc lim k x9 H R := by
  kernel_rfl
noncomputable def N91_3b (ρ : Addr → Option Value) (call : CallF) (yc : YieldF) (lim k : Nat) (x6 x8 x9 x38 x39 : AV) (H : Heap) (kn : AV → AV → AV → AV → AV → Heap → Res) (k0 : AV → Heap → Res) (R : List AV → Heap → Res) : Res :=
  purK (binA Tryz.prog H .lss 3 x39 x38) fun x40_1 =>
  condK x40_1
  (
    resK (call lim 155 [x6, x8, x39] H) fun x46_1 H =>
    purK (extA 0 x46_1) fun x47_1 =>
    purK (extA 1 x46_1) fun x48_1 =>
    purK (binA Tryz.prog H .neq 30 x48_1 (.int .i64 0)) fun x50_1 =>
    condK x50_1
    (
      R [.nilp, x48_1] H)
    (
      purK (nilChkA x9) fun x54_1 =>
      purK (addA 2 x54_1) fun x55_1 =>
      purK (ld1 ρ H x55_1) fun x56_1 =>
      effK H (bldS H 67 1 [.nilp] 1 [(0, 1, x47_1)]) fun x58_1 H =>
      effK H (apA ρ lim H 67 1 8 x56_1 x58_1) fun x59_1 H =>
      purK (nilChkA x9) fun x60_1 =>
      purK (addA 2 x60_1) fun x61_1 =>
      effK H (stA lim H 1 x61_1 x59_1) fun _ H =>
      purK (binA Tryz.prog H .add 3 x39 (.int .i64 1)) fun x62_1 =>
      kn x6 x8 x9 x38 x62_1 H))
  (
    k0 x9 H)
theorem N91_3b_eq (ρ : Addr → Option Value) (call : CallF) (yc : YieldF) (lim k : Nat) (x6 x8 x9 x38 x39 : AV) (H : Heap) (kn : KS) (k0 : KS) (R : List AV → Heap → Res) :
    evL (cx ρ) call yc false 91 lim k (Code.at [1, 1, 1, 1, 1, 1, 0, 1, 0, 0] c91) (sp 64 [(6, x6), (8, x8), (9, x9), (38, x38), (39, x39)]) H (kk (some [6, 8, 9, 38, 39]) kn [(0, (some [9]), k0)] R [4, 5]) = N91_3b ρ call yc lim k x6 x8 x9 x38 x39 H (fun x6 x8 x9 x38 x39 H => kn (sp 64 [(6, x6), (8, x8), (9, x9), (38, x38), (39, x39)]) H) (fun x9 H => k0 (sp 64 [(9, x9)]) H) R := by
  kernel_rfl
noncomputable def N91_3 (ρ : Addr → Option Value) (call : CallF) (yc : YieldF) (lim k : Nat) (x6 x8 x9 x38 x39 : AV) (H : Heap) (k0 : AV → Heap → Res) (R : List AV → Heap → Res) : Res :=
  loopL (fun (x : AV) H kn => N91_3b ρ call yc lim k x6 x8 x9 x38 x H (fun _ _ _ _ x39 H => kn x39 H) k0 R) k x39 H
theorem N91_3_eq (ρ : Addr → Option Value) (call : CallF) (yc : YieldF) (lim k : Nat) (x6 x8 x9 x38 x39 : AV) (H : Heap) (kn : KS) (k0 : KS) (R : List AV → Heap → Res) :
    evL (cx ρ) call yc false 91 lim k (Code.at [1, 1, 1, 1, 1, 1, 0, 1, 0] c91) (sp 64 [(6, x6), (8, x8), (9, x9), (38, x38), (39, x39)]) H (kk (some [9]) kn [(0, (some [9]), k0)] R [4, 5]) = N91_3 ρ call yc lim k x6 x8 x9 x38 x39 H (fun x9 H => k0 (sp 64 [(9, x9)]) H) R := by
  have e : Code.at [1, 1, 1, 1, 1, 1, 0, 1, 0] c91 = .loop (Code.at [1, 1, 1, 1, 1, 1, 0, 1, 0, 0] c91) := by kernel_rfl
  rw [e]
  unfold N91_3
  exact loop_node [6, 8, 9, 38, 39] (fun x : AV => (sp 64 [(6, x6), (8, x8), (9, x9), (38, x38), (39, (x))])) (fun (x : AV) H kn => N91_3b ρ call yc lim k x6 x8 x9 x38 x H (fun _ _ _ _ x39 H => kn x39 H) (fun x9 H => k0 (sp 64 [(9, x9)]) H) R) (by kernel_rfl) (fun x => by kernel_rfl) (fun x H kn => N91_3b_eq ρ call yc lim k x6 x8 x9 x38 (x) H kn k0 R) x39 (sp 64 [(6, x6), (8, x8), (9, x9), (38, x38), (39, x39)]) H (by kernel_rfl)
noncomputable def N91_2 (ρ : Addr → Option Value) (call : CallF) (yc : YieldF) (lim k : Nat) (x6 x8 x9 x38 x39 : AV) (H : Heap) (kn : AV → Heap → Res) (R : List AV → Heap → Res) : Res :=
  N91_3 ρ call yc lim k x6 x8 x9 x38 x39 H kn R
theorem N91_2_x (ρ : Addr → Option Value) (call : CallF) (yc : YieldF) (lim k : Nat) (J : CodeF) (x6 x8 x9 x38 x39 : AV) (H : Heap) (kn : KS) (R : List AV → Heap → Res) :
    evX (cx ρ) call yc false 91 lim k J (Code.at [1, 1, 1, 1, 1, 1, 0, 1] c91) (sp 64 [(6, x6), (8, x8), (9, x9), (38, x38), (39, x39)]) H (kk (some [9]) kn [] R [4, 5]) =
  J (Code.at [1, 1, 1, 1, 1, 1, 0, 1, 0] c91) (sp 64 [(6, x6), (8, x8), (9, x9), (38, x38), (39, x39)]) H (kk (some [9]) kn [(0, (some [9]), kn)] R [4, 5]) := by
  kernel_rfl
theorem N91_2_eq (ρ : Addr → Option Value) (call : CallF) (yc : YieldF) (lim k : Nat) (x6 x8 x9 x38 x39 : AV) (H : Heap) (kn : KS) (R : List AV → Heap → Res) :
    evL (cx ρ) call yc false 91 lim k (Code.at [1, 1, 1, 1, 1, 1, 0, 1] c91) (sp 64 [(6, x6), (8, x8), (9, x9), (38, x38), (39, x39)]) H (kk (some [9]) kn [] R [4, 5]) = N91_2 ρ call yc lim k x6 x8 x9 x38 x39 H (fun x9 H => kn (sp 64 [(9, x9)]) H) R := by
  rw [evL_X, N91_2_x]
  simp only [← evL_X, N91_2, N91_3_eq]
noncomputable def L91 (ρ : Addr → Option Value) (call : CallF) (yc : YieldF) (lim k : Nat) (x0 x1 : AV) (H : Heap) : Res :=
  effK H (boxA H 47 x0) fun x2 H =>
  purK (ldN ρ H 6 x2) fun x14 =>
  resK (call lim 153 [x14, x1] H) fun x16 H =>
  purK (extA 0 x16) fun x17 =>
  purK (extA 1 x16) fun x18 =>
  purK (binA Tryz.prog H .neq 30 x18 (.int .i64 0)) fun x20 =>
  condK x20
  (
    retK [.nilp, x18] H)
  (
    purK (addA 3 x2) fun x23 =>
    purK (ld1 ρ H x23) fun x24 =>
    purK (addA 4 x2) fun x25 =>
    purK (ld1 ρ H x25) fun x26 =>
    resK (call lim 154 [x24, x26] H) fun x27 H =>
    purK (extA 0 x27) fun x28 =>
    purK (extA 1 x27) fun x29 =>
    purK (binA Tryz.prog H .neq 30 x29 (.int .i64 0)) fun x31 =>
    condK x31
    (
      retK [.nilp, x29] H)
    (
      purK (bldA [.nilp, .nilp, .nils, .int .i64 0, .nilp] [(0, 1, x17), (1, 1, x28)]) fun x35 =>
      effK H (boxA H 76 x35) fun x36 H =>
      purK (addA 5 x2) fun x37 =>
      purK (ld1 ρ H x37) fun x38 =>
      N91_2 ρ call yc lim k x17 x28 x36 x38 (.int .i64 0) H (fun x9 H =>
        N91_1 ρ call yc lim k x9 H retK) retK))
theorem L91_x (ρ : Addr → Option Value) (call : CallF) (yc : YieldF) (lim k : Nat) (J : CodeF) (x0 x1 : AV) (H : Heap) :
    evX (cx ρ) call yc false 91 lim k J c91 [x0, x1, (.tup []), (.tup []), (.tup []), (.tup []), (.tup []), (.tup []), (.tup []), (.tup []), (.tup []), (.tup []), (.tup []), (.tup []), (.tup []), (.tup []), (.tup []), (.tup []), (.tup []), (.tup []), (.tup []), (.tup []), (.tup []), (.tup []), (.tup []), (.tup []), (.tup []), (.tup []), (.tup []), (.tup []), (.tup []), (.tup []), (.tup []), (.tup []), (.tup []), (.tup []), (.tup []), (.tup []), (.tup []), (.tup []), (.tup []), (.tup []), (.tup []), (.tup []), (.tup []), (.tup []), (.tup []), (.tup []), (.tup []), (.tup []), (.tup []), (.tup []), (.tup []), (.tup []), (.tup []), (.tup []), (.tup []), (.tup []), (.tup []), (.tup []), (.tup []), (.tup []), (.tup []), (.tup [])] H (kk none (fun s H => retK (([4, 5] : List Nat).map fun t => s.getD t (.tup [])) H) [] retK [4, 5]) =
  effK H (boxA H 47 x0) fun x2 H =>
  purK (ldN ρ H 6 x2) fun x14 =>
  resK (call lim 153 [x14, x1] H) fun x16 H =>
  purK (extA 0 x16) fun x17 =>
  purK (extA 1 x16) fun x18 =>
  purK (binA Tryz.prog H .neq 30 x18 (.int .i64 0)) fun x20 =>
  condK x20
  (
    retK [.nilp, x18] H)
  (
    purK (addA 3 x2) fun x23 =>
    purK (ld1 ρ H x23) fun x24 =>
    purK (addA 4 x2) fun x25 =>
    purK (ld1 ρ H x25) fun x26 =>
    resK (call lim 154 [x24, x26] H) fun x27 H =>
    purK (extA 0 x27) fun x28 =>
    purK (extA 1 x27) fun x29 =>
    purK (binA Tryz.prog H .neq 30 x29 (.int .i64 0)) fun x31 =>
    condK x31
    (
      retK [.nilp, x29] H)
    (
      purK (bldA [.nilp, .nilp, .nils, .int .i64 0, .nilp] [(0, 1, x17), (1, 1, x28)]) fun x35 =>
      effK H (boxA H 76 x35) fun x36 H =>
      purK (addA 5 x2) fun x37 =>
      purK (ld1 ρ H x37) fun x38 =>
      J (Code.at [1, 1, 1, 1, 1, 1, 0, 1] c91) (sp 64 [(6, x17), (8, x28), (9, x36), (38, x38), (39, (.int .i64 0))]) H (kk (some [9]) (fun s H => J (Code.at [1, 1, 1, 1, 1, 1, 1] c91) s H (kk none (fun s H => retK (([4, 5] : List Nat).map fun t => s.getD t (.tup [])) H) [] retK [4, 5])) [] retK [4, 5]))) := by
  kernel_rfl
theorem G91 (ρ : Addr → Option Value) (call : CallF) (yc : YieldF) (lim k : Nat) (x0 x1 : AV) (H : Heap) :
    evL (cx ρ) call yc false 91 lim k c91 [x0, x1, (.tup []), (.tup []), (.tup []), (.tup []), (.tup []), (.tup []), (.tup []), (.tup []), (.tup []), (.tup []), (.tup []), (.tup []), (.tup []), (.tup []), (.tup []), (.tup []), (.tup []), (.tup []), (.tup []), (.tup []), (.tup []), (.tup []), (.tup []), (.tup []), (.tup []), (.tup []), (.tup []), (.tup []), (.tup []), (.tup []), (.tup []), (.tup []), (.tup []), (.tup []), (.tup []), (.tup []), (.tup []), (.tup []), (.tup []), (.tup []), (.tup []), (.tup []), (.tup []), (.tup []), (.tup []), (.tup []), (.tup []), (.tup []), (.tup []), (.tup []), (.tup []), (.tup []), (.tup []), (.tup []), (.tup []), (.tup []), (.tup []), (.tup []), (.tup []), (.tup []), (.tup []), (.tup [])] H (kk none (fun s H => retK (([4, 5] : List Nat).map fun t => s.getD t (.tup [])) H) [] retK [4, 5]) = L91 ρ call yc lim k x0 x1 H := by
  rw [evL_X, L91_x]
  simp only [← evL_X, L91, N91_1_eq, N91_2_eq]
theorem E91 (ρ : Addr → Option Value) (k lim : Nat) (x0 x1 : AV) (H : Heap) : evCall (cx ρ) (k + 1) lim 91 [x0, x1] H = L91 ρ (evCall (cx ρ) k) (evCY (cx ρ) k).2 lim k x0 x1 H := by
  rw [evCall_body (cx ρ) k lim 91 _ H Tryz.f91 c91 [4, 5] (by kernel_rfl) (by kernel_rfl) (by kernel_rfl) (by kernel_rfl) (by kernel_rfl)]
  exact G91 ρ (evCall (cx ρ) k) (evCY (cx ρ) k).2 lim k x0 x1 H
-- haycroft/task.New
noncomputable def c92 : Code := Code.of Tryz.prog 92
noncomputable def L92 (ρ : Addr → Option Value) (call : CallF) (yc : YieldF) (lim k : Nat) (x0 x1 x2 x3 x4 : AV) (H : Heap) : Res :=
  effK H (boxA H 24 x3) fun x8 H =>
  purK (binA Tryz.prog H .eql 71 x0 .nilp) fun x14 =>
  purK (gPur (wantV x14 false) (some x1)) fun x16 =>
  purK (gPur (wantV x14 false) (binA Tryz.prog H .eql 72 x16 .nilp)) fun x17 =>
  purK (pickA x14 (.bool true) x17) fun x18 =>
  condK x18
  (
    retK [.nilp, (.int .i64 2)] H)
  (
    purK (ldN ρ H 4 x8) fun x19 =>
    resK (call lim 156 [x19] H) fun x20 H =>
    purK (binA Tryz.prog H .neq 30 x20 (.int .i64 0)) fun x22 =>
    condK x22
    (
      retK [.nilp, x20] H)
    (
      purK (ldN ρ H 4 x8) fun x27 =>
      purK (addA 1 x8) fun x28 =>
      purK (ld1 ρ H x28) fun x29 =>
      resK (call lim 157 [x29] H) fun x30 H => bif (agn (ldN ρ H 4 x8) x27 && true) then
        purK (bldA [.nilp, .nilp, .int .i64 0, .int .i64 0, .str ByteArray.empty, .str ByteArray.empty, .int .u64 0, .int .u64 0, .nilf, .int .i64 0, .int .u64 0, .int .i64 0, .int .i64 0, .int .u64 0, .int .u64 0, .int .u64 0, .str ByteArray.empty, .nilp, .nilp, .bool false, .bool false, .int .i64 0, .str ByteArray.empty, .int .i64 0] [(0, 1, x0), (1, 1, x1), (2, 1, x2), (3, 4, x27), (7, 1, x30), (8, 1, (.fn (.func 158) [] [])), (12, 1, x4)]) fun x32 =>
        effK H (boxA H 173 x32) fun x33 H =>
        retK [x33, (.int .i64 0)] H
      else none))
theorem G92 (ρ : Addr → Option Value) (call : CallF) (yc : YieldF) (lim k : Nat) (x0 x1 x2 x3 x4 : AV) (H : Heap) :
    evL (cx ρ) call yc false 92 lim k c92 [x0, x1, x2, x3, x4, (.tup []), (.tup []), (.tup []), (.tup []), (.tup []), (.tup []), (.tup []), (.tup []), (.tup []), (.tup []), (.tup []), (.tup []), (.tup []), (.tup []), (.tup []), (.tup []), (.tup []), (.tup []), (.tup []), (.tup []), (.tup []), (.tup []), (.tup []), (.tup []), (.tup []), (.tup []), (.tup []), (.tup []), (.tup [])] H (kk none (fun s H => retK (([10, 11] : List Nat).map fun t => s.getD t (.tup [])) H) [] retK [10, 11]) = L92 ρ call yc lim k x0 x1 x2 x3 x4 H := by
  kernel_rfl
theorem E92 (ρ : Addr → Option Value) (k lim : Nat) (x0 x1 x2 x3 x4 : AV) (H : Heap) : evCall (cx ρ) (k + 1) lim 92 [x0, x1, x2, x3, x4] H = L92 ρ (evCall (cx ρ) k) (evCY (cx ρ) k).2 lim k x0 x1 x2 x3 x4 H := by
  rw [evCall_body (cx ρ) k lim 92 _ H Tryz.f92 c92 [10, 11] (by kernel_rfl) (by kernel_rfl) (by kernel_rfl) (by kernel_rfl) (by kernel_rfl)]
  exact G92 ρ (evCall (cx ρ) k) (evCY (cx ρ) k).2 lim k x0 x1 x2 x3 x4 H
-- (*haycroft/task.Task).Outcome
noncomputable def c93 : Code := Code.of Tryz.prog 93
noncomputable def L93 (ρ : Addr → Option Value) (call : CallF) (yc : YieldF) (lim k : Nat) (x0 : AV) (H : Heap) : Res :=
  effK H (some (.ptr H.sz 0 0, .new (newCells 50 false [.int .i64 0, .str ByteArray.empty]))) fun x2 H =>
  purK (binA Tryz.prog H .eql 106 x0 .nilp) fun x5 =>
  condK x5
  (
    purK (bldA [.int .i64 0, .str ByteArray.empty] []) fun x6 =>
    effK H (stA lim H 2 x2 x6) fun _ H =>
    (retC (cx ρ) [some 50, none]) [x2, (.bool false)] H)
  (
    purK (nilChkA x0) fun x8 =>
    purK (addA 21 x8) fun x9 =>
    purK (ldN ρ H 2 x9) fun x10 =>
    purK (nilChkA x0) fun x12 =>
    purK (addA 20 x12) fun x13 =>
    purK (ld1 ρ H x13) fun x14 =>
    effK H (stA lim H 2 x2 x10) fun _ H => bif (agn (ld1 ρ H x13) x14 && true) then
      (retC (cx ρ) [some 50, none]) [x2, x14] H
    else none)
theorem G93 (ρ : Addr → Option Value) (call : CallF) (yc : YieldF) (lim k : Nat) (x0 : AV) (H : Heap) :
    evL (cx ρ) call yc false 93 lim k c93 [x0, (.tup []), (.tup []), (.tup []), (.tup []), (.tup []), (.tup []), (.tup []), (.tup []), (.tup []), (.tup []), (.tup []), (.tup []), (.tup []), (.tup [])] H (kk none (fun s H => (retC (cx ρ) [some 50, none]) (([2, 3] : List Nat).map fun t => s.getD t (.tup [])) H) [] (retC (cx ρ) [some 50, none]) [2, 3]) = L93 ρ call yc lim k x0 H := by
  kernel_rfl
theorem E93 (ρ : Addr → Option Value) (k lim : Nat) (x0 : AV) (H : Heap) : evCall (cx ρ) (k + 1) lim 93 [x0] H = L93 ρ (evCall (cx ρ) k) (evCY (cx ρ) k).2 lim k x0 H := by
  rw [evCall_cells (cx ρ) k lim 93 _ H Tryz.f93 c93 [2, 3] [some 50, none] (by kernel_rfl) (by kernel_rfl) (by kernel_rfl) (by kernel_rfl) (by kernel_rfl) (by kernel_rfl)]
  exact G93 ρ (evCall (cx ρ) k) (evCY (cx ρ) k).2 lim k x0 H
-- (*haycroft/task.Task).Held
noncomputable def c94 : Code := Code.of Tryz.prog 94
noncomputable def L94 (ρ : Addr → Option Value) (call : CallF) (yc : YieldF) (lim k : Nat) (x0 : AV) (H : Heap) : Res :=
  purK (binA Tryz.prog H .eql 106 x0 .nilp) fun x4 =>
  condK x4
  (
    retK [(.int .i64 0)] H)
  (
    purK (nilChkA x0) fun x6 =>
    purK (addA 12 x6) fun x7 =>
    purK (ld1 ρ H x7) fun x8 =>
    retK [x8] H)
theorem G94 (ρ : Addr → Option Value) (call : CallF) (yc : YieldF) (lim k : Nat) (x0 : AV) (H : Heap) :
    evL (cx ρ) call yc false 94 lim k c94 [x0, (.tup []), (.tup []), (.tup []), (.tup []), (.tup []), (.tup []), (.tup []), (.tup [])] H (kk none (fun s H => retK (([2] : List Nat).map fun t => s.getD t (.tup [])) H) [] retK [2]) = L94 ρ call yc lim k x0 H := by
  kernel_rfl
theorem E94 (ρ : Addr → Option Value) (k lim : Nat) (x0 : AV) (H : Heap) : evCall (cx ρ) (k + 1) lim 94 [x0] H = L94 ρ (evCall (cx ρ) k) (evCY (cx ρ) k).2 lim k x0 H := by
  rw [evCall_body (cx ρ) k lim 94 _ H Tryz.f94 c94 [2] (by kernel_rfl) (by kernel_rfl) (by kernel_rfl) (by kernel_rfl) (by kernel_rfl)]
  exact G94 ρ (evCall (cx ρ) k) (evCY (cx ρ) k).2 lim k x0 H
-- (*haycroft/task.Task).Lost
noncomputable def c95 : Code := Code.of Tryz.prog 95
noncomputable def L95 (ρ : Addr → Option Value) (call : CallF) (yc : YieldF) (lim k : Nat) (x0 : AV) (H : Heap) : Res :=
  purK (binA Tryz.prog H .eql 106 x0 .nilp) fun x4 =>
  condK x4
  (
    retK [(.int .i64 0)] H)
  (
    purK (nilChkA x0) fun x6 =>
    purK (addA 23 x6) fun x7 =>
    purK (ld1 ρ H x7) fun x8 =>
    retK [x8] H)
theorem G95 (ρ : Addr → Option Value) (call : CallF) (yc : YieldF) (lim k : Nat) (x0 : AV) (H : Heap) :
    evL (cx ρ) call yc false 95 lim k c95 [x0, (.tup []), (.tup []), (.tup []), (.tup []), (.tup []), (.tup []), (.tup []), (.tup [])] H (kk none (fun s H => retK (([2] : List Nat).map fun t => s.getD t (.tup [])) H) [] retK [2]) = L95 ρ call yc lim k x0 H := by
  kernel_rfl
theorem E95 (ρ : Addr → Option Value) (k lim : Nat) (x0 : AV) (H : Heap) : evCall (cx ρ) (k + 1) lim 95 [x0] H = L95 ρ (evCall (cx ρ) k) (evCY (cx ρ) k).2 lim k x0 H := by
  rw [evCall_body (cx ρ) k lim 95 _ H Tryz.f95 c95 [2] (by kernel_rfl) (by kernel_rfl) (by kernel_rfl) (by kernel_rfl) (by kernel_rfl)]
  exact G95 ρ (evCall (cx ρ) k) (evCY (cx ρ) k).2 lim k x0 H
-- (*haycroft/epoch.Table).there
noncomputable def c96 : Code := Code.of Tryz.prog 96
noncomputable def L96 (ρ : Addr → Option Value) (call : CallF) (yc : YieldF) (lim k : Nat) (x0 x1 : AV) (H : Heap) : Res :=
  purK (binA Tryz.prog H .neq 111 x0 .nilp) fun x6 =>
  purK (gPur (wantV x6 true) (some x1)) fun x8 =>
  purK (gPur (wantV x6 true) (binA Tryz.prog H .geq 3 x8 (.int .i64 0))) fun x9 =>
  purK (pickA x6 x9 (.bool false)) fun x10 =>
  purK (gPur (wantV x10 true) (some x1)) fun x12 =>
  purK (gPur (wantV x10 true) (some x0)) fun x13 =>
  purK (gPur (wantV x10 true) (nilChkA x13)) fun x14 =>
  purK (gPur (wantV x10 true) (addA 0 x14)) fun x15 =>
  purK (gPur (wantV x10 true) (ld1 ρ H x15)) fun x16 =>
  resK (gRes (wantV x10 true) H (call lim 159 [x16] H)) fun x17 H =>
  purK (gPur (wantV x10 true) (binA Tryz.prog H .sub 3 x17 (.int .i64 1))) fun x18 =>
  purK (gPur (wantV x10 true) (binA Tryz.prog H .lss 3 x12 x18)) fun x19 =>
  purK (pickA x10 x19 (.bool false)) fun x20 =>
  retK [x20] H
theorem G96 (ρ : Addr → Option Value) (call : CallF) (yc : YieldF) (lim k : Nat) (x0 x1 : AV) (H : Heap) :
    evL (cx ρ) call yc false 96 lim k c96 [x0, x1, (.tup []), (.tup []), (.tup []), (.tup []), (.tup []), (.tup []), (.tup []), (.tup []), (.tup []), (.tup []), (.tup []), (.tup []), (.tup []), (.tup []), (.tup []), (.tup []), (.tup []), (.tup []), (.tup [])] H (kk none (fun s H => retK (([4] : List Nat).map fun t => s.getD t (.tup [])) H) [] retK [4]) = L96 ρ call yc lim k x0 x1 H := by
  kernel_rfl
theorem E96 (ρ : Addr → Option Value) (k lim : Nat) (x0 x1 : AV) (H : Heap) : evCall (cx ρ) (k + 1) lim 96 [x0, x1] H = L96 ρ (evCall (cx ρ) k) (evCY (cx ρ) k).2 lim k x0 x1 H := by
  rw [evCall_body (cx ρ) k lim 96 _ H Tryz.f96 c96 [4] (by kernel_rfl) (by kernel_rfl) (by kernel_rfl) (by kernel_rfl) (by kernel_rfl)]
  exact G96 ρ (evCall (cx ρ) k) (evCY (cx ρ) k).2 lim k x0 x1 H
-- (*haycroft/cell.Row).Load
noncomputable def c97 : Code := Code.of Tryz.prog 97
noncomputable def L97 (ρ : Addr → Option Value) (call : CallF) (yc : YieldF) (lim k : Nat) (x0 x1 : AV) (H : Heap) : Res :=
  resK (call lim 160 [x0, x1] H) fun x7 H =>
  purK (unA .not x7) fun x8 =>
  condK x8
  (
    retK [(.int .u64 0)] H)
  (
    purK (nilChkA x0) fun x10 =>
    purK (addA 0 x10) fun x11 =>
    purK (ld1 ρ H x11) fun x12 =>
    purK (ixS 1 x12 x1) fun x14 =>
    resK (call lim 161 [x14] H) fun x15 H =>
    retK [x15] H)
theorem G97 (ρ : Addr → Option Value) (call : CallF) (yc : YieldF) (lim k : Nat) (x0 x1 : AV) (H : Heap) :
    evL (cx ρ) call yc false 97 lim k c97 [x0, x1, (.tup []), (.tup []), (.tup []), (.tup []), (.tup []), (.tup []), (.tup []), (.tup []), (.tup []), (.tup []), (.tup []), (.tup []), (.tup []), (.tup [])] H (kk none (fun s H => retK (([4] : List Nat).map fun t => s.getD t (.tup [])) H) [] retK [4]) = L97 ρ call yc lim k x0 x1 H := by
  kernel_rfl
theorem E97 (ρ : Addr → Option Value) (k lim : Nat) (x0 x1 : AV) (H : Heap) : evCall (cx ρ) (k + 1) lim 97 [x0, x1] H = L97 ρ (evCall (cx ρ) k) (evCY (cx ρ) k).2 lim k x0 x1 H := by
  rw [evCall_body (cx ρ) k lim 97 _ H Tryz.f97 c97 [4] (by kernel_rfl) (by kernel_rfl) (by kernel_rfl) (by kernel_rfl) (by kernel_rfl)]
  exact G97 ρ (evCall (cx ρ) k) (evCY (cx ρ) k).2 lim k x0 x1 H
-- (*haycroft/epoch.Table).turn
noncomputable def c98 : Code := Code.of Tryz.prog 98
noncomputable def L98 (ρ : Addr → Option Value) (call : CallF) (yc : YieldF) (lim k : Nat) (x0 x1 x2 x3 x4 : AV) (H : Heap) : Res :=
  purK (binA Tryz.prog H .eql 111 x0 .nilp) fun x13 =>
  condK x13
  (
    retK [(.int .i64 2)] H)
  (
    resK (call lim 96 [x0, x1] H) fun x17 H =>
    purK (unA .not x17) fun x18 =>
    condK x18
    (
      retK [(.int .i64 1)] H)
    (
      resK (call lim 52 [x0, x1] H) fun x23 H =>
      purK (binA Tryz.prog H .gtr 22 x23 (.int .u64 0)) fun x24 =>
      purK (binA Tryz.prog H .neq 4 x2 x24) fun x25 =>
      condK x25
      (
        retK [x4] H)
      (
        purK (nilChkA x0) fun x28 =>
        purK (addA 0 x28) fun x29 =>
        purK (ld1 ρ H x29) fun x30 =>
        purK (binA Tryz.prog H .add 3 (.int .i64 1) x1) fun x32 =>
        resK (call lim 162 [x30, x32, x3] H) fun x34 H =>
        retK [x34] H)))
theorem G98 (ρ : Addr → Option Value) (call : CallF) (yc : YieldF) (lim k : Nat) (x0 x1 x2 x3 x4 : AV) (H : Heap) :
    evL (cx ρ) call yc false 98 lim k c98 [x0, x1, x2, x3, x4, (.tup []), (.tup []), (.tup []), (.tup []), (.tup []), (.tup []), (.tup []), (.tup []), (.tup []), (.tup []), (.tup []), (.tup []), (.tup []), (.tup []), (.tup []), (.tup []), (.tup []), (.tup []), (.tup []), (.tup []), (.tup []), (.tup []), (.tup []), (.tup []), (.tup []), (.tup []), (.tup []), (.tup []), (.tup []), (.tup [])] H (kk none (fun s H => retK (([10] : List Nat).map fun t => s.getD t (.tup [])) H) [] retK [10]) = L98 ρ call yc lim k x0 x1 x2 x3 x4 H := by
  kernel_rfl
theorem E98 (ρ : Addr → Option Value) (k lim : Nat) (x0 x1 x2 x3 x4 : AV) (H : Heap) : evCall (cx ρ) (k + 1) lim 98 [x0, x1, x2, x3, x4] H = L98 ρ (evCall (cx ρ) k) (evCY (cx ρ) k).2 lim k x0 x1 x2 x3 x4 H := by
  rw [evCall_body (cx ρ) k lim 98 _ H Tryz.f98 c98 [10] (by kernel_rfl) (by kernel_rfl) (by kernel_rfl) (by kernel_rfl) (by kernel_rfl)]
  exact G98 ρ (evCall (cx ρ) k) (evCY (cx ρ) k).2 lim k x0 x1 x2 x3 x4 H
-- (*haycroft/epoch.Table).Now
noncomputable def c99 : Code := Code.of Tryz.prog 99
noncomputable def L99 (ρ : Addr → Option Value) (call : CallF) (yc : YieldF) (lim k : Nat) (x0 : AV) (H : Heap) : Res :=
  purK (binA Tryz.prog H .eql 111 x0 .nilp) fun x4 =>
  condK x4
  (
    retK [(.int .u64 0)] H)
  (
    purK (nilChkA x0) fun x6 =>
    purK (addA 0 x6) fun x7 =>
    purK (ld1 ρ H x7) fun x8 =>
    resK (call lim 97 [x8, (.int .i64 0)] H) fun x9 H =>
    retK [x9] H)
theorem G99 (ρ : Addr → Option Value) (call : CallF) (yc : YieldF) (lim k : Nat) (x0 : AV) (H : Heap) :
    evL (cx ρ) call yc false 99 lim k c99 [x0, (.tup []), (.tup []), (.tup []), (.tup []), (.tup []), (.tup []), (.tup []), (.tup []), (.tup [])] H (kk none (fun s H => retK (([2] : List Nat).map fun t => s.getD t (.tup [])) H) [] retK [2]) = L99 ρ call yc lim k x0 H := by
  kernel_rfl
theorem E99 (ρ : Addr → Option Value) (k lim : Nat) (x0 : AV) (H : Heap) : evCall (cx ρ) (k + 1) lim 99 [x0] H = L99 ρ (evCall (cx ρ) k) (evCY (cx ρ) k).2 lim k x0 H := by
  rw [evCall_body (cx ρ) k lim 99 _ H Tryz.f99 c99 [2] (by kernel_rfl) (by kernel_rfl) (by kernel_rfl) (by kernel_rfl) (by kernel_rfl)]
  exact G99 ρ (evCall (cx ρ) k) (evCY (cx ρ) k).2 lim k x0 H
-- (*haycroft/drain.List).Ready
noncomputable def c101 : Code := Code.of Tryz.prog 101
noncomputable def N101_1 (ρ : Addr → Option Value) (call : CallF) (yc : YieldF) (lim k : Nat) (x0 x5 x6 : AV) (H : Heap) (R : List AV → Heap → Res) : Res :=
  purK (nilChkA x0) fun x35_1 =>
  purK (addA 0 x35_1) fun x36_1 =>
  effK H (stA lim H 1 x36_1 x6) fun _ H =>
  R [x5] H
theorem N101_1_eq (ρ : Addr → Option Value) (call : CallF) (yc : YieldF) (lim k : Nat) (x0 x5 x6 : AV) (H : Heap) (R : List AV → Heap → Res) :
    evL (cx ρ) call yc false 101 lim k (Code.at [1, 1, 1, 1] c101) (sp 38 [(0, x0), (5, x5), (6, x6)]) H (kk none (fun s H => R (([4] : List Nat).map fun t => s.getD t (.tup [])) H) [] R [4]) = N101_1 ρ call yc lim k x0 x5 x6 H R := by
  kernel_rfl
noncomputable def N101_4 (ρ : Addr → Option Value) (call : CallF) (yc : YieldF) (lim k : Nat) (x0 x1 x5 x6 x14 x15 x16 : AV) (H : Heap) (kn : AV → AV → AV → AV → AV → AV → AV → Heap → Res) : Res :=
  purK (binA Tryz.prog H .add 3 x16 (.int .i64 1)) fun x32_1 =>
  kn x0 x1 x5 x6 x14 x15 x32_1 H
theorem N101_4_eq (ρ : Addr → Option Value) (call : CallF) (yc : YieldF) (lim k : Nat) (x0 x1 x5 x6 x14 x15 x16 : AV) (H : Heap) (kn : KS) (k0 : KS) (R : List AV → Heap → Res) :
    evL (cx ρ) call yc false 101 lim k (Code.at [1, 1, 1, 0, 1, 0, 0, 1, 1, 1] c101) (sp 38 [(0, x0), (1, x1), (5, x5), (6, x6), (14, x14), (15, x15), (16, x16)]) H (kk (some [0, 1, 5, 6, 14, 15, 16]) kn [(0, (some [0, 5, 6]), k0)] R [4]) = N101_4 ρ call yc lim k x0 x1 x5 x6 x14 x15 x16 H (fun x0 x1 x5 x6 x14 x15 x16 H => kn (sp 38 [(0, x0), (1, x1), (5, x5), (6, x6), (14, x14), (15, x15), (16, x16)]) H) := by
  kernel_rfl
noncomputable def N101_3b (ρ : Addr → Option Value) (call : CallF) (yc : YieldF) (lim k : Nat) (x0 x1 x5 x6 x14 x15 x16 : AV) (H : Heap) (kn : AV → AV → AV → AV → AV → AV → AV → Heap → Res) (k0 : AV → AV → AV → Heap → Res) : Res :=
  purK (binA Tryz.prog H .lss 3 x16 x15) fun x17_1 =>
  condK x17_1
  (
    purK (ixS 3 x14 x16) fun x18_1 =>
    purK (ldN ρ H 3 x18_1) fun x19_1 =>
    effK H (some (.ptr H.sz 0 0, .new (newCells 184 false [.int .u64 0, .int .i64 0, .int .i64 0]))) fun x8_1 H =>
    effK H (stA lim H 3 x8_1 x19_1) fun _ H =>
    purK (addA 0 x8_1) fun x20_1 =>
    purK (ld1 ρ H x20_1) fun x21_1 =>
    purK (binA Tryz.prog H .leq 22 x21_1 x1) fun x23_1 =>
    condK x23_1
    (
      purK (ldN ρ H 3 x8_1) fun x25_1 =>
      effK H (bldS H 184 3 [.int .u64 0, .int .i64 0, .int .i64 0] 1 [(0, 3, x25_1)]) fun x26_1 H =>
      effK H (apA ρ lim H 184 3 24 x5 x26_1) fun x27_1 H =>
      N101_4 ρ call yc lim k x0 x1 x27_1 x6 x14 x15 x16 H kn)
    (
      purK (ldN ρ H 3 x8_1) fun x29_1 =>
      effK H (bldS H 184 3 [.int .u64 0, .int .i64 0, .int .i64 0] 1 [(0, 3, x29_1)]) fun x30_1 H =>
      effK H (apA ρ lim H 184 3 24 x6 x30_1) fun x31_1 H =>
      N101_4 ρ call yc lim k x0 x1 x5 x31_1 x14 x15 x16 H kn))
  (
    k0 x0 x5 x6 H)
theorem N101_3b_x (ρ : Addr → Option Value) (call : CallF) (yc : YieldF) (lim k : Nat) (J : CodeF) (x0 x1 x5 x6 x14 x15 x16 : AV) (H : Heap) (kn : KS) (k0 : KS) (R : List AV → Heap → Res) :
    evX (cx ρ) call yc false 101 lim k J (Code.at [1, 1, 1, 0, 1, 0, 0] c101) (sp 38 [(0, x0), (1, x1), (5, x5), (6, x6), (14, x14), (15, x15), (16, x16)]) H (kk (some [0, 1, 5, 6, 14, 15, 16]) kn [(0, (some [0, 5, 6]), k0)] R [4]) =
  purK (binA Tryz.prog H .lss 3 x16 x15) fun x17_1 =>
  condK x17_1
  (
    purK (ixS 3 x14 x16) fun x18_1 =>
    purK (ldN ρ H 3 x18_1) fun x19_1 =>
    effK H (some (.ptr H.sz 0 0, .new (newCells 184 false [.int .u64 0, .int .i64 0, .int .i64 0]))) fun x8_1 H =>
    effK H (stA lim H 3 x8_1 x19_1) fun _ H =>
    purK (addA 0 x8_1) fun x20_1 =>
    purK (ld1 ρ H x20_1) fun x21_1 =>
    purK (binA Tryz.prog H .leq 22 x21_1 x1) fun x23_1 =>
    condK x23_1
    (
      purK (ldN ρ H 3 x8_1) fun x25_1 =>
      effK H (bldS H 184 3 [.int .u64 0, .int .i64 0, .int .i64 0] 1 [(0, 3, x25_1)]) fun x26_1 H =>
      effK H (apA ρ lim H 184 3 24 x5 x26_1) fun x27_1 H =>
      J (Code.at [1, 1, 1, 0, 1, 0, 0, 1, 1, 1] c101) (sp 38 [(0, x0), (1, x1), (5, x27_1), (6, x6), (14, x14), (15, x15), (16, x16)]) H (kk (some [0, 1, 5, 6, 14, 15, 16]) kn [(0, (some [0, 5, 6]), k0)] R [4]))
    (
      purK (ldN ρ H 3 x8_1) fun x29_1 =>
      effK H (bldS H 184 3 [.int .u64 0, .int .i64 0, .int .i64 0] 1 [(0, 3, x29_1)]) fun x30_1 H =>
      effK H (apA ρ lim H 184 3 24 x6 x30_1) fun x31_1 H =>
      J (Code.at [1, 1, 1, 0, 1, 0, 0, 1, 1, 1] c101) (sp 38 [(0, x0), (1, x1), (5, x5), (6, x31_1), (14, x14), (15, x15), (16, x16)]) H (kk (some [0, 1, 5, 6, 14, 15, 16]) kn [(0, (some [0, 5, 6]), k0)] R [4])))
  (
    k0 (sp 38 [(0, x0), (5, x5), (6, x6)]) H) := by
  kernel_rfl
theorem N101_3b_eq (ρ : Addr → Option Value) (call : CallF) (yc : YieldF) (lim k : Nat) (x0 x1 x5 x6 x14 x15 x16 : AV) (H : Heap) (kn : KS) (k0 : KS) (R : List AV → Heap → Res) :
    evL (cx ρ) call yc false 101 lim k (Code.at [1, 1, 1, 0, 1, 0, 0] c101) (sp 38 [(0, x0), (1, x1), (5, x5), (6, x6), (14, x14), (15, x15), (16, x16)]) H (kk (some [0, 1, 5, 6, 14, 15, 16]) kn [(0, (some [0, 5, 6]), k0)] R [4]) = N101_3b ρ call yc lim k x0 x1 x5 x6 x14 x15 x16 H (fun x0 x1 x5 x6 x14 x15 x16 H => kn (sp 38 [(0, x0), (1, x1), (5, x5), (6, x6), (14, x14), (15, x15), (16, x16)]) H) (fun x0 x5 x6 H => k0 (sp 38 [(0, x0), (5, x5), (6, x6)]) H) := by
  rw [evL_X, N101_3b_x]
  simp only [← evL_X, N101_3b, N101_4_eq]
noncomputable def N101_3 (ρ : Addr → Option Value) (call : CallF) (yc : YieldF) (lim k : Nat) (x0 x1 x5 x6 x14 x15 x16 : AV) (H : Heap) (k0 : AV → AV → AV → Heap → Res) : Res :=
  loopL (fun (x : AV × AV × AV) H kn => N101_3b ρ call yc lim k x0 x1 x.1 x.2.1 x14 x15 x.2.2 H (fun _ _ x5 x6 _ _ x16 H => kn (x5, x6, x16) H) k0) k (x5, x6, x16) H
theorem N101_3_eq (ρ : Addr → Option Value) (call : CallF) (yc : YieldF) (lim k : Nat) (x0 x1 x5 x6 x14 x15 x16 : AV) (H : Heap) (kn : KS) (k0 : KS) (R : List AV → Heap → Res) :
    evL (cx ρ) call yc false 101 lim k (Code.at [1, 1, 1, 0, 1, 0] c101) (sp 38 [(0, x0), (1, x1), (5, x5), (6, x6), (14, x14), (15, x15), (16, x16)]) H (kk (some [0, 5, 6]) kn [(0, (some [0, 5, 6]), k0)] R [4]) = N101_3 ρ call yc lim k x0 x1 x5 x6 x14 x15 x16 H (fun x0 x5 x6 H => k0 (sp 38 [(0, x0), (5, x5), (6, x6)]) H) := by
  have e : Code.at [1, 1, 1, 0, 1, 0] c101 = .loop (Code.at [1, 1, 1, 0, 1, 0, 0] c101) := by kernel_rfl
  rw [e]
  unfold N101_3
  exact loop_node [0, 1, 5, 6, 14, 15, 16] (fun x : AV × AV × AV => (sp 38 [(0, x0), (1, x1), (5, (x.1)), (6, (x.2.1)), (14, x14), (15, x15), (16, (x.2.2))])) (fun (x : AV × AV × AV) H kn => N101_3b ρ call yc lim k x0 x1 x.1 x.2.1 x14 x15 x.2.2 H (fun _ _ x5 x6 _ _ x16 H => kn (x5, x6, x16) H) (fun x0 x5 x6 H => k0 (sp 38 [(0, x0), (5, x5), (6, x6)]) H)) (by kernel_rfl) (fun x => by kernel_rfl) (fun x H kn => N101_3b_eq ρ call yc lim k x0 x1 (x.1) (x.2.1) x14 x15 (x.2.2) H kn k0 R) (x5, x6, x16) (sp 38 [(0, x0), (1, x1), (5, x5), (6, x6), (14, x14), (15, x15), (16, x16)]) H (by kernel_rfl)
noncomputable def N101_2 (ρ : Addr → Option Value) (call : CallF) (yc : YieldF) (lim k : Nat) (x0 x1 x5 x6 x14 x15 x16 : AV) (H : Heap) (kn : AV → AV → AV → Heap → Res) : Res :=
  N101_3 ρ call yc lim k x0 x1 x5 x6 x14 x15 x16 H kn
theorem N101_2_x (ρ : Addr → Option Value) (call : CallF) (yc : YieldF) (lim k : Nat) (J : CodeF) (x0 x1 x5 x6 x14 x15 x16 : AV) (H : Heap) (kn : KS) (R : List AV → Heap → Res) :
    evX (cx ρ) call yc false 101 lim k J (Code.at [1, 1, 1, 0, 1] c101) (sp 38 [(0, x0), (1, x1), (5, x5), (6, x6), (14, x14), (15, x15), (16, x16)]) H (kk (some [0, 5, 6]) kn [] R [4]) =
  J (Code.at [1, 1, 1, 0, 1, 0] c101) (sp 38 [(0, x0), (1, x1), (5, x5), (6, x6), (14, x14), (15, x15), (16, x16)]) H (kk (some [0, 5, 6]) kn [(0, (some [0, 5, 6]), kn)] R [4]) := by
  kernel_rfl
theorem N101_2_eq (ρ : Addr → Option Value) (call : CallF) (yc : YieldF) (lim k : Nat) (x0 x1 x5 x6 x14 x15 x16 : AV) (H : Heap) (kn : KS) (R : List AV → Heap → Res) :
    evL (cx ρ) call yc false 101 lim k (Code.at [1, 1, 1, 0, 1] c101) (sp 38 [(0, x0), (1, x1), (5, x5), (6, x6), (14, x14), (15, x15), (16, x16)]) H (kk (some [0, 5, 6]) kn [] R [4]) = N101_2 ρ call yc lim k x0 x1 x5 x6 x14 x15 x16 H (fun x0 x5 x6 H => kn (sp 38 [(0, x0), (5, x5), (6, x6)]) H) := by
  rw [evL_X, N101_2_x]
  simp only [← evL_X, N101_2, N101_3_eq]
noncomputable def L101 (ρ : Addr → Option Value) (call : CallF) (yc : YieldF) (lim k : Nat) (x0 x1 : AV) (H : Heap) : Res :=
  purK (binA Tryz.prog H .eql 122 x0 .nilp) fun x10 =>
  condK x10
  (
    retK [.nils] H)
  (
    purK (nilChkA x0) fun x12 =>
    purK (addA 0 x12) fun x13 =>
    purK (ld1 ρ H x13) fun x14 =>
    purK (lenS x14) fun x15 =>
    N101_2 ρ call yc lim k x0 x1 .nils .nils x14 x15 (.int .i64 0) H (fun x0_1 x5 x6 H =>
      N101_1 ρ call yc lim k x0_1 x5 x6 H retK))
theorem L101_x (ρ : Addr → Option Value) (call : CallF) (yc : YieldF) (lim k : Nat) (J : CodeF) (x0 x1 : AV) (H : Heap) :
    evX (cx ρ) call yc false 101 lim k J c101 [x0, x1, (.tup []), (.tup []), (.tup []), (.tup []), (.tup []), (.tup []), (.tup []), (.tup []), (.tup []), (.tup []), (.tup []), (.tup []), (.tup []), (.tup []), (.tup []), (.tup []), (.tup []), (.tup []), (.tup []), (.tup []), (.tup []), (.tup []), (.tup []), (.tup []), (.tup []), (.tup []), (.tup []), (.tup []), (.tup []), (.tup []), (.tup []), (.tup []), (.tup []), (.tup []), (.tup []), (.tup [])] H (kk none (fun s H => retK (([4] : List Nat).map fun t => s.getD t (.tup [])) H) [] retK [4]) =
  purK (binA Tryz.prog H .eql 122 x0 .nilp) fun x10 =>
  condK x10
  (
    retK [.nils] H)
  (
    purK (nilChkA x0) fun x12 =>
    purK (addA 0 x12) fun x13 =>
    purK (ld1 ρ H x13) fun x14 =>
    purK (lenS x14) fun x15 =>
    J (Code.at [1, 1, 1, 0, 1] c101) (sp 38 [(0, x0), (1, x1), (5, .nils), (6, .nils), (14, x14), (15, x15), (16, (.int .i64 0))]) H (kk (some [0, 5, 6]) (fun s H => J (Code.at [1, 1, 1, 1] c101) s H (kk none (fun s H => retK (([4] : List Nat).map fun t => s.getD t (.tup [])) H) [] retK [4])) [] retK [4])) := by
  kernel_rfl
theorem G101 (ρ : Addr → Option Value) (call : CallF) (yc : YieldF) (lim k : Nat) (x0 x1 : AV) (H : Heap) :
    evL (cx ρ) call yc false 101 lim k c101 [x0, x1, (.tup []), (.tup []), (.tup []), (.tup []), (.tup []), (.tup []), (.tup []), (.tup []), (.tup []), (.tup []), (.tup []), (.tup []), (.tup []), (.tup []), (.tup []), (.tup []), (.tup []), (.tup []), (.tup []), (.tup []), (.tup []), (.tup []), (.tup []), (.tup []), (.tup []), (.tup []), (.tup []), (.tup []), (.tup []), (.tup []), (.tup []), (.tup []), (.tup []), (.tup []), (.tup []), (.tup [])] H (kk none (fun s H => retK (([4] : List Nat).map fun t => s.getD t (.tup [])) H) [] retK [4]) = L101 ρ call yc lim k x0 x1 H := by
  rw [evL_X, L101_x]
  simp only [← evL_X, L101, N101_1_eq, N101_2_eq]
theorem E101 (ρ : Addr → Option Value) (k lim : Nat) (x0 x1 : AV) (H : Heap) : evCall (cx ρ) (k + 1) lim 101 [x0, x1] H = L101 ρ (evCall (cx ρ) k) (evCY (cx ρ) k).2 lim k x0 x1 H := by
  rw [evCall_body (cx ρ) k lim 101 _ H Tryz.f101 c101 [4] (by kernel_rfl) (by kernel_rfl) (by kernel_rfl) (by kernel_rfl) (by kernel_rfl)]
  exact G101 ρ (evCall (cx ρ) k) (evCY (cx ρ) k).2 lim k x0 x1 H
-- (*haycroft/epoch.Table).Safe
noncomputable def c102 : Code := Code.of Tryz.prog 102
noncomputable def N102_1 (ρ : Addr → Option Value) (call : CallF) (yc : YieldF) (lim k : Nat) (x3 : AV) (H : Heap) (R : List AV → Heap → Res) : Res :=
  purK (binA Tryz.prog H .sub 22 x3 (.int .u64 1)) fun x24_1 =>
  R [x24_1] H
theorem N102_1_eq (ρ : Addr → Option Value) (call : CallF) (yc : YieldF) (lim k : Nat) (x3 : AV) (H : Heap) (R : List AV → Heap → Res) :
    evL (cx ρ) call yc false 102 lim k (Code.at [1, 1, 1, 1] c102) (sp 25 [(3, x3)]) H (kk none (fun s H => R (([2] : List Nat).map fun t => s.getD t (.tup [])) H) [] R [2]) = N102_1 ρ call yc lim k x3 H R := by
  kernel_rfl
noncomputable def N102_3b (ρ : Addr → Option Value) (call : CallF) (yc : YieldF) (lim k : Nat) (x0 x3 x11 x12 x13 : AV) (H : Heap) (kn : AV → AV → AV → AV → AV → Heap → Res) (k0 : AV → Heap → Res) : Res :=
  purK (binA Tryz.prog H .lss 3 x13 x12) fun x14_1 =>
  condK x14_1
  (
    purK (ixS 1 x11 x13) fun x15_1 =>
    purK (ld1 ρ H x15_1) fun x16_1 =>
    resK (call lim 52 [x0, x16_1] H) fun x20_1 H =>
    purK (foldsA minA [x3, x20_1]) fun x21_1 =>
    purK (binA Tryz.prog H .add 3 x13 (.int .i64 1)) fun x22_1 =>
    kn x0 x21_1 x11 x12 x22_1 H)
  (
    k0 x3 H)
theorem N102_3b_eq (ρ : Addr → Option Value) (call : CallF) (yc : YieldF) (lim k : Nat) (x0 x3 x11 x12 x13 : AV) (H : Heap) (kn : KS) (k0 : KS) (R : List AV → Heap → Res) :
    evL (cx ρ) call yc false 102 lim k (Code.at [1, 1, 1, 0, 1, 0, 0] c102) (sp 25 [(0, x0), (3, x3), (11, x11), (12, x12), (13, x13)]) H (kk (some [0, 3, 11, 12, 13]) kn [(0, (some [3]), k0)] R [2]) = N102_3b ρ call yc lim k x0 x3 x11 x12 x13 H (fun x0 x3 x11 x12 x13 H => kn (sp 25 [(0, x0), (3, x3), (11, x11), (12, x12), (13, x13)]) H) (fun x3 H => k0 (sp 25 [(3, x3)]) H) := by
  kernel_rfl
noncomputable def N102_3 (ρ : Addr → Option Value) (call : CallF) (yc : YieldF) (lim k : Nat) (x0 x3 x11 x12 x13 : AV) (H : Heap) (k0 : AV → Heap → Res) : Res :=
  loopL (fun (x : AV × AV) H kn => N102_3b ρ call yc lim k x0 x.1 x11 x12 x.2 H (fun _ x3 _ _ x13 H => kn (x3, x13) H) k0) k (x3, x13) H
theorem N102_3_eq (ρ : Addr → Option Value) (call : CallF) (yc : YieldF) (lim k : Nat) (x0 x3 x11 x12 x13 : AV) (H : Heap) (kn : KS) (k0 : KS) (R : List AV → Heap → Res) :
    evL (cx ρ) call yc false 102 lim k (Code.at [1, 1, 1, 0, 1, 0] c102) (sp 25 [(0, x0), (3, x3), (11, x11), (12, x12), (13, x13)]) H (kk (some [3]) kn [(0, (some [3]), k0)] R [2]) = N102_3 ρ call yc lim k x0 x3 x11 x12 x13 H (fun x3 H => k0 (sp 25 [(3, x3)]) H) := by
  have e : Code.at [1, 1, 1, 0, 1, 0] c102 = .loop (Code.at [1, 1, 1, 0, 1, 0, 0] c102) := by kernel_rfl
  rw [e]
  unfold N102_3
  exact loop_node [0, 3, 11, 12, 13] (fun x : AV × AV => (sp 25 [(0, x0), (3, (x.1)), (11, x11), (12, x12), (13, (x.2))])) (fun (x : AV × AV) H kn => N102_3b ρ call yc lim k x0 x.1 x11 x12 x.2 H (fun _ x3 _ _ x13 H => kn (x3, x13) H) (fun x3 H => k0 (sp 25 [(3, x3)]) H)) (by kernel_rfl) (fun x => by kernel_rfl) (fun x H kn => N102_3b_eq ρ call yc lim k x0 (x.1) x11 x12 (x.2) H kn k0 R) (x3, x13) (sp 25 [(0, x0), (3, x3), (11, x11), (12, x12), (13, x13)]) H (by kernel_rfl)
noncomputable def N102_2 (ρ : Addr → Option Value) (call : CallF) (yc : YieldF) (lim k : Nat) (x0 x3 x11 x12 x13 : AV) (H : Heap) (kn : AV → Heap → Res) : Res :=
  N102_3 ρ call yc lim k x0 x3 x11 x12 x13 H kn
theorem N102_2_x (ρ : Addr → Option Value) (call : CallF) (yc : YieldF) (lim k : Nat) (J : CodeF) (x0 x3 x11 x12 x13 : AV) (H : Heap) (kn : KS) (R : List AV → Heap → Res) :
    evX (cx ρ) call yc false 102 lim k J (Code.at [1, 1, 1, 0, 1] c102) (sp 25 [(0, x0), (3, x3), (11, x11), (12, x12), (13, x13)]) H (kk (some [3]) kn [] R [2]) =
  J (Code.at [1, 1, 1, 0, 1, 0] c102) (sp 25 [(0, x0), (3, x3), (11, x11), (12, x12), (13, x13)]) H (kk (some [3]) kn [(0, (some [3]), kn)] R [2]) := by
  kernel_rfl
theorem N102_2_eq (ρ : Addr → Option Value) (call : CallF) (yc : YieldF) (lim k : Nat) (x0 x3 x11 x12 x13 : AV) (H : Heap) (kn : KS) (R : List AV → Heap → Res) :
    evL (cx ρ) call yc false 102 lim k (Code.at [1, 1, 1, 0, 1] c102) (sp 25 [(0, x0), (3, x3), (11, x11), (12, x12), (13, x13)]) H (kk (some [3]) kn [] R [2]) = N102_2 ρ call yc lim k x0 x3 x11 x12 x13 H (fun x3 H => kn (sp 25 [(3, x3)]) H) := by
  rw [evL_X, N102_2_x]
  simp only [← evL_X, N102_2, N102_3_eq]
noncomputable def L102 (ρ : Addr → Option Value) (call : CallF) (yc : YieldF) (lim k : Nat) (x0 : AV) (H : Heap) : Res :=
  purK (binA Tryz.prog H .eql 111 x0 .nilp) fun x7 =>
  condK x7
  (
    retK [(.int .u64 0)] H)
  (
    resK (call lim 99 [x0] H) fun x9 H =>
    resK (call lim 163 [x0] H) fun x11 H =>
    purK (lenS x11) fun x12 =>
    N102_2 ρ call yc lim k x0 x9 x11 x12 (.int .i64 0) H (fun x3 H =>
      N102_1 ρ call yc lim k x3 H retK))
theorem L102_x (ρ : Addr → Option Value) (call : CallF) (yc : YieldF) (lim k : Nat) (J : CodeF) (x0 : AV) (H : Heap) :
    evX (cx ρ) call yc false 102 lim k J c102 [x0, (.tup []), (.tup []), (.tup []), (.tup []), (.tup []), (.tup []), (.tup []), (.tup []), (.tup []), (.tup []), (.tup []), (.tup []), (.tup []), (.tup []), (.tup []), (.tup []), (.tup []), (.tup []), (.tup []), (.tup []), (.tup []), (.tup []), (.tup []), (.tup [])] H (kk none (fun s H => retK (([2] : List Nat).map fun t => s.getD t (.tup [])) H) [] retK [2]) =
  purK (binA Tryz.prog H .eql 111 x0 .nilp) fun x7 =>
  condK x7
  (
    retK [(.int .u64 0)] H)
  (
    resK (call lim 99 [x0] H) fun x9 H =>
    resK (call lim 163 [x0] H) fun x11 H =>
    purK (lenS x11) fun x12 =>
    J (Code.at [1, 1, 1, 0, 1] c102) (sp 25 [(0, x0), (3, x9), (11, x11), (12, x12), (13, (.int .i64 0))]) H (kk (some [3]) (fun s H => J (Code.at [1, 1, 1, 1] c102) s H (kk none (fun s H => retK (([2] : List Nat).map fun t => s.getD t (.tup [])) H) [] retK [2])) [] retK [2])) := by
  kernel_rfl
theorem G102 (ρ : Addr → Option Value) (call : CallF) (yc : YieldF) (lim k : Nat) (x0 : AV) (H : Heap) :
    evL (cx ρ) call yc false 102 lim k c102 [x0, (.tup []), (.tup []), (.tup []), (.tup []), (.tup []), (.tup []), (.tup []), (.tup []), (.tup []), (.tup []), (.tup []), (.tup []), (.tup []), (.tup []), (.tup []), (.tup []), (.tup []), (.tup []), (.tup []), (.tup []), (.tup []), (.tup []), (.tup []), (.tup [])] H (kk none (fun s H => retK (([2] : List Nat).map fun t => s.getD t (.tup [])) H) [] retK [2]) = L102 ρ call yc lim k x0 H := by
  rw [evL_X, L102_x]
  simp only [← evL_X, L102, N102_1_eq, N102_2_eq]
theorem E102 (ρ : Addr → Option Value) (k lim : Nat) (x0 : AV) (H : Heap) : evCall (cx ρ) (k + 1) lim 102 [x0] H = L102 ρ (evCall (cx ρ) k) (evCY (cx ρ) k).2 lim k x0 H := by
  rw [evCall_body (cx ρ) k lim 102 _ H Tryz.f102 c102 [2] (by kernel_rfl) (by kernel_rfl) (by kernel_rfl) (by kernel_rfl) (by kernel_rfl)]
  exact G102 ρ (evCall (cx ρ) k) (evCY (cx ρ) k).2 lim k x0 H
-- slices.Collect[int]
noncomputable def c115 : Code := Code.of Tryz.prog 115
noncomputable def L115 (ρ : Addr → Option Value) (call : CallF) (yc : YieldF) (lim k : Nat) (x0 : AV) (H : Heap) : Res :=
  resK (call lim 183 [.nils, x0] H) fun x4 H =>
  retK [x4] H
theorem G115 (ρ : Addr → Option Value) (call : CallF) (yc : YieldF) (lim k : Nat) (x0 : AV) (H : Heap) :
    evL (cx ρ) call yc false 115 lim k c115 [x0, (.tup []), (.tup []), (.tup []), (.tup [])] H (kk none (fun s H => retK (([2] : List Nat).map fun t => s.getD t (.tup [])) H) [] retK [2]) = L115 ρ call yc lim k x0 H := by
  kernel_rfl
theorem E115 (ρ : Addr → Option Value) (k lim : Nat) (x0 : AV) (H : Heap) : evCall (cx ρ) (k + 1) lim 115 [x0] H = L115 ρ (evCall (cx ρ) k) (evCY (cx ρ) k).2 lim k x0 H := by
  rw [evCall_body (cx ρ) k lim 115 _ H Tryz.f115 c115 [2] (by kernel_rfl) (by kernel_rfl) (by kernel_rfl) (by kernel_rfl) (by kernel_rfl)]
  exact G115 ρ (evCall (cx ρ) k) (evCY (cx ρ) k).2 lim k x0 H
-- (*haycroft/pages.Buffer).Has
noncomputable def c117 : Code := Code.of Tryz.prog 117
noncomputable def L117 (ρ : Addr → Option Value) (call : CallF) (yc : YieldF) (lim k : Nat) (x0 x1 : AV) (H : Heap) : Res :=
  purK (binA Tryz.prog H .neq 120 x0 .nilp) fun x6 =>
  boolK (wantV x6 true) fun b1 => purK (bif b1 then some x1 else some (.tup [])) fun x8 =>
  boolK (wantV x6 true) fun b2 => purK (bif b2 then binA Tryz.prog H .geq 3 x8 (.int .i64 0) else some (.tup [])) fun x9 =>
  purK (pickA x6 x9 (.bool false)) fun x10 =>
  boolK (wantV x10 true) fun b3 => purK (bif b3 then some x0 else some (.tup [])) fun x12 =>
  boolK (wantV x10 true) fun b4 => purK (bif b4 then nilChkA x12 else some (.tup [])) fun x13 =>
  boolK (wantV x10 true) fun b5 => purK (bif b5 then addA 2 x13 else some (.tup [])) fun x14 =>
  boolK (wantV x10 true) fun b6 => purK (bif b6 then ld1 ρ H x14 else some (.tup [])) fun x15 =>
  boolK (wantV x10 true) fun b7 => purK (bif b7 then some x0 else some (.tup [])) fun x16 =>
  boolK (wantV x10 true) fun b8 => purK (bif b8 then some x1 else some (.tup [])) fun x17 =>
  boolK (wantV x10 true) fun b9 => purK (bif b9 then some x1 else some (.tup [])) fun x20 =>
  boolK (wantV x10 true) fun b10 => resK (gRes (some b10) H (call lim 120 [x16, x17] H)) fun x18 H => bif !b10 || ((!b6 || agn (ld1 ρ H x14) x15) && ((!b2 || true) && true)) then
    boolK (wantV x10 true) fun b11 => resK (gRes (some b11) H (call lim 97 [x15, x18] H)) fun x19 H => bif !b11 || ((!b6 || true) && ((!b2 || true) && true)) then
      boolK (wantV x10 true) fun b12 => resK (gRes (some b12) H (call lim 185 [x20] H)) fun x21 H => bif !b12 || ((!b6 || true) && ((!b2 || true) && true)) then
        purK (gPur (wantV x10 true) (binA Tryz.prog H .eql 22 x19 x21)) fun x22 =>
        purK (pickA x10 x22 (.bool false)) fun x23 =>
        retK [x23] H
      else none
    else none
  else none
theorem G117 (ρ : Addr → Option Value) (call : CallF) (yc : YieldF) (lim k : Nat) (x0 x1 : AV) (H : Heap) :
    evL (cx ρ) call yc false 117 lim k c117 [x0, x1, (.tup []), (.tup []), (.tup []), (.tup []), (.tup []), (.tup []), (.tup []), (.tup []), (.tup []), (.tup []), (.tup []), (.tup []), (.tup []), (.tup []), (.tup []), (.tup []), (.tup []), (.tup []), (.tup []), (.tup []), (.tup []), (.tup [])] H (kk none (fun s H => retK (([4] : List Nat).map fun t => s.getD t (.tup [])) H) [] retK [4]) = L117 ρ call yc lim k x0 x1 H := by
  kernel_rfl
theorem E117 (ρ : Addr → Option Value) (k lim : Nat) (x0 x1 : AV) (H : Heap) : evCall (cx ρ) (k + 1) lim 117 [x0, x1] H = L117 ρ (evCall (cx ρ) k) (evCY (cx ρ) k).2 lim k x0 x1 H := by
  rw [evCall_body (cx ρ) k lim 117 _ H Tryz.f117 c117 [4] (by kernel_rfl) (by kernel_rfl) (by kernel_rfl) (by kernel_rfl) (by kernel_rfl)]
  exact G117 ρ (evCall (cx ρ) k) (evCY (cx ρ) k).2 lim k x0 x1 H
-- haycroft/place.Size
noncomputable def c118 : Code := Code.of Tryz.prog 118
noncomputable def L118 (ρ : Addr → Option Value) (call : CallF) (yc : YieldF) (lim k : Nat) (x0 : AV) (H : Heap) : Res :=
  resK (call lim 86 [x0] H) fun x4 H =>
  purK (unA .not x4) fun x5 =>
  condK x5
  (
    retK [(.int .i64 0)] H)
  (
    purK (binA Tryz.prog H .shl 3 (.int .i64 1) x0) fun x7 =>
    retK [x7] H)
theorem G118 (ρ : Addr → Option Value) (call : CallF) (yc : YieldF) (lim k : Nat) (x0 : AV) (H : Heap) :
    evL (cx ρ) call yc false 118 lim k c118 [x0, (.tup []), (.tup []), (.tup []), (.tup []), (.tup []), (.tup []), (.tup [])] H (kk none (fun s H => retK (([2] : List Nat).map fun t => s.getD t (.tup [])) H) [] retK [2]) = L118 ρ call yc lim k x0 H := by
  kernel_rfl
theorem E118 (ρ : Addr → Option Value) (k lim : Nat) (x0 : AV) (H : Heap) : evCall (cx ρ) (k + 1) lim 118 [x0] H = L118 ρ (evCall (cx ρ) k) (evCY (cx ρ) k).2 lim k x0 H := by
  rw [evCall_body (cx ρ) k lim 118 _ H Tryz.f118 c118 [2] (by kernel_rfl) (by kernel_rfl) (by kernel_rfl) (by kernel_rfl) (by kernel_rfl)]
  exact G118 ρ (evCall (cx ρ) k) (evCY (cx ρ) k).2 lim k x0 H
-- (*haycroft/pages.Buffer).frame
noncomputable def c120 : Code := Code.of Tryz.prog 120
noncomputable def L120 (ρ : Addr → Option Value) (call : CallF) (yc : YieldF) (lim k : Nat) (x0 x1 : AV) (H : Heap) : Res :=
  purK (nilChkA x0) fun x7 =>
  purK (addA 2 x7) fun x8 =>
  purK (ld1 ρ H x8) fun x9 =>
  resK (call lim 159 [x9] H) fun x10 H =>
  purK (binA Tryz.prog H .rem 3 x1 x10) fun x11 =>
  retK [x11] H
theorem G120 (ρ : Addr → Option Value) (call : CallF) (yc : YieldF) (lim k : Nat) (x0 x1 : AV) (H : Heap) :
    evL (cx ρ) call yc false 120 lim k c120 [x0, x1, (.tup []), (.tup []), (.tup []), (.tup []), (.tup []), (.tup []), (.tup []), (.tup []), (.tup []), (.tup [])] H (kk none (fun s H => retK (([4] : List Nat).map fun t => s.getD t (.tup [])) H) [] retK [4]) = L120 ρ call yc lim k x0 x1 H := by
  kernel_rfl
theorem E120 (ρ : Addr → Option Value) (k lim : Nat) (x0 x1 : AV) (H : Heap) : evCall (cx ρ) (k + 1) lim 120 [x0, x1] H = L120 ρ (evCall (cx ρ) k) (evCY (cx ρ) k).2 lim k x0 x1 H := by
  rw [evCall_body (cx ρ) k lim 120 _ H Tryz.f120 c120 [4] (by kernel_rfl) (by kernel_rfl) (by kernel_rfl) (by kernel_rfl) (by kernel_rfl)]
  exact G120 ρ (evCall (cx ρ) k) (evCY (cx ρ) k).2 lim k x0 x1 H
-- math/bits.Len
noncomputable def c138 : Code := Code.of Tryz.prog 138
noncomputable def L138 (ρ : Addr → Option Value) (call : CallF) (yc : YieldF) (lim k : Nat) (x0 : AV) (H : Heap) : Res :=
  condK (.bool false)
  (
    purK (cvI .u32 x0) fun x4 =>
    resK (call lim 217 [x4] H) fun x5 H =>
    retK [x5] H)
  (
    resK (call lim 218 [x0] H) fun x7 H =>
    retK [x7] H)
theorem G138 (ρ : Addr → Option Value) (call : CallF) (yc : YieldF) (lim k : Nat) (x0 : AV) (H : Heap) :
    evL (cx ρ) call yc false 138 lim k c138 [x0, (.tup []), (.tup []), (.tup []), (.tup []), (.tup []), (.tup []), (.tup [])] H (kk none (fun s H => retK (([2] : List Nat).map fun t => s.getD t (.tup [])) H) [] retK [2]) = L138 ρ call yc lim k x0 H := by
  kernel_rfl
theorem E138 (ρ : Addr → Option Value) (k lim : Nat) (x0 : AV) (H : Heap) : evCall (cx ρ) (k + 1) lim 138 [x0] H = L138 ρ (evCall (cx ρ) k) (evCY (cx ρ) k).2 lim k x0 H := by
  rw [evCall_body (cx ρ) k lim 138 _ H Tryz.f138 c138 [2] (by kernel_rfl) (by kernel_rfl) (by kernel_rfl) (by kernel_rfl) (by kernel_rfl)]
  exact G138 ρ (evCall (cx ρ) k) (evCY (cx ρ) k).2 lim k x0 H
-- slices.Sort[[]int,int]
noncomputable def c143 : Code := Code.of Tryz.prog 143
noncomputable def L143 (ρ : Addr → Option Value) (call : CallF) (yc : YieldF) (lim k : Nat) (x0 : AV) (H : Heap) : Res :=
  purK (lenS x0) fun x4 =>
  purK (cvI .u64 x4) fun x8 =>
  resK (call lim 138 [x8] H) fun x9 H =>
  resK (call lim 221 [x0, (.int .i64 0), x4, x9] H) fun x10 H =>
  retK [] H
theorem G143 (ρ : Addr → Option Value) (call : CallF) (yc : YieldF) (lim k : Nat) (x0 : AV) (H : Heap) :
    evL (cx ρ) call yc false 143 lim k c143 [x0, (.tup []), (.tup []), (.tup []), (.tup []), (.tup []), (.tup []), (.tup []), (.tup []), (.tup []), (.tup [])] H (kk none (fun s H => retK (([] : List Nat).map fun t => s.getD t (.tup [])) H) [] retK []) = L143 ρ call yc lim k x0 H := by
  kernel_rfl
theorem E143 (ρ : Addr → Option Value) (k lim : Nat) (x0 : AV) (H : Heap) : evCall (cx ρ) (k + 1) lim 143 [x0] H = L143 ρ (evCall (cx ρ) k) (evCY (cx ρ) k).2 lim k x0 H := by
  rw [evCall_body (cx ρ) k lim 143 _ H Tryz.f143 c143 [] (by kernel_rfl) (by kernel_rfl) (by kernel_rfl) (by kernel_rfl) (by kernel_rfl)]
  exact G143 ρ (evCall (cx ρ) k) (evCY (cx ρ) k).2 lim k x0 H
-- maps.Keys[map[int]haycroft/device.job,int,haycroft/device.job]$1
noncomputable def c144 : Code := Code.of Tryz.prog 144
noncomputable def N144_2b (ρ : Addr → Option Value) (call : CallF) (yc : YieldF) (lim k : Nat) (x0 x5 : AV) (H : Heap) (kn : AV → AV → Heap → Res) (R : List AV → Heap → Res) : Res :=
  effK H (nextA lim H x5 false) fun x6_1 H =>
  purK (extA 0 x6_1) fun x7_1 =>
  condK x7_1
  (
    purK (entryA H x5) fun x8_1 =>
    purK (extA 0 x8_1) fun x9_1 =>
    valK call yc lim x0 [x9_1] H fun x12_1 H =>
    purK (unA .not x12_1) fun x13_1 =>
    condK x13_1
    (
      R [] H)
    (
      kn x0 x5 H))
  (
    R [] H)
theorem N144_2b_eq (ρ : Addr → Option Value) (call : CallF) (yc : YieldF) (lim k : Nat) (x0 x5 : AV) (H : Heap) (kn : KS) (R : List AV → Heap → Res) :
    evL (cx ρ) call yc false 144 lim k (Code.at [1, 0, 0] c144) (sp 14 [(0, x0), (5, x5)]) H (kk (some [0, 5]) kn [(0, none, (fun s H => R (([] : List Nat).map fun t => s.getD t (.tup [])) H))] R []) = N144_2b ρ call yc lim k x0 x5 H (fun x0 x5 H => kn (sp 14 [(0, x0), (5, x5)]) H) R := by
  kernel_rfl
noncomputable def N144_2 (ρ : Addr → Option Value) (call : CallF) (yc : YieldF) (lim k : Nat) (x0 x5 : AV) (H : Heap) (R : List AV → Heap → Res) : Res :=
  loopL (fun (x : Unit) H kn => N144_2b ρ call yc lim k x0 x5 H (fun _ _ H => kn () H) R) k () H
theorem N144_2_eq (ρ : Addr → Option Value) (call : CallF) (yc : YieldF) (lim k : Nat) (x0 x5 : AV) (H : Heap) (R : List AV → Heap → Res) :
    evL (cx ρ) call yc false 144 lim k (Code.at [1, 0] c144) (sp 14 [(0, x0), (5, x5)]) H (kk none (fun s H => R (([] : List Nat).map fun t => s.getD t (.tup [])) H) [(0, none, (fun s H => R (([] : List Nat).map fun t => s.getD t (.tup [])) H))] R []) = N144_2 ρ call yc lim k x0 x5 H R := by
  have e : Code.at [1, 0] c144 = .loop (Code.at [1, 0, 0] c144) := by kernel_rfl
  rw [e]
  unfold N144_2
  exact loop_node [0, 5] (fun x : Unit => (sp 14 [(0, x0), (5, x5)])) (fun (x : Unit) H kn => N144_2b ρ call yc lim k x0 x5 H (fun _ _ H => kn () H) R) (by kernel_rfl) (fun x => by kernel_rfl) (fun x H kn => N144_2b_eq ρ call yc lim k x0 x5 H kn R) () (sp 14 [(0, x0), (5, x5)]) H (by kernel_rfl)
noncomputable def N144_1 (ρ : Addr → Option Value) (call : CallF) (yc : YieldF) (lim k : Nat) (x0 x5 : AV) (H : Heap) (R : List AV → Heap → Res) : Res :=
  N144_2 ρ call yc lim k x0 x5 H R
theorem N144_1_x (ρ : Addr → Option Value) (call : CallF) (yc : YieldF) (lim k : Nat) (J : CodeF) (x0 x5 : AV) (H : Heap) (R : List AV → Heap → Res) :
    evX (cx ρ) call yc false 144 lim k J (Code.at [1] c144) (sp 14 [(0, x0), (5, x5)]) H (kk none (fun s H => R (([] : List Nat).map fun t => s.getD t (.tup [])) H) [] R []) =
  J (Code.at [1, 0] c144) (sp 14 [(0, x0), (5, x5)]) H (kk none (fun s H => R (([] : List Nat).map fun t => s.getD t (.tup [])) H) [(0, none, (fun s H => R (([] : List Nat).map fun t => s.getD t (.tup [])) H))] R []) := by
  kernel_rfl
theorem N144_1_eq (ρ : Addr → Option Value) (call : CallF) (yc : YieldF) (lim k : Nat) (x0 x5 : AV) (H : Heap) (R : List AV → Heap → Res) :
    evL (cx ρ) call yc false 144 lim k (Code.at [1] c144) (sp 14 [(0, x0), (5, x5)]) H (kk none (fun s H => R (([] : List Nat).map fun t => s.getD t (.tup [])) H) [] R []) = N144_1 ρ call yc lim k x0 x5 H R := by
  rw [evL_X, N144_1_x]
  simp only [← evL_X, N144_1, N144_2_eq]
noncomputable def L144 (ρ : Addr → Option Value) (call : CallF) (yc : YieldF) (lim k : Nat) (x0 x1 : AV) (H : Heap) : Res :=
  purK (ld1 ρ H x1) fun x4 =>
  effK H (rangeA H Tryz.prog 94 x4) fun x5 H =>
  N144_1 ρ call yc lim k x0 x5 H retK
theorem L144_x (ρ : Addr → Option Value) (call : CallF) (yc : YieldF) (lim k : Nat) (J : CodeF) (x0 x1 : AV) (H : Heap) :
    evX (cx ρ) call yc false 144 lim k J c144 [x0, x1, (.tup []), (.tup []), (.tup []), (.tup []), (.tup []), (.tup []), (.tup []), (.tup []), (.tup []), (.tup []), (.tup []), (.tup [])] H (kk none (fun s H => retK (([] : List Nat).map fun t => s.getD t (.tup [])) H) [] retK []) =
  purK (ld1 ρ H x1) fun x4 =>
  effK H (rangeA H Tryz.prog 94 x4) fun x5 H =>
  J (Code.at [1] c144) (sp 14 [(0, x0), (5, x5)]) H (kk none (fun s H => retK (([] : List Nat).map fun t => s.getD t (.tup [])) H) [] retK []) := by
  kernel_rfl
theorem G144 (ρ : Addr → Option Value) (call : CallF) (yc : YieldF) (lim k : Nat) (x0 x1 : AV) (H : Heap) :
    evL (cx ρ) call yc false 144 lim k c144 [x0, x1, (.tup []), (.tup []), (.tup []), (.tup []), (.tup []), (.tup []), (.tup []), (.tup []), (.tup []), (.tup []), (.tup []), (.tup [])] H (kk none (fun s H => retK (([] : List Nat).map fun t => s.getD t (.tup [])) H) [] retK []) = L144 ρ call yc lim k x0 x1 H := by
  rw [evL_X, L144_x]
  simp only [← evL_X, L144, N144_1_eq]
theorem E144 (ρ : Addr → Option Value) (k lim : Nat) (x0 x1 : AV) (H : Heap) : evCall (cx ρ) (k + 1) lim 144 [x0, x1] H = L144 ρ (evCall (cx ρ) k) (evCY (cx ρ) k).2 lim k x0 x1 H := by
  rw [evCall_body (cx ρ) k lim 144 _ H Tryz.f144 c144 [] (by kernel_rfl) (by kernel_rfl) (by kernel_rfl) (by kernel_rfl) (by kernel_rfl)]
  exact G144 ρ (evCall (cx ρ) k) (evCY (cx ρ) k).2 lim k x0 x1 H
-- (*haycroft/device.Device).Peek
noncomputable def c145 : Code := Code.of Tryz.prog 145
noncomputable def L145 (ρ : Addr → Option Value) (call : CallF) (yc : YieldF) (lim k : Nat) (x0 x1 : AV) (H : Heap) : Res :=
  effK H (boxA H 133 x1) fun x3 H =>
  purK (binA Tryz.prog H .eql 64 x0 .nilp) fun x9 =>
  condK x9
  (
    retK [(.str (ByteArray.mk #[])), (.bool false)] H)
  (
    purK (nilChkA x0) fun x12 =>
    purK (addA 1 x12) fun x13 =>
    purK (ld1 ρ H x13) fun x14 =>
    purK (ldN ρ H 2 x3) fun x15 =>
    purK (lookupA (cx ρ) H 93 x14 x15 true) fun x16 =>
    purK (extA 0 x16) fun x17 =>
    purK (extA 1 x16) fun x18 =>
    retK [x17, x18] H)
theorem G145 (ρ : Addr → Option Value) (call : CallF) (yc : YieldF) (lim k : Nat) (x0 x1 : AV) (H : Heap) :
    evL (cx ρ) call yc false 145 lim k c145 [x0, x1, (.tup []), (.tup []), (.tup []), (.tup []), (.tup []), (.tup []), (.tup []), (.tup []), (.tup []), (.tup []), (.tup []), (.tup []), (.tup []), (.tup []), (.tup []), (.tup []), (.tup []), (.tup []), (.tup [])] H (kk none (fun s H => retK (([4, 5] : List Nat).map fun t => s.getD t (.tup [])) H) [] retK [4, 5]) = L145 ρ call yc lim k x0 x1 H := by
  kernel_rfl
theorem E145 (ρ : Addr → Option Value) (k lim : Nat) (x0 x1 : AV) (H : Heap) : evCall (cx ρ) (k + 1) lim 145 [x0, x1] H = L145 ρ (evCall (cx ρ) k) (evCY (cx ρ) k).2 lim k x0 x1 H := by
  rw [evCall_body (cx ρ) k lim 145 _ H Tryz.f145 c145 [4, 5] (by kernel_rfl) (by kernel_rfl) (by kernel_rfl) (by kernel_rfl) (by kernel_rfl)]
  exact G145 ρ (evCall (cx ρ) k) (evCY (cx ρ) k).2 lim k x0 x1 H
-- haycroft/image.Heard
noncomputable def c146 : Code := Code.of Tryz.prog 146
noncomputable def L146 (ρ : Addr → Option Value) (call : CallF) (yc : YieldF) (lim k : Nat) (x0 : AV) (H : Heap) : Res :=
  effK H (some (.ptr H.sz 0 0, .new (newCells 229 false [.int .i64 0, .int .i64 0, .int .u64 0]))) fun x2 H =>
  purK (lenT x0) fun x8 =>
  purK (binA Tryz.prog H .neq 3 x8 (.int .i64 32)) fun x9 =>
  condK x9
  (
    purK (bldA [.int .i64 0, .int .i64 0, .int .u64 0] []) fun x10 =>
    effK H (stA lim H 3 x2 x10) fun _ H =>
    (retC (cx ρ) [some 229, none]) [x2, (.int .i64 4)] H)
  (
    resK (call lim 167 [x0] H) fun x12 H =>
    purK (bldA [.nils, .bool false] [(0, 1, x12)]) fun x13 =>
    effK H (boxA H 316 x13) fun x14 H =>
    resK (call lim 222 [x14] H) fun x16 H =>
    resK (call lim 222 [x14] H) fun x18 H =>
    resK (call lim 223 [x14] H) fun x20 H =>
    purK (bldA [.int .i64 0, .int .i64 0, .int .u64 0] [(0, 1, x16), (1, 1, x18), (2, 1, x20)]) fun x21 =>
    effK H (some (.ptr H.sz 0 0, .new (newCells 229 false [.int .i64 0, .int .i64 0, .int .u64 0]))) fun x5 H =>
    effK H (stA lim H 3 x5 x21) fun _ H =>
    resK (call lim 222 [x14] H) fun x23 H =>
    purK (nilChkA x14) fun x25 =>
    purK (addA 1 x25) fun x26 =>
    purK (ld1 ρ H x26) fun x27 =>
    purK (gPur (wantV x27 false) (some x23)) fun x29 =>
    purK (gPur (wantV x27 false) (addA 0 x5)) fun x30 =>
    purK (gPur (wantV x27 false) (ld1 ρ H x30)) fun x31 =>
    purK (gPur (wantV x27 false) (binA Tryz.prog H .neq 3 x29 x31)) fun x32 =>
    purK (pickA x27 (.bool true) x32) fun x33 =>
    purK (gPur (wantV x33 false) (ldN ρ H 3 x5)) fun x35 =>
    resK (gRes (wantV x33 false) H (call lim 224 [x35] H)) fun x36 H =>
    purK (gPur (wantV x33 false) (unA .not x36)) fun x37 =>
    purK (pickA x33 (.bool true) x37) fun x38 =>
    condK x38
    (
      purK (bldA [.int .i64 0, .int .i64 0, .int .u64 0] []) fun x39 =>
      effK H (stA lim H 3 x2 x39) fun _ H =>
      (retC (cx ρ) [some 229, none]) [x2, (.int .i64 4)] H)
    (
      purK (ldN ρ H 3 x5) fun x40 =>
      effK H (stA lim H 3 x2 x40) fun _ H =>
      (retC (cx ρ) [some 229, none]) [x2, (.int .i64 0)] H))
theorem G146 (ρ : Addr → Option Value) (call : CallF) (yc : YieldF) (lim k : Nat) (x0 : AV) (H : Heap) :
    evL (cx ρ) call yc false 146 lim k c146 [x0, (.tup []), (.tup []), (.tup []), (.tup []), (.tup []), (.tup []), (.tup []), (.tup []), (.tup []), (.tup []), (.tup []), (.tup []), (.tup []), (.tup []), (.tup []), (.tup []), (.tup []), (.tup []), (.tup []), (.tup []), (.tup []), (.tup []), (.tup []), (.tup []), (.tup []), (.tup []), (.tup []), (.tup []), (.tup []), (.tup []), (.tup []), (.tup []), (.tup []), (.tup []), (.tup []), (.tup []), (.tup []), (.tup []), (.tup []), (.tup [])] H (kk none (fun s H => (retC (cx ρ) [some 229, none]) (([2, 3] : List Nat).map fun t => s.getD t (.tup [])) H) [] (retC (cx ρ) [some 229, none]) [2, 3]) = L146 ρ call yc lim k x0 H := by
  kernel_rfl
theorem E146 (ρ : Addr → Option Value) (k lim : Nat) (x0 : AV) (H : Heap) : evCall (cx ρ) (k + 1) lim 146 [x0] H = L146 ρ (evCall (cx ρ) k) (evCY (cx ρ) k).2 lim k x0 H := by
  rw [evCall_cells (cx ρ) k lim 146 _ H Tryz.f146 c146 [2, 3] [some 229, none] (by kernel_rfl) (by kernel_rfl) (by kernel_rfl) (by kernel_rfl) (by kernel_rfl) (by kernel_rfl)]
  exact G146 ρ (evCall (cx ρ) k) (evCY (cx ρ) k).2 lim k x0 H
-- slices.SortStableFunc[[]haycroft/api.Commit,haycroft/api.Commit]
noncomputable def c147 : Code := Code.of Tryz.prog 147
noncomputable def L147 (ρ : Addr → Option Value) (call : CallF) (yc : YieldF) (lim k : Nat) (x0 x1 : AV) (H : Heap) : Res :=
  purK (lenS x0) fun x6 =>
  resK (call lim 225 [x0, x6, x1] H) fun x8 H =>
  retK [] H
theorem G147 (ρ : Addr → Option Value) (call : CallF) (yc : YieldF) (lim k : Nat) (x0 x1 : AV) (H : Heap) :
    evL (cx ρ) call yc false 147 lim k c147 [x0, x1, (.tup []), (.tup []), (.tup []), (.tup []), (.tup []), (.tup []), (.tup [])] H (kk none (fun s H => retK (([] : List Nat).map fun t => s.getD t (.tup [])) H) [] retK []) = L147 ρ call yc lim k x0 x1 H := by
  kernel_rfl
theorem E147 (ρ : Addr → Option Value) (k lim : Nat) (x0 x1 : AV) (H : Heap) : evCall (cx ρ) (k + 1) lim 147 [x0, x1] H = L147 ρ (evCall (cx ρ) k) (evCY (cx ρ) k).2 lim k x0 x1 H := by
  rw [evCall_body (cx ρ) k lim 147 _ H Tryz.f147 c147 [] (by kernel_rfl) (by kernel_rfl) (by kernel_rfl) (by kernel_rfl) (by kernel_rfl)]
  exact G147 ρ (evCall (cx ρ) k) (evCY (cx ρ) k).2 lim k x0 x1 H
-- haycroft/hlog.New
noncomputable def c153 : Code := Code.of Tryz.prog 153
noncomputable def L153 (ρ : Addr → Option Value) (call : CallF) (yc : YieldF) (lim k : Nat) (x0 x1 : AV) (H : Heap) : Res :=
  effK H (boxA H 47 x0) fun x2 H =>
  purK (binA Tryz.prog H .eql 64 x1 .nilp) fun x13 =>
  condK x13
  (
    retK [.nilp, (.int .i64 2)] H)
  (
    purK (addA 0 x2) fun x15 =>
    purK (ld1 ρ H x15) fun x16 =>
    purK (addA 2 x2) fun x17 =>
    purK (ld1 ρ H x17) fun x18 =>
    resK (call lim 233 [x16, x18] H) fun x19 H =>
    purK (extA 0 x19) fun x20 =>
    purK (extA 1 x19) fun x21 =>
    purK (addA 0 x2) fun x23 =>
    purK (ld1 ρ H x23) fun x24 =>
    purK (addA 1 x2) fun x25 =>
    purK (ld1 ρ H x25) fun x26 =>
    resK (call lim 234 [x24, x26] H) fun x27 H =>
    purK (extA 0 x27) fun x28 =>
    purK (extA 1 x27) fun x29 =>
    purK (addA 5 x2) fun x31 =>
    purK (ld1 ρ H x31) fun x32 =>
    resK (call lim 235 [x32] H) fun x33 H =>
    purK (extA 0 x33) fun x34 =>
    purK (extA 1 x33) fun x35 =>
    purK (binA Tryz.prog H .neq 30 x21 (.int .i64 0)) fun x37 =>
    purK (gPur (wantV x37 false) (some x29)) fun x39 =>
    purK (gPur (wantV x37 false) (binA Tryz.prog H .neq 30 x39 (.int .i64 0))) fun x40 =>
    purK (pickA x37 (.bool true) x40) fun x41 =>
    purK (gPur (wantV x41 false) (some x35)) fun x43 =>
    purK (gPur (wantV x41 false) (binA Tryz.prog H .neq 30 x43 (.int .i64 0))) fun x44 =>
    purK (pickA x41 (.bool true) x44) fun x45 =>
    condK x45
    (
      retK [.nilp, (.int .i64 1)] H)
    (
      resK (call lim 236 [] H) fun x48 H =>
      resK (call lim 237 [] H) fun x50 H =>
      effK H (some (makeMapA H)) fun x52 H =>
      effK H (some (makeMapA H)) fun x53 H =>
      purK (bldA [.nilp, .nilp, .nilp, .nilp, .nilp, .nilp, .nilm, .nilm] [(0, 1, x20), (1, 1, x28), (2, 1, x48), (3, 1, x34), (4, 1, x50), (5, 1, x1), (6, 1, x52), (7, 1, x53)]) fun x54 =>
      effK H (boxA H 125 x54) fun x55 H =>
      resK (call lim 238 [x28, (.int .i64 0)] H) fun x57 H =>
      retK [x55, x57] H))
theorem G153 (ρ : Addr → Option Value) (call : CallF) (yc : YieldF) (lim k : Nat) (x0 x1 : AV) (H : Heap) :
    evL (cx ρ) call yc false 153 lim k c153 [x0, x1, (.tup []), (.tup []), (.tup []), (.tup []), (.tup []), (.tup []), (.tup []), (.tup []), (.tup []), (.tup []), (.tup []), (.tup []), (.tup []), (.tup []), (.tup []), (.tup []), (.tup []), (.tup []), (.tup []), (.tup []), (.tup []), (.tup []), (.tup []), (.tup []), (.tup []), (.tup []), (.tup []), (.tup []), (.tup []), (.tup []), (.tup []), (.tup []), (.tup []), (.tup []), (.tup []), (.tup []), (.tup []), (.tup []), (.tup []), (.tup []), (.tup []), (.tup []), (.tup []), (.tup []), (.tup []), (.tup []), (.tup []), (.tup []), (.tup []), (.tup []), (.tup []), (.tup []), (.tup []), (.tup []), (.tup []), (.tup [])] H (kk none (fun s H => retK (([4, 5] : List Nat).map fun t => s.getD t (.tup [])) H) [] retK [4, 5]) = L153 ρ call yc lim k x0 x1 H := by
  kernel_rfl
theorem E153 (ρ : Addr → Option Value) (k lim : Nat) (x0 x1 : AV) (H : Heap) : evCall (cx ρ) (k + 1) lim 153 [x0, x1] H = L153 ρ (evCall (cx ρ) k) (evCY (cx ρ) k).2 lim k x0 x1 H := by
  rw [evCall_body (cx ρ) k lim 153 _ H Tryz.f153 c153 [4, 5] (by kernel_rfl) (by kernel_rfl) (by kernel_rfl) (by kernel_rfl) (by kernel_rfl)]
  exact G153 ρ (evCall (cx ρ) k) (evCY (cx ρ) k).2 lim k x0 x1 H
-- haycroft/index.New
noncomputable def c154 : Code := Code.of Tryz.prog 154
noncomputable def L154 (ρ : Addr → Option Value) (call : CallF) (yc : YieldF) (lim k : Nat) (x0 x1 : AV) (H : Heap) : Res :=
  resK (call lim 87 [x0] H) fun x10 H =>
  purK (unA .not x10) fun x11 =>
  purK (gPur (wantV x11 false) (some x1)) fun x13 =>
  purK (gPur (wantV x11 false) (binA Tryz.prog H .lss 3 x13 (.int .i64 0))) fun x14 =>
  purK (pickA x11 (.bool true) x14) fun x15 =>
  purK (gPur (wantV x15 false) (some x1)) fun x17 =>
  purK (gPur (wantV x15 false) (binA Tryz.prog H .gtr 3 x17 (.int .i64 64))) fun x18 =>
  purK (pickA x15 (.bool true) x18) fun x19 =>
  condK x19
  (
    retK [.nilp, (.int .i64 1)] H)
  (
    purK (binA Tryz.prog H .add 3 x0 x1) fun x23 =>
    purK (binA Tryz.prog H .mul 3 x23 (.int .i64 8)) fun x24 =>
    resK (call lim 239 [x24] H) fun x25 H =>
    purK (extA 0 x25) fun x26 =>
    purK (extA 1 x25) fun x27 =>
    purK (binA Tryz.prog H .neq 30 x27 (.int .i64 0)) fun x29 =>
    condK x29
    (
      retK [.nilp, x27] H)
    (
      resK (call lim 239 [(.int .i64 1)] H) fun x32 H =>
      purK (extA 0 x32) fun x33 =>
      purK (extA 1 x32) fun x34 =>
      purK (binA Tryz.prog H .neq 30 x34 (.int .i64 0)) fun x36 =>
      condK x36
      (
        retK [.nilp, x34] H)
      (
        purK (bldA [.int .i64 0, .int .i64 0, .nilp, .nilp] [(0, 1, x0), (1, 1, x1), (2, 1, x26), (3, 1, x33)]) fun x42 =>
        effK H (boxA H 333 x42) fun x43 H =>
        retK [x43, (.int .i64 0)] H)))
theorem G154 (ρ : Addr → Option Value) (call : CallF) (yc : YieldF) (lim k : Nat) (x0 x1 : AV) (H : Heap) :
    evL (cx ρ) call yc false 154 lim k c154 [x0, x1, (.tup []), (.tup []), (.tup []), (.tup []), (.tup []), (.tup []), (.tup []), (.tup []), (.tup []), (.tup []), (.tup []), (.tup []), (.tup []), (.tup []), (.tup []), (.tup []), (.tup []), (.tup []), (.tup []), (.tup []), (.tup []), (.tup []), (.tup []), (.tup []), (.tup []), (.tup []), (.tup []), (.tup []), (.tup []), (.tup []), (.tup []), (.tup []), (.tup []), (.tup []), (.tup []), (.tup []), (.tup []), (.tup []), (.tup []), (.tup []), (.tup []), (.tup [])] H (kk none (fun s H => retK (([4, 5] : List Nat).map fun t => s.getD t (.tup [])) H) [] retK [4, 5]) = L154 ρ call yc lim k x0 x1 H := by
  kernel_rfl
theorem E154 (ρ : Addr → Option Value) (k lim : Nat) (x0 x1 : AV) (H : Heap) : evCall (cx ρ) (k + 1) lim 154 [x0, x1] H = L154 ρ (evCall (cx ρ) k) (evCY (cx ρ) k).2 lim k x0 x1 H := by
  rw [evCall_body (cx ρ) k lim 154 _ H Tryz.f154 c154 [4, 5] (by kernel_rfl) (by kernel_rfl) (by kernel_rfl) (by kernel_rfl) (by kernel_rfl)]
  exact G154 ρ (evCall (cx ρ) k) (evCY (cx ρ) k).2 lim k x0 x1 H
-- haycroft/session.New
noncomputable def c155 : Code := Code.of Tryz.prog 155
noncomputable def L155 (ρ : Addr → Option Value) (call : CallF) (yc : YieldF) (lim k : Nat) (x0 x1 x2 : AV) (H : Heap) : Res :=
  purK (binA Tryz.prog H .eql 71 x0 .nilp) fun x10 =>
  purK (gPur (wantV x10 false) (some x1)) fun x12 =>
  purK (gPur (wantV x10 false) (binA Tryz.prog H .eql 72 x12 .nilp)) fun x13 =>
  purK (pickA x10 (.bool true) x13) fun x14 =>
  condK x14
  (
    retK [.nilp, (.int .i64 2)] H)
  (
    purK (binA Tryz.prog H .lss 3 x2 (.int .i64 0)) fun x17 =>
    purK (gPur (wantV x17 false) (some x2)) fun x19 =>
    purK (gPur (wantV x17 false) (binA Tryz.prog H .geq 3 x19 (.int .i64 8))) fun x20 =>
    purK (pickA x17 (.bool true) x20) fun x21 =>
    condK x21
    (
      retK [.nilp, (.int .i64 1)] H)
    (
      effK H (some (makeMapA H)) fun x25 H =>
      purK (bldA [.nilp, .nilp, .int .i64 0, .int .i64 0, .bool false, .nilp, .nils, .int .i64 0, .nilm, .int .i64 0] [(0, 1, x0), (1, 1, x1), (2, 1, x2), (8, 1, x25)]) fun x26 =>
      effK H (boxA H 104 x26) fun x27 H =>
      retK [x27, (.int .i64 0)] H))
theorem G155 (ρ : Addr → Option Value) (call : CallF) (yc : YieldF) (lim k : Nat) (x0 x1 x2 : AV) (H : Heap) :
    evL (cx ρ) call yc false 155 lim k c155 [x0, x1, x2, (.tup []), (.tup []), (.tup []), (.tup []), (.tup []), (.tup []), (.tup []), (.tup []), (.tup []), (.tup []), (.tup []), (.tup []), (.tup []), (.tup []), (.tup []), (.tup []), (.tup []), (.tup []), (.tup []), (.tup []), (.tup []), (.tup []), (.tup []), (.tup []), (.tup [])] H (kk none (fun s H => retK (([6, 7] : List Nat).map fun t => s.getD t (.tup [])) H) [] retK [6, 7]) = L155 ρ call yc lim k x0 x1 x2 H := by
  kernel_rfl
theorem E155 (ρ : Addr → Option Value) (k lim : Nat) (x0 x1 x2 : AV) (H : Heap) : evCall (cx ρ) (k + 1) lim 155 [x0, x1, x2] H = L155 ρ (evCall (cx ρ) k) (evCY (cx ρ) k).2 lim k x0 x1 x2 H := by
  rw [evCall_body (cx ρ) k lim 155 _ H Tryz.f155 c155 [6, 7] (by kernel_rfl) (by kernel_rfl) (by kernel_rfl) (by kernel_rfl) (by kernel_rfl)]
  exact G155 ρ (evCall (cx ρ) k) (evCY (cx ρ) k).2 lim k x0 x1 x2 H
-- haycroft/task.Right
noncomputable def c156 : Code := Code.of Tryz.prog 156
noncomputable def N156_1 (ρ : Addr → Option Value) (call : CallF) (yc : YieldF) (lim k : Nat) (H : Heap) (R : List AV → Heap → Res) : Res :=
  R [(.int .i64 0)] H
theorem N156_1_eq (ρ : Addr → Option Value) (call : CallF) (yc : YieldF) (lim k : Nat) (H : Heap) (R : List AV → Heap → Res) :
    evL (cx ρ) call yc false 156 lim k (Code.at [1, 1] c156) (sp 29 []) H (kk none (fun s H => R (([2] : List Nat).map fun t => s.getD t (.tup [])) H) [] R [2]) = N156_1 ρ call yc lim k H R := by
  kernel_rfl
noncomputable def N156_3 (ρ : Addr → Option Value) (call : CallF) (yc : YieldF) (lim k : Nat) (x15 : AV) (H : Heap) (kn : Heap → Res) (R : List AV → Heap → Res) : Res :=
  condK x15
  (
    R [(.int .i64 5)] H)
  (
    kn H)
theorem N156_3_eq (ρ : Addr → Option Value) (call : CallF) (yc : YieldF) (lim k : Nat) (x15 : AV) (H : Heap) (kn : KS) (k0 : KS) (R : List AV → Heap → Res) :
    evL (cx ρ) call yc false 156 lim k (Code.at [1, 0, 0, 1, 1, 1] c156) (sp 29 [(15, x15)]) H (kk (some []) kn [(0, (some []), k0)] R [2]) = N156_3 ρ call yc lim k x15 H (fun H => kn (sp 29 []) H) R := by
  kernel_rfl
noncomputable def N156_2 (ρ : Addr → Option Value) (call : CallF) (yc : YieldF) (lim k : Nat) (x1 x3 : AV) (H : Heap) (kn : Heap → Res) (R : List AV → Heap → Res) : Res :=
  condK x3
  (
    R [(.int .i64 1)] H)
  (
    purK (addA 1 x1) fun x16_1 =>
    purK (ld1 ρ H x16_1) fun x17_1 =>
    purK (lenT x17_1) fun x18_1 =>
    purK (binA Tryz.prog H .gtr 3 x18_1 (.int .i64 64)) fun x19_1 =>
    condK x19_1
    (
      N156_3 ρ call yc lim k x19_1 H kn R)
    (
      purK (addA 0 x1) fun x20_1 =>
      purK (ld1 ρ H x20_1) fun x21_1 =>
      purK (binA Tryz.prog H .eql 3 x21_1 (.int .i64 2)) fun x22_1 =>
      purK (gPur (wantV x22_1 true) (addA 2 x1)) fun x24_1 =>
      purK (gPur (wantV x22_1 true) (ld1 ρ H x24_1)) fun x25_1 =>
      purK (gPur (wantV x22_1 true) (lenT x25_1)) fun x26_1 =>
      purK (gPur (wantV x22_1 true) (binA Tryz.prog H .gtr 3 x26_1 (.int .i64 128))) fun x27_1 =>
      purK (pickA x22_1 x27_1 (.bool false)) fun x28_1 =>
      N156_3 ρ call yc lim k x28_1 H kn R))
theorem N156_2_x (ρ : Addr → Option Value) (call : CallF) (yc : YieldF) (lim k : Nat) (J : CodeF) (x1 x3 : AV) (H : Heap) (kn : KS) (k0 : KS) (R : List AV → Heap → Res) :
    evX (cx ρ) call yc false 156 lim k J (Code.at [1, 0, 0, 1] c156) (sp 29 [(1, x1), (3, x3)]) H (kk (some []) kn [(0, (some []), k0)] R [2]) =
  condK x3
  (
    R [(.int .i64 1)] H)
  (
    purK (addA 1 x1) fun x16_1 =>
    purK (ld1 ρ H x16_1) fun x17_1 =>
    purK (lenT x17_1) fun x18_1 =>
    purK (binA Tryz.prog H .gtr 3 x18_1 (.int .i64 64)) fun x19_1 =>
    condK x19_1
    (
      J (Code.at [1, 0, 0, 1, 1, 1] c156) (sp 29 [(15, x19_1)]) H (kk (some []) kn [(0, (some []), k0)] R [2]))
    (
      purK (addA 0 x1) fun x20_1 =>
      purK (ld1 ρ H x20_1) fun x21_1 =>
      purK (binA Tryz.prog H .eql 3 x21_1 (.int .i64 2)) fun x22_1 =>
      purK (gPur (wantV x22_1 true) (addA 2 x1)) fun x24_1 =>
      purK (gPur (wantV x22_1 true) (ld1 ρ H x24_1)) fun x25_1 =>
      purK (gPur (wantV x22_1 true) (lenT x25_1)) fun x26_1 =>
      purK (gPur (wantV x22_1 true) (binA Tryz.prog H .gtr 3 x26_1 (.int .i64 128))) fun x27_1 =>
      purK (pickA x22_1 x27_1 (.bool false)) fun x28_1 =>
      J (Code.at [1, 0, 0, 1, 1, 1] c156) (sp 29 [(15, x28_1)]) H (kk (some []) kn [(0, (some []), k0)] R [2]))) := by
  kernel_rfl
theorem N156_2_eq (ρ : Addr → Option Value) (call : CallF) (yc : YieldF) (lim k : Nat) (x1 x3 : AV) (H : Heap) (kn : KS) (k0 : KS) (R : List AV → Heap → Res) :
    evL (cx ρ) call yc false 156 lim k (Code.at [1, 0, 0, 1] c156) (sp 29 [(1, x1), (3, x3)]) H (kk (some []) kn [(0, (some []), k0)] R [2]) = N156_2 ρ call yc lim k x1 x3 H (fun H => kn (sp 29 []) H) R := by
  rw [evL_X, N156_2_x]
  simp only [← evL_X, N156_2, N156_3_eq]
noncomputable def L156 (ρ : Addr → Option Value) (call : CallF) (yc : YieldF) (lim k : Nat) (x0 : AV) (H : Heap) : Res :=
  effK H (boxA H 24 x0) fun x1 H =>
  purK (addA 0 x1) fun x4 =>
  purK (ld1 ρ H x4) fun x5 =>
  purK (binA Tryz.prog H .lss 3 x5 (.int .i64 1)) fun x6 =>
  purK (gPur (wantV x6 false) (addA 0 x1)) fun x8 =>
  purK (gPur (wantV x6 false) (ld1 ρ H x8)) fun x9 =>
  purK (gPur (wantV x6 false) (binA Tryz.prog H .gtr 3 x9 (.int .i64 4))) fun x10 =>
  purK (pickA x6 (.bool true) x10) fun x11 =>
  condK x11
  (
    N156_2 ρ call yc lim k x1 x11 H (fun H =>
      N156_1 ρ call yc lim k H retK) retK)
  (
    purK (addA 1 x1) fun x12 =>
    purK (ld1 ρ H x12) fun x13 =>
    purK (binA Tryz.prog H .eql 9 x13 (.str (ByteArray.mk #[]))) fun x14 =>
    N156_2 ρ call yc lim k x1 x14 H (fun H =>
      N156_1 ρ call yc lim k H retK) retK)
theorem L156_x (ρ : Addr → Option Value) (call : CallF) (yc : YieldF) (lim k : Nat) (J : CodeF) (x0 : AV) (H : Heap) :
    evX (cx ρ) call yc false 156 lim k J c156 [x0, (.tup []), (.tup []), (.tup []), (.tup []), (.tup []), (.tup []), (.tup []), (.tup []), (.tup []), (.tup []), (.tup []), (.tup []), (.tup []), (.tup []), (.tup []), (.tup []), (.tup []), (.tup []), (.tup []), (.tup []), (.tup []), (.tup []), (.tup []), (.tup []), (.tup []), (.tup []), (.tup []), (.tup [])] H (kk none (fun s H => retK (([2] : List Nat).map fun t => s.getD t (.tup [])) H) [] retK [2]) =
  effK H (boxA H 24 x0) fun x1 H =>
  purK (addA 0 x1) fun x4 =>
  purK (ld1 ρ H x4) fun x5 =>
  purK (binA Tryz.prog H .lss 3 x5 (.int .i64 1)) fun x6 =>
  purK (gPur (wantV x6 false) (addA 0 x1)) fun x8 =>
  purK (gPur (wantV x6 false) (ld1 ρ H x8)) fun x9 =>
  purK (gPur (wantV x6 false) (binA Tryz.prog H .gtr 3 x9 (.int .i64 4))) fun x10 =>
  purK (pickA x6 (.bool true) x10) fun x11 =>
  condK x11
  (
    J (Code.at [1, 0, 0, 1] c156) (sp 29 [(1, x1), (3, x11)]) H (kk (some []) (fun s H => J (Code.at [1, 1] c156) s H (kk none (fun s H => retK (([2] : List Nat).map fun t => s.getD t (.tup [])) H) [] retK [2])) [(0, (some []), (fun s H => J (Code.at [1, 1] c156) s H (kk none (fun s H => retK (([2] : List Nat).map fun t => s.getD t (.tup [])) H) [] retK [2])))] retK [2]))
  (
    purK (addA 1 x1) fun x12 =>
    purK (ld1 ρ H x12) fun x13 =>
    purK (binA Tryz.prog H .eql 9 x13 (.str (ByteArray.mk #[]))) fun x14 =>
    J (Code.at [1, 0, 0, 1] c156) (sp 29 [(1, x1), (3, x14)]) H (kk (some []) (fun s H => J (Code.at [1, 1] c156) s H (kk none (fun s H => retK (([2] : List Nat).map fun t => s.getD t (.tup [])) H) [] retK [2])) [(0, (some []), (fun s H => J (Code.at [1, 1] c156) s H (kk none (fun s H => retK (([2] : List Nat).map fun t => s.getD t (.tup [])) H) [] retK [2])))] retK [2])) := by
  kernel_rfl
theorem G156 (ρ : Addr → Option Value) (call : CallF) (yc : YieldF) (lim k : Nat) (x0 : AV) (H : Heap) :
    evL (cx ρ) call yc false 156 lim k c156 [x0, (.tup []), (.tup []), (.tup []), (.tup []), (.tup []), (.tup []), (.tup []), (.tup []), (.tup []), (.tup []), (.tup []), (.tup []), (.tup []), (.tup []), (.tup []), (.tup []), (.tup []), (.tup []), (.tup []), (.tup []), (.tup []), (.tup []), (.tup []), (.tup []), (.tup []), (.tup []), (.tup []), (.tup [])] H (kk none (fun s H => retK (([2] : List Nat).map fun t => s.getD t (.tup [])) H) [] retK [2]) = L156 ρ call yc lim k x0 H := by
  rw [evL_X, L156_x]
  simp only [← evL_X, L156, N156_1_eq, N156_2_eq]
theorem E156 (ρ : Addr → Option Value) (k lim : Nat) (x0 : AV) (H : Heap) : evCall (cx ρ) (k + 1) lim 156 [x0] H = L156 ρ (evCall (cx ρ) k) (evCY (cx ρ) k).2 lim k x0 H := by
  rw [evCall_body (cx ρ) k lim 156 _ H Tryz.f156 c156 [2] (by kernel_rfl) (by kernel_rfl) (by kernel_rfl) (by kernel_rfl) (by kernel_rfl)]
  exact G156 ρ (evCall (cx ρ) k) (evCY (cx ρ) k).2 lim k x0 H
-- haycroft/mix.Key
noncomputable def c157 : Code := Code.of Tryz.prog 157
noncomputable def N157_2 (ρ : Addr → Option Value) (call : CallF) (yc : YieldF) (lim k : Nat) (x3 : AV) (H : Heap) (R : List AV → Heap → Res) : Res :=
  R [x3] H
theorem N157_2_eq (ρ : Addr → Option Value) (call : CallF) (yc : YieldF) (lim k : Nat) (x3 : AV) (H : Heap) (R : List AV → Heap → Res) :
    evL (cx ρ) call yc false 157 lim k (Code.at [1, 1, 1, 1] c157) (sp 32 [(3, x3)]) H (kk none (fun s H => R (([2] : List Nat).map fun t => s.getD t (.tup [])) H) [] R [2]) = N157_2 ρ call yc lim k x3 H R := by
  kernel_rfl
noncomputable def N157_5 (ρ : Addr → Option Value) (call : CallF) (yc : YieldF) (lim k : Nat) (x3 x19 : AV) (H : Heap) (kn : AV → AV → Heap → Res) : Res :=
  purK (binA Tryz.prog H .add 3 x19 (.int .i64 1)) fun x30_1 =>
  kn x3 x30_1 H
theorem N157_5_eq (ρ : Addr → Option Value) (call : CallF) (yc : YieldF) (lim k : Nat) (x3 x19 : AV) (H : Heap) (kn : KS) (k2 : KS) (R : List AV → Heap → Res) :
    evL (cx ρ) call yc false 157 lim k (Code.at [1, 1, 1, 0, 1, 0, 0, 1, 1, 1] c157) (sp 32 [(3, x3), (19, x19)]) H (kk (some [3, 19]) kn [(2, (some [3]), k2)] R [2]) = N157_5 ρ call yc lim k x3 x19 H (fun x3 x19 H => kn (sp 32 [(3, x3), (19, x19)]) H) := by
  kernel_rfl
noncomputable def N157_4b (ρ : Addr → Option Value) (call : CallF) (yc : YieldF) (lim k : Nat) (x3 x19 : AV) (H : Heap) (kn : AV → AV → Heap → Res) (k2 : AV → Heap → Res) : Res :=
  purK (binA Tryz.prog H .lss 3 x19 (.int .i64 3)) fun x20_1 =>
  condK x20_1
  (
    purK (binA Tryz.prog H .shr 22 x3 (.int .u64 32)) fun x24_1 =>
    purK (binA Tryz.prog H .xor 22 x3 x24_1) fun x25_1 =>
    purK (binA Tryz.prog H .lss 3 x19 (.int .i64 2)) fun x27_1 =>
    condK x27_1
    (
      purK (binA Tryz.prog H .mul 22 x25_1 (.int .u64 15480190943371904987)) fun x29_1 =>
      N157_5 ρ call yc lim k x29_1 x19 H kn)
    (
      N157_5 ρ call yc lim k x25_1 x19 H kn))
  (
    k2 x3 H)
theorem N157_4b_x (ρ : Addr → Option Value) (call : CallF) (yc : YieldF) (lim k : Nat) (J : CodeF) (x3 x19 : AV) (H : Heap) (kn : KS) (k2 : KS) (R : List AV → Heap → Res) :
    evX (cx ρ) call yc false 157 lim k J (Code.at [1, 1, 1, 0, 1, 0, 0] c157) (sp 32 [(3, x3), (19, x19)]) H (kk (some [3, 19]) kn [(2, (some [3]), k2)] R [2]) =
  purK (binA Tryz.prog H .lss 3 x19 (.int .i64 3)) fun x20_1 =>
  condK x20_1
  (
    purK (binA Tryz.prog H .shr 22 x3 (.int .u64 32)) fun x24_1 =>
    purK (binA Tryz.prog H .xor 22 x3 x24_1) fun x25_1 =>
    purK (binA Tryz.prog H .lss 3 x19 (.int .i64 2)) fun x27_1 =>
    condK x27_1
    (
      purK (binA Tryz.prog H .mul 22 x25_1 (.int .u64 15480190943371904987)) fun x29_1 =>
      J (Code.at [1, 1, 1, 0, 1, 0, 0, 1, 1, 1] c157) (sp 32 [(3, x29_1), (19, x19)]) H (kk (some [3, 19]) kn [(2, (some [3]), k2)] R [2]))
    (
      J (Code.at [1, 1, 1, 0, 1, 0, 0, 1, 1, 1] c157) (sp 32 [(3, x25_1), (19, x19)]) H (kk (some [3, 19]) kn [(2, (some [3]), k2)] R [2])))
  (
    k2 (sp 32 [(3, x3)]) H) := by
  kernel_rfl
theorem N157_4b_eq (ρ : Addr → Option Value) (call : CallF) (yc : YieldF) (lim k : Nat) (x3 x19 : AV) (H : Heap) (kn : KS) (k2 : KS) (R : List AV → Heap → Res) :
    evL (cx ρ) call yc false 157 lim k (Code.at [1, 1, 1, 0, 1, 0, 0] c157) (sp 32 [(3, x3), (19, x19)]) H (kk (some [3, 19]) kn [(2, (some [3]), k2)] R [2]) = N157_4b ρ call yc lim k x3 x19 H (fun x3 x19 H => kn (sp 32 [(3, x3), (19, x19)]) H) (fun x3 H => k2 (sp 32 [(3, x3)]) H) := by
  rw [evL_X, N157_4b_x]
  simp only [← evL_X, N157_4b, N157_5_eq]
noncomputable def N157_4 (ρ : Addr → Option Value) (call : CallF) (yc : YieldF) (lim k : Nat) (x3 x19 : AV) (H : Heap) (k2 : AV → Heap → Res) : Res :=
  loopL (fun (x : AV × AV) H kn => N157_4b ρ call yc lim k x.1 x.2 H (fun x3 x19 H => kn (x3, x19) H) k2) k (x3, x19) H
theorem N157_4_eq (ρ : Addr → Option Value) (call : CallF) (yc : YieldF) (lim k : Nat) (x3 x19 : AV) (H : Heap) (kn : KS) (k2 : KS) (R : List AV → Heap → Res) :
    evL (cx ρ) call yc false 157 lim k (Code.at [1, 1, 1, 0, 1, 0] c157) (sp 32 [(3, x3), (19, x19)]) H (kk (some [3]) kn [(2, (some [3]), k2)] R [2]) = N157_4 ρ call yc lim k x3 x19 H (fun x3 H => k2 (sp 32 [(3, x3)]) H) := by
  have e : Code.at [1, 1, 1, 0, 1, 0] c157 = .loop (Code.at [1, 1, 1, 0, 1, 0, 0] c157) := by kernel_rfl
  rw [e]
  unfold N157_4
  exact loop_node [3, 19] (fun x : AV × AV => (sp 32 [(3, (x.1)), (19, (x.2))])) (fun (x : AV × AV) H kn => N157_4b ρ call yc lim k x.1 x.2 H (fun x3 x19 H => kn (x3, x19) H) (fun x3 H => k2 (sp 32 [(3, x3)]) H)) (by kernel_rfl) (fun x => by kernel_rfl) (fun x H kn => N157_4b_eq ρ call yc lim k (x.1) (x.2) H kn k2 R) (x3, x19) (sp 32 [(3, x3), (19, x19)]) H (by kernel_rfl)
noncomputable def N157_3 (ρ : Addr → Option Value) (call : CallF) (yc : YieldF) (lim k : Nat) (x3 x19 : AV) (H : Heap) (kn : AV → Heap → Res) : Res :=
  N157_4 ρ call yc lim k x3 x19 H kn
theorem N157_3_x (ρ : Addr → Option Value) (call : CallF) (yc : YieldF) (lim k : Nat) (J : CodeF) (x3 x19 : AV) (H : Heap) (kn : KS) (R : List AV → Heap → Res) :
    evX (cx ρ) call yc false 157 lim k J (Code.at [1, 1, 1, 0, 1] c157) (sp 32 [(3, x3), (19, x19)]) H (kk (some [3]) kn [] R [2]) =
  J (Code.at [1, 1, 1, 0, 1, 0] c157) (sp 32 [(3, x3), (19, x19)]) H (kk (some [3]) kn [(2, (some [3]), kn)] R [2]) := by
  kernel_rfl
theorem N157_3_eq (ρ : Addr → Option Value) (call : CallF) (yc : YieldF) (lim k : Nat) (x3 x19 : AV) (H : Heap) (kn : KS) (R : List AV → Heap → Res) :
    evL (cx ρ) call yc false 157 lim k (Code.at [1, 1, 1, 0, 1] c157) (sp 32 [(3, x3), (19, x19)]) H (kk (some [3]) kn [] R [2]) = N157_3 ρ call yc lim k x3 x19 H (fun x3 H => kn (sp 32 [(3, x3)]) H) := by
  rw [evL_X, N157_3_x]
  simp only [← evL_X, N157_3, N157_4_eq]
noncomputable def N157_1 (ρ : Addr → Option Value) (call : CallF) (yc : YieldF) (lim k : Nat) (x3 : AV) (H : Heap) (R : List AV → Heap → Res) : Res :=
  N157_3 ρ call yc lim k x3 (.int .i64 0) H (fun x3_1 H =>
    N157_2 ρ call yc lim k x3_1 H R)
theorem N157_1_x (ρ : Addr → Option Value) (call : CallF) (yc : YieldF) (lim k : Nat) (J : CodeF) (x3 : AV) (H : Heap) (R : List AV → Heap → Res) :
    evX (cx ρ) call yc false 157 lim k J (Code.at [1, 1, 1] c157) (sp 32 [(3, x3)]) H (kk none (fun s H => R (([2] : List Nat).map fun t => s.getD t (.tup [])) H) [] R [2]) =
  J (Code.at [1, 1, 1, 0, 1] c157) (sp 32 [(3, x3), (19, (.int .i64 0))]) H (kk (some [3]) (fun s H => J (Code.at [1, 1, 1, 1] c157) s H (kk none (fun s H => R (([2] : List Nat).map fun t => s.getD t (.tup [])) H) [] R [2])) [] R [2]) := by
  kernel_rfl
theorem N157_1_eq (ρ : Addr → Option Value) (call : CallF) (yc : YieldF) (lim k : Nat) (x3 : AV) (H : Heap) (R : List AV → Heap → Res) :
    evL (cx ρ) call yc false 157 lim k (Code.at [1, 1, 1] c157) (sp 32 [(3, x3)]) H (kk none (fun s H => R (([2] : List Nat).map fun t => s.getD t (.tup [])) H) [] R [2]) = N157_1 ρ call yc lim k x3 H R := by
  rw [evL_X, N157_1_x]
  simp only [← evL_X, N157_1, N157_2_eq, N157_3_eq]
noncomputable def N157_7b (ρ : Addr → Option Value) (call : CallF) (yc : YieldF) (lim k : Nat) (x0 x3 x7 x8 : AV) (H : Heap) (kn : AV → AV → AV → AV → Heap → Res) (k0 : AV → Heap → Res) : Res :=
  purK (binA Tryz.prog H .lss 3 x8 x7) fun x9_1 =>
  condK x9_1
  (
    purK (ixT x0 x8) fun x14_1 =>
    purK (cvI .u64 x14_1) fun x15_1 =>
    purK (binA Tryz.prog H .xor 22 x3 x15_1) fun x16_1 =>
    purK (binA Tryz.prog H .mul 22 x16_1 (.int .u64 1099511628211)) fun x17_1 =>
    purK (binA Tryz.prog H .add 3 x8 (.int .i64 1)) fun x18_1 =>
    kn x0 x17_1 x7 x18_1 H)
  (
    k0 x3 H)
theorem N157_7b_eq (ρ : Addr → Option Value) (call : CallF) (yc : YieldF) (lim k : Nat) (x0 x3 x7 x8 : AV) (H : Heap) (kn : KS) (k0 : KS) (R : List AV → Heap → Res) :
    evL (cx ρ) call yc false 157 lim k (Code.at [1, 1, 0, 1, 0, 0] c157) (sp 32 [(0, x0), (3, x3), (7, x7), (8, x8)]) H (kk (some [0, 3, 7, 8]) kn [(0, (some [3]), k0)] R [2]) = N157_7b ρ call yc lim k x0 x3 x7 x8 H (fun x0 x3 x7 x8 H => kn (sp 32 [(0, x0), (3, x3), (7, x7), (8, x8)]) H) (fun x3 H => k0 (sp 32 [(3, x3)]) H) := by
  kernel_rfl
noncomputable def N157_7 (ρ : Addr → Option Value) (call : CallF) (yc : YieldF) (lim k : Nat) (x0 x3 x7 x8 : AV) (H : Heap) (k0 : AV → Heap → Res) : Res :=
  loopL (fun (x : AV × AV) H kn => N157_7b ρ call yc lim k x0 x.1 x7 x.2 H (fun _ x3 _ x8 H => kn (x3, x8) H) k0) k (x3, x8) H
theorem N157_7_eq (ρ : Addr → Option Value) (call : CallF) (yc : YieldF) (lim k : Nat) (x0 x3 x7 x8 : AV) (H : Heap) (kn : KS) (k0 : KS) (R : List AV → Heap → Res) :
    evL (cx ρ) call yc false 157 lim k (Code.at [1, 1, 0, 1, 0] c157) (sp 32 [(0, x0), (3, x3), (7, x7), (8, x8)]) H (kk (some [3]) kn [(0, (some [3]), k0)] R [2]) = N157_7 ρ call yc lim k x0 x3 x7 x8 H (fun x3 H => k0 (sp 32 [(3, x3)]) H) := by
  have e : Code.at [1, 1, 0, 1, 0] c157 = .loop (Code.at [1, 1, 0, 1, 0, 0] c157) := by kernel_rfl
  rw [e]
  unfold N157_7
  exact loop_node [0, 3, 7, 8] (fun x : AV × AV => (sp 32 [(0, x0), (3, (x.1)), (7, x7), (8, (x.2))])) (fun (x : AV × AV) H kn => N157_7b ρ call yc lim k x0 x.1 x7 x.2 H (fun _ x3 _ x8 H => kn (x3, x8) H) (fun x3 H => k0 (sp 32 [(3, x3)]) H)) (by kernel_rfl) (fun x => by kernel_rfl) (fun x H kn => N157_7b_eq ρ call yc lim k x0 (x.1) x7 (x.2) H kn k0 R) (x3, x8) (sp 32 [(0, x0), (3, x3), (7, x7), (8, x8)]) H (by kernel_rfl)
noncomputable def N157_6 (ρ : Addr → Option Value) (call : CallF) (yc : YieldF) (lim k : Nat) (x0 x3 x7 x8 : AV) (H : Heap) (kn : AV → Heap → Res) : Res :=
  N157_7 ρ call yc lim k x0 x3 x7 x8 H kn
theorem N157_6_x (ρ : Addr → Option Value) (call : CallF) (yc : YieldF) (lim k : Nat) (J : CodeF) (x0 x3 x7 x8 : AV) (H : Heap) (kn : KS) (R : List AV → Heap → Res) :
    evX (cx ρ) call yc false 157 lim k J (Code.at [1, 1, 0, 1] c157) (sp 32 [(0, x0), (3, x3), (7, x7), (8, x8)]) H (kk (some [3]) kn [] R [2]) =
  J (Code.at [1, 1, 0, 1, 0] c157) (sp 32 [(0, x0), (3, x3), (7, x7), (8, x8)]) H (kk (some [3]) kn [(0, (some [3]), kn)] R [2]) := by
  kernel_rfl
theorem N157_6_eq (ρ : Addr → Option Value) (call : CallF) (yc : YieldF) (lim k : Nat) (x0 x3 x7 x8 : AV) (H : Heap) (kn : KS) (R : List AV → Heap → Res) :
    evL (cx ρ) call yc false 157 lim k (Code.at [1, 1, 0, 1] c157) (sp 32 [(0, x0), (3, x3), (7, x7), (8, x8)]) H (kk (some [3]) kn [] R [2]) = N157_6 ρ call yc lim k x0 x3 x7 x8 H (fun x3 H => kn (sp 32 [(3, x3)]) H) := by
  rw [evL_X, N157_6_x]
  simp only [← evL_X, N157_6, N157_7_eq]
noncomputable def L157 (ρ : Addr → Option Value) (call : CallF) (yc : YieldF) (lim k : Nat) (x0 : AV) (H : Heap) : Res :=
  purK (lenT x0) fun x7 =>
  N157_6 ρ call yc lim k x0 (.int .u64 14695981039346656037) x7 (.int .i64 0) H (fun x3 H =>
    N157_1 ρ call yc lim k x3 H retK)
theorem L157_x (ρ : Addr → Option Value) (call : CallF) (yc : YieldF) (lim k : Nat) (J : CodeF) (x0 : AV) (H : Heap) :
    evX (cx ρ) call yc false 157 lim k J c157 [x0, (.tup []), (.tup []), (.tup []), (.tup []), (.tup []), (.tup []), (.tup []), (.tup []), (.tup []), (.tup []), (.tup []), (.tup []), (.tup []), (.tup []), (.tup []), (.tup []), (.tup []), (.tup []), (.tup []), (.tup []), (.tup []), (.tup []), (.tup []), (.tup []), (.tup []), (.tup []), (.tup []), (.tup []), (.tup []), (.tup []), (.tup [])] H (kk none (fun s H => retK (([2] : List Nat).map fun t => s.getD t (.tup [])) H) [] retK [2]) =
  purK (lenT x0) fun x7 =>
  J (Code.at [1, 1, 0, 1] c157) (sp 32 [(0, x0), (3, (.int .u64 14695981039346656037)), (7, x7), (8, (.int .i64 0))]) H (kk (some [3]) (fun s H => J (Code.at [1, 1, 1] c157) s H (kk none (fun s H => retK (([2] : List Nat).map fun t => s.getD t (.tup [])) H) [] retK [2])) [] retK [2]) := by
  kernel_rfl
theorem G157 (ρ : Addr → Option Value) (call : CallF) (yc : YieldF) (lim k : Nat) (x0 : AV) (H : Heap) :
    evL (cx ρ) call yc false 157 lim k c157 [x0, (.tup []), (.tup []), (.tup []), (.tup []), (.tup []), (.tup []), (.tup []), (.tup []), (.tup []), (.tup []), (.tup []), (.tup []), (.tup []), (.tup []), (.tup []), (.tup []), (.tup []), (.tup []), (.tup []), (.tup []), (.tup []), (.tup []), (.tup []), (.tup []), (.tup []), (.tup []), (.tup []), (.tup []), (.tup []), (.tup []), (.tup [])] H (kk none (fun s H => retK (([2] : List Nat).map fun t => s.getD t (.tup [])) H) [] retK [2]) = L157 ρ call yc lim k x0 H := by
  rw [evL_X, L157_x]
  simp only [← evL_X, L157, N157_1_eq, N157_6_eq]
theorem E157 (ρ : Addr → Option Value) (k lim : Nat) (x0 : AV) (H : Heap) : evCall (cx ρ) (k + 1) lim 157 [x0] H = L157 ρ (evCall (cx ρ) k) (evCY (cx ρ) k).2 lim k x0 H := by
  rw [evCall_body (cx ρ) k lim 157 _ H Tryz.f157 c157 [2] (by kernel_rfl) (by kernel_rfl) (by kernel_rfl) (by kernel_rfl) (by kernel_rfl)]
  exact G157 ρ (evCall (cx ρ) k) (evCY (cx ρ) k).2 lim k x0 H
-- (*haycroft/task.Task).look
noncomputable def c158 : Code := Code.of Tryz.prog 158
noncomputable def L158 (ρ : Addr → Option Value) (call : CallF) (yc : YieldF) (lim k : Nat) (x0 : AV) (H : Heap) : Res :=
  mkK H (some (.ptr H.sz 0 0, .new (newCells 335 false [.int .i64 0, .int .i64 0, .int .u64 0, .int .i64 0]))) true fun x4 H =>
  purK (nilChkA x0) fun x8 =>
  purK (addA 1 x8) fun x9 =>
  purK (ld1 ρ H x9) fun x10 =>
  purK (nilChkA x0) fun x12 =>
  purK (addA 7 x12) fun x13 =>
  purK (ld1 ρ H x13) fun x14 =>
  resK (call lim 240 [x10, x14] H) fun x15 H =>
  purK (extA 0 x15) fun x16 =>
  purK (extA 1 x15) fun x17 =>
  effK H (stA lim H 4 x4 x16) fun _ H =>
  purK (binA Tryz.prog H .neq 30 x17 (.int .i64 0)) fun x19 =>
  condK x19
  (
    resK (call lim 100 [x17] H) fun x21 H =>
    purK (extA 0 x21) fun x22 =>
    purK (extA 1 x21) fun x23 =>
    retK [x22, x23] H)
  (
    purK (addA 0 x4) fun x24 =>
    purK (ld1 ρ H x24) fun x25 =>
    purK (binA Tryz.prog H .neq 3 x25 (.int .i64 1)) fun x26 =>
    condK x26
    (
      purK (ldN ρ H 4 x4) fun x28 =>
      resK (call lim 241 [x0, x28] H) fun x29 H =>
      purK (extA 0 x29) fun x30 =>
      purK (extA 1 x29) fun x31 =>
      retK [x30, x31] H)
    (
      purK (addA 1 x4) fun x34 =>
      purK (ld1 ρ H x34) fun x35 =>
      purK (addA 2 x4) fun x36 =>
      purK (ld1 ρ H x36) fun x37 =>
      purK (nilChkA x0) fun x38 =>
      purK (addA 9 x38) fun x39 =>
      effK H (stA lim H 1 x39 x35) fun _ H => bif (agn (ld1 ρ H x36) x37 && true) then
        purK (nilChkA x0) fun x40 =>
        purK (addA 10 x40) fun x41 =>
        effK H (stA lim H 1 x41 x37) fun _ H =>
        purK (addA 2 x4) fun x43 =>
        purK (ld1 ρ H x43) fun x44 =>
        resK (call lim 242 [x44, (.int .i64 0), (.int .i64 48)] H) fun x45 H =>
        purK (nilChkA x0) fun x46 =>
        purK (addA 13 x46) fun x47 =>
        effK H (stA lim H 1 x47 x45) fun _ H =>
        purK (nilChkA x0) fun x50 =>
        purK (addA 13 x50) fun x51 =>
        purK (ld1 ρ H x51) fun x52 =>
        purK (nilChkA x0) fun x53 =>
        purK (addA 14 x53) fun x54 =>
        effK H (stA lim H 1 x54 x52) fun _ H =>
        purK (nilChkA x0) fun x57 =>
        purK (addA 13 x57) fun x58 =>
        purK (ld1 ρ H x58) fun x59 =>
        purK (binA Tryz.prog H .eql 22 x59 (.int .u64 0)) fun x60 =>
        condK x60
        (
          resK (call lim 243 [x0] H) fun x62 H =>
          purK (extA 0 x62) fun x63 =>
          purK (extA 1 x62) fun x64 =>
          retK [x63, x64] H)
        (
          resK (call lim 175 [x0, (.int .i64 4)] H) fun x67 H =>
          condK x67
          (
            resK (call lim 177 [x0, (.fn (.func 178) [] [])] H) fun x69 H =>
            purK (extA 0 x69) fun x70 =>
            purK (extA 1 x69) fun x71 =>
            retK [x70, x71] H)
          (
            resK (call lim 177 [x0, (.fn (.func 244) [] [])] H) fun x73 H =>
            purK (extA 0 x73) fun x74 =>
            purK (extA 1 x73) fun x75 =>
            retK [x74, x75] H))
      else none))
theorem G158 (ρ : Addr → Option Value) (call : CallF) (yc : YieldF) (lim k : Nat) (x0 : AV) (H : Heap) :
    evL (cx ρ) call yc false 158 lim k c158 [x0, (.tup []), (.tup []), (.tup []), (.tup []), (.tup []), (.tup []), (.tup []), (.tup []), (.tup []), (.tup []), (.tup []), (.tup []), (.tup []), (.tup []), (.tup []), (.tup []), (.tup []), (.tup []), (.tup []), (.tup []), (.tup []), (.tup []), (.tup []), (.tup []), (.tup []), (.tup []), (.tup []), (.tup []), (.tup []), (.tup []), (.tup []), (.tup []), (.tup []), (.tup []), (.tup []), (.tup []), (.tup []), (.tup []), (.tup []), (.tup []), (.tup []), (.tup []), (.tup []), (.tup []), (.tup []), (.tup []), (.tup []), (.tup []), (.tup []), (.tup []), (.tup []), (.tup []), (.tup []), (.tup []), (.tup []), (.tup []), (.tup []), (.tup []), (.tup []), (.tup []), (.tup []), (.tup []), (.tup []), (.tup []), (.tup []), (.tup []), (.tup []), (.tup []), (.tup []), (.tup []), (.tup []), (.tup []), (.tup []), (.tup []), (.tup [])] H (kk none (fun s H => retK (([2, 3] : List Nat).map fun t => s.getD t (.tup [])) H) [] retK [2, 3]) = L158 ρ call yc lim k x0 H := by
  kernel_rfl
theorem E158 (ρ : Addr → Option Value) (k lim : Nat) (x0 : AV) (H : Heap) : evCall (cx ρ) (k + 1) lim 158 [x0] H = L158 ρ (evCall (cx ρ) k) (evCY (cx ρ) k).2 lim k x0 H := by
  rw [evCall_body (cx ρ) k lim 158 _ H Tryz.f158 c158 [2, 3] (by kernel_rfl) (by kernel_rfl) (by kernel_rfl) (by kernel_rfl) (by kernel_rfl)]
  exact G158 ρ (evCall (cx ρ) k) (evCY (cx ρ) k).2 lim k x0 H
-- (*haycroft/cell.Row).Len
noncomputable def c159 : Code := Code.of Tryz.prog 159
noncomputable def L159 (ρ : Addr → Option Value) (call : CallF) (yc : YieldF) (lim k : Nat) (x0 : AV) (H : Heap) : Res :=
  purK (binA Tryz.prog H .eql 175 x0 .nilp) fun x4 =>
  condK x4
  (
    retK [(.int .i64 0)] H)
  (
    purK (nilChkA x0) fun x6 =>
    purK (addA 0 x6) fun x7 =>
    purK (ld1 ρ H x7) fun x8 =>
    purK (lenS x8) fun x9 =>
    retK [x9] H)
theorem G159 (ρ : Addr → Option Value) (call : CallF) (yc : YieldF) (lim k : Nat) (x0 : AV) (H : Heap) :
    evL (cx ρ) call yc false 159 lim k c159 [x0, (.tup []), (.tup []), (.tup []), (.tup []), (.tup []), (.tup []), (.tup []), (.tup []), (.tup [])] H (kk none (fun s H => retK (([2] : List Nat).map fun t => s.getD t (.tup [])) H) [] retK [2]) = L159 ρ call yc lim k x0 H := by
  kernel_rfl
theorem E159 (ρ : Addr → Option Value) (k lim : Nat) (x0 : AV) (H : Heap) : evCall (cx ρ) (k + 1) lim 159 [x0] H = L159 ρ (evCall (cx ρ) k) (evCY (cx ρ) k).2 lim k x0 H := by
  rw [evCall_body (cx ρ) k lim 159 _ H Tryz.f159 c159 [2] (by kernel_rfl) (by kernel_rfl) (by kernel_rfl) (by kernel_rfl) (by kernel_rfl)]
  exact G159 ρ (evCall (cx ρ) k) (evCY (cx ρ) k).2 lim k x0 H
-- (*haycroft/cell.Row).there
noncomputable def c160 : Code := Code.of Tryz.prog 160
noncomputable def L160 (ρ : Addr → Option Value) (call : CallF) (yc : YieldF) (lim k : Nat) (x0 x1 : AV) (H : Heap) : Res :=
  purK (binA Tryz.prog H .geq 3 x1 (.int .i64 0)) fun x6 =>
  purK (gPur (wantV x6 true) (some x1)) fun x8 =>
  purK (gPur (wantV x6 true) (some x0)) fun x9 =>
  resK (gRes (wantV x6 true) H (call lim 159 [x9] H)) fun x10 H =>
  purK (gPur (wantV x6 true) (binA Tryz.prog H .lss 3 x8 x10)) fun x11 =>
  purK (pickA x6 x11 (.bool false)) fun x12 =>
  retK [x12] H
theorem G160 (ρ : Addr → Option Value) (call : CallF) (yc : YieldF) (lim k : Nat) (x0 x1 : AV) (H : Heap) :
    evL (cx ρ) call yc false 160 lim k c160 [x0, x1, (.tup []), (.tup []), (.tup []), (.tup []), (.tup []), (.tup []), (.tup []), (.tup []), (.tup []), (.tup []), (.tup [])] H (kk none (fun s H => retK (([4] : List Nat).map fun t => s.getD t (.tup [])) H) [] retK [4]) = L160 ρ call yc lim k x0 x1 H := by
  kernel_rfl
theorem E160 (ρ : Addr → Option Value) (k lim : Nat) (x0 x1 : AV) (H : Heap) : evCall (cx ρ) (k + 1) lim 160 [x0, x1] H = L160 ρ (evCall (cx ρ) k) (evCY (cx ρ) k).2 lim k x0 x1 H := by
  rw [evCall_body (cx ρ) k lim 160 _ H Tryz.f160 c160 [4] (by kernel_rfl) (by kernel_rfl) (by kernel_rfl) (by kernel_rfl) (by kernel_rfl)]
  exact G160 ρ (evCall (cx ρ) k) (evCY (cx ρ) k).2 lim k x0 x1 H
-- (*sync/atomic.Uint64).Load
noncomputable def c161 : Code := Code.of Tryz.prog 161
noncomputable def L161 (ρ : Addr → Option Value) (call : CallF) (yc : YieldF) (lim k : Nat) (x0 : AV) (H : Heap) : Res :=
  purK (nilChkA x0) fun x4 =>
  purK (addA 0 x4) fun x5 =>
  resK (call lim 245 [x5] H) fun x6 H =>
  retK [x6] H
theorem G161 (ρ : Addr → Option Value) (call : CallF) (yc : YieldF) (lim k : Nat) (x0 : AV) (H : Heap) :
    evL (cx ρ) call yc false 161 lim k c161 [x0, (.tup []), (.tup []), (.tup []), (.tup []), (.tup []), (.tup [])] H (kk none (fun s H => retK (([2] : List Nat).map fun t => s.getD t (.tup [])) H) [] retK [2]) = L161 ρ call yc lim k x0 H := by
  kernel_rfl
theorem E161 (ρ : Addr → Option Value) (k lim : Nat) (x0 : AV) (H : Heap) : evCall (cx ρ) (k + 1) lim 161 [x0] H = L161 ρ (evCall (cx ρ) k) (evCY (cx ρ) k).2 lim k x0 H := by
  rw [evCall_body (cx ρ) k lim 161 _ H Tryz.f161 c161 [2] (by kernel_rfl) (by kernel_rfl) (by kernel_rfl) (by kernel_rfl) (by kernel_rfl)]
  exact G161 ρ (evCall (cx ρ) k) (evCY (cx ρ) k).2 lim k x0 H
-- (*haycroft/cell.Row).Store
noncomputable def c162 : Code := Code.of Tryz.prog 162
noncomputable def N162_1 (ρ : Addr → Option Value) (call : CallF) (yc : YieldF) (lim k : Nat) (x7 : AV) (H : Heap) (R : List AV → Heap → Res) : Res :=
  R [x7] H
theorem N162_1_eq (ρ : Addr → Option Value) (call : CallF) (yc : YieldF) (lim k : Nat) (x7 : AV) (H : Heap) (R : List AV → Heap → Res) :
    evL (cx ρ) call yc false 162 lim k (Code.at [1, 1, 1] c162) (sp 22 [(7, x7)]) H (kk none (fun s H => R (([6] : List Nat).map fun t => s.getD t (.tup [])) H) [] R [6]) = N162_1 ρ call yc lim k x7 H R := by
  kernel_rfl
noncomputable def L162 (ρ : Addr → Option Value) (call : CallF) (yc : YieldF) (lim k : Nat) (x0 x1 x2 : AV) (H : Heap) : Res :=
  resK (call lim 246 [x0, x1] H) fun x10 H =>
  purK (binA Tryz.prog H .eql 30 x10 (.int .i64 0)) fun x12 =>
  condK x12
  (
    purK (nilChkA x0) fun x14 =>
    purK (addA 0 x14) fun x15 =>
    purK (ld1 ρ H x15) fun x16 =>
    purK (ixS 1 x16 x1) fun x18 =>
    resK (call lim 247 [x18, x2] H) fun x20 H =>
    N162_1 ρ call yc lim k x10 H retK)
  (
    N162_1 ρ call yc lim k x10 H retK)
theorem L162_x (ρ : Addr → Option Value) (call : CallF) (yc : YieldF) (lim k : Nat) (J : CodeF) (x0 x1 x2 : AV) (H : Heap) :
    evX (cx ρ) call yc false 162 lim k J c162 [x0, x1, x2, (.tup []), (.tup []), (.tup []), (.tup []), (.tup []), (.tup []), (.tup []), (.tup []), (.tup []), (.tup []), (.tup []), (.tup []), (.tup []), (.tup []), (.tup []), (.tup []), (.tup []), (.tup []), (.tup [])] H (kk none (fun s H => retK (([6] : List Nat).map fun t => s.getD t (.tup [])) H) [] retK [6]) =
  resK (call lim 246 [x0, x1] H) fun x10 H =>
  purK (binA Tryz.prog H .eql 30 x10 (.int .i64 0)) fun x12 =>
  condK x12
  (
    purK (nilChkA x0) fun x14 =>
    purK (addA 0 x14) fun x15 =>
    purK (ld1 ρ H x15) fun x16 =>
    purK (ixS 1 x16 x1) fun x18 =>
    resK (call lim 247 [x18, x2] H) fun x20 H =>
    J (Code.at [1, 1, 1] c162) (sp 22 [(7, x10)]) H (kk none (fun s H => retK (([6] : List Nat).map fun t => s.getD t (.tup [])) H) [] retK [6]))
  (
    J (Code.at [1, 1, 1] c162) (sp 22 [(7, x10)]) H (kk none (fun s H => retK (([6] : List Nat).map fun t => s.getD t (.tup [])) H) [] retK [6])) := by
  kernel_rfl
theorem G162 (ρ : Addr → Option Value) (call : CallF) (yc : YieldF) (lim k : Nat) (x0 x1 x2 : AV) (H : Heap) :
    evL (cx ρ) call yc false 162 lim k c162 [x0, x1, x2, (.tup []), (.tup []), (.tup []), (.tup []), (.tup []), (.tup []), (.tup []), (.tup []), (.tup []), (.tup []), (.tup []), (.tup []), (.tup []), (.tup []), (.tup []), (.tup []), (.tup []), (.tup []), (.tup [])] H (kk none (fun s H => retK (([6] : List Nat).map fun t => s.getD t (.tup [])) H) [] retK [6]) = L162 ρ call yc lim k x0 x1 x2 H := by
  rw [evL_X, L162_x]
  simp only [← evL_X, L162, N162_1_eq]
theorem E162 (ρ : Addr → Option Value) (k lim : Nat) (x0 x1 x2 : AV) (H : Heap) : evCall (cx ρ) (k + 1) lim 162 [x0, x1, x2] H = L162 ρ (evCall (cx ρ) k) (evCY (cx ρ) k).2 lim k x0 x1 x2 H := by
  rw [evCall_body (cx ρ) k lim 162 _ H Tryz.f162 c162 [6] (by kernel_rfl) (by kernel_rfl) (by kernel_rfl) (by kernel_rfl) (by kernel_rfl)]
  exact G162 ρ (evCall (cx ρ) k) (evCY (cx ρ) k).2 lim k x0 x1 x2 H
-- (*haycroft/epoch.Table).In
noncomputable def c163 : Code := Code.of Tryz.prog 163
noncomputable def N163_1 (ρ : Addr → Option Value) (call : CallF) (yc : YieldF) (lim k : Nat) (x3 : AV) (H : Heap) (R : List AV → Heap → Res) : Res :=
  R [x3] H
theorem N163_1_eq (ρ : Addr → Option Value) (call : CallF) (yc : YieldF) (lim k : Nat) (x3 : AV) (H : Heap) (R : List AV → Heap → Res) :
    evL (cx ρ) call yc false 163 lim k (Code.at [1, 1, 1] c163) (sp 19 [(3, x3)]) H (kk none (fun s H => R (([2] : List Nat).map fun t => s.getD t (.tup [])) H) [] R [2]) = N163_1 ρ call yc lim k x3 H R := by
  kernel_rfl
noncomputable def N163_4 (ρ : Addr → Option Value) (call : CallF) (yc : YieldF) (lim k : Nat) (x0 x3 x4 : AV) (H : Heap) (kn : AV → AV → AV → Heap → Res) : Res :=
  purK (binA Tryz.prog H .add 3 x4 (.int .i64 1)) fun x9_1 =>
  kn x0 x3 x9_1 H
theorem N163_4_eq (ρ : Addr → Option Value) (call : CallF) (yc : YieldF) (lim k : Nat) (x0 x3 x4 : AV) (H : Heap) (kn : KS) (k0 : KS) (R : List AV → Heap → Res) :
    evL (cx ρ) call yc false 163 lim k (Code.at [1, 1, 0, 1, 0, 0, 1, 1] c163) (sp 19 [(0, x0), (3, x3), (4, x4)]) H (kk (some [0, 3, 4]) kn [(0, (some [3]), k0)] R [2]) = N163_4 ρ call yc lim k x0 x3 x4 H (fun x0 x3 x4 H => kn (sp 19 [(0, x0), (3, x3), (4, x4)]) H) := by
  kernel_rfl
noncomputable def N163_3b (ρ : Addr → Option Value) (call : CallF) (yc : YieldF) (lim k : Nat) (x0 x3 x4 : AV) (H : Heap) (kn : AV → AV → AV → Heap → Res) (k0 : AV → Heap → Res) : Res :=
  resK (call lim 96 [x0, x4] H) fun x7_1 H =>
  condK x7_1
  (
    resK (call lim 52 [x0, x4] H) fun x12_1 H =>
    purK (binA Tryz.prog H .gtr 22 x12_1 (.int .u64 0)) fun x13_1 =>
    condK x13_1
    (
      effK H (bldS H 3 1 [.int .i64 0] 1 [(0, 1, x4)]) fun x16_1 H =>
      effK H (apA ρ lim H 3 1 8 x3 x16_1) fun x17_1 H =>
      N163_4 ρ call yc lim k x0 x17_1 x4 H kn)
    (
      N163_4 ρ call yc lim k x0 x3 x4 H kn))
  (
    k0 x3 H)
theorem N163_3b_x (ρ : Addr → Option Value) (call : CallF) (yc : YieldF) (lim k : Nat) (J : CodeF) (x0 x3 x4 : AV) (H : Heap) (kn : KS) (k0 : KS) (R : List AV → Heap → Res) :
    evX (cx ρ) call yc false 163 lim k J (Code.at [1, 1, 0, 1, 0, 0] c163) (sp 19 [(0, x0), (3, x3), (4, x4)]) H (kk (some [0, 3, 4]) kn [(0, (some [3]), k0)] R [2]) =
  resK (call lim 96 [x0, x4] H) fun x7_1 H =>
  condK x7_1
  (
    resK (call lim 52 [x0, x4] H) fun x12_1 H =>
    purK (binA Tryz.prog H .gtr 22 x12_1 (.int .u64 0)) fun x13_1 =>
    condK x13_1
    (
      effK H (bldS H 3 1 [.int .i64 0] 1 [(0, 1, x4)]) fun x16_1 H =>
      effK H (apA ρ lim H 3 1 8 x3 x16_1) fun x17_1 H =>
      J (Code.at [1, 1, 0, 1, 0, 0, 1, 1] c163) (sp 19 [(0, x0), (3, x17_1), (4, x4)]) H (kk (some [0, 3, 4]) kn [(0, (some [3]), k0)] R [2]))
    (
      J (Code.at [1, 1, 0, 1, 0, 0, 1, 1] c163) (sp 19 [(0, x0), (3, x3), (4, x4)]) H (kk (some [0, 3, 4]) kn [(0, (some [3]), k0)] R [2])))
  (
    k0 (sp 19 [(3, x3)]) H) := by
  kernel_rfl
theorem N163_3b_eq (ρ : Addr → Option Value) (call : CallF) (yc : YieldF) (lim k : Nat) (x0 x3 x4 : AV) (H : Heap) (kn : KS) (k0 : KS) (R : List AV → Heap → Res) :
    evL (cx ρ) call yc false 163 lim k (Code.at [1, 1, 0, 1, 0, 0] c163) (sp 19 [(0, x0), (3, x3), (4, x4)]) H (kk (some [0, 3, 4]) kn [(0, (some [3]), k0)] R [2]) = N163_3b ρ call yc lim k x0 x3 x4 H (fun x0 x3 x4 H => kn (sp 19 [(0, x0), (3, x3), (4, x4)]) H) (fun x3 H => k0 (sp 19 [(3, x3)]) H) := by
  rw [evL_X, N163_3b_x]
  simp only [← evL_X, N163_3b, N163_4_eq]
noncomputable def N163_3 (ρ : Addr → Option Value) (call : CallF) (yc : YieldF) (lim k : Nat) (x0 x3 x4 : AV) (H : Heap) (k0 : AV → Heap → Res) : Res :=
  loopL (fun (x : AV × AV) H kn => N163_3b ρ call yc lim k x0 x.1 x.2 H (fun _ x3 x4 H => kn (x3, x4) H) k0) k (x3, x4) H
theorem N163_3_eq (ρ : Addr → Option Value) (call : CallF) (yc : YieldF) (lim k : Nat) (x0 x3 x4 : AV) (H : Heap) (kn : KS) (k0 : KS) (R : List AV → Heap → Res) :
    evL (cx ρ) call yc false 163 lim k (Code.at [1, 1, 0, 1, 0] c163) (sp 19 [(0, x0), (3, x3), (4, x4)]) H (kk (some [3]) kn [(0, (some [3]), k0)] R [2]) = N163_3 ρ call yc lim k x0 x3 x4 H (fun x3 H => k0 (sp 19 [(3, x3)]) H) := by
  have e : Code.at [1, 1, 0, 1, 0] c163 = .loop (Code.at [1, 1, 0, 1, 0, 0] c163) := by kernel_rfl
  rw [e]
  unfold N163_3
  exact loop_node [0, 3, 4] (fun x : AV × AV => (sp 19 [(0, x0), (3, (x.1)), (4, (x.2))])) (fun (x : AV × AV) H kn => N163_3b ρ call yc lim k x0 x.1 x.2 H (fun _ x3 x4 H => kn (x3, x4) H) (fun x3 H => k0 (sp 19 [(3, x3)]) H)) (by kernel_rfl) (fun x => by kernel_rfl) (fun x H kn => N163_3b_eq ρ call yc lim k x0 (x.1) (x.2) H kn k0 R) (x3, x4) (sp 19 [(0, x0), (3, x3), (4, x4)]) H (by kernel_rfl)
noncomputable def N163_2 (ρ : Addr → Option Value) (call : CallF) (yc : YieldF) (lim k : Nat) (x0 x3 x4 : AV) (H : Heap) (kn : AV → Heap → Res) : Res :=
  N163_3 ρ call yc lim k x0 x3 x4 H kn
theorem N163_2_x (ρ : Addr → Option Value) (call : CallF) (yc : YieldF) (lim k : Nat) (J : CodeF) (x0 x3 x4 : AV) (H : Heap) (kn : KS) (R : List AV → Heap → Res) :
    evX (cx ρ) call yc false 163 lim k J (Code.at [1, 1, 0, 1] c163) (sp 19 [(0, x0), (3, x3), (4, x4)]) H (kk (some [3]) kn [] R [2]) =
  J (Code.at [1, 1, 0, 1, 0] c163) (sp 19 [(0, x0), (3, x3), (4, x4)]) H (kk (some [3]) kn [(0, (some [3]), kn)] R [2]) := by
  kernel_rfl
theorem N163_2_eq (ρ : Addr → Option Value) (call : CallF) (yc : YieldF) (lim k : Nat) (x0 x3 x4 : AV) (H : Heap) (kn : KS) (R : List AV → Heap → Res) :
    evL (cx ρ) call yc false 163 lim k (Code.at [1, 1, 0, 1] c163) (sp 19 [(0, x0), (3, x3), (4, x4)]) H (kk (some [3]) kn [] R [2]) = N163_2 ρ call yc lim k x0 x3 x4 H (fun x3 H => kn (sp 19 [(3, x3)]) H) := by
  rw [evL_X, N163_2_x]
  simp only [← evL_X, N163_2, N163_3_eq]
noncomputable def L163 (ρ : Addr → Option Value) (call : CallF) (yc : YieldF) (lim k : Nat) (x0 : AV) (H : Heap) : Res :=
  N163_2 ρ call yc lim k x0 .nils (.int .i64 0) H (fun x3 H =>
    N163_1 ρ call yc lim k x3 H retK)
theorem L163_x (ρ : Addr → Option Value) (call : CallF) (yc : YieldF) (lim k : Nat) (J : CodeF) (x0 : AV) (H : Heap) :
    evX (cx ρ) call yc false 163 lim k J c163 [x0, (.tup []), (.tup []), (.tup []), (.tup []), (.tup []), (.tup []), (.tup []), (.tup []), (.tup []), (.tup []), (.tup []), (.tup []), (.tup []), (.tup []), (.tup []), (.tup []), (.tup []), (.tup [])] H (kk none (fun s H => retK (([2] : List Nat).map fun t => s.getD t (.tup [])) H) [] retK [2]) =
  J (Code.at [1, 1, 0, 1] c163) (sp 19 [(0, x0), (3, .nils), (4, (.int .i64 0))]) H (kk (some [3]) (fun s H => J (Code.at [1, 1, 1] c163) s H (kk none (fun s H => retK (([2] : List Nat).map fun t => s.getD t (.tup [])) H) [] retK [2])) [] retK [2]) := by
  kernel_rfl
theorem G163 (ρ : Addr → Option Value) (call : CallF) (yc : YieldF) (lim k : Nat) (x0 : AV) (H : Heap) :
    evL (cx ρ) call yc false 163 lim k c163 [x0, (.tup []), (.tup []), (.tup []), (.tup []), (.tup []), (.tup []), (.tup []), (.tup []), (.tup []), (.tup []), (.tup []), (.tup []), (.tup []), (.tup []), (.tup []), (.tup []), (.tup []), (.tup [])] H (kk none (fun s H => retK (([2] : List Nat).map fun t => s.getD t (.tup [])) H) [] retK [2]) = L163 ρ call yc lim k x0 H := by
  rw [evL_X, L163_x]
  simp only [← evL_X, L163, N163_1_eq, N163_2_eq]
theorem E163 (ρ : Addr → Option Value) (k lim : Nat) (x0 : AV) (H : Heap) : evCall (cx ρ) (k + 1) lim 163 [x0] H = L163 ρ (evCall (cx ρ) k) (evCY (cx ρ) k).2 lim k x0 H := by
  rw [evCall_body (cx ρ) k lim 163 _ H Tryz.f163 c163 [2] (by kernel_rfl) (by kernel_rfl) (by kernel_rfl) (by kernel_rfl) (by kernel_rfl)]
  exact G163 ρ (evCall (cx ρ) k) (evCY (cx ρ) k).2 lim k x0 H
end Go.Proofs.YtdiafdmgenefnaaGreat
