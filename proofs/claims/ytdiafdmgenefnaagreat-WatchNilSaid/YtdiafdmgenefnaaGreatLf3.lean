/- Functions, lifted. Printed by a program of this repo. -/
import Derived.Test.YtdiafdmgenefnaaGreatLfTab
set_option linter.unusedVariables false
set_option linter.unusedSimpArgs false
set_option maxRecDepth 100000
set_option maxHeartbeats 4000000
namespace Go.Proofs.YtdiafdmgenefnaaGreat
open Go.Ev Go.RowKit
-- (*haycroft/tail.Tail).now
noncomputable def c165 : Code := Code.of Tryz.prog 165
noncomputable def L165 (ρ : Addr → Option Value) (call : CallF) (yc : YieldF) (lim k : Nat) (x0 : AV) (H : Heap) : Res :=
  purK (nilChkA x0) fun x6 =>
  purK (addA 2 x6) fun x7 =>
  purK (ld1 ρ H x7) fun x8 =>
  resK (call lim 97 [x8, (.int .i64 0)] H) fun x9 H =>
  purK (binA Tryz.prog H .shr 22 x9 (.int .u64 32)) fun x11 =>
  purK (cvI .i64 x11) fun x12 =>
  resK (call lim 248 [(.int .i64 32)] H) fun x14 H =>
  purK (binA Tryz.prog H .and 22 x9 x14) fun x15 =>
  purK (cvI .i64 x15) fun x16 =>
  retK [x12, x16] H
theorem G165 (ρ : Addr → Option Value) (call : CallF) (yc : YieldF) (lim k : Nat) (x0 : AV) (H : Heap) :
    evL (cx ρ) call yc false 165 lim k c165 [x0, (.tup []), (.tup []), (.tup []), (.tup []), (.tup []), (.tup []), (.tup []), (.tup []), (.tup []), (.tup []), (.tup []), (.tup []), (.tup []), (.tup []), (.tup []), (.tup [])] H (kk none (fun s H => retK (([2, 3] : List Nat).map fun t => s.getD t (.tup [])) H) [] retK [2, 3]) = L165 ρ call yc lim k x0 H := by
  kernel_rfl
theorem E165 (ρ : Addr → Option Value) (k lim : Nat) (x0 : AV) (H : Heap) : evCall (cx ρ) (k + 1) lim 165 [x0] H = L165 ρ (evCall (cx ρ) k) (evCY (cx ρ) k).2 lim k x0 H := by
  rw [evCall_body (cx ρ) k lim 165 _ H Tryz.f165 c165 [2, 3] (by kernel_rfl) (by kernel_rfl) (by kernel_rfl) (by kernel_rfl) (by kernel_rfl)]
  exact G165 ρ (evCall (cx ρ) k) (evCY (cx ρ) k).2 lim k x0 H
-- haycroft/field.Words
noncomputable def c167 : Code := Code.of Tryz.prog 167
noncomputable def N167_1 (ρ : Addr → Option Value) (call : CallF) (yc : YieldF) (lim k : Nat) (x3 : AV) (H : Heap) (R : List AV → Heap → Res) : Res :=
  R [x3] H
theorem N167_1_eq (ρ : Addr → Option Value) (call : CallF) (yc : YieldF) (lim k : Nat) (x3 : AV) (H : Heap) (R : List AV → Heap → Res) :
    evL (cx ρ) call yc false 167 lim k (Code.at [1, 1, 1] c167) (sp 33 [(3, x3)]) H (kk none (fun s H => R (([2] : List Nat).map fun t => s.getD t (.tup [])) H) [] R [2]) = N167_1 ρ call yc lim k x3 H R := by
  kernel_rfl
noncomputable def N167_3b (ρ : Addr → Option Value) (call : CallF) (yc : YieldF) (lim k : Nat) (x0 x3 x12 x13 : AV) (H : Heap) (kn : AV → AV → AV → AV → Heap → Res) (k0 : AV → Heap → Res) : Res :=
  purK (binA Tryz.prog H .lss 3 x13 x12) fun x14_1 =>
  condK x14_1
  (
    purK (binA Tryz.prog H .quo 3 x13 (.int .i64 8)) fun x18_1 =>
    purK (ixS 1 x3 x18_1) fun x19_1 =>
    purK (ld1 ρ H x19_1) fun x20_1 =>
    purK (ixT x0 x13) fun x23_1 =>
    purK (cvI .u64 x23_1) fun x24_1 =>
    purK (binA Tryz.prog H .rem 3 x13 (.int .i64 8)) fun x26_1 =>
    purK (binA Tryz.prog H .mul 3 x26_1 (.int .i64 8)) fun x27_1 =>
    purK (binA Tryz.prog H .shl 22 x24_1 x27_1) fun x28_1 =>
    purK (binA Tryz.prog H .or 22 x20_1 x28_1) fun x29_1 =>
    purK (ixS 1 x3 x18_1) fun x30_1 =>
    effK H (stA lim H 1 x30_1 x29_1) fun _ H =>
    purK (binA Tryz.prog H .add 3 x13 (.int .i64 1)) fun x31_1 =>
    kn x0 x3 x12 x31_1 H)
  (
    k0 x3 H)
theorem N167_3b_eq (ρ : Addr → Option Value) (call : CallF) (yc : YieldF) (lim k : Nat) (x0 x3 x12 x13 : AV) (H : Heap) (kn : KS) (k0 : KS) (R : List AV → Heap → Res) :
    evL (cx ρ) call yc false 167 lim k (Code.at [1, 1, 0, 1, 0, 0] c167) (sp 33 [(0, x0), (3, x3), (12, x12), (13, x13)]) H (kk (some [0, 3, 12, 13]) kn [(0, (some [3]), k0)] R [2]) = N167_3b ρ call yc lim k x0 x3 x12 x13 H (fun x0 x3 x12 x13 H => kn (sp 33 [(0, x0), (3, x3), (12, x12), (13, x13)]) H) (fun x3 H => k0 (sp 33 [(3, x3)]) H) := by
  kernel_rfl
noncomputable def N167_3 (ρ : Addr → Option Value) (call : CallF) (yc : YieldF) (lim k : Nat) (x0 x3 x12 x13 : AV) (H : Heap) (k0 : AV → Heap → Res) : Res :=
  loopL (fun (x : AV) H kn => N167_3b ρ call yc lim k x0 x3 x12 x H (fun _ _ _ x13 H => kn x13 H) k0) k x13 H
theorem N167_3_eq (ρ : Addr → Option Value) (call : CallF) (yc : YieldF) (lim k : Nat) (x0 x3 x12 x13 : AV) (H : Heap) (kn : KS) (k0 : KS) (R : List AV → Heap → Res) :
    evL (cx ρ) call yc false 167 lim k (Code.at [1, 1, 0, 1, 0] c167) (sp 33 [(0, x0), (3, x3), (12, x12), (13, x13)]) H (kk (some [3]) kn [(0, (some [3]), k0)] R [2]) = N167_3 ρ call yc lim k x0 x3 x12 x13 H (fun x3 H => k0 (sp 33 [(3, x3)]) H) := by
  have e : Code.at [1, 1, 0, 1, 0] c167 = .loop (Code.at [1, 1, 0, 1, 0, 0] c167) := by kernel_rfl
  rw [e]
  unfold N167_3
  exact loop_node [0, 3, 12, 13] (fun x : AV => (sp 33 [(0, x0), (3, x3), (12, x12), (13, (x))])) (fun (x : AV) H kn => N167_3b ρ call yc lim k x0 x3 x12 x H (fun _ _ _ x13 H => kn x13 H) (fun x3 H => k0 (sp 33 [(3, x3)]) H)) (by kernel_rfl) (fun x => by kernel_rfl) (fun x H kn => N167_3b_eq ρ call yc lim k x0 x3 x12 (x) H kn k0 R) x13 (sp 33 [(0, x0), (3, x3), (12, x12), (13, x13)]) H (by kernel_rfl)
noncomputable def N167_2 (ρ : Addr → Option Value) (call : CallF) (yc : YieldF) (lim k : Nat) (x0 x3 x12 x13 : AV) (H : Heap) (kn : AV → Heap → Res) : Res :=
  N167_3 ρ call yc lim k x0 x3 x12 x13 H kn
theorem N167_2_x (ρ : Addr → Option Value) (call : CallF) (yc : YieldF) (lim k : Nat) (J : CodeF) (x0 x3 x12 x13 : AV) (H : Heap) (kn : KS) (R : List AV → Heap → Res) :
    evX (cx ρ) call yc false 167 lim k J (Code.at [1, 1, 0, 1] c167) (sp 33 [(0, x0), (3, x3), (12, x12), (13, x13)]) H (kk (some [3]) kn [] R [2]) =
  J (Code.at [1, 1, 0, 1, 0] c167) (sp 33 [(0, x0), (3, x3), (12, x12), (13, x13)]) H (kk (some [3]) kn [(0, (some [3]), kn)] R [2]) := by
  kernel_rfl
theorem N167_2_eq (ρ : Addr → Option Value) (call : CallF) (yc : YieldF) (lim k : Nat) (x0 x3 x12 x13 : AV) (H : Heap) (kn : KS) (R : List AV → Heap → Res) :
    evL (cx ρ) call yc false 167 lim k (Code.at [1, 1, 0, 1] c167) (sp 33 [(0, x0), (3, x3), (12, x12), (13, x13)]) H (kk (some [3]) kn [] R [2]) = N167_2 ρ call yc lim k x0 x3 x12 x13 H (fun x3 H => kn (sp 33 [(3, x3)]) H) := by
  rw [evL_X, N167_2_x]
  simp only [← evL_X, N167_2, N167_3_eq]
noncomputable def L167 (ρ : Addr → Option Value) (call : CallF) (yc : YieldF) (lim k : Nat) (x0 : AV) (H : Heap) : Res :=
  purK (lenT x0) fun x6 =>
  purK (binA Tryz.prog H .add 3 x6 (.int .i64 8)) fun x7 =>
  purK (binA Tryz.prog H .sub 3 x7 (.int .i64 1)) fun x8 =>
  purK (binA Tryz.prog H .quo 3 x8 (.int .i64 8)) fun x9 =>
  effK H (mkS H 22 1 8 [.int .u64 0] x9 x9) fun x10 H =>
  purK (lenT x0) fun x12 =>
  N167_2 ρ call yc lim k x0 x10 x12 (.int .i64 0) H (fun x3 H =>
    N167_1 ρ call yc lim k x3 H retK)
theorem L167_x (ρ : Addr → Option Value) (call : CallF) (yc : YieldF) (lim k : Nat) (J : CodeF) (x0 : AV) (H : Heap) :
    evX (cx ρ) call yc false 167 lim k J c167 [x0, (.tup []), (.tup []), (.tup []), (.tup []), (.tup []), (.tup []), (.tup []), (.tup []), (.tup []), (.tup []), (.tup []), (.tup []), (.tup []), (.tup []), (.tup []), (.tup []), (.tup []), (.tup []), (.tup []), (.tup []), (.tup []), (.tup []), (.tup []), (.tup []), (.tup []), (.tup []), (.tup []), (.tup []), (.tup []), (.tup []), (.tup []), (.tup [])] H (kk none (fun s H => retK (([2] : List Nat).map fun t => s.getD t (.tup [])) H) [] retK [2]) =
  purK (lenT x0) fun x6 =>
  purK (binA Tryz.prog H .add 3 x6 (.int .i64 8)) fun x7 =>
  purK (binA Tryz.prog H .sub 3 x7 (.int .i64 1)) fun x8 =>
  purK (binA Tryz.prog H .quo 3 x8 (.int .i64 8)) fun x9 =>
  effK H (mkS H 22 1 8 [.int .u64 0] x9 x9) fun x10 H =>
  purK (lenT x0) fun x12 =>
  J (Code.at [1, 1, 0, 1] c167) (sp 33 [(0, x0), (3, x10), (12, x12), (13, (.int .i64 0))]) H (kk (some [3]) (fun s H => J (Code.at [1, 1, 1] c167) s H (kk none (fun s H => retK (([2] : List Nat).map fun t => s.getD t (.tup [])) H) [] retK [2])) [] retK [2]) := by
  kernel_rfl
theorem G167 (ρ : Addr → Option Value) (call : CallF) (yc : YieldF) (lim k : Nat) (x0 : AV) (H : Heap) :
    evL (cx ρ) call yc false 167 lim k c167 [x0, (.tup []), (.tup []), (.tup []), (.tup []), (.tup []), (.tup []), (.tup []), (.tup []), (.tup []), (.tup []), (.tup []), (.tup []), (.tup []), (.tup []), (.tup []), (.tup []), (.tup []), (.tup []), (.tup []), (.tup []), (.tup []), (.tup []), (.tup []), (.tup []), (.tup []), (.tup []), (.tup []), (.tup []), (.tup []), (.tup []), (.tup []), (.tup [])] H (kk none (fun s H => retK (([2] : List Nat).map fun t => s.getD t (.tup [])) H) [] retK [2]) = L167 ρ call yc lim k x0 H := by
  rw [evL_X, L167_x]
  simp only [← evL_X, L167, N167_1_eq, N167_2_eq]
theorem E167 (ρ : Addr → Option Value) (k lim : Nat) (x0 : AV) (H : Heap) : evCall (cx ρ) (k + 1) lim 167 [x0] H = L167 ρ (evCall (cx ρ) k) (evCY (cx ρ) k).2 lim k x0 H := by
  rw [evCall_body (cx ρ) k lim 167 _ H Tryz.f167 c167 [2] (by kernel_rfl) (by kernel_rfl) (by kernel_rfl) (by kernel_rfl) (by kernel_rfl)]
  exact G167 ρ (evCall (cx ρ) k) (evCY (cx ρ) k).2 lim k x0 H
-- haycroft/place.Page
noncomputable def c168 : Code := Code.of Tryz.prog 168
noncomputable def L168 (ρ : Addr → Option Value) (call : CallF) (yc : YieldF) (lim k : Nat) (x0 x1 : AV) (H : Heap) : Res :=
  purK (binA Tryz.prog H .sub 3 (.int .i64 48) x0) fun x9 =>
  resK (call lim 249 [x0, x1, x0, x9] H) fun x10 H =>
  retK [x10] H
theorem G168 (ρ : Addr → Option Value) (call : CallF) (yc : YieldF) (lim k : Nat) (x0 x1 : AV) (H : Heap) :
    evL (cx ρ) call yc false 168 lim k c168 [x0, x1, (.tup []), (.tup []), (.tup []), (.tup []), (.tup []), (.tup []), (.tup []), (.tup []), (.tup [])] H (kk none (fun s H => retK (([4] : List Nat).map fun t => s.getD t (.tup [])) H) [] retK [4]) = L168 ρ call yc lim k x0 x1 H := by
  kernel_rfl
theorem E168 (ρ : Addr → Option Value) (k lim : Nat) (x0 x1 : AV) (H : Heap) : evCall (cx ρ) (k + 1) lim 168 [x0, x1] H = L168 ρ (evCall (cx ρ) k) (evCY (cx ρ) k).2 lim k x0 x1 H := by
  rw [evCall_body (cx ρ) k lim 168 _ H Tryz.f168 c168 [4] (by kernel_rfl) (by kernel_rfl) (by kernel_rfl) (by kernel_rfl) (by kernel_rfl)]
  exact G168 ρ (evCall (cx ρ) k) (evCY (cx ρ) k).2 lim k x0 x1 H
-- (*haycroft/hlog.Log).Pages
noncomputable def c169 : Code := Code.of Tryz.prog 169
noncomputable def L169 (ρ : Addr → Option Value) (call : CallF) (yc : YieldF) (lim k : Nat) (x0 : AV) (H : Heap) : Res :=
  purK (binA Tryz.prog H .eql 71 x0 .nilp) fun x4 =>
  condK x4
  (
    retK [.nilp] H)
  (
    purK (nilChkA x0) fun x6 =>
    purK (addA 1 x6) fun x7 =>
    purK (ld1 ρ H x7) fun x8 =>
    retK [x8] H)
theorem G169 (ρ : Addr → Option Value) (call : CallF) (yc : YieldF) (lim k : Nat) (x0 : AV) (H : Heap) :
    evL (cx ρ) call yc false 169 lim k c169 [x0, (.tup []), (.tup []), (.tup []), (.tup []), (.tup []), (.tup []), (.tup []), (.tup [])] H (kk none (fun s H => retK (([2] : List Nat).map fun t => s.getD t (.tup [])) H) [] retK [2]) = L169 ρ call yc lim k x0 H := by
  kernel_rfl
theorem E169 (ρ : Addr → Option Value) (k lim : Nat) (x0 : AV) (H : Heap) : evCall (cx ρ) (k + 1) lim 169 [x0] H = L169 ρ (evCall (cx ρ) k) (evCY (cx ρ) k).2 lim k x0 H := by
  rw [evCall_body (cx ρ) k lim 169 _ H Tryz.f169 c169 [2] (by kernel_rfl) (by kernel_rfl) (by kernel_rfl) (by kernel_rfl) (by kernel_rfl)]
  exact G169 ρ (evCall (cx ρ) k) (evCY (cx ρ) k).2 lim k x0 H
-- haycroft/place.Offset
noncomputable def c172 : Code := Code.of Tryz.prog 172
noncomputable def L172 (ρ : Addr → Option Value) (call : CallF) (yc : YieldF) (lim k : Nat) (x0 x1 : AV) (H : Heap) : Res :=
  resK (call lim 249 [x0, x1, (.int .i64 0), x0] H) fun x8 H =>
  retK [x8] H
theorem G172 (ρ : Addr → Option Value) (call : CallF) (yc : YieldF) (lim k : Nat) (x0 x1 : AV) (H : Heap) :
    evL (cx ρ) call yc false 172 lim k c172 [x0, x1, (.tup []), (.tup []), (.tup []), (.tup []), (.tup []), (.tup []), (.tup [])] H (kk none (fun s H => retK (([4] : List Nat).map fun t => s.getD t (.tup [])) H) [] retK [4]) = L172 ρ call yc lim k x0 x1 H := by
  kernel_rfl
theorem E172 (ρ : Addr → Option Value) (k lim : Nat) (x0 x1 : AV) (H : Heap) : evCall (cx ρ) (k + 1) lim 172 [x0, x1] H = L172 ρ (evCall (cx ρ) k) (evCY (cx ρ) k).2 lim k x0 x1 H := by
  rw [evCall_body (cx ρ) k lim 172 _ H Tryz.f172 c172 [4] (by kernel_rfl) (by kernel_rfl) (by kernel_rfl) (by kernel_rfl) (by kernel_rfl)]
  exact G172 ρ (evCall (cx ρ) k) (evCY (cx ρ) k).2 lim k x0 x1 H
-- (*haycroft/task.Task).is
noncomputable def c175 : Code := Code.of Tryz.prog 175
noncomputable def L175 (ρ : Addr → Option Value) (call : CallF) (yc : YieldF) (lim k : Nat) (x0 x1 : AV) (H : Heap) : Res :=
  purK (nilChkA x0) fun x6 =>
  purK (addA 3 x6) fun x7 =>
  purK (addA 0 x7) fun x8 =>
  purK (ld1 ρ H x8) fun x9 =>
  purK (binA Tryz.prog H .eql 3 x9 x1) fun x11 =>
  retK [x11] H
theorem G175 (ρ : Addr → Option Value) (call : CallF) (yc : YieldF) (lim k : Nat) (x0 x1 : AV) (H : Heap) :
    evL (cx ρ) call yc false 175 lim k c175 [x0, x1, (.tup []), (.tup []), (.tup []), (.tup []), (.tup []), (.tup []), (.tup []), (.tup []), (.tup []), (.tup [])] H (kk none (fun s H => retK (([4] : List Nat).map fun t => s.getD t (.tup [])) H) [] retK [4]) = L175 ρ call yc lim k x0 x1 H := by
  kernel_rfl
theorem E175 (ρ : Addr → Option Value) (k lim : Nat) (x0 x1 : AV) (H : Heap) : evCall (cx ρ) (k + 1) lim 175 [x0, x1] H = L175 ρ (evCall (cx ρ) k) (evCY (cx ρ) k).2 lim k x0 x1 H := by
  rw [evCall_body (cx ρ) k lim 175 _ H Tryz.f175 c175 [4] (by kernel_rfl) (by kernel_rfl) (by kernel_rfl) (by kernel_rfl) (by kernel_rfl)]
  exact G175 ρ (evCall (cx ρ) k) (evCY (cx ρ) k).2 lim k x0 x1 H
-- (*haycroft/task.Task).ends
noncomputable def c176 : Code := Code.of Tryz.prog 176
noncomputable def L176 (ρ : Addr → Option Value) (call : CallF) (yc : YieldF) (lim k : Nat) (x0 x1 x2 : AV) (H : Heap) : Res :=
  purK (bldA [.int .i64 0, .str ByteArray.empty] [(0, 1, x1), (1, 1, x2)]) fun x12 =>
  purK (nilChkA x0) fun x13 =>
  purK (addA 20 x13) fun x14 =>
  effK H (stA lim H 1 x14 (.bool true)) fun _ H =>
  purK (nilChkA x0) fun x15 =>
  purK (addA 21 x15) fun x16 =>
  effK H (stA lim H 2 x16 x12) fun _ H =>
  retK [(.int .i64 2), (.int .i64 0)] H
theorem G176 (ρ : Addr → Option Value) (call : CallF) (yc : YieldF) (lim k : Nat) (x0 x1 x2 : AV) (H : Heap) :
    evL (cx ρ) call yc false 176 lim k c176 [x0, x1, x2, (.tup []), (.tup []), (.tup []), (.tup []), (.tup []), (.tup []), (.tup []), (.tup []), (.tup []), (.tup []), (.tup []), (.tup []), (.tup []), (.tup [])] H (kk none (fun s H => retK (([6, 7] : List Nat).map fun t => s.getD t (.tup [])) H) [] retK [6, 7]) = L176 ρ call yc lim k x0 x1 x2 H := by
  kernel_rfl
theorem E176 (ρ : Addr → Option Value) (k lim : Nat) (x0 x1 x2 : AV) (H : Heap) : evCall (cx ρ) (k + 1) lim 176 [x0, x1, x2] H = L176 ρ (evCall (cx ρ) k) (evCY (cx ρ) k).2 lim k x0 x1 x2 H := by
  rw [evCall_body (cx ρ) k lim 176 _ H Tryz.f176 c176 [6, 7] (by kernel_rfl) (by kernel_rfl) (by kernel_rfl) (by kernel_rfl) (by kernel_rfl)]
  exact G176 ρ (evCall (cx ρ) k) (evCY (cx ρ) k).2 lim k x0 x1 x2 H
-- (*haycroft/task.Task).more
noncomputable def c177 : Code := Code.of Tryz.prog 177
noncomputable def L177 (ρ : Addr → Option Value) (call : CallF) (yc : YieldF) (lim k : Nat) (x0 x1 : AV) (H : Heap) : Res :=
  purK (nilChkA x0) fun x8 =>
  purK (addA 8 x8) fun x9 =>
  effK H (stA lim H 1 x9 x1) fun _ H =>
  retK [(.int .i64 1), (.int .i64 0)] H
theorem G177 (ρ : Addr → Option Value) (call : CallF) (yc : YieldF) (lim k : Nat) (x0 x1 : AV) (H : Heap) :
    evL (cx ρ) call yc false 177 lim k c177 [x0, x1, (.tup []), (.tup []), (.tup []), (.tup []), (.tup []), (.tup []), (.tup []), (.tup [])] H (kk none (fun s H => retK (([4, 5] : List Nat).map fun t => s.getD t (.tup [])) H) [] retK [4, 5]) = L177 ρ call yc lim k x0 x1 H := by
  kernel_rfl
theorem E177 (ρ : Addr → Option Value) (k lim : Nat) (x0 x1 : AV) (H : Heap) : evCall (cx ρ) (k + 1) lim 177 [x0, x1] H = L177 ρ (evCall (cx ρ) k) (evCY (cx ρ) k).2 lim k x0 x1 H := by
  rw [evCall_body (cx ρ) k lim 177 _ H Tryz.f177 c177 [4, 5] (by kernel_rfl) (by kernel_rfl) (by kernel_rfl) (by kernel_rfl) (by kernel_rfl)]
  exact G177 ρ (evCall (cx ρ) k) (evCY (cx ρ) k).2 lim k x0 x1 H
-- (*haycroft/task.Task).take
noncomputable def c178 : Code := Code.of Tryz.prog 178
noncomputable def L178 (ρ : Addr → Option Value) (call : CallF) (yc : YieldF) (lim k : Nat) (x0 : AV) (H : Heap) : Res :=
  resK (call lim 256 [x0] H) fun x9 H =>
  effK H (some (.ptr H.sz 0 0, .new (newCells 267 false [.int .u64 0, .bool false, .bool false, .str ByteArray.empty, .str ByteArray.empty]))) fun x4 H =>
  effK H (stA lim H 5 x4 x9) fun _ H =>
  purK (nilChkA x0) fun x12 =>
  purK (addA 0 x12) fun x13 =>
  purK (ld1 ρ H x13) fun x14 =>
  purK (addA 3 x4) fun x15 =>
  purK (ld1 ρ H x15) fun x16 =>
  purK (lenT x16) fun x17 =>
  purK (addA 4 x4) fun x18 =>
  purK (ld1 ρ H x18) fun x19 =>
  purK (lenT x19) fun x20 =>
  resK (call lim 251 [x17, x20] H) fun x21 H => bif (agn (ld1 ρ H x13) x14 && true) then
    resK (call lim 257 [x14, x21] H) fun x22 H =>
    purK (extA 0 x22) fun x23 =>
    purK (extA 1 x22) fun x24 =>
    purK (extA 2 x22) fun x25 =>
    purK (binA Tryz.prog H .neq 30 x25 (.int .i64 0)) fun x27 =>
    condK x27
    (
      resK (call lim 100 [x25] H) fun x29 H =>
      purK (extA 0 x29) fun x30 =>
      purK (extA 1 x29) fun x31 =>
      retK [x30, x31] H)
    (
      purK (binA Tryz.prog H .eql 3 x24 (.int .i64 1)) fun x34 =>
      condK x34
      (
        purK (nilChkA x0) fun x37 =>
        purK (addA 15 x37) fun x38 =>
        effK H (stA lim H 1 x38 x23) fun _ H =>
        resK (call lim 177 [x0, (.fn (.func 258) [] [])] H) fun x40 H =>
        purK (extA 0 x40) fun x41 =>
        purK (extA 1 x40) fun x42 =>
        retK [x41, x42] H)
      (
        purK (binA Tryz.prog H .eql 3 x24 (.int .i64 2)) fun x44 =>
        condK x44
        (
          resK (call lim 177 [x0, (.fn (.func 259) [] [])] H) fun x46 H =>
          purK (extA 0 x46) fun x47 =>
          purK (extA 1 x46) fun x48 =>
          retK [x47, x48] H)
        (
          purK (binA Tryz.prog H .eql 3 x24 (.int .i64 4)) fun x50 =>
          condK x50
          (
            resK (call lim 176 [x0, (.int .i64 9), (.str (ByteArray.mk #[]))] H) fun x52 H =>
            purK (extA 0 x52) fun x53 =>
            purK (extA 1 x52) fun x54 =>
            retK [x53, x54] H)
          (
            resK (call lim 260 [x0, (.fn (.func 178) [] [])] H) fun x56 H =>
            purK (extA 0 x56) fun x57 =>
            purK (extA 1 x56) fun x58 =>
            retK [x57, x58] H))))
  else none
theorem G178 (ρ : Addr → Option Value) (call : CallF) (yc : YieldF) (lim k : Nat) (x0 : AV) (H : Heap) :
    evL (cx ρ) call yc false 178 lim k c178 [x0, (.tup []), (.tup []), (.tup []), (.tup []), (.tup []), (.tup []), (.tup []), (.tup []), (.tup []), (.tup []), (.tup []), (.tup []), (.tup []), (.tup []), (.tup []), (.tup []), (.tup []), (.tup []), (.tup []), (.tup []), (.tup []), (.tup []), (.tup []), (.tup []), (.tup []), (.tup []), (.tup []), (.tup []), (.tup []), (.tup []), (.tup []), (.tup []), (.tup []), (.tup []), (.tup []), (.tup []), (.tup []), (.tup []), (.tup []), (.tup []), (.tup []), (.tup []), (.tup []), (.tup []), (.tup []), (.tup []), (.tup []), (.tup []), (.tup []), (.tup []), (.tup []), (.tup []), (.tup []), (.tup []), (.tup []), (.tup []), (.tup []), (.tup [])] H (kk none (fun s H => retK (([2, 3] : List Nat).map fun t => s.getD t (.tup [])) H) [] retK [2, 3]) = L178 ρ call yc lim k x0 H := by
  kernel_rfl
theorem E178 (ρ : Addr → Option Value) (k lim : Nat) (x0 : AV) (H : Heap) : evCall (cx ρ) (k + 1) lim 178 [x0] H = L178 ρ (evCall (cx ρ) k) (evCY (cx ρ) k).2 lim k x0 H := by
  rw [evCall_body (cx ρ) k lim 178 _ H Tryz.f178 c178 [2, 3] (by kernel_rfl) (by kernel_rfl) (by kernel_rfl) (by kernel_rfl) (by kernel_rfl)]
  exact G178 ρ (evCall (cx ρ) k) (evCY (cx ρ) k).2 lim k x0 H
-- (*haycroft/cell.Row).Add
noncomputable def c181 : Code := Code.of Tryz.prog 181
noncomputable def L181 (ρ : Addr → Option Value) (call : CallF) (yc : YieldF) (lim k : Nat) (x0 x1 x2 : AV) (H : Heap) : Res :=
  resK (call lim 246 [x0, x1] H) fun x11 H =>
  purK (binA Tryz.prog H .neq 30 x11 (.int .i64 0)) fun x13 =>
  condK x13
  (
    retK [(.int .u64 0), x11] H)
  (
    purK (nilChkA x0) fun x16 =>
    purK (addA 0 x16) fun x17 =>
    purK (ld1 ρ H x17) fun x18 =>
    purK (ixS 1 x18 x1) fun x20 =>
    resK (call lim 262 [x20, x2] H) fun x22 H =>
    purK (binA Tryz.prog H .sub 22 x22 x2) fun x24 =>
    retK [x24, (.int .i64 0)] H)
theorem G181 (ρ : Addr → Option Value) (call : CallF) (yc : YieldF) (lim k : Nat) (x0 x1 x2 : AV) (H : Heap) :
    evL (cx ρ) call yc false 181 lim k c181 [x0, x1, x2, (.tup []), (.tup []), (.tup []), (.tup []), (.tup []), (.tup []), (.tup []), (.tup []), (.tup []), (.tup []), (.tup []), (.tup []), (.tup []), (.tup []), (.tup []), (.tup []), (.tup []), (.tup []), (.tup []), (.tup []), (.tup []), (.tup [])] H (kk none (fun s H => retK (([6, 7] : List Nat).map fun t => s.getD t (.tup [])) H) [] retK [6, 7]) = L181 ρ call yc lim k x0 x1 x2 H := by
  kernel_rfl
theorem E181 (ρ : Addr → Option Value) (k lim : Nat) (x0 x1 x2 : AV) (H : Heap) : evCall (cx ρ) (k + 1) lim 181 [x0, x1, x2] H = L181 ρ (evCall (cx ρ) k) (evCY (cx ρ) k).2 lim k x0 x1 x2 H := by
  rw [evCall_body (cx ρ) k lim 181 _ H Tryz.f181 c181 [6, 7] (by kernel_rfl) (by kernel_rfl) (by kernel_rfl) (by kernel_rfl) (by kernel_rfl)]
  exact G181 ρ (evCall (cx ρ) k) (evCY (cx ρ) k).2 lim k x0 x1 x2 H
-- haycroft/pages.mark
noncomputable def c185 : Code := Code.of Tryz.prog 185
noncomputable def L185 (ρ : Addr → Option Value) (call : CallF) (yc : YieldF) (lim k : Nat) (x0 : AV) (H : Heap) : Res :=
  purK (cvI .u64 x0) fun x4 =>
  purK (binA Tryz.prog H .add 22 x4 (.int .u64 1)) fun x5 =>
  retK [x5] H
theorem G185 (ρ : Addr → Option Value) (call : CallF) (yc : YieldF) (lim k : Nat) (x0 : AV) (H : Heap) :
    evL (cx ρ) call yc false 185 lim k c185 [x0, (.tup []), (.tup []), (.tup []), (.tup []), (.tup [])] H (kk none (fun s H => retK (([2] : List Nat).map fun t => s.getD t (.tup [])) H) [] retK [2]) = L185 ρ call yc lim k x0 H := by
  kernel_rfl
theorem E185 (ρ : Addr → Option Value) (k lim : Nat) (x0 : AV) (H : Heap) : evCall (cx ρ) (k + 1) lim 185 [x0] H = L185 ρ (evCall (cx ρ) k) (evCY (cx ρ) k).2 lim k x0 H := by
  rw [evCall_body (cx ρ) k lim 185 _ H Tryz.f185 c185 [2] (by kernel_rfl) (by kernel_rfl) (by kernel_rfl) (by kernel_rfl) (by kernel_rfl)]
  exact G185 ρ (evCall (cx ρ) k) (evCY (cx ρ) k).2 lim k x0 H
-- (*haycroft/cell.Row).within
noncomputable def c186 : Code := Code.of Tryz.prog 186
noncomputable def N186_1 (ρ : Addr → Option Value) (call : CallF) (yc : YieldF) (lim k : Nat) (H : Heap) (R : List AV → Heap → Res) : Res :=
  R [(.int .i64 0)] H
theorem N186_1_eq (ρ : Addr → Option Value) (call : CallF) (yc : YieldF) (lim k : Nat) (H : Heap) (R : List AV → Heap → Res) :
    evL (cx ρ) call yc false 186 lim k (Code.at [1, 1] c186) (sp 25 []) H (kk none (fun s H => R (([6] : List Nat).map fun t => s.getD t (.tup [])) H) [] R [6]) = N186_1 ρ call yc lim k H R := by
  kernel_rfl
noncomputable def N186_2 (ρ : Addr → Option Value) (call : CallF) (yc : YieldF) (lim k : Nat) (x10 : AV) (H : Heap) (kn : Heap → Res) (R : List AV → Heap → Res) : Res :=
  condK x10
  (
    R [(.int .i64 1)] H)
  (
    kn H)
theorem N186_2_eq (ρ : Addr → Option Value) (call : CallF) (yc : YieldF) (lim k : Nat) (x10 : AV) (H : Heap) (kn : KS) (k0 : KS) (R : List AV → Heap → Res) :
    evL (cx ρ) call yc false 186 lim k (Code.at [1, 0, 0, 1, 1, 1] c186) (sp 25 [(10, x10)]) H (kk (some []) kn [(0, (some []), k0)] R [6]) = N186_2 ρ call yc lim k x10 H (fun H => kn (sp 25 []) H) R := by
  kernel_rfl
noncomputable def L186 (ρ : Addr → Option Value) (call : CallF) (yc : YieldF) (lim k : Nat) (x0 x1 x2 : AV) (H : Heap) : Res :=
  purK (binA Tryz.prog H .eql 175 x0 .nilp) fun x9 =>
  condK x9
  (
    retK [(.int .i64 2)] H)
  (
    purK (binA Tryz.prog H .lss 3 x2 (.int .i64 0)) fun x12 =>
    condK x12
    (
      N186_2 ρ call yc lim k x12 H (fun H =>
        N186_1 ρ call yc lim k H retK) retK)
    (
      purK (binA Tryz.prog H .lss 3 x1 (.int .i64 0)) fun x14 =>
      condK x14
      (
        N186_2 ρ call yc lim k x14 H (fun H =>
          N186_1 ρ call yc lim k H retK) retK)
      (
        resK (call lim 159 [x0] H) fun x17 H =>
        purK (binA Tryz.prog H .gtr 3 x2 x17) fun x18 =>
        condK x18
        (
          N186_2 ρ call yc lim k x18 H (fun H =>
            N186_1 ρ call yc lim k H retK) retK)
        (
          resK (call lim 159 [x0] H) fun x21 H =>
          purK (binA Tryz.prog H .sub 3 x21 x2) fun x23 =>
          purK (binA Tryz.prog H .gtr 3 x1 x23) fun x24 =>
          N186_2 ρ call yc lim k x24 H (fun H =>
            N186_1 ρ call yc lim k H retK) retK))))
theorem L186_x (ρ : Addr → Option Value) (call : CallF) (yc : YieldF) (lim k : Nat) (J : CodeF) (x0 x1 x2 : AV) (H : Heap) :
    evX (cx ρ) call yc false 186 lim k J c186 [x0, x1, x2, (.tup []), (.tup []), (.tup []), (.tup []), (.tup []), (.tup []), (.tup []), (.tup []), (.tup []), (.tup []), (.tup []), (.tup []), (.tup []), (.tup []), (.tup []), (.tup []), (.tup []), (.tup []), (.tup []), (.tup []), (.tup []), (.tup [])] H (kk none (fun s H => retK (([6] : List Nat).map fun t => s.getD t (.tup [])) H) [] retK [6]) =
  purK (binA Tryz.prog H .eql 175 x0 .nilp) fun x9 =>
  condK x9
  (
    retK [(.int .i64 2)] H)
  (
    purK (binA Tryz.prog H .lss 3 x2 (.int .i64 0)) fun x12 =>
    condK x12
    (
      J (Code.at [1, 0, 0, 1, 1, 1] c186) (sp 25 [(10, x12)]) H (kk (some []) (fun s H => J (Code.at [1, 1] c186) s H (kk none (fun s H => retK (([6] : List Nat).map fun t => s.getD t (.tup [])) H) [] retK [6])) [(0, (some []), (fun s H => J (Code.at [1, 1] c186) s H (kk none (fun s H => retK (([6] : List Nat).map fun t => s.getD t (.tup [])) H) [] retK [6])))] retK [6]))
    (
      purK (binA Tryz.prog H .lss 3 x1 (.int .i64 0)) fun x14 =>
      condK x14
      (
        J (Code.at [1, 0, 0, 1, 1, 1] c186) (sp 25 [(10, x14)]) H (kk (some []) (fun s H => J (Code.at [1, 1] c186) s H (kk none (fun s H => retK (([6] : List Nat).map fun t => s.getD t (.tup [])) H) [] retK [6])) [(0, (some []), (fun s H => J (Code.at [1, 1] c186) s H (kk none (fun s H => retK (([6] : List Nat).map fun t => s.getD t (.tup [])) H) [] retK [6])))] retK [6]))
      (
        resK (call lim 159 [x0] H) fun x17 H =>
        purK (binA Tryz.prog H .gtr 3 x2 x17) fun x18 =>
        condK x18
        (
          J (Code.at [1, 0, 0, 1, 1, 1] c186) (sp 25 [(10, x18)]) H (kk (some []) (fun s H => J (Code.at [1, 1] c186) s H (kk none (fun s H => retK (([6] : List Nat).map fun t => s.getD t (.tup [])) H) [] retK [6])) [(0, (some []), (fun s H => J (Code.at [1, 1] c186) s H (kk none (fun s H => retK (([6] : List Nat).map fun t => s.getD t (.tup [])) H) [] retK [6])))] retK [6]))
        (
          resK (call lim 159 [x0] H) fun x21 H =>
          purK (binA Tryz.prog H .sub 3 x21 x2) fun x23 =>
          purK (binA Tryz.prog H .gtr 3 x1 x23) fun x24 =>
          J (Code.at [1, 0, 0, 1, 1, 1] c186) (sp 25 [(10, x24)]) H (kk (some []) (fun s H => J (Code.at [1, 1] c186) s H (kk none (fun s H => retK (([6] : List Nat).map fun t => s.getD t (.tup [])) H) [] retK [6])) [(0, (some []), (fun s H => J (Code.at [1, 1] c186) s H (kk none (fun s H => retK (([6] : List Nat).map fun t => s.getD t (.tup [])) H) [] retK [6])))] retK [6]))))) := by
  kernel_rfl
theorem G186 (ρ : Addr → Option Value) (call : CallF) (yc : YieldF) (lim k : Nat) (x0 x1 x2 : AV) (H : Heap) :
    evL (cx ρ) call yc false 186 lim k c186 [x0, x1, x2, (.tup []), (.tup []), (.tup []), (.tup []), (.tup []), (.tup []), (.tup []), (.tup []), (.tup []), (.tup []), (.tup []), (.tup []), (.tup []), (.tup []), (.tup []), (.tup []), (.tup []), (.tup []), (.tup []), (.tup []), (.tup []), (.tup [])] H (kk none (fun s H => retK (([6] : List Nat).map fun t => s.getD t (.tup [])) H) [] retK [6]) = L186 ρ call yc lim k x0 x1 x2 H := by
  rw [evL_X, L186_x]
  simp only [← evL_X, L186, N186_1_eq, N186_2_eq]
theorem E186 (ρ : Addr → Option Value) (k lim : Nat) (x0 x1 x2 : AV) (H : Heap) : evCall (cx ρ) (k + 1) lim 186 [x0, x1, x2] H = L186 ρ (evCall (cx ρ) k) (evCY (cx ρ) k).2 lim k x0 x1 x2 H := by
  rw [evCall_body (cx ρ) k lim 186 _ H Tryz.f186 c186 [6] (by kernel_rfl) (by kernel_rfl) (by kernel_rfl) (by kernel_rfl) (by kernel_rfl)]
  exact G186 ρ (evCall (cx ρ) k) (evCY (cx ρ) k).2 lim k x0 x1 x2 H
-- haycroft/field.Bytes
noncomputable def c189 : Code := Code.of Tryz.prog 189
noncomputable def N189_2 (ρ : Addr → Option Value) (call : CallF) (yc : YieldF) (lim k : Nat) (x1 x6 : AV) (H : Heap) (R : List AV → Heap → Res) : Res :=
  purK (slS 1 x6 none (some x1) none) fun x62_1 =>
  purK (b2s ρ H x62_1) fun x63_1 =>
  R [x63_1, (.int .i64 0)] H
theorem N189_2_eq (ρ : Addr → Option Value) (call : CallF) (yc : YieldF) (lim k : Nat) (x1 x6 : AV) (H : Heap) (R : List AV → Heap → Res) :
    evL (cx ρ) call yc false 189 lim k (Code.at [1, 1, 1, 1, 1, 1] c189) (sp 64 [(1, x1), (6, x6)]) H (kk none (fun s H => R (([4, 5] : List Nat).map fun t => s.getD t (.tup [])) H) [] R [4, 5]) = N189_2 ρ call yc lim k x1 x6 H R := by
  kernel_rfl
noncomputable def N189_4b (ρ : Addr → Option Value) (call : CallF) (yc : YieldF) (lim k : Nat) (x1 x6 x51 x52 x53 : AV) (H : Heap) (kn : AV → AV → AV → AV → AV → Heap → Res) (k3 : AV → AV → Heap → Res) (R : List AV → Heap → Res) : Res :=
  purK (binA Tryz.prog H .lss 3 x53 x52) fun x54_1 =>
  condK x54_1
  (
    purK (ixS 1 x51 x53) fun x55_1 =>
    purK (ld1 ρ H x55_1) fun x56_1 =>
    purK (binA Tryz.prog H .neq 5 x56_1 (.int .u8 0)) fun x58_1 =>
    condK x58_1
    (
      R [(.str (ByteArray.mk #[])), (.int .i64 4)] H)
    (
      purK (binA Tryz.prog H .add 3 x53 (.int .i64 1)) fun x59_1 =>
      kn x1 x6 x51 x52 x59_1 H))
  (
    k3 x1 x6 H)
theorem N189_4b_eq (ρ : Addr → Option Value) (call : CallF) (yc : YieldF) (lim k : Nat) (x1 x6 x51 x52 x53 : AV) (H : Heap) (kn : KS) (k3 : KS) (R : List AV → Heap → Res) :
    evL (cx ρ) call yc false 189 lim k (Code.at [1, 1, 1, 1, 1, 0, 1, 0, 0] c189) (sp 64 [(1, x1), (6, x6), (51, x51), (52, x52), (53, x53)]) H (kk (some [1, 6, 51, 52, 53]) kn [(3, (some [1, 6]), k3)] R [4, 5]) = N189_4b ρ call yc lim k x1 x6 x51 x52 x53 H (fun x1 x6 x51 x52 x53 H => kn (sp 64 [(1, x1), (6, x6), (51, x51), (52, x52), (53, x53)]) H) (fun x1 x6 H => k3 (sp 64 [(1, x1), (6, x6)]) H) R := by
  kernel_rfl
noncomputable def N189_4 (ρ : Addr → Option Value) (call : CallF) (yc : YieldF) (lim k : Nat) (x1 x6 x51 x52 x53 : AV) (H : Heap) (k3 : AV → AV → Heap → Res) (R : List AV → Heap → Res) : Res :=
  loopL (fun (x : AV) H kn => N189_4b ρ call yc lim k x1 x6 x51 x52 x H (fun _ _ _ _ x53 H => kn x53 H) k3 R) k x53 H
theorem N189_4_eq (ρ : Addr → Option Value) (call : CallF) (yc : YieldF) (lim k : Nat) (x1 x6 x51 x52 x53 : AV) (H : Heap) (kn : KS) (k3 : KS) (R : List AV → Heap → Res) :
    evL (cx ρ) call yc false 189 lim k (Code.at [1, 1, 1, 1, 1, 0, 1, 0] c189) (sp 64 [(1, x1), (6, x6), (51, x51), (52, x52), (53, x53)]) H (kk (some [1, 6]) kn [(3, (some [1, 6]), k3)] R [4, 5]) = N189_4 ρ call yc lim k x1 x6 x51 x52 x53 H (fun x1 x6 H => k3 (sp 64 [(1, x1), (6, x6)]) H) R := by
  have e : Code.at [1, 1, 1, 1, 1, 0, 1, 0] c189 = .loop (Code.at [1, 1, 1, 1, 1, 0, 1, 0, 0] c189) := by kernel_rfl
  rw [e]
  unfold N189_4
  exact loop_node [1, 6, 51, 52, 53] (fun x : AV => (sp 64 [(1, x1), (6, x6), (51, x51), (52, x52), (53, (x))])) (fun (x : AV) H kn => N189_4b ρ call yc lim k x1 x6 x51 x52 x H (fun _ _ _ _ x53 H => kn x53 H) (fun x1 x6 H => k3 (sp 64 [(1, x1), (6, x6)]) H) R) (by kernel_rfl) (fun x => by kernel_rfl) (fun x H kn => N189_4b_eq ρ call yc lim k x1 x6 x51 x52 (x) H kn k3 R) x53 (sp 64 [(1, x1), (6, x6), (51, x51), (52, x52), (53, x53)]) H (by kernel_rfl)
noncomputable def N189_3 (ρ : Addr → Option Value) (call : CallF) (yc : YieldF) (lim k : Nat) (x1 x6 x51 x52 x53 : AV) (H : Heap) (kn : AV → AV → Heap → Res) (R : List AV → Heap → Res) : Res :=
  N189_4 ρ call yc lim k x1 x6 x51 x52 x53 H kn R
theorem N189_3_x (ρ : Addr → Option Value) (call : CallF) (yc : YieldF) (lim k : Nat) (J : CodeF) (x1 x6 x51 x52 x53 : AV) (H : Heap) (kn : KS) (R : List AV → Heap → Res) :
    evX (cx ρ) call yc false 189 lim k J (Code.at [1, 1, 1, 1, 1, 0, 1] c189) (sp 64 [(1, x1), (6, x6), (51, x51), (52, x52), (53, x53)]) H (kk (some [1, 6]) kn [] R [4, 5]) =
  J (Code.at [1, 1, 1, 1, 1, 0, 1, 0] c189) (sp 64 [(1, x1), (6, x6), (51, x51), (52, x52), (53, x53)]) H (kk (some [1, 6]) kn [(3, (some [1, 6]), kn)] R [4, 5]) := by
  kernel_rfl
theorem N189_3_eq (ρ : Addr → Option Value) (call : CallF) (yc : YieldF) (lim k : Nat) (x1 x6 x51 x52 x53 : AV) (H : Heap) (kn : KS) (R : List AV → Heap → Res) :
    evL (cx ρ) call yc false 189 lim k (Code.at [1, 1, 1, 1, 1, 0, 1] c189) (sp 64 [(1, x1), (6, x6), (51, x51), (52, x52), (53, x53)]) H (kk (some [1, 6]) kn [] R [4, 5]) = N189_3 ρ call yc lim k x1 x6 x51 x52 x53 H (fun x1 x6 H => kn (sp 64 [(1, x1), (6, x6)]) H) R := by
  rw [evL_X, N189_3_x]
  simp only [← evL_X, N189_3, N189_4_eq]
noncomputable def N189_1 (ρ : Addr → Option Value) (call : CallF) (yc : YieldF) (lim k : Nat) (x0 x1 x6 : AV) (H : Heap) (R : List AV → Heap → Res) : Res :=
  purK (lenS x0) fun x43_1 =>
  purK (binA Tryz.prog H .add 3 x1 (.int .i64 8)) fun x45_1 =>
  purK (binA Tryz.prog H .sub 3 x45_1 (.int .i64 1)) fun x46_1 =>
  purK (binA Tryz.prog H .quo 3 x46_1 (.int .i64 8)) fun x47_1 =>
  purK (binA Tryz.prog H .neq 3 x43_1 x47_1) fun x48_1 =>
  condK x48_1
  (
    R [(.str (ByteArray.mk #[])), (.int .i64 4)] H)
  (
    purK (slS 1 x6 (some x1) none none) fun x51_1 =>
    purK (lenS x51_1) fun x52_1 =>
    N189_3 ρ call yc lim k x1 x6 x51_1 x52_1 (.int .i64 0) H (fun x1_1 x6_1 H =>
      N189_2 ρ call yc lim k x1_1 x6_1 H R) R)
theorem N189_1_x (ρ : Addr → Option Value) (call : CallF) (yc : YieldF) (lim k : Nat) (J : CodeF) (x0 x1 x6 : AV) (H : Heap) (R : List AV → Heap → Res) :
    evX (cx ρ) call yc false 189 lim k J (Code.at [1, 1, 1, 1] c189) (sp 64 [(0, x0), (1, x1), (6, x6)]) H (kk none (fun s H => R (([4, 5] : List Nat).map fun t => s.getD t (.tup [])) H) [] R [4, 5]) =
  purK (lenS x0) fun x43_1 =>
  purK (binA Tryz.prog H .add 3 x1 (.int .i64 8)) fun x45_1 =>
  purK (binA Tryz.prog H .sub 3 x45_1 (.int .i64 1)) fun x46_1 =>
  purK (binA Tryz.prog H .quo 3 x46_1 (.int .i64 8)) fun x47_1 =>
  purK (binA Tryz.prog H .neq 3 x43_1 x47_1) fun x48_1 =>
  condK x48_1
  (
    R [(.str (ByteArray.mk #[])), (.int .i64 4)] H)
  (
    purK (slS 1 x6 (some x1) none none) fun x51_1 =>
    purK (lenS x51_1) fun x52_1 =>
    J (Code.at [1, 1, 1, 1, 1, 0, 1] c189) (sp 64 [(1, x1), (6, x6), (51, x51_1), (52, x52_1), (53, (.int .i64 0))]) H (kk (some [1, 6]) (fun s H => J (Code.at [1, 1, 1, 1, 1, 1] c189) s H (kk none (fun s H => R (([4, 5] : List Nat).map fun t => s.getD t (.tup [])) H) [] R [4, 5])) [] R [4, 5])) := by
  kernel_rfl
theorem N189_1_eq (ρ : Addr → Option Value) (call : CallF) (yc : YieldF) (lim k : Nat) (x0 x1 x6 : AV) (H : Heap) (R : List AV → Heap → Res) :
    evL (cx ρ) call yc false 189 lim k (Code.at [1, 1, 1, 1] c189) (sp 64 [(0, x0), (1, x1), (6, x6)]) H (kk none (fun s H => R (([4, 5] : List Nat).map fun t => s.getD t (.tup [])) H) [] R [4, 5]) = N189_1 ρ call yc lim k x0 x1 x6 H R := by
  rw [evL_X, N189_1_x]
  simp only [← evL_X, N189_1, N189_2_eq, N189_3_eq]
noncomputable def N189_6b (ρ : Addr → Option Value) (call : CallF) (yc : YieldF) (lim k : Nat) (x0 x1 x6 x24 x25 : AV) (H : Heap) (kn : AV → AV → AV → AV → AV → Heap → Res) (k1 : AV → AV → AV → Heap → Res) : Res :=
  purK (binA Tryz.prog H .lss 3 x25 x24) fun x26_1 =>
  condK x26_1
  (
    purK (binA Tryz.prog H .quo 3 x25 (.int .i64 8)) fun x32_1 =>
    purK (ixS 1 x0 x32_1) fun x33_1 =>
    purK (ld1 ρ H x33_1) fun x34_1 =>
    purK (binA Tryz.prog H .rem 3 x25 (.int .i64 8)) fun x36_1 =>
    purK (binA Tryz.prog H .mul 3 x36_1 (.int .i64 8)) fun x37_1 =>
    purK (binA Tryz.prog H .shr 22 x34_1 x37_1) fun x38_1 =>
    purK (cvI .u8 x38_1) fun x39_1 =>
    purK (ixS 1 x6 x25) fun x40_1 =>
    effK H (stA lim H 1 x40_1 x39_1) fun _ H =>
    purK (binA Tryz.prog H .add 3 x25 (.int .i64 1)) fun x41_1 =>
    kn x0 x1 x6 x24 x41_1 H)
  (
    k1 x0 x1 x6 H)
theorem N189_6b_eq (ρ : Addr → Option Value) (call : CallF) (yc : YieldF) (lim k : Nat) (x0 x1 x6 x24 x25 : AV) (H : Heap) (kn : KS) (k1 : KS) (R : List AV → Heap → Res) :
    evL (cx ρ) call yc false 189 lim k (Code.at [1, 1, 1, 0, 1, 0, 0] c189) (sp 64 [(0, x0), (1, x1), (6, x6), (24, x24), (25, x25)]) H (kk (some [0, 1, 6, 24, 25]) kn [(1, (some [0, 1, 6]), k1)] R [4, 5]) = N189_6b ρ call yc lim k x0 x1 x6 x24 x25 H (fun x0 x1 x6 x24 x25 H => kn (sp 64 [(0, x0), (1, x1), (6, x6), (24, x24), (25, x25)]) H) (fun x0 x1 x6 H => k1 (sp 64 [(0, x0), (1, x1), (6, x6)]) H) := by
  kernel_rfl
noncomputable def N189_6 (ρ : Addr → Option Value) (call : CallF) (yc : YieldF) (lim k : Nat) (x0 x1 x6 x24 x25 : AV) (H : Heap) (k1 : AV → AV → AV → Heap → Res) : Res :=
  loopL (fun (x : AV) H kn => N189_6b ρ call yc lim k x0 x1 x6 x24 x H (fun _ _ _ _ x25 H => kn x25 H) k1) k x25 H
theorem N189_6_eq (ρ : Addr → Option Value) (call : CallF) (yc : YieldF) (lim k : Nat) (x0 x1 x6 x24 x25 : AV) (H : Heap) (kn : KS) (k1 : KS) (R : List AV → Heap → Res) :
    evL (cx ρ) call yc false 189 lim k (Code.at [1, 1, 1, 0, 1, 0] c189) (sp 64 [(0, x0), (1, x1), (6, x6), (24, x24), (25, x25)]) H (kk (some [0, 1, 6]) kn [(1, (some [0, 1, 6]), k1)] R [4, 5]) = N189_6 ρ call yc lim k x0 x1 x6 x24 x25 H (fun x0 x1 x6 H => k1 (sp 64 [(0, x0), (1, x1), (6, x6)]) H) := by
  have e : Code.at [1, 1, 1, 0, 1, 0] c189 = .loop (Code.at [1, 1, 1, 0, 1, 0, 0] c189) := by kernel_rfl
  rw [e]
  unfold N189_6
  exact loop_node [0, 1, 6, 24, 25] (fun x : AV => (sp 64 [(0, x0), (1, x1), (6, x6), (24, x24), (25, (x))])) (fun (x : AV) H kn => N189_6b ρ call yc lim k x0 x1 x6 x24 x H (fun _ _ _ _ x25 H => kn x25 H) (fun x0 x1 x6 H => k1 (sp 64 [(0, x0), (1, x1), (6, x6)]) H)) (by kernel_rfl) (fun x => by kernel_rfl) (fun x H kn => N189_6b_eq ρ call yc lim k x0 x1 x6 x24 (x) H kn k1 R) x25 (sp 64 [(0, x0), (1, x1), (6, x6), (24, x24), (25, x25)]) H (by kernel_rfl)
noncomputable def N189_5 (ρ : Addr → Option Value) (call : CallF) (yc : YieldF) (lim k : Nat) (x0 x1 x6 x24 x25 : AV) (H : Heap) (kn : AV → AV → AV → Heap → Res) : Res :=
  N189_6 ρ call yc lim k x0 x1 x6 x24 x25 H kn
theorem N189_5_x (ρ : Addr → Option Value) (call : CallF) (yc : YieldF) (lim k : Nat) (J : CodeF) (x0 x1 x6 x24 x25 : AV) (H : Heap) (kn : KS) (R : List AV → Heap → Res) :
    evX (cx ρ) call yc false 189 lim k J (Code.at [1, 1, 1, 0, 1] c189) (sp 64 [(0, x0), (1, x1), (6, x6), (24, x24), (25, x25)]) H (kk (some [0, 1, 6]) kn [] R [4, 5]) =
  J (Code.at [1, 1, 1, 0, 1, 0] c189) (sp 64 [(0, x0), (1, x1), (6, x6), (24, x24), (25, x25)]) H (kk (some [0, 1, 6]) kn [(1, (some [0, 1, 6]), kn)] R [4, 5]) := by
  kernel_rfl
theorem N189_5_eq (ρ : Addr → Option Value) (call : CallF) (yc : YieldF) (lim k : Nat) (x0 x1 x6 x24 x25 : AV) (H : Heap) (kn : KS) (R : List AV → Heap → Res) :
    evL (cx ρ) call yc false 189 lim k (Code.at [1, 1, 1, 0, 1] c189) (sp 64 [(0, x0), (1, x1), (6, x6), (24, x24), (25, x25)]) H (kk (some [0, 1, 6]) kn [] R [4, 5]) = N189_5 ρ call yc lim k x0 x1 x6 x24 x25 H (fun x0 x1 x6 H => kn (sp 64 [(0, x0), (1, x1), (6, x6)]) H) := by
  rw [evL_X, N189_5_x]
  simp only [← evL_X, N189_5, N189_6_eq]
noncomputable def L189 (ρ : Addr → Option Value) (call : CallF) (yc : YieldF) (lim k : Nat) (x0 x1 : AV) (H : Heap) : Res :=
  purK (binA Tryz.prog H .lss 3 x1 (.int .i64 0)) fun x12 =>
  condK x12
  (
    retK [(.str (ByteArray.mk #[])), (.int .i64 1)] H)
  (
    purK (lenS x0) fun x16 =>
    purK (binA Tryz.prog H .mul 3 (.int .i64 8) x16) fun x17 =>
    purK (binA Tryz.prog H .gtr 3 x1 x17) fun x18 =>
    condK x18
    (
      retK [(.str (ByteArray.mk #[])), (.int .i64 3)] H)
    (
      purK (lenS x0) fun x20 =>
      purK (binA Tryz.prog H .mul 3 (.int .i64 8) x20) fun x21 =>
      effK H (mkS H 5 1 1 [.int .u8 0] x21 x21) fun x22 H =>
      purK (lenS x22) fun x24 =>
      N189_5 ρ call yc lim k x0 x1 x22 x24 (.int .i64 0) H (fun x0_1 x1_1 x6 H =>
        N189_1 ρ call yc lim k x0_1 x1_1 x6 H retK)))
theorem L189_x (ρ : Addr → Option Value) (call : CallF) (yc : YieldF) (lim k : Nat) (J : CodeF) (x0 x1 : AV) (H : Heap) :
    evX (cx ρ) call yc false 189 lim k J c189 [x0, x1, (.tup []), (.tup []), (.tup []), (.tup []), (.tup []), (.tup []), (.tup []), (.tup []), (.tup []), (.tup []), (.tup []), (.tup []), (.tup []), (.tup []), (.tup []), (.tup []), (.tup []), (.tup []), (.tup []), (.tup []), (.tup []), (.tup []), (.tup []), (.tup []), (.tup []), (.tup []), (.tup []), (.tup []), (.tup []), (.tup []), (.tup []), (.tup []), (.tup []), (.tup []), (.tup []), (.tup []), (.tup []), (.tup []), (.tup []), (.tup []), (.tup []), (.tup []), (.tup []), (.tup []), (.tup []), (.tup []), (.tup []), (.tup []), (.tup []), (.tup []), (.tup []), (.tup []), (.tup []), (.tup []), (.tup []), (.tup []), (.tup []), (.tup []), (.tup []), (.tup []), (.tup []), (.tup [])] H (kk none (fun s H => retK (([4, 5] : List Nat).map fun t => s.getD t (.tup [])) H) [] retK [4, 5]) =
  purK (binA Tryz.prog H .lss 3 x1 (.int .i64 0)) fun x12 =>
  condK x12
  (
    retK [(.str (ByteArray.mk #[])), (.int .i64 1)] H)
  (
    purK (lenS x0) fun x16 =>
    purK (binA Tryz.prog H .mul 3 (.int .i64 8) x16) fun x17 =>
    purK (binA Tryz.prog H .gtr 3 x1 x17) fun x18 =>
    condK x18
    (
      retK [(.str (ByteArray.mk #[])), (.int .i64 3)] H)
    (
      purK (lenS x0) fun x20 =>
      purK (binA Tryz.prog H .mul 3 (.int .i64 8) x20) fun x21 =>
      effK H (mkS H 5 1 1 [.int .u8 0] x21 x21) fun x22 H =>
      purK (lenS x22) fun x24 =>
      J (Code.at [1, 1, 1, 0, 1] c189) (sp 64 [(0, x0), (1, x1), (6, x22), (24, x24), (25, (.int .i64 0))]) H (kk (some [0, 1, 6]) (fun s H => J (Code.at [1, 1, 1, 1] c189) s H (kk none (fun s H => retK (([4, 5] : List Nat).map fun t => s.getD t (.tup [])) H) [] retK [4, 5])) [] retK [4, 5]))) := by
  kernel_rfl
theorem G189 (ρ : Addr → Option Value) (call : CallF) (yc : YieldF) (lim k : Nat) (x0 x1 : AV) (H : Heap) :
    evL (cx ρ) call yc false 189 lim k c189 [x0, x1, (.tup []), (.tup []), (.tup []), (.tup []), (.tup []), (.tup []), (.tup []), (.tup []), (.tup []), (.tup []), (.tup []), (.tup []), (.tup []), (.tup []), (.tup []), (.tup []), (.tup []), (.tup []), (.tup []), (.tup []), (.tup []), (.tup []), (.tup []), (.tup []), (.tup []), (.tup []), (.tup []), (.tup []), (.tup []), (.tup []), (.tup []), (.tup []), (.tup []), (.tup []), (.tup []), (.tup []), (.tup []), (.tup []), (.tup []), (.tup []), (.tup []), (.tup []), (.tup []), (.tup []), (.tup []), (.tup []), (.tup []), (.tup []), (.tup []), (.tup []), (.tup []), (.tup []), (.tup []), (.tup []), (.tup []), (.tup []), (.tup []), (.tup []), (.tup []), (.tup []), (.tup []), (.tup [])] H (kk none (fun s H => retK (([4, 5] : List Nat).map fun t => s.getD t (.tup [])) H) [] retK [4, 5]) = L189 ρ call yc lim k x0 x1 H := by
  rw [evL_X, L189_x]
  simp only [← evL_X, L189, N189_1_eq, N189_5_eq]
theorem E189 (ρ : Addr → Option Value) (k lim : Nat) (x0 x1 : AV) (H : Heap) : evCall (cx ρ) (k + 1) lim 189 [x0, x1] H = L189 ρ (evCall (cx ρ) k) (evCY (cx ρ) k).2 lim k x0 x1 H := by
  rw [evCall_body (cx ρ) k lim 189 _ H Tryz.f189 c189 [4, 5] (by kernel_rfl) (by kernel_rfl) (by kernel_rfl) (by kernel_rfl) (by kernel_rfl)]
  exact G189 ρ (evCall (cx ρ) k) (evCY (cx ρ) k).2 lim k x0 x1 H
-- math/bits.Len64
noncomputable def c218 : Code := Code.of Tryz.prog 218
noncomputable def N218_3 (ρ : Addr → Option Value) (call : CallF) (yc : YieldF) (lim k : Nat) (x0 x2 : AV) (H : Heap) (R : List AV → Heap → Res) : Res :=
  purK (cvI .u8 x0) fun x21_1 =>
  purK (ixT (.str (ByteArray.mk #[0, 1, 2, 2, 3, 3, 3, 3, 4, 4, 4, 4, 4, 4, 4, 4, 5, 5, 5, 5, 5, 5, 5, 5, 5, 5, 5, 5, 5, 5, 5, 5, 6, 6, 6, 6, 6, 6, 6, 6, 6, 6, 6, 6, 6, 6, 6, 6, 6, 6, 6, 6, 6, 6, 6, 6, 6, 6, 6, 6, 6, 6, 6, 6, 7, 7, 7, 7, 7, 7, 7, 7, 7, 7, 7, 7, 7, 7, 7, 7, 7, 7, 7, 7, 7, 7, 7, 7, 7, 7, 7, 7, 7, 7, 7, 7, 7, 7, 7, 7, 7, 7, 7, 7, 7, 7, 7, 7, 7, 7, 7, 7, 7, 7, 7, 7, 7, 7, 7, 7, 7, 7, 7, 7, 7, 7, 7, 7, 8, 8, 8, 8, 8, 8, 8, 8, 8, 8, 8, 8, 8, 8, 8, 8, 8, 8, 8, 8, 8, 8, 8, 8, 8, 8, 8, 8, 8, 8, 8, 8, 8, 8, 8, 8, 8, 8, 8, 8, 8, 8, 8, 8, 8, 8, 8, 8, 8, 8, 8, 8, 8, 8, 8, 8, 8, 8, 8, 8, 8, 8, 8, 8, 8, 8, 8, 8, 8, 8, 8, 8, 8, 8, 8, 8, 8, 8, 8, 8, 8, 8, 8, 8, 8, 8, 8, 8, 8, 8, 8, 8, 8, 8, 8, 8, 8, 8, 8, 8, 8, 8, 8, 8, 8, 8, 8, 8, 8, 8, 8, 8, 8, 8, 8, 8, 8, 8, 8, 8, 8, 8, 8, 8, 8, 8, 8, 8])) x21_1) fun x22_1 =>
  purK (cvI .i64 x22_1) fun x23_1 =>
  purK (binA Tryz.prog H .add 3 x2 x23_1) fun x24_1 =>
  R [x24_1] H
theorem N218_3_eq (ρ : Addr → Option Value) (call : CallF) (yc : YieldF) (lim k : Nat) (x0 x2 : AV) (H : Heap) (R : List AV → Heap → Res) :
    evL (cx ρ) call yc false 218 lim k (Code.at [1, 1, 1, 1] c218) (sp 25 [(0, x0), (2, x2)]) H (kk none (fun s H => R (([2] : List Nat).map fun t => s.getD t (.tup [])) H) [] R [2]) = N218_3 ρ call yc lim k x0 x2 H R := by
  kernel_rfl
noncomputable def N218_2 (ρ : Addr → Option Value) (call : CallF) (yc : YieldF) (lim k : Nat) (x0 x2 : AV) (H : Heap) (R : List AV → Heap → Res) : Res :=
  purK (binA Tryz.prog H .geq 22 x0 (.int .u64 256)) fun x14_1 =>
  condK x14_1
  (
    purK (binA Tryz.prog H .shr 22 x0 (.int .u64 8)) fun x16_1 =>
    purK (binA Tryz.prog H .add 3 x2 (.int .i64 8)) fun x18_1 =>
    N218_3 ρ call yc lim k x16_1 x18_1 H R)
  (
    N218_3 ρ call yc lim k x0 x2 H R)
theorem N218_2_x (ρ : Addr → Option Value) (call : CallF) (yc : YieldF) (lim k : Nat) (J : CodeF) (x0 x2 : AV) (H : Heap) (R : List AV → Heap → Res) :
    evX (cx ρ) call yc false 218 lim k J (Code.at [1, 1, 1] c218) (sp 25 [(0, x0), (2, x2)]) H (kk none (fun s H => R (([2] : List Nat).map fun t => s.getD t (.tup [])) H) [] R [2]) =
  purK (binA Tryz.prog H .geq 22 x0 (.int .u64 256)) fun x14_1 =>
  condK x14_1
  (
    purK (binA Tryz.prog H .shr 22 x0 (.int .u64 8)) fun x16_1 =>
    purK (binA Tryz.prog H .add 3 x2 (.int .i64 8)) fun x18_1 =>
    J (Code.at [1, 1, 1, 1] c218) (sp 25 [(0, x16_1), (2, x18_1)]) H (kk none (fun s H => R (([2] : List Nat).map fun t => s.getD t (.tup [])) H) [] R [2]))
  (
    J (Code.at [1, 1, 1, 1] c218) (sp 25 [(0, x0), (2, x2)]) H (kk none (fun s H => R (([2] : List Nat).map fun t => s.getD t (.tup [])) H) [] R [2])) := by
  kernel_rfl
theorem N218_2_eq (ρ : Addr → Option Value) (call : CallF) (yc : YieldF) (lim k : Nat) (x0 x2 : AV) (H : Heap) (R : List AV → Heap → Res) :
    evL (cx ρ) call yc false 218 lim k (Code.at [1, 1, 1] c218) (sp 25 [(0, x0), (2, x2)]) H (kk none (fun s H => R (([2] : List Nat).map fun t => s.getD t (.tup [])) H) [] R [2]) = N218_2 ρ call yc lim k x0 x2 H R := by
  rw [evL_X, N218_2_x]
  simp only [← evL_X, N218_2, N218_3_eq]
noncomputable def N218_1 (ρ : Addr → Option Value) (call : CallF) (yc : YieldF) (lim k : Nat) (x0 x2 : AV) (H : Heap) (R : List AV → Heap → Res) : Res :=
  purK (binA Tryz.prog H .geq 22 x0 (.int .u64 65536)) fun x8_1 =>
  condK x8_1
  (
    purK (binA Tryz.prog H .shr 22 x0 (.int .u64 16)) fun x10_1 =>
    purK (binA Tryz.prog H .add 3 x2 (.int .i64 16)) fun x12_1 =>
    N218_2 ρ call yc lim k x10_1 x12_1 H R)
  (
    N218_2 ρ call yc lim k x0 x2 H R)
theorem N218_1_x (ρ : Addr → Option Value) (call : CallF) (yc : YieldF) (lim k : Nat) (J : CodeF) (x0 x2 : AV) (H : Heap) (R : List AV → Heap → Res) :
    evX (cx ρ) call yc false 218 lim k J (Code.at [1, 1] c218) (sp 25 [(0, x0), (2, x2)]) H (kk none (fun s H => R (([2] : List Nat).map fun t => s.getD t (.tup [])) H) [] R [2]) =
  purK (binA Tryz.prog H .geq 22 x0 (.int .u64 65536)) fun x8_1 =>
  condK x8_1
  (
    purK (binA Tryz.prog H .shr 22 x0 (.int .u64 16)) fun x10_1 =>
    purK (binA Tryz.prog H .add 3 x2 (.int .i64 16)) fun x12_1 =>
    J (Code.at [1, 1, 1] c218) (sp 25 [(0, x10_1), (2, x12_1)]) H (kk none (fun s H => R (([2] : List Nat).map fun t => s.getD t (.tup [])) H) [] R [2]))
  (
    J (Code.at [1, 1, 1] c218) (sp 25 [(0, x0), (2, x2)]) H (kk none (fun s H => R (([2] : List Nat).map fun t => s.getD t (.tup [])) H) [] R [2])) := by
  kernel_rfl
theorem N218_1_eq (ρ : Addr → Option Value) (call : CallF) (yc : YieldF) (lim k : Nat) (x0 x2 : AV) (H : Heap) (R : List AV → Heap → Res) :
    evL (cx ρ) call yc false 218 lim k (Code.at [1, 1] c218) (sp 25 [(0, x0), (2, x2)]) H (kk none (fun s H => R (([2] : List Nat).map fun t => s.getD t (.tup [])) H) [] R [2]) = N218_1 ρ call yc lim k x0 x2 H R := by
  rw [evL_X, N218_1_x]
  simp only [← evL_X, N218_1, N218_2_eq]
noncomputable def L218 (ρ : Addr → Option Value) (call : CallF) (yc : YieldF) (lim k : Nat) (x0 : AV) (H : Heap) : Res :=
  purK (binA Tryz.prog H .geq 22 x0 (.int .u64 4294967296)) fun x4 =>
  condK x4
  (
    purK (binA Tryz.prog H .shr 22 x0 (.int .u64 32)) fun x6 =>
    N218_1 ρ call yc lim k x6 (.int .i64 32) H retK)
  (
    N218_1 ρ call yc lim k x0 (.int .i64 0) H retK)
theorem L218_x (ρ : Addr → Option Value) (call : CallF) (yc : YieldF) (lim k : Nat) (J : CodeF) (x0 : AV) (H : Heap) :
    evX (cx ρ) call yc false 218 lim k J c218 [x0, (.tup []), (.tup []), (.tup []), (.tup []), (.tup []), (.tup []), (.tup []), (.tup []), (.tup []), (.tup []), (.tup []), (.tup []), (.tup []), (.tup []), (.tup []), (.tup []), (.tup []), (.tup []), (.tup []), (.tup []), (.tup []), (.tup []), (.tup []), (.tup [])] H (kk none (fun s H => retK (([2] : List Nat).map fun t => s.getD t (.tup [])) H) [] retK [2]) =
  purK (binA Tryz.prog H .geq 22 x0 (.int .u64 4294967296)) fun x4 =>
  condK x4
  (
    purK (binA Tryz.prog H .shr 22 x0 (.int .u64 32)) fun x6 =>
    J (Code.at [1, 1] c218) (sp 25 [(0, x6), (2, (.int .i64 32))]) H (kk none (fun s H => retK (([2] : List Nat).map fun t => s.getD t (.tup [])) H) [] retK [2]))
  (
    J (Code.at [1, 1] c218) (sp 25 [(0, x0), (2, (.int .i64 0))]) H (kk none (fun s H => retK (([2] : List Nat).map fun t => s.getD t (.tup [])) H) [] retK [2])) := by
  kernel_rfl
theorem G218 (ρ : Addr → Option Value) (call : CallF) (yc : YieldF) (lim k : Nat) (x0 : AV) (H : Heap) :
    evL (cx ρ) call yc false 218 lim k c218 [x0, (.tup []), (.tup []), (.tup []), (.tup []), (.tup []), (.tup []), (.tup []), (.tup []), (.tup []), (.tup []), (.tup []), (.tup []), (.tup []), (.tup []), (.tup []), (.tup []), (.tup []), (.tup []), (.tup []), (.tup []), (.tup []), (.tup []), (.tup []), (.tup [])] H (kk none (fun s H => retK (([2] : List Nat).map fun t => s.getD t (.tup [])) H) [] retK [2]) = L218 ρ call yc lim k x0 H := by
  rw [evL_X, L218_x]
  simp only [← evL_X, L218, N218_1_eq]
theorem E218 (ρ : Addr → Option Value) (k lim : Nat) (x0 : AV) (H : Heap) : evCall (cx ρ) (k + 1) lim 218 [x0] H = L218 ρ (evCall (cx ρ) k) (evCY (cx ρ) k).2 lim k x0 H := by
  rw [evCall_body (cx ρ) k lim 218 _ H Tryz.f218 c218 [2] (by kernel_rfl) (by kernel_rfl) (by kernel_rfl) (by kernel_rfl) (by kernel_rfl)]
  exact G218 ρ (evCall (cx ρ) k) (evCY (cx ρ) k).2 lim k x0 H
-- slices.pdqsortOrdered[int]
noncomputable def c221 : Code := Code.of Tryz.prog 221
noncomputable def N221_5 (ρ : Addr → Option Value) (call : CallF) (yc : YieldF) (lim k : Nat) (x0 x1 x2 x3 x8 x9 x10 x11 : AV) (H : Heap) (kn : AV → AV → AV → AV → AV → AV → Heap → Res) (k1 : AV → AV → AV → AV → AV → AV → Heap → Res) : Res :=
  purK (binA Tryz.prog H .gtr 3 x1 (.int .i64 0)) fun x74_1 =>
  boolK (wantV x74_1 true) fun b1 => purK (bif b1 then some x0 else some (.tup [])) fun x76_1 =>
  boolK (wantV x74_1 true) fun b2 => purK (bif b2 then some x1 else some (.tup [])) fun x77_1 =>
  boolK (wantV x74_1 true) fun b3 => purK (bif b3 then binA Tryz.prog H .sub 3 x77_1 (.int .i64 1) else some (.tup [])) fun x78_1 =>
  boolK (wantV x74_1 true) fun b4 => purK (bif b4 then ixS 1 x76_1 x78_1 else some (.tup [])) fun x79_1 =>
  boolK (wantV x74_1 true) fun b5 => purK (bif b5 then ld1 ρ H x79_1 else some (.tup [])) fun x80_1 =>
  boolK (wantV x74_1 true) fun b6 => purK (bif b6 then some x0 else some (.tup [])) fun x81_1 =>
  boolK (wantV x74_1 true) fun b7 => purK (bif b7 then some x11 else some (.tup [])) fun x82_1 =>
  boolK (wantV x74_1 true) fun b8 => purK (bif b8 then ixS 1 x81_1 x82_1 else some (.tup [])) fun x83_1 =>
  boolK (wantV x74_1 true) fun b9 => purK (bif b9 then ld1 ρ H x83_1 else some (.tup [])) fun x84_1 =>
  boolK (wantV x74_1 true) fun b10 => resK (gRes (some b10) H (call lim 290 [x80_1, x84_1] H)) fun x85_1 H => bif !b10 || ((!b9 || true) && ((!b5 || true) && ((!b3 || true) && true))) then
    purK (gPur (wantV x74_1 true) (unA .not x85_1)) fun x86_1 =>
    purK (pickA x74_1 x86_1 (.bool false)) fun x87_1 =>
    condK x87_1
    (
      resK (call lim 291 [x0, x1, x2, x11] H) fun x92_1 H =>
      k1 x0 x92_1 x2 x3 x8 x9 H)
    (
      resK (call lim 292 [x0, x1, x2, x11] H) fun x99_1 H =>
      purK (extA 0 x99_1) fun x100_1 =>
      purK (extA 1 x99_1) fun x101_1 =>
      purK (binA Tryz.prog H .sub 3 x100_1 x1) fun x105_1 =>
      purK (binA Tryz.prog H .sub 3 x2 x100_1) fun x108_1 =>
      purK (binA Tryz.prog H .quo 3 x10 (.int .i64 8)) fun x110_1 =>
      purK (binA Tryz.prog H .lss 3 x105_1 x108_1) fun x113_1 =>
      condK x113_1
      (
        purK (binA Tryz.prog H .geq 3 x105_1 x110_1) fun x116_1 =>
        resK (call lim 221 [x0, x1, x100_1, x3] H) fun x121_1 H =>
        purK (binA Tryz.prog H .add 3 x100_1 (.int .i64 1)) fun x123_1 =>
        kn x0 x123_1 x2 x3 x116_1 x101_1 H)
      (
        purK (binA Tryz.prog H .geq 3 x108_1 x110_1) fun x126_1 =>
        purK (binA Tryz.prog H .add 3 x100_1 (.int .i64 1)) fun x129_1 =>
        resK (call lim 221 [x0, x129_1, x2, x3] H) fun x132_1 H =>
        kn x0 x1 x100_1 x3 x126_1 x101_1 H))
  else none
theorem N221_5_eq (ρ : Addr → Option Value) (call : CallF) (yc : YieldF) (lim k : Nat) (x0 x1 x2 x3 x8 x9 x10 x11 : AV) (H : Heap) (kn : KS) (k1 : KS) (R : List AV → Heap → Res) :
    evL (cx ρ) call yc false 221 lim k (Code.at [1, 1, 0, 0, 0, 1, 1, 1, 1, 1, 1, 1] c221) (sp 134 [(0, x0), (1, x1), (2, x2), (3, x3), (8, x8), (9, x9), (10, x10), (11, x11)]) H (kk (some [0, 1, 2, 3, 8, 9]) kn [(1, (some [0, 1, 2, 3, 8, 9]), k1), (0, none, (fun s H => R (([] : List Nat).map fun t => s.getD t (.tup [])) H))] R []) = N221_5 ρ call yc lim k x0 x1 x2 x3 x8 x9 x10 x11 H (fun x0 x1 x2 x3 x8 x9 H => kn (sp 134 [(0, x0), (1, x1), (2, x2), (3, x3), (8, x8), (9, x9)]) H) (fun x0 x1 x2 x3 x8 x9 H => k1 (sp 134 [(0, x0), (1, x1), (2, x2), (3, x3), (8, x8), (9, x9)]) H) := by
  kernel_rfl
noncomputable def N221_4 (ρ : Addr → Option Value) (call : CallF) (yc : YieldF) (lim k : Nat) (x0 x1 x2 x3 x8 x9 x10 x11 x12 : AV) (H : Heap) (kn : AV → AV → AV → AV → AV → AV → Heap → Res) (k1 : AV → AV → AV → AV → AV → AV → Heap → Res) (R : List AV → Heap → Res) : Res :=
  purK (gPur (wantV x8 true) (some x9)) fun x63_1 =>
  purK (pickA x8 x63_1 (.bool false)) fun x64_1 =>
  purK (gPur (wantV x64_1 true) (some x12)) fun x66_1 =>
  purK (gPur (wantV x64_1 true) (binA Tryz.prog H .eql 299 x66_1 (.int .i64 1))) fun x67_1 =>
  purK (pickA x64_1 x67_1 (.bool false)) fun x68_1 =>
  condK x68_1
  (
    resK (call lim 289 [x0, x1, x2] H) fun x72_1 H =>
    condK x72_1
    (
      R [] H)
    (
      N221_5 ρ call yc lim k x0 x1 x2 x3 x8 x9 x10 x11 H kn k1))
  (
    N221_5 ρ call yc lim k x0 x1 x2 x3 x8 x9 x10 x11 H kn k1)
theorem N221_4_x (ρ : Addr → Option Value) (call : CallF) (yc : YieldF) (lim k : Nat) (J : CodeF) (x0 x1 x2 x3 x8 x9 x10 x11 x12 : AV) (H : Heap) (kn : KS) (k1 : KS) (R : List AV → Heap → Res) :
    evX (cx ρ) call yc false 221 lim k J (Code.at [1, 1, 0, 0, 0, 1, 1, 1, 1, 1, 1] c221) (sp 134 [(0, x0), (1, x1), (2, x2), (3, x3), (8, x8), (9, x9), (10, x10), (11, x11), (12, x12)]) H (kk (some [0, 1, 2, 3, 8, 9]) kn [(1, (some [0, 1, 2, 3, 8, 9]), k1), (0, none, (fun s H => R (([] : List Nat).map fun t => s.getD t (.tup [])) H))] R []) =
  purK (gPur (wantV x8 true) (some x9)) fun x63_1 =>
  purK (pickA x8 x63_1 (.bool false)) fun x64_1 =>
  purK (gPur (wantV x64_1 true) (some x12)) fun x66_1 =>
  purK (gPur (wantV x64_1 true) (binA Tryz.prog H .eql 299 x66_1 (.int .i64 1))) fun x67_1 =>
  purK (pickA x64_1 x67_1 (.bool false)) fun x68_1 =>
  condK x68_1
  (
    resK (call lim 289 [x0, x1, x2] H) fun x72_1 H =>
    condK x72_1
    (
      R [] H)
    (
      J (Code.at [1, 1, 0, 0, 0, 1, 1, 1, 1, 1, 1, 1] c221) (sp 134 [(0, x0), (1, x1), (2, x2), (3, x3), (8, x8), (9, x9), (10, x10), (11, x11)]) H (kk (some [0, 1, 2, 3, 8, 9]) kn [(1, (some [0, 1, 2, 3, 8, 9]), k1), (0, none, (fun s H => R (([] : List Nat).map fun t => s.getD t (.tup [])) H))] R [])))
  (
    J (Code.at [1, 1, 0, 0, 0, 1, 1, 1, 1, 1, 1, 1] c221) (sp 134 [(0, x0), (1, x1), (2, x2), (3, x3), (8, x8), (9, x9), (10, x10), (11, x11)]) H (kk (some [0, 1, 2, 3, 8, 9]) kn [(1, (some [0, 1, 2, 3, 8, 9]), k1), (0, none, (fun s H => R (([] : List Nat).map fun t => s.getD t (.tup [])) H))] R [])) := by
  kernel_rfl
theorem N221_4_eq (ρ : Addr → Option Value) (call : CallF) (yc : YieldF) (lim k : Nat) (x0 x1 x2 x3 x8 x9 x10 x11 x12 : AV) (H : Heap) (kn : KS) (k1 : KS) (R : List AV → Heap → Res) :
    evL (cx ρ) call yc false 221 lim k (Code.at [1, 1, 0, 0, 0, 1, 1, 1, 1, 1, 1] c221) (sp 134 [(0, x0), (1, x1), (2, x2), (3, x3), (8, x8), (9, x9), (10, x10), (11, x11), (12, x12)]) H (kk (some [0, 1, 2, 3, 8, 9]) kn [(1, (some [0, 1, 2, 3, 8, 9]), k1), (0, none, (fun s H => R (([] : List Nat).map fun t => s.getD t (.tup [])) H))] R []) = N221_4 ρ call yc lim k x0 x1 x2 x3 x8 x9 x10 x11 x12 H (fun x0 x1 x2 x3 x8 x9 H => kn (sp 134 [(0, x0), (1, x1), (2, x2), (3, x3), (8, x8), (9, x9)]) H) (fun x0 x1 x2 x3 x8 x9 H => k1 (sp 134 [(0, x0), (1, x1), (2, x2), (3, x3), (8, x8), (9, x9)]) H) R := by
  rw [evL_X, N221_4_x]
  simp only [← evL_X, N221_4, N221_5_eq]
noncomputable def N221_3 (ρ : Addr → Option Value) (call : CallF) (yc : YieldF) (lim k : Nat) (x0 x1 x2 x3 x8 x9 x10 : AV) (H : Heap) (kn : AV → AV → AV → AV → AV → AV → Heap → Res) (k1 : AV → AV → AV → AV → AV → AV → Heap → Res) (R : List AV → Heap → Res) : Res :=
  resK (call lim 287 [x0, x1, x2] H) fun x46_1 H =>
  purK (extA 0 x46_1) fun x47_1 =>
  purK (extA 1 x46_1) fun x48_1 =>
  purK (binA Tryz.prog H .eql 299 x48_1 (.int .i64 2)) fun x50_1 =>
  condK x50_1
  (
    resK (call lim 288 [x0, x1, x2] H) fun x54_1 H =>
    purK (binA Tryz.prog H .sub 3 x2 (.int .i64 1)) fun x56_1 =>
    purK (binA Tryz.prog H .sub 3 x47_1 x1) fun x59_1 =>
    purK (binA Tryz.prog H .sub 3 x56_1 x59_1) fun x60_1 =>
    N221_4 ρ call yc lim k x0 x1 x2 x3 x8 x9 x10 x60_1 (.int .i64 1) H kn k1 R)
  (
    N221_4 ρ call yc lim k x0 x1 x2 x3 x8 x9 x10 x47_1 x48_1 H kn k1 R)
theorem N221_3_x (ρ : Addr → Option Value) (call : CallF) (yc : YieldF) (lim k : Nat) (J : CodeF) (x0 x1 x2 x3 x8 x9 x10 : AV) (H : Heap) (kn : KS) (k1 : KS) (R : List AV → Heap → Res) :
    evX (cx ρ) call yc false 221 lim k J (Code.at [1, 1, 0, 0, 0, 1, 1, 1, 1] c221) (sp 134 [(0, x0), (1, x1), (2, x2), (3, x3), (8, x8), (9, x9), (10, x10)]) H (kk (some [0, 1, 2, 3, 8, 9]) kn [(1, (some [0, 1, 2, 3, 8, 9]), k1), (0, none, (fun s H => R (([] : List Nat).map fun t => s.getD t (.tup [])) H))] R []) =
  resK (call lim 287 [x0, x1, x2] H) fun x46_1 H =>
  purK (extA 0 x46_1) fun x47_1 =>
  purK (extA 1 x46_1) fun x48_1 =>
  purK (binA Tryz.prog H .eql 299 x48_1 (.int .i64 2)) fun x50_1 =>
  condK x50_1
  (
    resK (call lim 288 [x0, x1, x2] H) fun x54_1 H =>
    purK (binA Tryz.prog H .sub 3 x2 (.int .i64 1)) fun x56_1 =>
    purK (binA Tryz.prog H .sub 3 x47_1 x1) fun x59_1 =>
    purK (binA Tryz.prog H .sub 3 x56_1 x59_1) fun x60_1 =>
    J (Code.at [1, 1, 0, 0, 0, 1, 1, 1, 1, 1, 1] c221) (sp 134 [(0, x0), (1, x1), (2, x2), (3, x3), (8, x8), (9, x9), (10, x10), (11, x60_1), (12, (.int .i64 1))]) H (kk (some [0, 1, 2, 3, 8, 9]) kn [(1, (some [0, 1, 2, 3, 8, 9]), k1), (0, none, (fun s H => R (([] : List Nat).map fun t => s.getD t (.tup [])) H))] R []))
  (
    J (Code.at [1, 1, 0, 0, 0, 1, 1, 1, 1, 1, 1] c221) (sp 134 [(0, x0), (1, x1), (2, x2), (3, x3), (8, x8), (9, x9), (10, x10), (11, x47_1), (12, x48_1)]) H (kk (some [0, 1, 2, 3, 8, 9]) kn [(1, (some [0, 1, 2, 3, 8, 9]), k1), (0, none, (fun s H => R (([] : List Nat).map fun t => s.getD t (.tup [])) H))] R [])) := by
  kernel_rfl
theorem N221_3_eq (ρ : Addr → Option Value) (call : CallF) (yc : YieldF) (lim k : Nat) (x0 x1 x2 x3 x8 x9 x10 : AV) (H : Heap) (kn : KS) (k1 : KS) (R : List AV → Heap → Res) :
    evL (cx ρ) call yc false 221 lim k (Code.at [1, 1, 0, 0, 0, 1, 1, 1, 1] c221) (sp 134 [(0, x0), (1, x1), (2, x2), (3, x3), (8, x8), (9, x9), (10, x10)]) H (kk (some [0, 1, 2, 3, 8, 9]) kn [(1, (some [0, 1, 2, 3, 8, 9]), k1), (0, none, (fun s H => R (([] : List Nat).map fun t => s.getD t (.tup [])) H))] R []) = N221_3 ρ call yc lim k x0 x1 x2 x3 x8 x9 x10 H (fun x0 x1 x2 x3 x8 x9 H => kn (sp 134 [(0, x0), (1, x1), (2, x2), (3, x3), (8, x8), (9, x9)]) H) (fun x0 x1 x2 x3 x8 x9 H => k1 (sp 134 [(0, x0), (1, x1), (2, x2), (3, x3), (8, x8), (9, x9)]) H) R := by
  rw [evL_X, N221_3_x]
  simp only [← evL_X, N221_3, N221_4_eq]
noncomputable def N221_2b (ρ : Addr → Option Value) (call : CallF) (yc : YieldF) (lim k : Nat) (x0 x1 x2 x3 x8 x9 : AV) (H : Heap) (kn : AV → AV → AV → AV → AV → AV → Heap → Res) (R : List AV → Heap → Res) : Res :=
  purK (binA Tryz.prog H .sub 3 x2 x1) fun x21_1 =>
  purK (binA Tryz.prog H .leq 3 x21_1 (.int .i64 12)) fun x23_1 =>
  condK x23_1
  (
    resK (call lim 284 [x0, x1, x2] H) fun x27_1 H =>
    R [] H)
  (
    purK (binA Tryz.prog H .eql 3 x3 (.int .i64 0)) fun x29_1 =>
    condK x29_1
    (
      resK (call lim 285 [x0, x1, x2] H) fun x33_1 H =>
      R [] H)
    (
      purK (unA .not x8) fun x35_1 =>
      condK x35_1
      (
        resK (call lim 286 [x0, x1, x2] H) fun x39_1 H =>
        purK (binA Tryz.prog H .sub 3 x3 (.int .i64 1)) fun x41_1 =>
        N221_3 ρ call yc lim k x0 x1 x2 x41_1 x8 x9 x21_1 H kn kn R)
      (
        N221_3 ρ call yc lim k x0 x1 x2 x3 x8 x9 x21_1 H kn kn R)))
theorem N221_2b_x (ρ : Addr → Option Value) (call : CallF) (yc : YieldF) (lim k : Nat) (J : CodeF) (x0 x1 x2 x3 x8 x9 : AV) (H : Heap) (kn : KS) (R : List AV → Heap → Res) :
    evX (cx ρ) call yc false 221 lim k J (Code.at [1, 1, 0, 0] c221) (sp 134 [(0, x0), (1, x1), (2, x2), (3, x3), (8, x8), (9, x9)]) H (kk (some [0, 1, 2, 3, 8, 9]) kn [(0, none, (fun s H => R (([] : List Nat).map fun t => s.getD t (.tup [])) H))] R []) =
  purK (binA Tryz.prog H .sub 3 x2 x1) fun x21_1 =>
  purK (binA Tryz.prog H .leq 3 x21_1 (.int .i64 12)) fun x23_1 =>
  condK x23_1
  (
    resK (call lim 284 [x0, x1, x2] H) fun x27_1 H =>
    R [] H)
  (
    purK (binA Tryz.prog H .eql 3 x3 (.int .i64 0)) fun x29_1 =>
    condK x29_1
    (
      resK (call lim 285 [x0, x1, x2] H) fun x33_1 H =>
      R [] H)
    (
      purK (unA .not x8) fun x35_1 =>
      condK x35_1
      (
        resK (call lim 286 [x0, x1, x2] H) fun x39_1 H =>
        purK (binA Tryz.prog H .sub 3 x3 (.int .i64 1)) fun x41_1 =>
        J (Code.at [1, 1, 0, 0, 0, 1, 1, 1, 1] c221) (sp 134 [(0, x0), (1, x1), (2, x2), (3, x41_1), (8, x8), (9, x9), (10, x21_1)]) H (kk (some [0, 1, 2, 3, 8, 9]) kn [(1, (some [0, 1, 2, 3, 8, 9]), kn), (0, none, (fun s H => R (([] : List Nat).map fun t => s.getD t (.tup [])) H))] R []))
      (
        J (Code.at [1, 1, 0, 0, 0, 1, 1, 1, 1] c221) (sp 134 [(0, x0), (1, x1), (2, x2), (3, x3), (8, x8), (9, x9), (10, x21_1)]) H (kk (some [0, 1, 2, 3, 8, 9]) kn [(1, (some [0, 1, 2, 3, 8, 9]), kn), (0, none, (fun s H => R (([] : List Nat).map fun t => s.getD t (.tup [])) H))] R [])))) := by
  kernel_rfl
theorem N221_2b_eq (ρ : Addr → Option Value) (call : CallF) (yc : YieldF) (lim k : Nat) (x0 x1 x2 x3 x8 x9 : AV) (H : Heap) (kn : KS) (R : List AV → Heap → Res) :
    evL (cx ρ) call yc false 221 lim k (Code.at [1, 1, 0, 0] c221) (sp 134 [(0, x0), (1, x1), (2, x2), (3, x3), (8, x8), (9, x9)]) H (kk (some [0, 1, 2, 3, 8, 9]) kn [(0, none, (fun s H => R (([] : List Nat).map fun t => s.getD t (.tup [])) H))] R []) = N221_2b ρ call yc lim k x0 x1 x2 x3 x8 x9 H (fun x0 x1 x2 x3 x8 x9 H => kn (sp 134 [(0, x0), (1, x1), (2, x2), (3, x3), (8, x8), (9, x9)]) H) R := by
  rw [evL_X, N221_2b_x]
  simp only [← evL_X, N221_2b, N221_3_eq]
noncomputable def N221_2 (ρ : Addr → Option Value) (call : CallF) (yc : YieldF) (lim k : Nat) (x0 x1 x2 x3 x8 x9 : AV) (H : Heap) (R : List AV → Heap → Res) : Res :=
  loopL (fun (x : AV × AV × AV × AV × AV) H kn => N221_2b ρ call yc lim k x0 x.1 x.2.1 x.2.2.1 x.2.2.2.1 x.2.2.2.2 H (fun _ x1 x2 x3 x8 x9 H => kn (x1, x2, x3, x8, x9) H) R) k (x1, x2, x3, x8, x9) H
theorem N221_2_eq (ρ : Addr → Option Value) (call : CallF) (yc : YieldF) (lim k : Nat) (x0 x1 x2 x3 x8 x9 : AV) (H : Heap) (R : List AV → Heap → Res) :
    evL (cx ρ) call yc false 221 lim k (Code.at [1, 1, 0] c221) (sp 134 [(0, x0), (1, x1), (2, x2), (3, x3), (8, x8), (9, x9)]) H (kk none (fun s H => R (([] : List Nat).map fun t => s.getD t (.tup [])) H) [(0, none, (fun s H => R (([] : List Nat).map fun t => s.getD t (.tup [])) H))] R []) = N221_2 ρ call yc lim k x0 x1 x2 x3 x8 x9 H R := by
  have e : Code.at [1, 1, 0] c221 = .loop (Code.at [1, 1, 0, 0] c221) := by kernel_rfl
  rw [e]
  unfold N221_2
  exact loop_node [0, 1, 2, 3, 8, 9] (fun x : AV × AV × AV × AV × AV => (sp 134 [(0, x0), (1, (x.1)), (2, (x.2.1)), (3, (x.2.2.1)), (8, (x.2.2.2.1)), (9, (x.2.2.2.2))])) (fun (x : AV × AV × AV × AV × AV) H kn => N221_2b ρ call yc lim k x0 x.1 x.2.1 x.2.2.1 x.2.2.2.1 x.2.2.2.2 H (fun _ x1 x2 x3 x8 x9 H => kn (x1, x2, x3, x8, x9) H) R) (by kernel_rfl) (fun x => by kernel_rfl) (fun x H kn => N221_2b_eq ρ call yc lim k x0 (x.1) (x.2.1) (x.2.2.1) (x.2.2.2.1) (x.2.2.2.2) H kn R) (x1, x2, x3, x8, x9) (sp 134 [(0, x0), (1, x1), (2, x2), (3, x3), (8, x8), (9, x9)]) H (by kernel_rfl)
noncomputable def N221_1 (ρ : Addr → Option Value) (call : CallF) (yc : YieldF) (lim k : Nat) (x0 x1 x2 x3 x8 x9 : AV) (H : Heap) (R : List AV → Heap → Res) : Res :=
  N221_2 ρ call yc lim k x0 x1 x2 x3 x8 x9 H R
theorem N221_1_x (ρ : Addr → Option Value) (call : CallF) (yc : YieldF) (lim k : Nat) (J : CodeF) (x0 x1 x2 x3 x8 x9 : AV) (H : Heap) (R : List AV → Heap → Res) :
    evX (cx ρ) call yc false 221 lim k J (Code.at [1, 1] c221) (sp 134 [(0, x0), (1, x1), (2, x2), (3, x3), (8, x8), (9, x9)]) H (kk none (fun s H => R (([] : List Nat).map fun t => s.getD t (.tup [])) H) [] R []) =
  J (Code.at [1, 1, 0] c221) (sp 134 [(0, x0), (1, x1), (2, x2), (3, x3), (8, x8), (9, x9)]) H (kk none (fun s H => R (([] : List Nat).map fun t => s.getD t (.tup [])) H) [(0, none, (fun s H => R (([] : List Nat).map fun t => s.getD t (.tup [])) H))] R []) := by
  kernel_rfl
theorem N221_1_eq (ρ : Addr → Option Value) (call : CallF) (yc : YieldF) (lim k : Nat) (x0 x1 x2 x3 x8 x9 : AV) (H : Heap) (R : List AV → Heap → Res) :
    evL (cx ρ) call yc false 221 lim k (Code.at [1, 1] c221) (sp 134 [(0, x0), (1, x1), (2, x2), (3, x3), (8, x8), (9, x9)]) H (kk none (fun s H => R (([] : List Nat).map fun t => s.getD t (.tup [])) H) [] R []) = N221_1 ρ call yc lim k x0 x1 x2 x3 x8 x9 H R := by
  rw [evL_X, N221_1_x]
  simp only [← evL_X, N221_1, N221_2_eq]
noncomputable def L221 (ρ : Addr → Option Value) (call : CallF) (yc : YieldF) (lim k : Nat) (x0 x1 x2 x3 : AV) (H : Heap) : Res :=
  N221_1 ρ call yc lim k x0 x1 x2 x3 (.bool true) (.bool true) H retK
theorem L221_x (ρ : Addr → Option Value) (call : CallF) (yc : YieldF) (lim k : Nat) (J : CodeF) (x0 x1 x2 x3 : AV) (H : Heap) :
    evX (cx ρ) call yc false 221 lim k J c221 [x0, x1, x2, x3, (.tup []), (.tup []), (.tup []), (.tup []), (.tup []), (.tup []), (.tup []), (.tup []), (.tup []), (.tup []), (.tup []), (.tup []), (.tup []), (.tup []), (.tup []), (.tup []), (.tup []), (.tup []), (.tup []), (.tup []), (.tup []), (.tup []), (.tup []), (.tup []), (.tup []), (.tup []), (.tup []), (.tup []), (.tup []), (.tup []), (.tup []), (.tup []), (.tup []), (.tup []), (.tup []), (.tup []), (.tup []), (.tup []), (.tup []), (.tup []), (.tup []), (.tup []), (.tup []), (.tup []), (.tup []), (.tup []), (.tup []), (.tup []), (.tup []), (.tup []), (.tup []), (.tup []), (.tup []), (.tup []), (.tup []), (.tup []), (.tup []), (.tup []), (.tup []), (.tup []), (.tup []), (.tup []), (.tup []), (.tup []), (.tup []), (.tup []), (.tup []), (.tup []), (.tup []), (.tup []), (.tup []), (.tup []), (.tup []), (.tup []), (.tup []), (.tup []), (.tup []), (.tup []), (.tup []), (.tup []), (.tup []), (.tup []), (.tup []), (.tup []), (.tup []), (.tup []), (.tup []), (.tup []), (.tup []), (.tup []), (.tup []), (.tup []), (.tup []), (.tup []), (.tup []), (.tup []), (.tup []), (.tup []), (.tup []), (.tup []), (.tup []), (.tup []), (.tup []), (.tup []), (.tup []), (.tup []), (.tup []), (.tup []), (.tup []), (.tup []), (.tup []), (.tup []), (.tup []), (.tup []), (.tup []), (.tup []), (.tup []), (.tup []), (.tup []), (.tup []), (.tup []), (.tup []), (.tup []), (.tup []), (.tup []), (.tup []), (.tup []), (.tup []), (.tup []), (.tup [])] H (kk none (fun s H => retK (([] : List Nat).map fun t => s.getD t (.tup [])) H) [] retK []) =
  J (Code.at [1, 1] c221) (sp 134 [(0, x0), (1, x1), (2, x2), (3, x3), (8, (.bool true)), (9, (.bool true))]) H (kk none (fun s H => retK (([] : List Nat).map fun t => s.getD t (.tup [])) H) [] retK []) := by
  kernel_rfl
theorem G221 (ρ : Addr → Option Value) (call : CallF) (yc : YieldF) (lim k : Nat) (x0 x1 x2 x3 : AV) (H : Heap) :
    evL (cx ρ) call yc false 221 lim k c221 [x0, x1, x2, x3, (.tup []), (.tup []), (.tup []), (.tup []), (.tup []), (.tup []), (.tup []), (.tup []), (.tup []), (.tup []), (.tup []), (.tup []), (.tup []), (.tup []), (.tup []), (.tup []), (.tup []), (.tup []), (.tup []), (.tup []), (.tup []), (.tup []), (.tup []), (.tup []), (.tup []), (.tup []), (.tup []), (.tup []), (.tup []), (.tup []), (.tup []), (.tup []), (.tup []), (.tup []), (.tup []), (.tup []), (.tup []), (.tup []), (.tup []), (.tup []), (.tup []), (.tup []), (.tup []), (.tup []), (.tup []), (.tup []), (.tup []), (.tup []), (.tup []), (.tup []), (.tup []), (.tup []), (.tup []), (.tup []), (.tup []), (.tup []), (.tup []), (.tup []), (.tup []), (.tup []), (.tup []), (.tup []), (.tup []), (.tup []), (.tup []), (.tup []), (.tup []), (.tup []), (.tup []), (.tup []), (.tup []), (.tup []), (.tup []), (.tup []), (.tup []), (.tup []), (.tup []), (.tup []), (.tup []), (.tup []), (.tup []), (.tup []), (.tup []), (.tup []), (.tup []), (.tup []), (.tup []), (.tup []), (.tup []), (.tup []), (.tup []), (.tup []), (.tup []), (.tup []), (.tup []), (.tup []), (.tup []), (.tup []), (.tup []), (.tup []), (.tup []), (.tup []), (.tup []), (.tup []), (.tup []), (.tup []), (.tup []), (.tup []), (.tup []), (.tup []), (.tup []), (.tup []), (.tup []), (.tup []), (.tup []), (.tup []), (.tup []), (.tup []), (.tup []), (.tup []), (.tup []), (.tup []), (.tup []), (.tup []), (.tup []), (.tup []), (.tup []), (.tup []), (.tup []), (.tup [])] H (kk none (fun s H => retK (([] : List Nat).map fun t => s.getD t (.tup [])) H) [] retK []) = L221 ρ call yc lim k x0 x1 x2 x3 H := by
  rw [evL_X, L221_x]
  simp only [← evL_X, L221, N221_1_eq]
theorem E221 (ρ : Addr → Option Value) (k lim : Nat) (x0 x1 x2 x3 : AV) (H : Heap) : evCall (cx ρ) (k + 1) lim 221 [x0, x1, x2, x3] H = L221 ρ (evCall (cx ρ) k) (evCY (cx ρ) k).2 lim k x0 x1 x2 x3 H := by
  rw [evCall_body (cx ρ) k lim 221 _ H Tryz.f221 c221 [] (by kernel_rfl) (by kernel_rfl) (by kernel_rfl) (by kernel_rfl) (by kernel_rfl)]
  exact G221 ρ (evCall (cx ρ) k) (evCY (cx ρ) k).2 lim k x0 x1 x2 x3 H
-- slices.stableCmpFunc[haycroft/api.Commit]
noncomputable def c225 : Code := Code.of Tryz.prog 225
noncomputable def N225_7 (ρ : Addr → Option Value) (call : CallF) (yc : YieldF) (lim k : Nat) (x0 x1 x2 x6 : AV) (H : Heap) (kn : AV → AV → AV → AV → Heap → Res) : Res :=
  purK (binA Tryz.prog H .mul 3 x6 (.int .i64 2)) fun x62_1 =>
  kn x0 x1 x2 x62_1 H
theorem N225_7_eq (ρ : Addr → Option Value) (call : CallF) (yc : YieldF) (lim k : Nat) (x0 x1 x2 x6 : AV) (H : Heap) (kn : KS) (k3 : KS) (R : List AV → Heap → Res) :
    evL (cx ρ) call yc false 225 lim k (Code.at [1, 1, 1, 1, 0, 0, 1, 0, 1, 1, 1] c225) (sp 63 [(0, x0), (1, x1), (2, x2), (6, x6)]) H (kk (some [0, 1, 2, 6]) kn [(3, (some [0, 1, 2, 6]), k3), (2, none, (fun s H => R (([] : List Nat).map fun t => s.getD t (.tup [])) H))] R []) = N225_7 ρ call yc lim k x0 x1 x2 x6 H (fun x0 x1 x2 x6 H => kn (sp 63 [(0, x0), (1, x1), (2, x2), (6, x6)]) H) := by
  kernel_rfl
noncomputable def N225_6 (ρ : Addr → Option Value) (call : CallF) (yc : YieldF) (lim k : Nat) (x0 x1 x2 x6 x7 : AV) (H : Heap) (kn : AV → AV → AV → AV → Heap → Res) : Res :=
  purK (binA Tryz.prog H .add 3 x7 x6) fun x51_1 =>
  purK (binA Tryz.prog H .lss 3 x51_1 x1) fun x54_1 =>
  condK x54_1
  (
    resK (call lim 295 [x0, x7, x51_1, x1, x2] H) fun x60_1 H =>
    N225_7 ρ call yc lim k x0 x1 x2 x6 H kn)
  (
    N225_7 ρ call yc lim k x0 x1 x2 x6 H kn)
theorem N225_6_x (ρ : Addr → Option Value) (call : CallF) (yc : YieldF) (lim k : Nat) (J : CodeF) (x0 x1 x2 x6 x7 : AV) (H : Heap) (kn : KS) (k3 : KS) (R : List AV → Heap → Res) :
    evX (cx ρ) call yc false 225 lim k J (Code.at [1, 1, 1, 1, 0, 0, 1, 0, 1, 1] c225) (sp 63 [(0, x0), (1, x1), (2, x2), (6, x6), (7, x7)]) H (kk (some [0, 1, 2, 6]) kn [(3, (some [0, 1, 2, 6]), k3), (2, none, (fun s H => R (([] : List Nat).map fun t => s.getD t (.tup [])) H))] R []) =
  purK (binA Tryz.prog H .add 3 x7 x6) fun x51_1 =>
  purK (binA Tryz.prog H .lss 3 x51_1 x1) fun x54_1 =>
  condK x54_1
  (
    resK (call lim 295 [x0, x7, x51_1, x1, x2] H) fun x60_1 H =>
    J (Code.at [1, 1, 1, 1, 0, 0, 1, 0, 1, 1, 1] c225) (sp 63 [(0, x0), (1, x1), (2, x2), (6, x6)]) H (kk (some [0, 1, 2, 6]) kn [(3, (some [0, 1, 2, 6]), k3), (2, none, (fun s H => R (([] : List Nat).map fun t => s.getD t (.tup [])) H))] R []))
  (
    J (Code.at [1, 1, 1, 1, 0, 0, 1, 0, 1, 1, 1] c225) (sp 63 [(0, x0), (1, x1), (2, x2), (6, x6)]) H (kk (some [0, 1, 2, 6]) kn [(3, (some [0, 1, 2, 6]), k3), (2, none, (fun s H => R (([] : List Nat).map fun t => s.getD t (.tup [])) H))] R [])) := by
  kernel_rfl
theorem N225_6_eq (ρ : Addr → Option Value) (call : CallF) (yc : YieldF) (lim k : Nat) (x0 x1 x2 x6 x7 : AV) (H : Heap) (kn : KS) (k3 : KS) (R : List AV → Heap → Res) :
    evL (cx ρ) call yc false 225 lim k (Code.at [1, 1, 1, 1, 0, 0, 1, 0, 1, 1] c225) (sp 63 [(0, x0), (1, x1), (2, x2), (6, x6), (7, x7)]) H (kk (some [0, 1, 2, 6]) kn [(3, (some [0, 1, 2, 6]), k3), (2, none, (fun s H => R (([] : List Nat).map fun t => s.getD t (.tup [])) H))] R []) = N225_6 ρ call yc lim k x0 x1 x2 x6 x7 H (fun x0 x1 x2 x6 H => kn (sp 63 [(0, x0), (1, x1), (2, x2), (6, x6)]) H) := by
  rw [evL_X, N225_6_x]
  simp only [← evL_X, N225_6, N225_7_eq]
noncomputable def N225_8b (ρ : Addr → Option Value) (call : CallF) (yc : YieldF) (lim k : Nat) (x0 x1 x2 x6 x7 x8 : AV) (H : Heap) (kn : AV → AV → AV → AV → AV → AV → Heap → Res) (k4 : AV → AV → AV → AV → AV → Heap → Res) : Res :=
  purK (binA Tryz.prog H .leq 3 x8 x1) fun x35_1 =>
  condK x35_1
  (
    purK (binA Tryz.prog H .add 3 x7 x6) fun x40_1 =>
    resK (call lim 295 [x0, x7, x40_1, x8, x2] H) fun x43_1 H =>
    purK (binA Tryz.prog H .mul 3 (.int .i64 2) x6) fun x47_1 =>
    purK (binA Tryz.prog H .add 3 x8 x47_1) fun x48_1 =>
    kn x0 x1 x2 x6 x8 x48_1 H)
  (
    k4 x0 x1 x2 x6 x7 H)
theorem N225_8b_eq (ρ : Addr → Option Value) (call : CallF) (yc : YieldF) (lim k : Nat) (x0 x1 x2 x6 x7 x8 : AV) (H : Heap) (kn : KS) (k4 : KS) (k3 : KS) (R : List AV → Heap → Res) :
    evL (cx ρ) call yc false 225 lim k (Code.at [1, 1, 1, 1, 0, 0, 1, 0, 1, 0, 0, 0] c225) (sp 63 [(0, x0), (1, x1), (2, x2), (6, x6), (7, x7), (8, x8)]) H (kk (some [0, 1, 2, 6, 7, 8]) kn [(4, (some [0, 1, 2, 6, 7]), k4), (3, (some [0, 1, 2, 6]), k3), (2, none, (fun s H => R (([] : List Nat).map fun t => s.getD t (.tup [])) H))] R []) = N225_8b ρ call yc lim k x0 x1 x2 x6 x7 x8 H (fun x0 x1 x2 x6 x7 x8 H => kn (sp 63 [(0, x0), (1, x1), (2, x2), (6, x6), (7, x7), (8, x8)]) H) (fun x0 x1 x2 x6 x7 H => k4 (sp 63 [(0, x0), (1, x1), (2, x2), (6, x6), (7, x7)]) H) := by
  kernel_rfl
noncomputable def N225_8 (ρ : Addr → Option Value) (call : CallF) (yc : YieldF) (lim k : Nat) (x0 x1 x2 x6 x7 x8 : AV) (H : Heap) (k4 : AV → AV → AV → AV → AV → Heap → Res) : Res :=
  loopL (fun (x : AV × AV) H kn => N225_8b ρ call yc lim k x0 x1 x2 x6 x.1 x.2 H (fun _ _ _ _ x7 x8 H => kn (x7, x8) H) k4) k (x7, x8) H
theorem N225_8_eq (ρ : Addr → Option Value) (call : CallF) (yc : YieldF) (lim k : Nat) (x0 x1 x2 x6 x7 x8 : AV) (H : Heap) (kn : KS) (k4 : KS) (k3 : KS) (R : List AV → Heap → Res) :
    evL (cx ρ) call yc false 225 lim k (Code.at [1, 1, 1, 1, 0, 0, 1, 0, 1, 0, 0] c225) (sp 63 [(0, x0), (1, x1), (2, x2), (6, x6), (7, x7), (8, x8)]) H (kk (some [0, 1, 2, 6, 7]) kn [(4, (some [0, 1, 2, 6, 7]), k4), (3, (some [0, 1, 2, 6]), k3), (2, none, (fun s H => R (([] : List Nat).map fun t => s.getD t (.tup [])) H))] R []) = N225_8 ρ call yc lim k x0 x1 x2 x6 x7 x8 H (fun x0 x1 x2 x6 x7 H => k4 (sp 63 [(0, x0), (1, x1), (2, x2), (6, x6), (7, x7)]) H) := by
  have e : Code.at [1, 1, 1, 1, 0, 0, 1, 0, 1, 0, 0] c225 = .loop (Code.at [1, 1, 1, 1, 0, 0, 1, 0, 1, 0, 0, 0] c225) := by kernel_rfl
  rw [e]
  unfold N225_8
  exact loop_node [0, 1, 2, 6, 7, 8] (fun x : AV × AV => (sp 63 [(0, x0), (1, x1), (2, x2), (6, x6), (7, (x.1)), (8, (x.2))])) (fun (x : AV × AV) H kn => N225_8b ρ call yc lim k x0 x1 x2 x6 x.1 x.2 H (fun _ _ _ _ x7 x8 H => kn (x7, x8) H) (fun x0 x1 x2 x6 x7 H => k4 (sp 63 [(0, x0), (1, x1), (2, x2), (6, x6), (7, x7)]) H)) (by kernel_rfl) (fun x => by kernel_rfl) (fun x H kn => N225_8b_eq ρ call yc lim k x0 x1 x2 x6 (x.1) (x.2) H kn k4 k3 R) (x7, x8) (sp 63 [(0, x0), (1, x1), (2, x2), (6, x6), (7, x7), (8, x8)]) H (by kernel_rfl)
noncomputable def N225_5 (ρ : Addr → Option Value) (call : CallF) (yc : YieldF) (lim k : Nat) (x0 x1 x2 x6 x7 x8 : AV) (H : Heap) (kn : AV → AV → AV → AV → Heap → Res) : Res :=
  N225_8 ρ call yc lim k x0 x1 x2 x6 x7 x8 H (fun x0_1 x1_1 x2_1 x6_1 x7_1 H =>
    N225_6 ρ call yc lim k x0_1 x1_1 x2_1 x6_1 x7_1 H kn)
theorem N225_5_x (ρ : Addr → Option Value) (call : CallF) (yc : YieldF) (lim k : Nat) (J : CodeF) (x0 x1 x2 x6 x7 x8 : AV) (H : Heap) (kn : KS) (k3 : KS) (R : List AV → Heap → Res) :
    evX (cx ρ) call yc false 225 lim k J (Code.at [1, 1, 1, 1, 0, 0, 1, 0, 1] c225) (sp 63 [(0, x0), (1, x1), (2, x2), (6, x6), (7, x7), (8, x8)]) H (kk (some [0, 1, 2, 6]) kn [(3, (some [0, 1, 2, 6]), k3), (2, none, (fun s H => R (([] : List Nat).map fun t => s.getD t (.tup [])) H))] R []) =
  J (Code.at [1, 1, 1, 1, 0, 0, 1, 0, 1, 0, 0] c225) (sp 63 [(0, x0), (1, x1), (2, x2), (6, x6), (7, x7), (8, x8)]) H (kk (some [0, 1, 2, 6, 7]) (fun s H => J (Code.at [1, 1, 1, 1, 0, 0, 1, 0, 1, 1] c225) s H (kk (some [0, 1, 2, 6]) kn [(3, (some [0, 1, 2, 6]), k3), (2, none, (fun s H => R (([] : List Nat).map fun t => s.getD t (.tup [])) H))] R [])) [(4, (some [0, 1, 2, 6, 7]), (fun s H => J (Code.at [1, 1, 1, 1, 0, 0, 1, 0, 1, 1] c225) s H (kk (some [0, 1, 2, 6]) kn [(3, (some [0, 1, 2, 6]), k3), (2, none, (fun s H => R (([] : List Nat).map fun t => s.getD t (.tup [])) H))] R []))), (3, (some [0, 1, 2, 6]), k3), (2, none, (fun s H => R (([] : List Nat).map fun t => s.getD t (.tup [])) H))] R []) := by
  kernel_rfl
theorem N225_5_eq (ρ : Addr → Option Value) (call : CallF) (yc : YieldF) (lim k : Nat) (x0 x1 x2 x6 x7 x8 : AV) (H : Heap) (kn : KS) (k3 : KS) (R : List AV → Heap → Res) :
    evL (cx ρ) call yc false 225 lim k (Code.at [1, 1, 1, 1, 0, 0, 1, 0, 1] c225) (sp 63 [(0, x0), (1, x1), (2, x2), (6, x6), (7, x7), (8, x8)]) H (kk (some [0, 1, 2, 6]) kn [(3, (some [0, 1, 2, 6]), k3), (2, none, (fun s H => R (([] : List Nat).map fun t => s.getD t (.tup [])) H))] R []) = N225_5 ρ call yc lim k x0 x1 x2 x6 x7 x8 H (fun x0 x1 x2 x6 H => kn (sp 63 [(0, x0), (1, x1), (2, x2), (6, x6)]) H) := by
  rw [evL_X, N225_5_x]
  simp only [← evL_X, N225_5, N225_6_eq, N225_8_eq]
noncomputable def N225_4b (ρ : Addr → Option Value) (call : CallF) (yc : YieldF) (lim k : Nat) (x0 x1 x2 x6 : AV) (H : Heap) (kn : AV → AV → AV → AV → Heap → Res) (R : List AV → Heap → Res) : Res :=
  purK (binA Tryz.prog H .lss 3 x6 x1) fun x30_1 =>
  condK x30_1
  (
    purK (binA Tryz.prog H .mul 3 (.int .i64 2) x6) fun x32_1 =>
    N225_5 ρ call yc lim k x0 x1 x2 x6 (.int .i64 0) x32_1 H kn)
  (
    R [] H)
theorem N225_4b_x (ρ : Addr → Option Value) (call : CallF) (yc : YieldF) (lim k : Nat) (J : CodeF) (x0 x1 x2 x6 : AV) (H : Heap) (kn : KS) (R : List AV → Heap → Res) :
    evX (cx ρ) call yc false 225 lim k J (Code.at [1, 1, 1, 1, 0, 0] c225) (sp 63 [(0, x0), (1, x1), (2, x2), (6, x6)]) H (kk (some [0, 1, 2, 6]) kn [(2, none, (fun s H => R (([] : List Nat).map fun t => s.getD t (.tup [])) H))] R []) =
  purK (binA Tryz.prog H .lss 3 x6 x1) fun x30_1 =>
  condK x30_1
  (
    purK (binA Tryz.prog H .mul 3 (.int .i64 2) x6) fun x32_1 =>
    J (Code.at [1, 1, 1, 1, 0, 0, 1, 0, 1] c225) (sp 63 [(0, x0), (1, x1), (2, x2), (6, x6), (7, (.int .i64 0)), (8, x32_1)]) H (kk (some [0, 1, 2, 6]) kn [(3, (some [0, 1, 2, 6]), kn), (2, none, (fun s H => R (([] : List Nat).map fun t => s.getD t (.tup [])) H))] R []))
  (
    R [] H) := by
  kernel_rfl
theorem N225_4b_eq (ρ : Addr → Option Value) (call : CallF) (yc : YieldF) (lim k : Nat) (x0 x1 x2 x6 : AV) (H : Heap) (kn : KS) (R : List AV → Heap → Res) :
    evL (cx ρ) call yc false 225 lim k (Code.at [1, 1, 1, 1, 0, 0] c225) (sp 63 [(0, x0), (1, x1), (2, x2), (6, x6)]) H (kk (some [0, 1, 2, 6]) kn [(2, none, (fun s H => R (([] : List Nat).map fun t => s.getD t (.tup [])) H))] R []) = N225_4b ρ call yc lim k x0 x1 x2 x6 H (fun x0 x1 x2 x6 H => kn (sp 63 [(0, x0), (1, x1), (2, x2), (6, x6)]) H) R := by
  rw [evL_X, N225_4b_x]
  simp only [← evL_X, N225_4b, N225_5_eq]
noncomputable def N225_4 (ρ : Addr → Option Value) (call : CallF) (yc : YieldF) (lim k : Nat) (x0 x1 x2 x6 : AV) (H : Heap) (R : List AV → Heap → Res) : Res :=
  loopL (fun (x : AV) H kn => N225_4b ρ call yc lim k x0 x1 x2 x H (fun _ _ _ x6 H => kn x6 H) R) k x6 H
theorem N225_4_eq (ρ : Addr → Option Value) (call : CallF) (yc : YieldF) (lim k : Nat) (x0 x1 x2 x6 : AV) (H : Heap) (R : List AV → Heap → Res) :
    evL (cx ρ) call yc false 225 lim k (Code.at [1, 1, 1, 1, 0] c225) (sp 63 [(0, x0), (1, x1), (2, x2), (6, x6)]) H (kk none (fun s H => R (([] : List Nat).map fun t => s.getD t (.tup [])) H) [(2, none, (fun s H => R (([] : List Nat).map fun t => s.getD t (.tup [])) H))] R []) = N225_4 ρ call yc lim k x0 x1 x2 x6 H R := by
  have e : Code.at [1, 1, 1, 1, 0] c225 = .loop (Code.at [1, 1, 1, 1, 0, 0] c225) := by kernel_rfl
  rw [e]
  unfold N225_4
  exact loop_node [0, 1, 2, 6] (fun x : AV => (sp 63 [(0, x0), (1, x1), (2, x2), (6, (x))])) (fun (x : AV) H kn => N225_4b ρ call yc lim k x0 x1 x2 x H (fun _ _ _ x6 H => kn x6 H) R) (by kernel_rfl) (fun x => by kernel_rfl) (fun x H kn => N225_4b_eq ρ call yc lim k x0 x1 x2 (x) H kn R) x6 (sp 63 [(0, x0), (1, x1), (2, x2), (6, x6)]) H (by kernel_rfl)
noncomputable def N225_3 (ρ : Addr → Option Value) (call : CallF) (yc : YieldF) (lim k : Nat) (x0 x1 x2 x6 : AV) (H : Heap) (R : List AV → Heap → Res) : Res :=
  N225_4 ρ call yc lim k x0 x1 x2 x6 H R
theorem N225_3_x (ρ : Addr → Option Value) (call : CallF) (yc : YieldF) (lim k : Nat) (J : CodeF) (x0 x1 x2 x6 : AV) (H : Heap) (R : List AV → Heap → Res) :
    evX (cx ρ) call yc false 225 lim k J (Code.at [1, 1, 1, 1] c225) (sp 63 [(0, x0), (1, x1), (2, x2), (6, x6)]) H (kk none (fun s H => R (([] : List Nat).map fun t => s.getD t (.tup [])) H) [] R []) =
  J (Code.at [1, 1, 1, 1, 0] c225) (sp 63 [(0, x0), (1, x1), (2, x2), (6, x6)]) H (kk none (fun s H => R (([] : List Nat).map fun t => s.getD t (.tup [])) H) [(2, none, (fun s H => R (([] : List Nat).map fun t => s.getD t (.tup [])) H))] R []) := by
  kernel_rfl
theorem N225_3_eq (ρ : Addr → Option Value) (call : CallF) (yc : YieldF) (lim k : Nat) (x0 x1 x2 x6 : AV) (H : Heap) (R : List AV → Heap → Res) :
    evL (cx ρ) call yc false 225 lim k (Code.at [1, 1, 1, 1] c225) (sp 63 [(0, x0), (1, x1), (2, x2), (6, x6)]) H (kk none (fun s H => R (([] : List Nat).map fun t => s.getD t (.tup [])) H) [] R []) = N225_3 ρ call yc lim k x0 x1 x2 x6 H R := by
  rw [evL_X, N225_3_x]
  simp only [← evL_X, N225_3, N225_4_eq]
noncomputable def N225_2 (ρ : Addr → Option Value) (call : CallF) (yc : YieldF) (lim k : Nat) (x0 x1 x2 x6 x7 : AV) (H : Heap) (R : List AV → Heap → Res) : Res :=
  resK (call lim 294 [x0, x7, x1, x2] H) fun x27_1 H =>
  N225_3 ρ call yc lim k x0 x1 x2 x6 H R
theorem N225_2_x (ρ : Addr → Option Value) (call : CallF) (yc : YieldF) (lim k : Nat) (J : CodeF) (x0 x1 x2 x6 x7 : AV) (H : Heap) (R : List AV → Heap → Res) :
    evX (cx ρ) call yc false 225 lim k J (Code.at [1, 1, 1] c225) (sp 63 [(0, x0), (1, x1), (2, x2), (6, x6), (7, x7)]) H (kk none (fun s H => R (([] : List Nat).map fun t => s.getD t (.tup [])) H) [] R []) =
  resK (call lim 294 [x0, x7, x1, x2] H) fun x27_1 H =>
  J (Code.at [1, 1, 1, 1] c225) (sp 63 [(0, x0), (1, x1), (2, x2), (6, x6)]) H (kk none (fun s H => R (([] : List Nat).map fun t => s.getD t (.tup [])) H) [] R []) := by
  kernel_rfl
theorem N225_2_eq (ρ : Addr → Option Value) (call : CallF) (yc : YieldF) (lim k : Nat) (x0 x1 x2 x6 x7 : AV) (H : Heap) (R : List AV → Heap → Res) :
    evL (cx ρ) call yc false 225 lim k (Code.at [1, 1, 1] c225) (sp 63 [(0, x0), (1, x1), (2, x2), (6, x6), (7, x7)]) H (kk none (fun s H => R (([] : List Nat).map fun t => s.getD t (.tup [])) H) [] R []) = N225_2 ρ call yc lim k x0 x1 x2 x6 x7 H R := by
  rw [evL_X, N225_2_x]
  simp only [← evL_X, N225_2, N225_3_eq]
noncomputable def N225_9b (ρ : Addr → Option Value) (call : CallF) (yc : YieldF) (lim k : Nat) (x0 x1 x2 x6 x7 x8 : AV) (H : Heap) (kn : AV → AV → AV → AV → AV → AV → Heap → Res) (k0 : AV → AV → AV → AV → AV → Heap → Res) : Res :=
  purK (binA Tryz.prog H .leq 3 x8 x1) fun x13_1 =>
  condK x13_1
  (
    resK (call lim 294 [x0, x7, x8, x2] H) fun x18_1 H =>
    purK (binA Tryz.prog H .add 3 x8 x6) fun x22_1 =>
    kn x0 x1 x2 x6 x8 x22_1 H)
  (
    k0 x0 x1 x2 x6 x7 H)
theorem N225_9b_eq (ρ : Addr → Option Value) (call : CallF) (yc : YieldF) (lim k : Nat) (x0 x1 x2 x6 x7 x8 : AV) (H : Heap) (kn : KS) (k0 : KS) (R : List AV → Heap → Res) :
    evL (cx ρ) call yc false 225 lim k (Code.at [1, 1, 0, 0, 0] c225) (sp 63 [(0, x0), (1, x1), (2, x2), (6, x6), (7, x7), (8, x8)]) H (kk (some [0, 1, 2, 6, 7, 8]) kn [(0, (some [0, 1, 2, 6, 7]), k0)] R []) = N225_9b ρ call yc lim k x0 x1 x2 x6 x7 x8 H (fun x0 x1 x2 x6 x7 x8 H => kn (sp 63 [(0, x0), (1, x1), (2, x2), (6, x6), (7, x7), (8, x8)]) H) (fun x0 x1 x2 x6 x7 H => k0 (sp 63 [(0, x0), (1, x1), (2, x2), (6, x6), (7, x7)]) H) := by
  kernel_rfl
noncomputable def N225_9 (ρ : Addr → Option Value) (call : CallF) (yc : YieldF) (lim k : Nat) (x0 x1 x2 x6 x7 x8 : AV) (H : Heap) (k0 : AV → AV → AV → AV → AV → Heap → Res) : Res :=
  loopL (fun (x : AV × AV) H kn => N225_9b ρ call yc lim k x0 x1 x2 x6 x.1 x.2 H (fun _ _ _ _ x7 x8 H => kn (x7, x8) H) k0) k (x7, x8) H
theorem N225_9_eq (ρ : Addr → Option Value) (call : CallF) (yc : YieldF) (lim k : Nat) (x0 x1 x2 x6 x7 x8 : AV) (H : Heap) (kn : KS) (k0 : KS) (R : List AV → Heap → Res) :
    evL (cx ρ) call yc false 225 lim k (Code.at [1, 1, 0, 0] c225) (sp 63 [(0, x0), (1, x1), (2, x2), (6, x6), (7, x7), (8, x8)]) H (kk (some [0, 1, 2, 6, 7]) kn [(0, (some [0, 1, 2, 6, 7]), k0)] R []) = N225_9 ρ call yc lim k x0 x1 x2 x6 x7 x8 H (fun x0 x1 x2 x6 x7 H => k0 (sp 63 [(0, x0), (1, x1), (2, x2), (6, x6), (7, x7)]) H) := by
  have e : Code.at [1, 1, 0, 0] c225 = .loop (Code.at [1, 1, 0, 0, 0] c225) := by kernel_rfl
  rw [e]
  unfold N225_9
  exact loop_node [0, 1, 2, 6, 7, 8] (fun x : AV × AV => (sp 63 [(0, x0), (1, x1), (2, x2), (6, x6), (7, (x.1)), (8, (x.2))])) (fun (x : AV × AV) H kn => N225_9b ρ call yc lim k x0 x1 x2 x6 x.1 x.2 H (fun _ _ _ _ x7 x8 H => kn (x7, x8) H) (fun x0 x1 x2 x6 x7 H => k0 (sp 63 [(0, x0), (1, x1), (2, x2), (6, x6), (7, x7)]) H)) (by kernel_rfl) (fun x => by kernel_rfl) (fun x H kn => N225_9b_eq ρ call yc lim k x0 x1 x2 x6 (x.1) (x.2) H kn k0 R) (x7, x8) (sp 63 [(0, x0), (1, x1), (2, x2), (6, x6), (7, x7), (8, x8)]) H (by kernel_rfl)
noncomputable def N225_1 (ρ : Addr → Option Value) (call : CallF) (yc : YieldF) (lim k : Nat) (x0 x1 x2 x6 x7 x8 : AV) (H : Heap) (R : List AV → Heap → Res) : Res :=
  N225_9 ρ call yc lim k x0 x1 x2 x6 x7 x8 H (fun x0_1 x1_1 x2_1 x6_1 x7_1 H =>
    N225_2 ρ call yc lim k x0_1 x1_1 x2_1 x6_1 x7_1 H R)
theorem N225_1_x (ρ : Addr → Option Value) (call : CallF) (yc : YieldF) (lim k : Nat) (J : CodeF) (x0 x1 x2 x6 x7 x8 : AV) (H : Heap) (R : List AV → Heap → Res) :
    evX (cx ρ) call yc false 225 lim k J (Code.at [1, 1] c225) (sp 63 [(0, x0), (1, x1), (2, x2), (6, x6), (7, x7), (8, x8)]) H (kk none (fun s H => R (([] : List Nat).map fun t => s.getD t (.tup [])) H) [] R []) =
  J (Code.at [1, 1, 0, 0] c225) (sp 63 [(0, x0), (1, x1), (2, x2), (6, x6), (7, x7), (8, x8)]) H (kk (some [0, 1, 2, 6, 7]) (fun s H => J (Code.at [1, 1, 1] c225) s H (kk none (fun s H => R (([] : List Nat).map fun t => s.getD t (.tup [])) H) [] R [])) [(0, (some [0, 1, 2, 6, 7]), (fun s H => J (Code.at [1, 1, 1] c225) s H (kk none (fun s H => R (([] : List Nat).map fun t => s.getD t (.tup [])) H) [] R [])))] R []) := by
  kernel_rfl
theorem N225_1_eq (ρ : Addr → Option Value) (call : CallF) (yc : YieldF) (lim k : Nat) (x0 x1 x2 x6 x7 x8 : AV) (H : Heap) (R : List AV → Heap → Res) :
    evL (cx ρ) call yc false 225 lim k (Code.at [1, 1] c225) (sp 63 [(0, x0), (1, x1), (2, x2), (6, x6), (7, x7), (8, x8)]) H (kk none (fun s H => R (([] : List Nat).map fun t => s.getD t (.tup [])) H) [] R []) = N225_1 ρ call yc lim k x0 x1 x2 x6 x7 x8 H R := by
  rw [evL_X, N225_1_x]
  simp only [← evL_X, N225_1, N225_2_eq, N225_9_eq]
noncomputable def L225 (ρ : Addr → Option Value) (call : CallF) (yc : YieldF) (lim k : Nat) (x0 x1 x2 : AV) (H : Heap) : Res :=
  N225_1 ρ call yc lim k x0 x1 x2 (.int .i64 20) (.int .i64 0) (.int .i64 20) H retK
theorem L225_x (ρ : Addr → Option Value) (call : CallF) (yc : YieldF) (lim k : Nat) (J : CodeF) (x0 x1 x2 : AV) (H : Heap) :
    evX (cx ρ) call yc false 225 lim k J c225 [x0, x1, x2, (.tup []), (.tup []), (.tup []), (.tup []), (.tup []), (.tup []), (.tup []), (.tup []), (.tup []), (.tup []), (.tup []), (.tup []), (.tup []), (.tup []), (.tup []), (.tup []), (.tup []), (.tup []), (.tup []), (.tup []), (.tup []), (.tup []), (.tup []), (.tup []), (.tup []), (.tup []), (.tup []), (.tup []), (.tup []), (.tup []), (.tup []), (.tup []), (.tup []), (.tup []), (.tup []), (.tup []), (.tup []), (.tup []), (.tup []), (.tup []), (.tup []), (.tup []), (.tup []), (.tup []), (.tup []), (.tup []), (.tup []), (.tup []), (.tup []), (.tup []), (.tup []), (.tup []), (.tup []), (.tup []), (.tup []), (.tup []), (.tup []), (.tup []), (.tup []), (.tup [])] H (kk none (fun s H => retK (([] : List Nat).map fun t => s.getD t (.tup [])) H) [] retK []) =
  J (Code.at [1, 1] c225) (sp 63 [(0, x0), (1, x1), (2, x2), (6, (.int .i64 20)), (7, (.int .i64 0)), (8, (.int .i64 20))]) H (kk none (fun s H => retK (([] : List Nat).map fun t => s.getD t (.tup [])) H) [] retK []) := by
  kernel_rfl
theorem G225 (ρ : Addr → Option Value) (call : CallF) (yc : YieldF) (lim k : Nat) (x0 x1 x2 : AV) (H : Heap) :
    evL (cx ρ) call yc false 225 lim k c225 [x0, x1, x2, (.tup []), (.tup []), (.tup []), (.tup []), (.tup []), (.tup []), (.tup []), (.tup []), (.tup []), (.tup []), (.tup []), (.tup []), (.tup []), (.tup []), (.tup []), (.tup []), (.tup []), (.tup []), (.tup []), (.tup []), (.tup []), (.tup []), (.tup []), (.tup []), (.tup []), (.tup []), (.tup []), (.tup []), (.tup []), (.tup []), (.tup []), (.tup []), (.tup []), (.tup []), (.tup []), (.tup []), (.tup []), (.tup []), (.tup []), (.tup []), (.tup []), (.tup []), (.tup []), (.tup []), (.tup []), (.tup []), (.tup []), (.tup []), (.tup []), (.tup []), (.tup []), (.tup []), (.tup []), (.tup []), (.tup []), (.tup []), (.tup []), (.tup []), (.tup []), (.tup [])] H (kk none (fun s H => retK (([] : List Nat).map fun t => s.getD t (.tup [])) H) [] retK []) = L225 ρ call yc lim k x0 x1 x2 H := by
  rw [evL_X, L225_x]
  simp only [← evL_X, L225, N225_1_eq]
theorem E225 (ρ : Addr → Option Value) (k lim : Nat) (x0 x1 x2 : AV) (H : Heap) : evCall (cx ρ) (k + 1) lim 225 [x0, x1, x2] H = L225 ρ (evCall (cx ρ) k) (evCY (cx ρ) k).2 lim k x0 x1 x2 H := by
  rw [evCall_body (cx ρ) k lim 225 _ H Tryz.f225 c225 [] (by kernel_rfl) (by kernel_rfl) (by kernel_rfl) (by kernel_rfl) (by kernel_rfl)]
  exact G225 ρ (evCall (cx ρ) k) (evCY (cx ρ) k).2 lim k x0 x1 x2 H
-- haycroft/tail.New
noncomputable def c233 : Code := Code.of Tryz.prog 233
noncomputable def L233 (ρ : Addr → Option Value) (call : CallF) (yc : YieldF) (lim k : Nat) (x0 x1 : AV) (H : Heap) : Res :=
  resK (call lim 86 [x0] H) fun x10 H =>
  purK (unA .not x10) fun x11 =>
  purK (gPur (wantV x11 false) (some x1)) fun x13 =>
  purK (gPur (wantV x11 false) (binA Tryz.prog H .lss 3 x13 (.int .i64 1))) fun x14 =>
  purK (pickA x11 (.bool true) x14) fun x15 =>
  purK (gPur (wantV x15 false) (some x1)) fun x17 =>
  purK (gPur (wantV x15 false) (binA Tryz.prog H .gtr 3 x17 (.int .i64 64))) fun x18 =>
  purK (pickA x15 (.bool true) x18) fun x19 =>
  condK x19
  (
    retK [.nilp, (.int .i64 1)] H)
  (
    resK (call lim 239 [(.int .i64 1)] H) fun x21 H =>
    purK (extA 0 x21) fun x22 =>
    purK (extA 1 x21) fun x23 =>
    purK (binA Tryz.prog H .neq 30 x23 (.int .i64 0)) fun x25 =>
    condK x25
    (
      retK [.nilp, x23] H)
    (
      purK (bldA [.int .i64 0, .int .i64 0, .nilp] [(0, 1, x0), (1, 1, x1), (2, 1, x22)]) fun x30 =>
      effK H (boxA H 345 x30) fun x31 H =>
      resK (call lim 298 [x31, (.int .i64 0)] H) fun x34 H =>
      retK [x31, x34] H))
theorem G233 (ρ : Addr → Option Value) (call : CallF) (yc : YieldF) (lim k : Nat) (x0 x1 : AV) (H : Heap) :
    evL (cx ρ) call yc false 233 lim k c233 [x0, x1, (.tup []), (.tup []), (.tup []), (.tup []), (.tup []), (.tup []), (.tup []), (.tup []), (.tup []), (.tup []), (.tup []), (.tup []), (.tup []), (.tup []), (.tup []), (.tup []), (.tup []), (.tup []), (.tup []), (.tup []), (.tup []), (.tup []), (.tup []), (.tup []), (.tup []), (.tup []), (.tup []), (.tup []), (.tup []), (.tup []), (.tup []), (.tup []), (.tup [])] H (kk none (fun s H => retK (([4, 5] : List Nat).map fun t => s.getD t (.tup [])) H) [] retK [4, 5]) = L233 ρ call yc lim k x0 x1 H := by
  kernel_rfl
theorem E233 (ρ : Addr → Option Value) (k lim : Nat) (x0 x1 : AV) (H : Heap) : evCall (cx ρ) (k + 1) lim 233 [x0, x1] H = L233 ρ (evCall (cx ρ) k) (evCY (cx ρ) k).2 lim k x0 x1 H := by
  rw [evCall_body (cx ρ) k lim 233 _ H Tryz.f233 c233 [4, 5] (by kernel_rfl) (by kernel_rfl) (by kernel_rfl) (by kernel_rfl) (by kernel_rfl)]
  exact G233 ρ (evCall (cx ρ) k) (evCY (cx ρ) k).2 lim k x0 x1 H
-- haycroft/pages.New
noncomputable def c234 : Code := Code.of Tryz.prog 234
noncomputable def L234 (ρ : Addr → Option Value) (call : CallF) (yc : YieldF) (lim k : Nat) (x0 x1 : AV) (H : Heap) : Res :=
  resK (call lim 86 [x0] H) fun x10 H =>
  purK (unA .not x10) fun x11 =>
  purK (gPur (wantV x11 false) (some x1)) fun x13 =>
  purK (gPur (wantV x11 false) (binA Tryz.prog H .lss 3 x13 (.int .i64 2))) fun x14 =>
  purK (pickA x11 (.bool true) x14) fun x15 =>
  purK (gPur (wantV x15 false) (some x1)) fun x17 =>
  purK (gPur (wantV x15 false) (binA Tryz.prog H .gtr 3 x17 (.int .i64 8))) fun x18 =>
  purK (pickA x15 (.bool true) x18) fun x19 =>
  condK x19
  (
    retK [.nilp, (.int .i64 1)] H)
  (
    resK (call lim 118 [x0] H) fun x23 H =>
    purK (binA Tryz.prog H .mul 3 x1 x23) fun x24 =>
    resK (call lim 239 [x24] H) fun x25 H =>
    purK (extA 0 x25) fun x26 =>
    purK (extA 1 x25) fun x27 =>
    purK (binA Tryz.prog H .neq 30 x27 (.int .i64 0)) fun x29 =>
    condK x29
    (
      retK [.nilp, x27] H)
    (
      resK (call lim 239 [x1] H) fun x33 H =>
      purK (extA 0 x33) fun x34 =>
      purK (extA 1 x33) fun x35 =>
      purK (binA Tryz.prog H .neq 30 x35 (.int .i64 0)) fun x37 =>
      condK x37
      (
        retK [.nilp, x35] H)
      (
        purK (bldA [.int .i64 0, .nilp, .nilp] [(0, 1, x0), (1, 1, x26), (2, 1, x34)]) fun x42 =>
        effK H (boxA H 203 x42) fun x43 H =>
        retK [x43, (.int .i64 0)] H)))
theorem G234 (ρ : Addr → Option Value) (call : CallF) (yc : YieldF) (lim k : Nat) (x0 x1 : AV) (H : Heap) :
    evL (cx ρ) call yc false 234 lim k c234 [x0, x1, (.tup []), (.tup []), (.tup []), (.tup []), (.tup []), (.tup []), (.tup []), (.tup []), (.tup []), (.tup []), (.tup []), (.tup []), (.tup []), (.tup []), (.tup []), (.tup []), (.tup []), (.tup []), (.tup []), (.tup []), (.tup []), (.tup []), (.tup []), (.tup []), (.tup []), (.tup []), (.tup []), (.tup []), (.tup []), (.tup []), (.tup []), (.tup []), (.tup []), (.tup []), (.tup []), (.tup []), (.tup []), (.tup []), (.tup []), (.tup []), (.tup []), (.tup [])] H (kk none (fun s H => retK (([4, 5] : List Nat).map fun t => s.getD t (.tup [])) H) [] retK [4, 5]) = L234 ρ call yc lim k x0 x1 H := by
  kernel_rfl
theorem E234 (ρ : Addr → Option Value) (k lim : Nat) (x0 x1 : AV) (H : Heap) : evCall (cx ρ) (k + 1) lim 234 [x0, x1] H = L234 ρ (evCall (cx ρ) k) (evCY (cx ρ) k).2 lim k x0 x1 H := by
  rw [evCall_body (cx ρ) k lim 234 _ H Tryz.f234 c234 [4, 5] (by kernel_rfl) (by kernel_rfl) (by kernel_rfl) (by kernel_rfl) (by kernel_rfl)]
  exact G234 ρ (evCall (cx ρ) k) (evCY (cx ρ) k).2 lim k x0 x1 H
-- haycroft/epoch.New
noncomputable def c235 : Code := Code.of Tryz.prog 235
noncomputable def L235 (ρ : Addr → Option Value) (call : CallF) (yc : YieldF) (lim k : Nat) (x0 : AV) (H : Heap) : Res :=
  purK (binA Tryz.prog H .lss 3 x0 (.int .i64 1)) fun x7 =>
  purK (gPur (wantV x7 false) (some x0)) fun x9 =>
  purK (gPur (wantV x7 false) (binA Tryz.prog H .gtr 3 x9 (.int .i64 8))) fun x10 =>
  purK (pickA x7 (.bool true) x10) fun x11 =>
  condK x11
  (
    retK [.nilp, (.int .i64 1)] H)
  (
    purK (binA Tryz.prog H .add 3 (.int .i64 1) x0) fun x14 =>
    resK (call lim 239 [x14] H) fun x15 H =>
    purK (extA 0 x15) fun x16 =>
    purK (extA 1 x15) fun x17 =>
    purK (binA Tryz.prog H .neq 30 x17 (.int .i64 0)) fun x19 =>
    condK x19
    (
      retK [.nilp, x17] H)
    (
      resK (call lim 162 [x16, (.int .i64 0), (.int .u64 1)] H) fun x22 H =>
      purK (bldA [.nilp] [(0, 1, x16)]) fun x24 =>
      effK H (boxA H 177 x24) fun x25 H =>
      retK [x25, (.int .i64 0)] H))
theorem G235 (ρ : Addr → Option Value) (call : CallF) (yc : YieldF) (lim k : Nat) (x0 : AV) (H : Heap) :
    evL (cx ρ) call yc false 235 lim k c235 [x0, (.tup []), (.tup []), (.tup []), (.tup []), (.tup []), (.tup []), (.tup []), (.tup []), (.tup []), (.tup []), (.tup []), (.tup []), (.tup []), (.tup []), (.tup []), (.tup []), (.tup []), (.tup []), (.tup []), (.tup []), (.tup []), (.tup []), (.tup []), (.tup []), (.tup [])] H (kk none (fun s H => retK (([2, 3] : List Nat).map fun t => s.getD t (.tup [])) H) [] retK [2, 3]) = L235 ρ call yc lim k x0 H := by
  kernel_rfl
theorem E235 (ρ : Addr → Option Value) (k lim : Nat) (x0 : AV) (H : Heap) : evCall (cx ρ) (k + 1) lim 235 [x0] H = L235 ρ (evCall (cx ρ) k) (evCY (cx ρ) k).2 lim k x0 H := by
  rw [evCall_body (cx ρ) k lim 235 _ H Tryz.f235 c235 [2, 3] (by kernel_rfl) (by kernel_rfl) (by kernel_rfl) (by kernel_rfl) (by kernel_rfl)]
  exact G235 ρ (evCall (cx ρ) k) (evCY (cx ρ) k).2 lim k x0 H
-- haycroft/marks.New
noncomputable def c236 : Code := Code.of Tryz.prog 236
noncomputable def L236 (ρ : Addr → Option Value) (call : CallF) (yc : YieldF) (lim k : Nat) (H : Heap) : Res :=
  resK (call lim 239 [(.int .i64 5)] H) fun x4 H =>
  purK (extA 0 x4) fun x5 =>
  purK (extA 1 x4) fun x6 =>
  purK (bldA [.nilp] [(0, 1, x5)]) fun x8 =>
  effK H (boxA H 200 x8) fun x9 H =>
  retK [x9] H
theorem G236 (ρ : Addr → Option Value) (call : CallF) (yc : YieldF) (lim k : Nat) (H : Heap) :
    evL (cx ρ) call yc false 236 lim k c236 [(.tup []), (.tup []), (.tup []), (.tup []), (.tup []), (.tup []), (.tup []), (.tup []), (.tup []), (.tup [])] H (kk none (fun s H => retK (([0] : List Nat).map fun t => s.getD t (.tup [])) H) [] retK [0]) = L236 ρ call yc lim k H := by
  kernel_rfl
theorem E236 (ρ : Addr → Option Value) (k lim : Nat) (H : Heap) : evCall (cx ρ) (k + 1) lim 236 [] H = L236 ρ (evCall (cx ρ) k) (evCY (cx ρ) k).2 lim k H := by
  rw [evCall_body (cx ρ) k lim 236 _ H Tryz.f236 c236 [0] (by kernel_rfl) (by kernel_rfl) (by kernel_rfl) (by kernel_rfl) (by kernel_rfl)]
  exact G236 ρ (evCall (cx ρ) k) (evCY (cx ρ) k).2 lim k H
-- haycroft/drain.New
noncomputable def c237 : Code := Code.of Tryz.prog 237
noncomputable def L237 (ρ : Addr → Option Value) (call : CallF) (yc : YieldF) (lim k : Nat) (H : Heap) : Res :=
  purK (bldA [.nils] []) fun x1 =>
  effK H (boxA H 257 x1) fun x2 H =>
  retK [x2] H
theorem G237 (ρ : Addr → Option Value) (call : CallF) (yc : YieldF) (lim k : Nat) (H : Heap) :
    evL (cx ρ) call yc false 237 lim k c237 [(.tup []), (.tup []), (.tup [])] H (kk none (fun s H => retK (([0] : List Nat).map fun t => s.getD t (.tup [])) H) [] retK [0]) = L237 ρ call yc lim k H := by
  kernel_rfl
theorem E237 (ρ : Addr → Option Value) (k lim : Nat) (H : Heap) : evCall (cx ρ) (k + 1) lim 237 [] H = L237 ρ (evCall (cx ρ) k) (evCY (cx ρ) k).2 lim k H := by
  rw [evCall_body (cx ρ) k lim 237 _ H Tryz.f237 c237 [0] (by kernel_rfl) (by kernel_rfl) (by kernel_rfl) (by kernel_rfl) (by kernel_rfl)]
  exact G237 ρ (evCall (cx ρ) k) (evCY (cx ρ) k).2 lim k H
-- (*haycroft/pages.Buffer).Open
noncomputable def c238 : Code := Code.of Tryz.prog 238
noncomputable def L238 (ρ : Addr → Option Value) (call : CallF) (yc : YieldF) (lim k : Nat) (x0 x1 : AV) (H : Heap) : Res :=
  purK (binA Tryz.prog H .eql 120 x0 .nilp) fun x11 =>
  condK x11
  (
    retK [(.int .i64 2)] H)
  (
    purK (binA Tryz.prog H .lss 3 x1 (.int .i64 0)) fun x14 =>
    condK x14
    (
      retK [(.int .i64 1)] H)
    (
      resK (call lim 117 [x0, x1] H) fun x18 H =>
      condK x18
      (
        retK [(.int .i64 8)] H)
      (
        resK (call lim 120 [x0, x1] H) fun x21 H =>
        purK (nilChkA x0) fun x24 =>
        purK (addA 2 x24) fun x25 =>
        purK (ld1 ρ H x25) fun x26 =>
        resK (call lim 185 [x1] H) fun x29 H => bif (agn (ld1 ρ H x25) x26 && true) then
          resK (call lim 301 [x26, x21, (.int .u64 0), x29] H) fun x30 H =>
          purK (extA 0 x30) fun x31 =>
          purK (extA 1 x30) fun x32 =>
          purK (unA .not x31) fun x34 =>
          condK x34
          (
            retK [(.int .i64 10)] H)
          (
            purK (nilChkA x0) fun x36 =>
            purK (addA 0 x36) fun x37 =>
            purK (ld1 ρ H x37) fun x38 =>
            resK (call lim 118 [x38] H) fun x39 H =>
            purK (nilChkA x0) fun x41 =>
            purK (addA 1 x41) fun x42 =>
            purK (ld1 ρ H x42) fun x43 =>
            purK (binA Tryz.prog H .mul 3 x21 x39) fun x46 =>
            effK H (mkS H 22 1 8 [.int .u64 0] x39 x39) fun x48 H => bif (agn (binA Tryz.prog H .mul 3 x21 x39) x46 && (agn (ld1 ρ H x42) x43 && true)) then
              resK (call lim 274 [x43, x46, x48] H) fun x49 H =>
              retK [x49] H
            else none)
        else none)))
theorem G238 (ρ : Addr → Option Value) (call : CallF) (yc : YieldF) (lim k : Nat) (x0 x1 : AV) (H : Heap) :
    evL (cx ρ) call yc false 238 lim k c238 [x0, x1, (.tup []), (.tup []), (.tup []), (.tup []), (.tup []), (.tup []), (.tup []), (.tup []), (.tup []), (.tup []), (.tup []), (.tup []), (.tup []), (.tup []), (.tup []), (.tup []), (.tup []), (.tup []), (.tup []), (.tup []), (.tup []), (.tup []), (.tup []), (.tup []), (.tup []), (.tup []), (.tup []), (.tup []), (.tup []), (.tup []), (.tup []), (.tup []), (.tup []), (.tup []), (.tup []), (.tup []), (.tup []), (.tup []), (.tup []), (.tup []), (.tup []), (.tup []), (.tup []), (.tup []), (.tup []), (.tup []), (.tup []), (.tup [])] H (kk none (fun s H => retK (([4] : List Nat).map fun t => s.getD t (.tup [])) H) [] retK [4]) = L238 ρ call yc lim k x0 x1 H := by
  kernel_rfl
theorem E238 (ρ : Addr → Option Value) (k lim : Nat) (x0 x1 : AV) (H : Heap) : evCall (cx ρ) (k + 1) lim 238 [x0, x1] H = L238 ρ (evCall (cx ρ) k) (evCY (cx ρ) k).2 lim k x0 x1 H := by
  rw [evCall_body (cx ρ) k lim 238 _ H Tryz.f238 c238 [4] (by kernel_rfl) (by kernel_rfl) (by kernel_rfl) (by kernel_rfl) (by kernel_rfl)]
  exact G238 ρ (evCall (cx ρ) k) (evCY (cx ρ) k).2 lim k x0 x1 H
-- haycroft/cell.New
noncomputable def c239 : Code := Code.of Tryz.prog 239
noncomputable def L239 (ρ : Addr → Option Value) (call : CallF) (yc : YieldF) (lim k : Nat) (x0 : AV) (H : Heap) : Res :=
  purK (binA Tryz.prog H .lss 3 x0 (.int .i64 1)) fun x5 =>
  purK (gPur (wantV x5 false) (some x0)) fun x7 =>
  purK (gPur (wantV x5 false) (binA Tryz.prog H .gtr 3 x7 (.int .i64 65536))) fun x8 =>
  purK (pickA x5 (.bool true) x8) fun x9 =>
  condK x9
  (
    retK [.nilp, (.int .i64 1)] H)
  (
    effK H (mkS H 249 1 8 [.int .u64 0] x0 x0) fun x11 H =>
    purK (bldA [.nils, .int .i64 0, .int .i64 0] [(0, 1, x11)]) fun x12 =>
    effK H (boxA H 254 x12) fun x13 H =>
    retK [x13, (.int .i64 0)] H)
theorem G239 (ρ : Addr → Option Value) (call : CallF) (yc : YieldF) (lim k : Nat) (x0 : AV) (H : Heap) :
    evL (cx ρ) call yc false 239 lim k c239 [x0, (.tup []), (.tup []), (.tup []), (.tup []), (.tup []), (.tup []), (.tup []), (.tup []), (.tup []), (.tup []), (.tup []), (.tup []), (.tup [])] H (kk none (fun s H => retK (([2, 3] : List Nat).map fun t => s.getD t (.tup [])) H) [] retK [2, 3]) = L239 ρ call yc lim k x0 H := by
  kernel_rfl
theorem E239 (ρ : Addr → Option Value) (k lim : Nat) (x0 : AV) (H : Heap) : evCall (cx ρ) (k + 1) lim 239 [x0] H = L239 ρ (evCall (cx ρ) k) (evCY (cx ρ) k).2 lim k x0 H := by
  rw [evCall_body (cx ρ) k lim 239 _ H Tryz.f239 c239 [2, 3] (by kernel_rfl) (by kernel_rfl) (by kernel_rfl) (by kernel_rfl) (by kernel_rfl)]
  exact G239 ρ (evCall (cx ρ) k) (evCY (cx ρ) k).2 lim k x0 H
end Go.Proofs.YtdiafdmgenefnaaGreat
