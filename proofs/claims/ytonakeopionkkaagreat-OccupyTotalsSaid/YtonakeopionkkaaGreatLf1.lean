/- Functions, lifted. Printed by a program of this repo. -/
import Derived.Test.YtonakeopionkkaaGreatLfTab
set_option linter.unusedVariables false
set_option linter.unusedSimpArgs false
set_option maxRecDepth 100000
set_option maxHeartbeats 4000000
namespace Go.Proofs.YtonakeopionkkaaGreat
open Go.Ev Go.RowKit
-- haycroft/occupy.open
noncomputable def c16 : Code := Code.of Tryz.prog 16
noncomputable def N16_1 (ρ : Addr → Option Value) (call : CallF) (yc : YieldF) (lim k : Nat) (x3 : AV) (H : Heap) (R : List AV → Heap → Res) : Res :=
  R [x3] H
theorem N16_1_eq (ρ : Addr → Option Value) (call : CallF) (yc : YieldF) (lim k : Nat) (x3 : AV) (H : Heap) (R : List AV → Heap → Res) :
    evL (cx ρ) call yc false 16 lim k (Code.at [1, 1, 1] c16) (sp 34 [(3, x3)]) H (kk none (fun s H => R (([2] : List Nat).map fun t => s.getD t (.tup [])) H) [] R [2]) = N16_1 ρ call yc lim k x3 H R := by
  kernel_rfl
noncomputable def N16_3b (ρ : Addr → Option Value) (call : CallF) (yc : YieldF) (lim k : Nat) (x0 x3 x13 x14 : AV) (H : Heap) (kn : AV → Heap → Res) (k0 : AV → Heap → Res) : Res :=
  purK (binA Tryz.prog H .lss 3 x14 x13) fun x15_1 =>
  condK x15_1
  (
    purK (nilChkA x3) fun x19_1 =>
    purK (addA 1 x19_1) fun x20_1 =>
    purK (ld1 ρ H x20_1) fun x21_1 =>
    resK (call lim 28 [x0] H) fun x24_1 H => bif (agn (ld1 ρ H x20_1) x21_1 && true) then
      purK (fld1 0 x24_1) fun x25_1 =>
      resK (call lim 27 [x25_1] H) fun x26_1 H => bif (agn (ld1 ρ H x20_1) x21_1 && true) then
        purK (bldA [.int .i64 0, .int .i64 0, .int .i64 0, .int .i64 0, .int .i64 0] [(0, 1, x14), (4, 1, x26_1)]) fun x27_1 =>
        mkK H (bldS H 30 5 [.int .i64 0, .int .i64 0, .int .i64 0, .int .i64 0, .int .i64 0] 1 [(0, 5, x27_1)]) true fun x28_1 H => bif (agn (ld1 ρ H x20_1) x21_1 && true) then
          effK H (apA ρ lim H 30 5 40 x21_1 x28_1) fun x29_1 H =>
          purK (nilChkA x3) fun x30_1 =>
          purK (addA 1 x30_1) fun x31_1 =>
          effK H (stA lim H 1 x31_1 x29_1) fun _ H =>
          purK (binA Tryz.prog H .add 3 x14 (.int .i64 1)) fun x32_1 =>
          kn x32_1 H
        else none
      else none
    else none)
  (
    k0 x3 H)
theorem N16_3b_eq (ρ : Addr → Option Value) (call : CallF) (yc : YieldF) (lim k : Nat) (x0 x3 x13 x14 : AV) (H : Heap) (kn : KS) (k0 : KS) (R : List AV → Heap → Res) :
    evL (cx ρ) call yc false 16 lim k (Code.at [1, 1, 0, 1, 0, 0] c16) (sp 34 [(0, x0), (3, x3), (13, x13), (14, x14)]) H (kk (some [0, 3, 13, 14]) kn [(0, (some [3]), k0)] R [2]) = N16_3b ρ call yc lim k x0 x3 x13 x14 H (fun x14 H => kn (sp 34 [(0, x0), (3, x3), (13, x13), (14, x14)]) H) (fun x3 H => k0 (sp 34 [(3, x3)]) H) := by
  kernel_rfl
noncomputable def N16_3 (ρ : Addr → Option Value) (call : CallF) (yc : YieldF) (lim k : Nat) (x0 x3 x13 x14 : AV) (H : Heap) (k0 : AV → Heap → Res) : Res :=
  loopL (fun (x : AV) H kn => N16_3b ρ call yc lim k x0 x3 x13 x H (fun x14 H => kn x14 H) k0) k x14 H
theorem N16_3_eq (ρ : Addr → Option Value) (call : CallF) (yc : YieldF) (lim k : Nat) (x0 x3 x13 x14 : AV) (H : Heap) (kn : KS) (k0 : KS) (R : List AV → Heap → Res) :
    evL (cx ρ) call yc false 16 lim k (Code.at [1, 1, 0, 1, 0] c16) (sp 34 [(0, x0), (3, x3), (13, x13), (14, x14)]) H (kk (some [3]) kn [(0, (some [3]), k0)] R [2]) = N16_3 ρ call yc lim k x0 x3 x13 x14 H (fun x3 H => k0 (sp 34 [(3, x3)]) H) := by
  have e : Code.at [1, 1, 0, 1, 0] c16 = .loop (Code.at [1, 1, 0, 1, 0, 0] c16) := by kernel_rfl
  rw [e]
  unfold N16_3
  exact loop_node [0, 3, 13, 14] (fun x : AV => (sp 34 [(0, x0), (3, x3), (13, x13), (14, (x))])) (fun (x : AV) H kn => N16_3b ρ call yc lim k x0 x3 x13 x H (fun x14 H => kn x14 H) (fun x3 H => k0 (sp 34 [(3, x3)]) H)) (by kernel_rfl) (fun x => by kernel_rfl) (fun x H kn => N16_3b_eq ρ call yc lim k x0 x3 x13 (x) H kn k0 R) x14 (sp 34 [(0, x0), (3, x3), (13, x13), (14, x14)]) H (by kernel_rfl)
noncomputable def N16_2 (ρ : Addr → Option Value) (call : CallF) (yc : YieldF) (lim k : Nat) (x0 x3 x13 x14 : AV) (H : Heap) (kn : AV → Heap → Res) : Res :=
  N16_3 ρ call yc lim k x0 x3 x13 x14 H kn
theorem N16_2_x (ρ : Addr → Option Value) (call : CallF) (yc : YieldF) (lim k : Nat) (J : CodeF) (x0 x3 x13 x14 : AV) (H : Heap) (kn : KS) (R : List AV → Heap → Res) :
    evX (cx ρ) call yc false 16 lim k J (Code.at [1, 1, 0, 1] c16) (sp 34 [(0, x0), (3, x3), (13, x13), (14, x14)]) H (kk (some [3]) kn [] R [2]) =
  J (Code.at [1, 1, 0, 1, 0] c16) (sp 34 [(0, x0), (3, x3), (13, x13), (14, x14)]) H (kk (some [3]) kn [(0, (some [3]), kn)] R [2]) := by
  kernel_rfl
theorem N16_2_eq (ρ : Addr → Option Value) (call : CallF) (yc : YieldF) (lim k : Nat) (x0 x3 x13 x14 : AV) (H : Heap) (kn : KS) (R : List AV → Heap → Res) :
    evL (cx ρ) call yc false 16 lim k (Code.at [1, 1, 0, 1] c16) (sp 34 [(0, x0), (3, x3), (13, x13), (14, x14)]) H (kk (some [3]) kn [] R [2]) = N16_2 ρ call yc lim k x0 x3 x13 x14 H (fun x3 H => kn (sp 34 [(3, x3)]) H) := by
  rw [evL_X, N16_2_x]
  simp only [← evL_X, N16_2, N16_3_eq]
noncomputable def L16 (ρ : Addr → Option Value) (call : CallF) (yc : YieldF) (lim k : Nat) (x0 : AV) (H : Heap) : Res :=
  effK H (some (makeMapA H)) fun x6 H =>
  purK (bldA [.nilp, .nils, .nilm] [(0, 1, x0), (2, 1, x6)]) fun x7 =>
  effK H (boxA H 60 x7) fun x8 H =>
  resK (call lim 24 [x0] H) fun x10 H =>
  resK (call lim 25 [x10] H) fun x11 H =>
  resK (call lim 26 [x11] H) fun x12 H =>
  purK (binA Tryz.prog H .add 3 x12 (.int .i64 1)) fun x13 =>
  N16_2 ρ call yc lim k x0 x8 x13 (.int .i64 0) H (fun x3 H =>
    N16_1 ρ call yc lim k x3 H retK)
theorem L16_x (ρ : Addr → Option Value) (call : CallF) (yc : YieldF) (lim k : Nat) (J : CodeF) (x0 : AV) (H : Heap) :
    evX (cx ρ) call yc false 16 lim k J c16 [x0, (.tup []), (.tup []), (.tup []), (.tup []), (.tup []), (.tup []), (.tup []), (.tup []), (.tup []), (.tup []), (.tup []), (.tup []), (.tup []), (.tup []), (.tup []), (.tup []), (.tup []), (.tup []), (.tup []), (.tup []), (.tup []), (.tup []), (.tup []), (.tup []), (.tup []), (.tup []), (.tup []), (.tup []), (.tup []), (.tup []), (.tup []), (.tup []), (.tup [])] H (kk none (fun s H => retK (([2] : List Nat).map fun t => s.getD t (.tup [])) H) [] retK [2]) =
  effK H (some (makeMapA H)) fun x6 H =>
  purK (bldA [.nilp, .nils, .nilm] [(0, 1, x0), (2, 1, x6)]) fun x7 =>
  effK H (boxA H 60 x7) fun x8 H =>
  resK (call lim 24 [x0] H) fun x10 H =>
  resK (call lim 25 [x10] H) fun x11 H =>
  resK (call lim 26 [x11] H) fun x12 H =>
  purK (binA Tryz.prog H .add 3 x12 (.int .i64 1)) fun x13 =>
  J (Code.at [1, 1, 0, 1] c16) (sp 34 [(0, x0), (3, x8), (13, x13), (14, (.int .i64 0))]) H (kk (some [3]) (fun s H => J (Code.at [1, 1, 1] c16) s H (kk none (fun s H => retK (([2] : List Nat).map fun t => s.getD t (.tup [])) H) [] retK [2])) [] retK [2]) := by
  kernel_rfl
theorem G16 (ρ : Addr → Option Value) (call : CallF) (yc : YieldF) (lim k : Nat) (x0 : AV) (H : Heap) :
    evL (cx ρ) call yc false 16 lim k c16 [x0, (.tup []), (.tup []), (.tup []), (.tup []), (.tup []), (.tup []), (.tup []), (.tup []), (.tup []), (.tup []), (.tup []), (.tup []), (.tup []), (.tup []), (.tup []), (.tup []), (.tup []), (.tup []), (.tup []), (.tup []), (.tup []), (.tup []), (.tup []), (.tup []), (.tup []), (.tup []), (.tup []), (.tup []), (.tup []), (.tup []), (.tup []), (.tup []), (.tup [])] H (kk none (fun s H => retK (([2] : List Nat).map fun t => s.getD t (.tup [])) H) [] retK [2]) = L16 ρ call yc lim k x0 H := by
  rw [evL_X, L16_x]
  simp only [← evL_X, L16, N16_1_eq, N16_2_eq]
theorem E16 (ρ : Addr → Option Value) (k lim : Nat) (x0 : AV) (H : Heap) : evCall (cx ρ) (k + 1) lim 16 [x0] H = L16 ρ (evCall (cx ρ) k) (evCY (cx ρ) k).2 lim k x0 H := by
  rw [evCall_body (cx ρ) k lim 16 _ H Tryz.f16 c16 [2] (by kernel_rfl) (by kernel_rfl) (by kernel_rfl) (by kernel_rfl) (by kernel_rfl)]
  exact G16 ρ (evCall (cx ρ) k) (evCY (cx ρ) k).2 lim k x0 H
-- (*haycroft/store.Store).Index
noncomputable def c17 : Code := Code.of Tryz.prog 17
noncomputable def L17 (ρ : Addr → Option Value) (call : CallF) (yc : YieldF) (lim k : Nat) (x0 : AV) (H : Heap) : Res :=
  resK (call lim 15 [x0] H) fun x4 H =>
  purK (unA .not x4) fun x5 =>
  condK x5
  (
    retK [.nilp] H)
  (
    purK (nilChkA x0) fun x7 =>
    purK (addA 7 x7) fun x8 =>
    purK (ld1 ρ H x8) fun x9 =>
    purK (nilChkA x9) fun x10 =>
    purK (addA 1 x10) fun x11 =>
    purK (ld1 ρ H x11) fun x12 =>
    retK [x12] H)
theorem G17 (ρ : Addr → Option Value) (call : CallF) (yc : YieldF) (lim k : Nat) (x0 : AV) (H : Heap) :
    evL (cx ρ) call yc false 17 lim k c17 [x0, (.tup []), (.tup []), (.tup []), (.tup []), (.tup []), (.tup []), (.tup []), (.tup []), (.tup []), (.tup []), (.tup []), (.tup [])] H (kk none (fun s H => retK (([2] : List Nat).map fun t => s.getD t (.tup [])) H) [] retK [2]) = L17 ρ call yc lim k x0 H := by
  kernel_rfl
theorem E17 (ρ : Addr → Option Value) (k lim : Nat) (x0 : AV) (H : Heap) : evCall (cx ρ) (k + 1) lim 17 [x0] H = L17 ρ (evCall (cx ρ) k) (evCY (cx ρ) k).2 lim k x0 H := by
  rw [evCall_body (cx ρ) k lim 17 _ H Tryz.f17 c17 [2] (by kernel_rfl) (by kernel_rfl) (by kernel_rfl) (by kernel_rfl) (by kernel_rfl)]
  exact G17 ρ (evCall (cx ρ) k) (evCY (cx ρ) k).2 lim k x0 H
-- (*haycroft/index.Index).Entries
noncomputable def c18 : Code := Code.of Tryz.prog 18
noncomputable def N18_1 (ρ : Addr → Option Value) (call : CallF) (yc : YieldF) (lim k : Nat) (x3 : AV) (H : Heap) (R : List AV → Heap → Res) : Res :=
  R [x3] H
theorem N18_1_eq (ρ : Addr → Option Value) (call : CallF) (yc : YieldF) (lim k : Nat) (x3 : AV) (H : Heap) (R : List AV → Heap → Res) :
    evL (cx ρ) call yc false 18 lim k (Code.at [1, 1, 1, 1] c18) (sp 41 [(3, x3)]) H (kk none (fun s H => R (([2] : List Nat).map fun t => s.getD t (.tup [])) H) [] R [2]) = N18_1 ρ call yc lim k x3 H R := by
  kernel_rfl
noncomputable def N18_4 (ρ : Addr → Option Value) (call : CallF) (yc : YieldF) (lim k : Nat) (x0 x3 x13 x14 : AV) (H : Heap) (kn : AV → AV → Heap → Res) : Res :=
  purK (binA Tryz.prog H .add 3 x14 (.int .i64 1)) fun x39_1 =>
  kn x3 x39_1 H
theorem N18_4_eq (ρ : Addr → Option Value) (call : CallF) (yc : YieldF) (lim k : Nat) (x0 x3 x13 x14 : AV) (H : Heap) (kn : KS) (k0 : KS) (R : List AV → Heap → Res) :
    evL (cx ρ) call yc false 18 lim k (Code.at [1, 1, 1, 0, 1, 0, 0, 1, 1, 1] c18) (sp 41 [(0, x0), (3, x3), (13, x13), (14, x14)]) H (kk (some [0, 3, 13, 14]) kn [(0, (some [3]), k0)] R [2]) = N18_4 ρ call yc lim k x0 x3 x13 x14 H (fun x3 x14 H => kn (sp 41 [(0, x0), (3, x3), (13, x13), (14, x14)]) H) := by
  kernel_rfl
noncomputable def N18_7 (ρ : Addr → Option Value) (call : CallF) (yc : YieldF) (lim k : Nat) (x0 x3 x13 x14 x20 x21 x22 : AV) (H : Heap) (kn : AV → AV → Heap → Res) : Res :=
  purK (binA Tryz.prog H .add 3 x22 (.int .i64 1)) fun x38_1 =>
  kn x3 x38_1 H
theorem N18_7_eq (ρ : Addr → Option Value) (call : CallF) (yc : YieldF) (lim k : Nat) (x0 x3 x13 x14 x20 x21 x22 : AV) (H : Heap) (kn : KS) (k2 : KS) (k1 : KS) (k0 : KS) (R : List AV → Heap → Res) :
    evL (cx ρ) call yc false 18 lim k (Code.at [1, 1, 1, 0, 1, 0, 0, 1, 1, 0, 0, 1, 1, 0, 0, 1, 1, 1] c18) (sp 41 [(0, x0), (3, x3), (13, x13), (14, x14), (20, x20), (21, x21), (22, x22)]) H (kk (some [0, 3, 13, 14, 20, 21, 22]) kn [(2, (some [0, 3, 13, 14]), k2), (1, (some [0, 3, 13, 14]), k1), (0, (some [3]), k0)] R [2]) = N18_7 ρ call yc lim k x0 x3 x13 x14 x20 x21 x22 H (fun x3 x22 H => kn (sp 41 [(0, x0), (3, x3), (13, x13), (14, x14), (20, x20), (21, x21), (22, x22)]) H) := by
  kernel_rfl
noncomputable def N18_6b (ρ : Addr → Option Value) (call : CallF) (yc : YieldF) (lim k : Nat) (x0 x3 x13 x14 x20 x21 x22 : AV) (H : Heap) (kn : AV → AV → Heap → Res) (k2 : AV → AV → Heap → Res) : Res :=
  purK (binA Tryz.prog H .lss 3 x22 x21) fun x23_1 =>
  condK x23_1
  (
    purK (ixS 1 x20 x22) fun x24_1 =>
    purK (ld1 ρ H x24_1) fun x25_1 =>
    purK (nilChkA x0) fun x27_1 =>
    purK (addA 2 x27_1) fun x28_1 =>
    purK (ld1 ρ H x28_1) fun x29_1 =>
    resK (call lim 31 [x29_1, x25_1] H) fun x31_1 H =>
    purK (binA Tryz.prog H .neq 52 x31_1 (.int .u64 0)) fun x33_1 =>
    condK x33_1
    (
      effK H (bldS H 52 1 [.int .u64 0] 1 [(0, 1, x31_1)]) fun x36_1 H =>
      effK H (apA ρ lim H 52 1 8 x3 x36_1) fun x37_1 H =>
      N18_7 ρ call yc lim k x0 x37_1 x13 x14 x20 x21 x22 H kn)
    (
      N18_7 ρ call yc lim k x0 x3 x13 x14 x20 x21 x22 H kn))
  (
    k2 x3 x14 H)
theorem N18_6b_x (ρ : Addr → Option Value) (call : CallF) (yc : YieldF) (lim k : Nat) (J : CodeF) (x0 x3 x13 x14 x20 x21 x22 : AV) (H : Heap) (kn : KS) (k2 : KS) (k1 : KS) (k0 : KS) (R : List AV → Heap → Res) :
    evX (cx ρ) call yc false 18 lim k J (Code.at [1, 1, 1, 0, 1, 0, 0, 1, 1, 0, 0, 1, 1, 0, 0] c18) (sp 41 [(0, x0), (3, x3), (13, x13), (14, x14), (20, x20), (21, x21), (22, x22)]) H (kk (some [0, 3, 13, 14, 20, 21, 22]) kn [(2, (some [0, 3, 13, 14]), k2), (1, (some [0, 3, 13, 14]), k1), (0, (some [3]), k0)] R [2]) =
  purK (binA Tryz.prog H .lss 3 x22 x21) fun x23_1 =>
  condK x23_1
  (
    purK (ixS 1 x20 x22) fun x24_1 =>
    purK (ld1 ρ H x24_1) fun x25_1 =>
    purK (nilChkA x0) fun x27_1 =>
    purK (addA 2 x27_1) fun x28_1 =>
    purK (ld1 ρ H x28_1) fun x29_1 =>
    resK (call lim 31 [x29_1, x25_1] H) fun x31_1 H =>
    purK (binA Tryz.prog H .neq 52 x31_1 (.int .u64 0)) fun x33_1 =>
    condK x33_1
    (
      effK H (bldS H 52 1 [.int .u64 0] 1 [(0, 1, x31_1)]) fun x36_1 H =>
      effK H (apA ρ lim H 52 1 8 x3 x36_1) fun x37_1 H =>
      J (Code.at [1, 1, 1, 0, 1, 0, 0, 1, 1, 0, 0, 1, 1, 0, 0, 1, 1, 1] c18) (sp 41 [(0, x0), (3, x37_1), (13, x13), (14, x14), (20, x20), (21, x21), (22, x22)]) H (kk (some [0, 3, 13, 14, 20, 21, 22]) kn [(2, (some [0, 3, 13, 14]), k2), (1, (some [0, 3, 13, 14]), k1), (0, (some [3]), k0)] R [2]))
    (
      J (Code.at [1, 1, 1, 0, 1, 0, 0, 1, 1, 0, 0, 1, 1, 0, 0, 1, 1, 1] c18) (sp 41 [(0, x0), (3, x3), (13, x13), (14, x14), (20, x20), (21, x21), (22, x22)]) H (kk (some [0, 3, 13, 14, 20, 21, 22]) kn [(2, (some [0, 3, 13, 14]), k2), (1, (some [0, 3, 13, 14]), k1), (0, (some [3]), k0)] R [2])))
  (
    k2 (sp 41 [(0, x0), (3, x3), (13, x13), (14, x14)]) H) := by
  kernel_rfl
theorem N18_6b_eq (ρ : Addr → Option Value) (call : CallF) (yc : YieldF) (lim k : Nat) (x0 x3 x13 x14 x20 x21 x22 : AV) (H : Heap) (kn : KS) (k2 : KS) (k1 : KS) (k0 : KS) (R : List AV → Heap → Res) :
    evL (cx ρ) call yc false 18 lim k (Code.at [1, 1, 1, 0, 1, 0, 0, 1, 1, 0, 0, 1, 1, 0, 0] c18) (sp 41 [(0, x0), (3, x3), (13, x13), (14, x14), (20, x20), (21, x21), (22, x22)]) H (kk (some [0, 3, 13, 14, 20, 21, 22]) kn [(2, (some [0, 3, 13, 14]), k2), (1, (some [0, 3, 13, 14]), k1), (0, (some [3]), k0)] R [2]) = N18_6b ρ call yc lim k x0 x3 x13 x14 x20 x21 x22 H (fun x3 x22 H => kn (sp 41 [(0, x0), (3, x3), (13, x13), (14, x14), (20, x20), (21, x21), (22, x22)]) H) (fun x3 x14 H => k2 (sp 41 [(0, x0), (3, x3), (13, x13), (14, x14)]) H) := by
  rw [evL_X, N18_6b_x]
  simp only [← evL_X, N18_6b, N18_7_eq]
noncomputable def N18_6 (ρ : Addr → Option Value) (call : CallF) (yc : YieldF) (lim k : Nat) (x0 x3 x13 x14 x20 x21 x22 : AV) (H : Heap) (k2 : AV → AV → Heap → Res) : Res :=
  loopL (fun (x : AV × AV) H kn => N18_6b ρ call yc lim k x0 x.1 x13 x14 x20 x21 x.2 H (fun x3 x22 H => kn (x3, x22) H) k2) k (x3, x22) H
theorem N18_6_eq (ρ : Addr → Option Value) (call : CallF) (yc : YieldF) (lim k : Nat) (x0 x3 x13 x14 x20 x21 x22 : AV) (H : Heap) (kn : KS) (k2 : KS) (k1 : KS) (k0 : KS) (R : List AV → Heap → Res) :
    evL (cx ρ) call yc false 18 lim k (Code.at [1, 1, 1, 0, 1, 0, 0, 1, 1, 0, 0, 1, 1, 0] c18) (sp 41 [(0, x0), (3, x3), (13, x13), (14, x14), (20, x20), (21, x21), (22, x22)]) H (kk (some [0, 3, 13, 14]) kn [(2, (some [0, 3, 13, 14]), k2), (1, (some [0, 3, 13, 14]), k1), (0, (some [3]), k0)] R [2]) = N18_6 ρ call yc lim k x0 x3 x13 x14 x20 x21 x22 H (fun x3 x14 H => k2 (sp 41 [(0, x0), (3, x3), (13, x13), (14, x14)]) H) := by
  have e : Code.at [1, 1, 1, 0, 1, 0, 0, 1, 1, 0, 0, 1, 1, 0] c18 = .loop (Code.at [1, 1, 1, 0, 1, 0, 0, 1, 1, 0, 0, 1, 1, 0, 0] c18) := by kernel_rfl
  rw [e]
  unfold N18_6
  exact loop_node [0, 3, 13, 14, 20, 21, 22] (fun x : AV × AV => (sp 41 [(0, x0), (3, (x.1)), (13, x13), (14, x14), (20, x20), (21, x21), (22, (x.2))])) (fun (x : AV × AV) H kn => N18_6b ρ call yc lim k x0 x.1 x13 x14 x20 x21 x.2 H (fun x3 x22 H => kn (x3, x22) H) (fun x3 x14 H => k2 (sp 41 [(0, x0), (3, x3), (13, x13), (14, x14)]) H)) (by kernel_rfl) (fun x => by kernel_rfl) (fun x H kn => N18_6b_eq ρ call yc lim k x0 (x.1) x13 x14 x20 x21 (x.2) H kn k2 k1 k0 R) (x3, x22) (sp 41 [(0, x0), (3, x3), (13, x13), (14, x14), (20, x20), (21, x21), (22, x22)]) H (by kernel_rfl)
noncomputable def N18_5 (ρ : Addr → Option Value) (call : CallF) (yc : YieldF) (lim k : Nat) (x0 x3 x13 x14 x20 x21 x22 : AV) (H : Heap) (kn : AV → AV → Heap → Res) : Res :=
  N18_6 ρ call yc lim k x0 x3 x13 x14 x20 x21 x22 H kn
theorem N18_5_x (ρ : Addr → Option Value) (call : CallF) (yc : YieldF) (lim k : Nat) (J : CodeF) (x0 x3 x13 x14 x20 x21 x22 : AV) (H : Heap) (kn : KS) (k1 : KS) (k0 : KS) (R : List AV → Heap → Res) :
    evX (cx ρ) call yc false 18 lim k J (Code.at [1, 1, 1, 0, 1, 0, 0, 1, 1, 0, 0, 1, 1] c18) (sp 41 [(0, x0), (3, x3), (13, x13), (14, x14), (20, x20), (21, x21), (22, x22)]) H (kk (some [0, 3, 13, 14]) kn [(1, (some [0, 3, 13, 14]), k1), (0, (some [3]), k0)] R [2]) =
  J (Code.at [1, 1, 1, 0, 1, 0, 0, 1, 1, 0, 0, 1, 1, 0] c18) (sp 41 [(0, x0), (3, x3), (13, x13), (14, x14), (20, x20), (21, x21), (22, x22)]) H (kk (some [0, 3, 13, 14]) kn [(2, (some [0, 3, 13, 14]), kn), (1, (some [0, 3, 13, 14]), k1), (0, (some [3]), k0)] R [2]) := by
  kernel_rfl
theorem N18_5_eq (ρ : Addr → Option Value) (call : CallF) (yc : YieldF) (lim k : Nat) (x0 x3 x13 x14 x20 x21 x22 : AV) (H : Heap) (kn : KS) (k1 : KS) (k0 : KS) (R : List AV → Heap → Res) :
    evL (cx ρ) call yc false 18 lim k (Code.at [1, 1, 1, 0, 1, 0, 0, 1, 1, 0, 0, 1, 1] c18) (sp 41 [(0, x0), (3, x3), (13, x13), (14, x14), (20, x20), (21, x21), (22, x22)]) H (kk (some [0, 3, 13, 14]) kn [(1, (some [0, 3, 13, 14]), k1), (0, (some [3]), k0)] R [2]) = N18_5 ρ call yc lim k x0 x3 x13 x14 x20 x21 x22 H (fun x3 x14 H => kn (sp 41 [(0, x0), (3, x3), (13, x13), (14, x14)]) H) := by
  rw [evL_X, N18_5_x]
  simp only [← evL_X, N18_5, N18_6_eq]
noncomputable def N18_3b (ρ : Addr → Option Value) (call : CallF) (yc : YieldF) (lim k : Nat) (x0 x3 x13 x14 : AV) (H : Heap) (kn : AV → AV → Heap → Res) (k0 : AV → Heap → Res) : Res :=
  purK (binA Tryz.prog H .lss 3 x14 x13) fun x15_1 =>
  condK x15_1
  (
    resK (call lim 30 [x0, x14] H) fun x19_1 H =>
    resK (call lim 29 [x19_1] H) fun x20_1 H =>
    purK (lenS x20_1) fun x21_1 =>
    N18_5 ρ call yc lim k x0 x3 x13 x14 x20_1 x21_1 (.int .i64 0) H (fun x3_1 x14_1 H =>
      N18_4 ρ call yc lim k x0 x3_1 x13 x14_1 H kn))
  (
    k0 x3 H)
theorem N18_3b_x (ρ : Addr → Option Value) (call : CallF) (yc : YieldF) (lim k : Nat) (J : CodeF) (x0 x3 x13 x14 : AV) (H : Heap) (kn : KS) (k0 : KS) (R : List AV → Heap → Res) :
    evX (cx ρ) call yc false 18 lim k J (Code.at [1, 1, 1, 0, 1, 0, 0] c18) (sp 41 [(0, x0), (3, x3), (13, x13), (14, x14)]) H (kk (some [0, 3, 13, 14]) kn [(0, (some [3]), k0)] R [2]) =
  purK (binA Tryz.prog H .lss 3 x14 x13) fun x15_1 =>
  condK x15_1
  (
    resK (call lim 30 [x0, x14] H) fun x19_1 H =>
    resK (call lim 29 [x19_1] H) fun x20_1 H =>
    purK (lenS x20_1) fun x21_1 =>
    J (Code.at [1, 1, 1, 0, 1, 0, 0, 1, 1, 0, 0, 1, 1] c18) (sp 41 [(0, x0), (3, x3), (13, x13), (14, x14), (20, x20_1), (21, x21_1), (22, (.int .i64 0))]) H (kk (some [0, 3, 13, 14]) (fun s H => J (Code.at [1, 1, 1, 0, 1, 0, 0, 1, 1, 1] c18) s H (kk (some [0, 3, 13, 14]) kn [(0, (some [3]), k0)] R [2])) [(1, (some [0, 3, 13, 14]), (fun s H => J (Code.at [1, 1, 1, 0, 1, 0, 0, 1, 1, 1] c18) s H (kk (some [0, 3, 13, 14]) kn [(0, (some [3]), k0)] R [2]))), (0, (some [3]), k0)] R [2]))
  (
    k0 (sp 41 [(3, x3)]) H) := by
  kernel_rfl
theorem N18_3b_eq (ρ : Addr → Option Value) (call : CallF) (yc : YieldF) (lim k : Nat) (x0 x3 x13 x14 : AV) (H : Heap) (kn : KS) (k0 : KS) (R : List AV → Heap → Res) :
    evL (cx ρ) call yc false 18 lim k (Code.at [1, 1, 1, 0, 1, 0, 0] c18) (sp 41 [(0, x0), (3, x3), (13, x13), (14, x14)]) H (kk (some [0, 3, 13, 14]) kn [(0, (some [3]), k0)] R [2]) = N18_3b ρ call yc lim k x0 x3 x13 x14 H (fun x3 x14 H => kn (sp 41 [(0, x0), (3, x3), (13, x13), (14, x14)]) H) (fun x3 H => k0 (sp 41 [(3, x3)]) H) := by
  rw [evL_X, N18_3b_x]
  simp only [← evL_X, N18_3b, N18_4_eq, N18_5_eq]
noncomputable def N18_3 (ρ : Addr → Option Value) (call : CallF) (yc : YieldF) (lim k : Nat) (x0 x3 x13 x14 : AV) (H : Heap) (k0 : AV → Heap → Res) : Res :=
  loopL (fun (x : AV × AV) H kn => N18_3b ρ call yc lim k x0 x.1 x13 x.2 H (fun x3 x14 H => kn (x3, x14) H) k0) k (x3, x14) H
theorem N18_3_eq (ρ : Addr → Option Value) (call : CallF) (yc : YieldF) (lim k : Nat) (x0 x3 x13 x14 : AV) (H : Heap) (kn : KS) (k0 : KS) (R : List AV → Heap → Res) :
    evL (cx ρ) call yc false 18 lim k (Code.at [1, 1, 1, 0, 1, 0] c18) (sp 41 [(0, x0), (3, x3), (13, x13), (14, x14)]) H (kk (some [3]) kn [(0, (some [3]), k0)] R [2]) = N18_3 ρ call yc lim k x0 x3 x13 x14 H (fun x3 H => k0 (sp 41 [(3, x3)]) H) := by
  have e : Code.at [1, 1, 1, 0, 1, 0] c18 = .loop (Code.at [1, 1, 1, 0, 1, 0, 0] c18) := by kernel_rfl
  rw [e]
  unfold N18_3
  exact loop_node [0, 3, 13, 14] (fun x : AV × AV => (sp 41 [(0, x0), (3, (x.1)), (13, x13), (14, (x.2))])) (fun (x : AV × AV) H kn => N18_3b ρ call yc lim k x0 x.1 x13 x.2 H (fun x3 x14 H => kn (x3, x14) H) (fun x3 H => k0 (sp 41 [(3, x3)]) H)) (by kernel_rfl) (fun x => by kernel_rfl) (fun x H kn => N18_3b_eq ρ call yc lim k x0 (x.1) x13 (x.2) H kn k0 R) (x3, x14) (sp 41 [(0, x0), (3, x3), (13, x13), (14, x14)]) H (by kernel_rfl)
noncomputable def N18_2 (ρ : Addr → Option Value) (call : CallF) (yc : YieldF) (lim k : Nat) (x0 x3 x13 x14 : AV) (H : Heap) (kn : AV → Heap → Res) : Res :=
  N18_3 ρ call yc lim k x0 x3 x13 x14 H kn
theorem N18_2_x (ρ : Addr → Option Value) (call : CallF) (yc : YieldF) (lim k : Nat) (J : CodeF) (x0 x3 x13 x14 : AV) (H : Heap) (kn : KS) (R : List AV → Heap → Res) :
    evX (cx ρ) call yc false 18 lim k J (Code.at [1, 1, 1, 0, 1] c18) (sp 41 [(0, x0), (3, x3), (13, x13), (14, x14)]) H (kk (some [3]) kn [] R [2]) =
  J (Code.at [1, 1, 1, 0, 1, 0] c18) (sp 41 [(0, x0), (3, x3), (13, x13), (14, x14)]) H (kk (some [3]) kn [(0, (some [3]), kn)] R [2]) := by
  kernel_rfl
theorem N18_2_eq (ρ : Addr → Option Value) (call : CallF) (yc : YieldF) (lim k : Nat) (x0 x3 x13 x14 : AV) (H : Heap) (kn : KS) (R : List AV → Heap → Res) :
    evL (cx ρ) call yc false 18 lim k (Code.at [1, 1, 1, 0, 1] c18) (sp 41 [(0, x0), (3, x3), (13, x13), (14, x14)]) H (kk (some [3]) kn [] R [2]) = N18_2 ρ call yc lim k x0 x3 x13 x14 H (fun x3 H => kn (sp 41 [(3, x3)]) H) := by
  rw [evL_X, N18_2_x]
  simp only [← evL_X, N18_2, N18_3_eq]
noncomputable def L18 (ρ : Addr → Option Value) (call : CallF) (yc : YieldF) (lim k : Nat) (x0 : AV) (H : Heap) : Res :=
  purK (binA Tryz.prog H .eql 49 x0 .nilp) fun x9 =>
  condK x9
  (
    retK [.nils] H)
  (
    purK (nilChkA x0) fun x11 =>
    purK (addA 0 x11) fun x12 =>
    purK (ld1 ρ H x12) fun x13 =>
    N18_2 ρ call yc lim k x0 .nils x13 (.int .i64 0) H (fun x3 H =>
      N18_1 ρ call yc lim k x3 H retK))
theorem L18_x (ρ : Addr → Option Value) (call : CallF) (yc : YieldF) (lim k : Nat) (J : CodeF) (x0 : AV) (H : Heap) :
    evX (cx ρ) call yc false 18 lim k J c18 [x0, (.tup []), (.tup []), (.tup []), (.tup []), (.tup []), (.tup []), (.tup []), (.tup []), (.tup []), (.tup []), (.tup []), (.tup []), (.tup []), (.tup []), (.tup []), (.tup []), (.tup []), (.tup []), (.tup []), (.tup []), (.tup []), (.tup []), (.tup []), (.tup []), (.tup []), (.tup []), (.tup []), (.tup []), (.tup []), (.tup []), (.tup []), (.tup []), (.tup []), (.tup []), (.tup []), (.tup []), (.tup []), (.tup []), (.tup []), (.tup [])] H (kk none (fun s H => retK (([2] : List Nat).map fun t => s.getD t (.tup [])) H) [] retK [2]) =
  purK (binA Tryz.prog H .eql 49 x0 .nilp) fun x9 =>
  condK x9
  (
    retK [.nils] H)
  (
    purK (nilChkA x0) fun x11 =>
    purK (addA 0 x11) fun x12 =>
    purK (ld1 ρ H x12) fun x13 =>
    J (Code.at [1, 1, 1, 0, 1] c18) (sp 41 [(0, x0), (3, .nils), (13, x13), (14, (.int .i64 0))]) H (kk (some [3]) (fun s H => J (Code.at [1, 1, 1, 1] c18) s H (kk none (fun s H => retK (([2] : List Nat).map fun t => s.getD t (.tup [])) H) [] retK [2])) [] retK [2])) := by
  kernel_rfl
theorem G18 (ρ : Addr → Option Value) (call : CallF) (yc : YieldF) (lim k : Nat) (x0 : AV) (H : Heap) :
    evL (cx ρ) call yc false 18 lim k c18 [x0, (.tup []), (.tup []), (.tup []), (.tup []), (.tup []), (.tup []), (.tup []), (.tup []), (.tup []), (.tup []), (.tup []), (.tup []), (.tup []), (.tup []), (.tup []), (.tup []), (.tup []), (.tup []), (.tup []), (.tup []), (.tup []), (.tup []), (.tup []), (.tup []), (.tup []), (.tup []), (.tup []), (.tup []), (.tup []), (.tup []), (.tup []), (.tup []), (.tup []), (.tup []), (.tup []), (.tup []), (.tup []), (.tup []), (.tup []), (.tup [])] H (kk none (fun s H => retK (([2] : List Nat).map fun t => s.getD t (.tup [])) H) [] retK [2]) = L18 ρ call yc lim k x0 H := by
  rw [evL_X, L18_x]
  simp only [← evL_X, L18, N18_1_eq, N18_2_eq]
theorem E18 (ρ : Addr → Option Value) (k lim : Nat) (x0 : AV) (H : Heap) : evCall (cx ρ) (k + 1) lim 18 [x0] H = L18 ρ (evCall (cx ρ) k) (evCY (cx ρ) k).2 lim k x0 H := by
  rw [evCall_body (cx ρ) k lim 18 _ H Tryz.f18 c18 [2] (by kernel_rfl) (by kernel_rfl) (by kernel_rfl) (by kernel_rfl) (by kernel_rfl)]
  exact G18 ρ (evCall (cx ρ) k) (evCY (cx ρ) k).2 lim k x0 H
-- haycroft/store.Right
noncomputable def c21 : Code := Code.of Tryz.prog 21
noncomputable def L21 (ρ : Addr → Option Value) (call : CallF) (yc : YieldF) (lim k : Nat) (x0 : AV) (H : Heap) : Res :=
  effK H (boxA H 42 x0) fun x1 H =>
  purK (addA 0 x1) fun x3 =>
  purK (ld1 ρ H x3) fun x4 =>
  resK (call lim 37 [x4] H) fun x5 H =>
  purK (gPur (wantV x5 true) (addA 1 x1)) fun x7 =>
  purK (gPur (wantV x5 true) (ld1 ρ H x7)) fun x8 =>
  resK (gRes (wantV x5 true) H (call lim 38 [x8, (.int .i64 2), (.int .i64 8)] H)) fun x9 H =>
  purK (pickA x5 x9 (.bool false)) fun x10 =>
  purK (gPur (wantV x10 true) (addA 2 x1)) fun x12 =>
  purK (gPur (wantV x10 true) (ld1 ρ H x12)) fun x13 =>
  resK (gRes (wantV x10 true) H (call lim 38 [x13, (.int .i64 1), (.int .i64 64)] H)) fun x14 H =>
  purK (pickA x10 x14 (.bool false)) fun x15 =>
  purK (gPur (wantV x15 true) (addA 3 x1)) fun x17 =>
  purK (gPur (wantV x15 true) (ld1 ρ H x17)) fun x18 =>
  resK (gRes (wantV x15 true) H (call lim 39 [x18] H)) fun x19 H =>
  purK (pickA x15 x19 (.bool false)) fun x20 =>
  purK (gPur (wantV x20 true) (addA 4 x1)) fun x22 =>
  purK (gPur (wantV x20 true) (ld1 ρ H x22)) fun x23 =>
  resK (gRes (wantV x20 true) H (call lim 38 [x23, (.int .i64 0), (.int .i64 64)] H)) fun x24 H =>
  purK (pickA x20 x24 (.bool false)) fun x25 =>
  purK (gPur (wantV x25 true) (addA 5 x1)) fun x27 =>
  purK (gPur (wantV x25 true) (ld1 ρ H x27)) fun x28 =>
  resK (gRes (wantV x25 true) H (call lim 38 [x28, (.int .i64 1), (.int .i64 8)] H)) fun x29 H =>
  purK (pickA x25 x29 (.bool false)) fun x30 =>
  retK [x30] H
theorem G21 (ρ : Addr → Option Value) (call : CallF) (yc : YieldF) (lim k : Nat) (x0 : AV) (H : Heap) :
    evL (cx ρ) call yc false 21 lim k c21 [x0, (.tup []), (.tup []), (.tup []), (.tup []), (.tup []), (.tup []), (.tup []), (.tup []), (.tup []), (.tup []), (.tup []), (.tup []), (.tup []), (.tup []), (.tup []), (.tup []), (.tup []), (.tup []), (.tup []), (.tup []), (.tup []), (.tup []), (.tup []), (.tup []), (.tup []), (.tup []), (.tup []), (.tup []), (.tup []), (.tup [])] H (kk none (fun s H => retK (([2] : List Nat).map fun t => s.getD t (.tup [])) H) [] retK [2]) = L21 ρ call yc lim k x0 H := by
  kernel_rfl
theorem E21 (ρ : Addr → Option Value) (k lim : Nat) (x0 : AV) (H : Heap) : evCall (cx ρ) (k + 1) lim 21 [x0] H = L21 ρ (evCall (cx ρ) k) (evCY (cx ρ) k).2 lim k x0 H := by
  rw [evCall_body (cx ρ) k lim 21 _ H Tryz.f21 c21 [2] (by kernel_rfl) (by kernel_rfl) (by kernel_rfl) (by kernel_rfl) (by kernel_rfl)]
  exact G21 ρ (evCall (cx ρ) k) (evCY (cx ρ) k).2 lim k x0 H
-- (*haycroft/device.Device).On
noncomputable def c22 : Code := Code.of Tryz.prog 22
noncomputable def L22 (ρ : Addr → Option Value) (call : CallF) (yc : YieldF) (lim k : Nat) (x0 : AV) (H : Heap) : Res :=
  resK (call lim 40 [x0] H) fun x4 H =>
  purK (binA Tryz.prog H .eql 24 x4 (.int .i64 0)) fun x5 =>
  retK [x5] H
theorem G22 (ρ : Addr → Option Value) (call : CallF) (yc : YieldF) (lim k : Nat) (x0 : AV) (H : Heap) :
    evL (cx ρ) call yc false 22 lim k c22 [x0, (.tup []), (.tup []), (.tup []), (.tup []), (.tup [])] H (kk none (fun s H => retK (([2] : List Nat).map fun t => s.getD t (.tup [])) H) [] retK [2]) = L22 ρ call yc lim k x0 H := by
  kernel_rfl
theorem E22 (ρ : Addr → Option Value) (k lim : Nat) (x0 : AV) (H : Heap) : evCall (cx ρ) (k + 1) lim 22 [x0] H = L22 ρ (evCall (cx ρ) k) (evCY (cx ρ) k).2 lim k x0 H := by
  rw [evCall_body (cx ρ) k lim 22 _ H Tryz.f22 c22 [2] (by kernel_rfl) (by kernel_rfl) (by kernel_rfl) (by kernel_rfl) (by kernel_rfl)]
  exact G22 ρ (evCall (cx ρ) k) (evCY (cx ρ) k).2 lim k x0 H
-- haycroft/store.load
noncomputable def c23 : Code := Code.of Tryz.prog 23
noncomputable def N23_1 (ρ : Addr → Option Value) (call : CallF) (yc : YieldF) (lim k : Nat) (x1 x2 : AV) (H : Heap) (R : List AV → Heap → Res) : Res :=
  purK (ldN ρ H 6 x2) fun x25_1 =>
  resK (call lim 43 [x25_1, x1] H) fun x27_1 H =>
  purK (extA 0 x27_1) fun x28_1 =>
  purK (extA 1 x27_1) fun x29_1 =>
  R [x28_1, x29_1] H
theorem N23_1_eq (ρ : Addr → Option Value) (call : CallF) (yc : YieldF) (lim k : Nat) (x1 x2 : AV) (H : Heap) (R : List AV → Heap → Res) :
    evL (cx ρ) call yc false 23 lim k (Code.at [1, 1] c23) (sp 30 [(1, x1), (2, x2)]) H (kk none (fun s H => R (([4, 5] : List Nat).map fun t => s.getD t (.tup [])) H) [] R [4, 5]) = N23_1 ρ call yc lim k x1 x2 H R := by
  kernel_rfl
noncomputable def L23 (ρ : Addr → Option Value) (call : CallF) (yc : YieldF) (lim k : Nat) (x0 x1 : AV) (H : Heap) : Res :=
  effK H (boxA H 42 x0) fun x2 H =>
  resK (call lim 41 [x1] H) fun x12 H =>
  purK (extA 0 x12) fun x13 =>
  purK (extA 1 x12) fun x14 =>
  effK H (some (.ptr H.sz 0 0, .new (newCells 96 false [.int .i64 0, .int .i64 0, .nils, .nils]))) fun x6 H =>
  effK H (stA lim H 4 x6 x13) fun _ H =>
  condK x14
  (
    purK (ldN ρ H 6 x2) fun x17 =>
    purK (ldN ρ H 4 x6) fun x19 =>
    resK (call lim 42 [x17, x1, x19] H) fun x20 H =>
    purK (extA 0 x20) fun x21 =>
    purK (extA 1 x20) fun x22 =>
    condK x22
    (
      retK [x21, (.int .i64 0)] H)
    (
      N23_1 ρ call yc lim k x1 x2 H retK))
  (
    N23_1 ρ call yc lim k x1 x2 H retK)
theorem L23_x (ρ : Addr → Option Value) (call : CallF) (yc : YieldF) (lim k : Nat) (J : CodeF) (x0 x1 : AV) (H : Heap) :
    evX (cx ρ) call yc false 23 lim k J c23 [x0, x1, (.tup []), (.tup []), (.tup []), (.tup []), (.tup []), (.tup []), (.tup []), (.tup []), (.tup []), (.tup []), (.tup []), (.tup []), (.tup []), (.tup []), (.tup []), (.tup []), (.tup []), (.tup []), (.tup []), (.tup []), (.tup []), (.tup []), (.tup []), (.tup []), (.tup []), (.tup []), (.tup []), (.tup [])] H (kk none (fun s H => retK (([4, 5] : List Nat).map fun t => s.getD t (.tup [])) H) [] retK [4, 5]) =
  effK H (boxA H 42 x0) fun x2 H =>
  resK (call lim 41 [x1] H) fun x12 H =>
  purK (extA 0 x12) fun x13 =>
  purK (extA 1 x12) fun x14 =>
  effK H (some (.ptr H.sz 0 0, .new (newCells 96 false [.int .i64 0, .int .i64 0, .nils, .nils]))) fun x6 H =>
  effK H (stA lim H 4 x6 x13) fun _ H =>
  condK x14
  (
    purK (ldN ρ H 6 x2) fun x17 =>
    purK (ldN ρ H 4 x6) fun x19 =>
    resK (call lim 42 [x17, x1, x19] H) fun x20 H =>
    purK (extA 0 x20) fun x21 =>
    purK (extA 1 x20) fun x22 =>
    condK x22
    (
      retK [x21, (.int .i64 0)] H)
    (
      J (Code.at [1, 1] c23) (sp 30 [(1, x1), (2, x2)]) H (kk none (fun s H => retK (([4, 5] : List Nat).map fun t => s.getD t (.tup [])) H) [] retK [4, 5])))
  (
    J (Code.at [1, 1] c23) (sp 30 [(1, x1), (2, x2)]) H (kk none (fun s H => retK (([4, 5] : List Nat).map fun t => s.getD t (.tup [])) H) [] retK [4, 5])) := by
  kernel_rfl
theorem G23 (ρ : Addr → Option Value) (call : CallF) (yc : YieldF) (lim k : Nat) (x0 x1 : AV) (H : Heap) :
    evL (cx ρ) call yc false 23 lim k c23 [x0, x1, (.tup []), (.tup []), (.tup []), (.tup []), (.tup []), (.tup []), (.tup []), (.tup []), (.tup []), (.tup []), (.tup []), (.tup []), (.tup []), (.tup []), (.tup []), (.tup []), (.tup []), (.tup []), (.tup []), (.tup []), (.tup []), (.tup []), (.tup []), (.tup []), (.tup []), (.tup []), (.tup []), (.tup [])] H (kk none (fun s H => retK (([4, 5] : List Nat).map fun t => s.getD t (.tup [])) H) [] retK [4, 5]) = L23 ρ call yc lim k x0 x1 H := by
  rw [evL_X, L23_x]
  simp only [← evL_X, L23, N23_1_eq]
theorem E23 (ρ : Addr → Option Value) (k lim : Nat) (x0 x1 : AV) (H : Heap) : evCall (cx ρ) (k + 1) lim 23 [x0, x1] H = L23 ρ (evCall (cx ρ) k) (evCY (cx ρ) k).2 lim k x0 x1 H := by
  rw [evCall_body (cx ρ) k lim 23 _ H Tryz.f23 c23 [4, 5] (by kernel_rfl) (by kernel_rfl) (by kernel_rfl) (by kernel_rfl) (by kernel_rfl)]
  exact G23 ρ (evCall (cx ρ) k) (evCY (cx ρ) k).2 lim k x0 x1 H
-- (*haycroft/store.Store).Log
noncomputable def c24 : Code := Code.of Tryz.prog 24
noncomputable def L24 (ρ : Addr → Option Value) (call : CallF) (yc : YieldF) (lim k : Nat) (x0 : AV) (H : Heap) : Res :=
  resK (call lim 15 [x0] H) fun x4 H =>
  purK (unA .not x4) fun x5 =>
  condK x5
  (
    retK [.nilp] H)
  (
    purK (nilChkA x0) fun x7 =>
    purK (addA 7 x7) fun x8 =>
    purK (ld1 ρ H x8) fun x9 =>
    purK (nilChkA x9) fun x10 =>
    purK (addA 0 x10) fun x11 =>
    purK (ld1 ρ H x11) fun x12 =>
    retK [x12] H)
theorem G24 (ρ : Addr → Option Value) (call : CallF) (yc : YieldF) (lim k : Nat) (x0 : AV) (H : Heap) :
    evL (cx ρ) call yc false 24 lim k c24 [x0, (.tup []), (.tup []), (.tup []), (.tup []), (.tup []), (.tup []), (.tup []), (.tup []), (.tup []), (.tup []), (.tup []), (.tup [])] H (kk none (fun s H => retK (([2] : List Nat).map fun t => s.getD t (.tup [])) H) [] retK [2]) = L24 ρ call yc lim k x0 H := by
  kernel_rfl
theorem E24 (ρ : Addr → Option Value) (k lim : Nat) (x0 : AV) (H : Heap) : evCall (cx ρ) (k + 1) lim 24 [x0] H = L24 ρ (evCall (cx ρ) k) (evCY (cx ρ) k).2 lim k x0 H := by
  rw [evCall_body (cx ρ) k lim 24 _ H Tryz.f24 c24 [2] (by kernel_rfl) (by kernel_rfl) (by kernel_rfl) (by kernel_rfl) (by kernel_rfl)]
  exact G24 ρ (evCall (cx ρ) k) (evCY (cx ρ) k).2 lim k x0 H
-- (*haycroft/hlog.Log).Tail
noncomputable def c25 : Code := Code.of Tryz.prog 25
noncomputable def L25 (ρ : Addr → Option Value) (call : CallF) (yc : YieldF) (lim k : Nat) (x0 : AV) (H : Heap) : Res :=
  purK (binA Tryz.prog H .eql 73 x0 .nilp) fun x4 =>
  condK x4
  (
    retK [.nilp] H)
  (
    purK (nilChkA x0) fun x6 =>
    purK (addA 0 x6) fun x7 =>
    purK (ld1 ρ H x7) fun x8 =>
    retK [x8] H)
theorem G25 (ρ : Addr → Option Value) (call : CallF) (yc : YieldF) (lim k : Nat) (x0 : AV) (H : Heap) :
    evL (cx ρ) call yc false 25 lim k c25 [x0, (.tup []), (.tup []), (.tup []), (.tup []), (.tup []), (.tup []), (.tup []), (.tup [])] H (kk none (fun s H => retK (([2] : List Nat).map fun t => s.getD t (.tup [])) H) [] retK [2]) = L25 ρ call yc lim k x0 H := by
  kernel_rfl
theorem E25 (ρ : Addr → Option Value) (k lim : Nat) (x0 : AV) (H : Heap) : evCall (cx ρ) (k + 1) lim 25 [x0] H = L25 ρ (evCall (cx ρ) k) (evCY (cx ρ) k).2 lim k x0 H := by
  rw [evCall_body (cx ρ) k lim 25 _ H Tryz.f25 c25 [2] (by kernel_rfl) (by kernel_rfl) (by kernel_rfl) (by kernel_rfl) (by kernel_rfl)]
  exact G25 ρ (evCall (cx ρ) k) (evCY (cx ρ) k).2 lim k x0 H
-- (*haycroft/tail.Tail).Page
noncomputable def c26 : Code := Code.of Tryz.prog 26
noncomputable def L26 (ρ : Addr → Option Value) (call : CallF) (yc : YieldF) (lim k : Nat) (x0 : AV) (H : Heap) : Res :=
  purK (binA Tryz.prog H .eql 72 x0 .nilp) fun x6 =>
  condK x6
  (
    retK [(.int .i64 0)] H)
  (
    resK (call lim 44 [x0] H) fun x9 H =>
    purK (extA 0 x9) fun x10 =>
    purK (extA 1 x9) fun x11 =>
    retK [x10] H)
theorem G26 (ρ : Addr → Option Value) (call : CallF) (yc : YieldF) (lim k : Nat) (x0 : AV) (H : Heap) :
    evL (cx ρ) call yc false 26 lim k c26 [x0, (.tup []), (.tup []), (.tup []), (.tup []), (.tup []), (.tup []), (.tup []), (.tup []), (.tup []), (.tup []), (.tup []), (.tup [])] H (kk none (fun s H => retK (([2] : List Nat).map fun t => s.getD t (.tup [])) H) [] retK [2]) = L26 ρ call yc lim k x0 H := by
  kernel_rfl
theorem E26 (ρ : Addr → Option Value) (k lim : Nat) (x0 : AV) (H : Heap) : evCall (cx ρ) (k + 1) lim 26 [x0] H = L26 ρ (evCall (cx ρ) k) (evCY (cx ρ) k).2 lim k x0 H := by
  rw [evCall_body (cx ρ) k lim 26 _ H Tryz.f26 c26 [2] (by kernel_rfl) (by kernel_rfl) (by kernel_rfl) (by kernel_rfl) (by kernel_rfl)]
  exact G26 ρ (evCall (cx ρ) k) (evCY (cx ρ) k).2 lim k x0 H
-- haycroft/place.Size
noncomputable def c27 : Code := Code.of Tryz.prog 27
noncomputable def L27 (ρ : Addr → Option Value) (call : CallF) (yc : YieldF) (lim k : Nat) (x0 : AV) (H : Heap) : Res :=
  resK (call lim 37 [x0] H) fun x4 H =>
  purK (unA .not x4) fun x5 =>
  condK x5
  (
    retK [(.int .i64 0)] H)
  (
    purK (binA Tryz.prog H .shl 3 (.int .i64 1) x0) fun x7 =>
    retK [x7] H)
theorem G27 (ρ : Addr → Option Value) (call : CallF) (yc : YieldF) (lim k : Nat) (x0 : AV) (H : Heap) :
    evL (cx ρ) call yc false 27 lim k c27 [x0, (.tup []), (.tup []), (.tup []), (.tup []), (.tup []), (.tup []), (.tup [])] H (kk none (fun s H => retK (([2] : List Nat).map fun t => s.getD t (.tup [])) H) [] retK [2]) = L27 ρ call yc lim k x0 H := by
  kernel_rfl
theorem E27 (ρ : Addr → Option Value) (k lim : Nat) (x0 : AV) (H : Heap) : evCall (cx ρ) (k + 1) lim 27 [x0] H = L27 ρ (evCall (cx ρ) k) (evCY (cx ρ) k).2 lim k x0 H := by
  rw [evCall_body (cx ρ) k lim 27 _ H Tryz.f27 c27 [2] (by kernel_rfl) (by kernel_rfl) (by kernel_rfl) (by kernel_rfl) (by kernel_rfl)]
  exact G27 ρ (evCall (cx ρ) k) (evCY (cx ρ) k).2 lim k x0 H
-- (*haycroft/store.Store).Config
noncomputable def c28 : Code := Code.of Tryz.prog 28
noncomputable def L28 (ρ : Addr → Option Value) (call : CallF) (yc : YieldF) (lim k : Nat) (x0 : AV) (H : Heap) : Res :=
  effK H (some (.ptr H.sz 0 0, .new (newCells 42 false [.int .i64 0, .int .i64 0, .int .i64 0, .int .i64 0, .int .i64 0, .int .i64 0]))) fun x2 H =>
  purK (binA Tryz.prog H .eql 38 x0 .nilp) fun x4 =>
  condK x4
  (
    purK (bldA [.int .i64 0, .int .i64 0, .int .i64 0, .int .i64 0, .int .i64 0, .int .i64 0] []) fun x5 =>
    effK H (stA lim H 6 x2 x5) fun _ H =>
    (retC (cx ρ) [some 42]) [x2] H)
  (
    purK (nilChkA x0) fun x7 =>
    purK (addA 0 x7) fun x8 =>
    purK (ldN ρ H 6 x8) fun x9 =>
    effK H (stA lim H 6 x2 x9) fun _ H =>
    (retC (cx ρ) [some 42]) [x2] H)
theorem G28 (ρ : Addr → Option Value) (call : CallF) (yc : YieldF) (lim k : Nat) (x0 : AV) (H : Heap) :
    evL (cx ρ) call yc false 28 lim k c28 [x0, (.tup []), (.tup []), (.tup []), (.tup []), (.tup []), (.tup []), (.tup []), (.tup []), (.tup [])] H (kk none (fun s H => (retC (cx ρ) [some 42]) (([2] : List Nat).map fun t => s.getD t (.tup [])) H) [] (retC (cx ρ) [some 42]) [2]) = L28 ρ call yc lim k x0 H := by
  kernel_rfl
theorem E28 (ρ : Addr → Option Value) (k lim : Nat) (x0 : AV) (H : Heap) : evCall (cx ρ) (k + 1) lim 28 [x0] H = L28 ρ (evCall (cx ρ) k) (evCY (cx ρ) k).2 lim k x0 H := by
  rw [evCall_cells (cx ρ) k lim 28 _ H Tryz.f28 c28 [2] [some 42] (by kernel_rfl) (by kernel_rfl) (by kernel_rfl) (by kernel_rfl) (by kernel_rfl) (by kernel_rfl)]
  exact G28 ρ (evCall (cx ρ) k) (evCY (cx ρ) k).2 lim k x0 H
-- haycroft/index.slots
noncomputable def c29 : Code := Code.of Tryz.prog 29
noncomputable def N29_1 (ρ : Addr → Option Value) (call : CallF) (yc : YieldF) (lim k : Nat) (x3 : AV) (H : Heap) (R : List AV → Heap → Res) : Res :=
  R [x3] H
theorem N29_1_eq (ρ : Addr → Option Value) (call : CallF) (yc : YieldF) (lim k : Nat) (x3 : AV) (H : Heap) (R : List AV → Heap → Res) :
    evL (cx ρ) call yc false 29 lim k (Code.at [1, 1, 1] c29) (sp 26 [(3, x3)]) H (kk none (fun s H => R (([2] : List Nat).map fun t => s.getD t (.tup [])) H) [] R [2]) = N29_1 ρ call yc lim k x3 H R := by
  kernel_rfl
noncomputable def N29_4 (ρ : Addr → Option Value) (call : CallF) (yc : YieldF) (lim k : Nat) (x3 x7 x8 x9 : AV) (H : Heap) (kn : AV → AV → Heap → Res) : Res :=
  purK (binA Tryz.prog H .add 3 x9 (.int .i64 1)) fun x24_1 =>
  kn x3 x24_1 H
theorem N29_4_eq (ρ : Addr → Option Value) (call : CallF) (yc : YieldF) (lim k : Nat) (x3 x7 x8 x9 : AV) (H : Heap) (kn : KS) (k0 : KS) (R : List AV → Heap → Res) :
    evL (cx ρ) call yc false 29 lim k (Code.at [1, 1, 0, 1, 0, 0, 1, 1, 1] c29) (sp 26 [(3, x3), (7, x7), (8, x8), (9, x9)]) H (kk (some [3, 7, 8, 9]) kn [(0, (some [3]), k0)] R [2]) = N29_4 ρ call yc lim k x3 x7 x8 x9 H (fun x3 x9 H => kn (sp 26 [(3, x3), (7, x7), (8, x8), (9, x9)]) H) := by
  kernel_rfl
noncomputable def N29_6b (ρ : Addr → Option Value) (call : CallF) (yc : YieldF) (lim k : Nat) (x3 x5 x7 x8 x9 x13 : AV) (H : Heap) (kn : AV → AV → Heap → Res) (k2 : AV → AV → Heap → Res) : Res :=
  purK (binA Tryz.prog H .lss 3 x13 (.int .i64 7)) fun x14_1 =>
  condK x14_1
  (
    purK (binA Tryz.prog H .mul 3 x5 (.int .i64 8)) fun x18_1 =>
    purK (binA Tryz.prog H .add 3 x18_1 x13) fun x20_1 =>
    effK H (bldS H 3 1 [.int .i64 0] 1 [(0, 1, x20_1)]) fun x21_1 H =>
    effK H (apA ρ lim H 3 1 8 x3 x21_1) fun x22_1 H =>
    purK (binA Tryz.prog H .add 3 x13 (.int .i64 1)) fun x23_1 =>
    kn x22_1 x23_1 H)
  (
    k2 x3 x9 H)
theorem N29_6b_eq (ρ : Addr → Option Value) (call : CallF) (yc : YieldF) (lim k : Nat) (x3 x5 x7 x8 x9 x13 : AV) (H : Heap) (kn : KS) (k2 : KS) (k1 : KS) (k0 : KS) (R : List AV → Heap → Res) :
    evL (cx ρ) call yc false 29 lim k (Code.at [1, 1, 0, 1, 0, 0, 1, 1, 0, 0, 1, 1, 0, 0] c29) (sp 26 [(3, x3), (5, x5), (7, x7), (8, x8), (9, x9), (13, x13)]) H (kk (some [3, 5, 7, 8, 9, 13]) kn [(2, (some [3, 7, 8, 9]), k2), (1, (some [3, 7, 8, 9]), k1), (0, (some [3]), k0)] R [2]) = N29_6b ρ call yc lim k x3 x5 x7 x8 x9 x13 H (fun x3 x13 H => kn (sp 26 [(3, x3), (5, x5), (7, x7), (8, x8), (9, x9), (13, x13)]) H) (fun x3 x9 H => k2 (sp 26 [(3, x3), (7, x7), (8, x8), (9, x9)]) H) := by
  kernel_rfl
noncomputable def N29_6 (ρ : Addr → Option Value) (call : CallF) (yc : YieldF) (lim k : Nat) (x3 x5 x7 x8 x9 x13 : AV) (H : Heap) (k2 : AV → AV → Heap → Res) : Res :=
  loopL (fun (x : AV × AV) H kn => N29_6b ρ call yc lim k x.1 x5 x7 x8 x9 x.2 H (fun x3 x13 H => kn (x3, x13) H) k2) k (x3, x13) H
theorem N29_6_eq (ρ : Addr → Option Value) (call : CallF) (yc : YieldF) (lim k : Nat) (x3 x5 x7 x8 x9 x13 : AV) (H : Heap) (kn : KS) (k2 : KS) (k1 : KS) (k0 : KS) (R : List AV → Heap → Res) :
    evL (cx ρ) call yc false 29 lim k (Code.at [1, 1, 0, 1, 0, 0, 1, 1, 0, 0, 1, 1, 0] c29) (sp 26 [(3, x3), (5, x5), (7, x7), (8, x8), (9, x9), (13, x13)]) H (kk (some [3, 7, 8, 9]) kn [(2, (some [3, 7, 8, 9]), k2), (1, (some [3, 7, 8, 9]), k1), (0, (some [3]), k0)] R [2]) = N29_6 ρ call yc lim k x3 x5 x7 x8 x9 x13 H (fun x3 x9 H => k2 (sp 26 [(3, x3), (7, x7), (8, x8), (9, x9)]) H) := by
  have e : Code.at [1, 1, 0, 1, 0, 0, 1, 1, 0, 0, 1, 1, 0] c29 = .loop (Code.at [1, 1, 0, 1, 0, 0, 1, 1, 0, 0, 1, 1, 0, 0] c29) := by kernel_rfl
  rw [e]
  unfold N29_6
  exact loop_node [3, 5, 7, 8, 9, 13] (fun x : AV × AV => (sp 26 [(3, (x.1)), (5, x5), (7, x7), (8, x8), (9, x9), (13, (x.2))])) (fun (x : AV × AV) H kn => N29_6b ρ call yc lim k x.1 x5 x7 x8 x9 x.2 H (fun x3 x13 H => kn (x3, x13) H) (fun x3 x9 H => k2 (sp 26 [(3, x3), (7, x7), (8, x8), (9, x9)]) H)) (by kernel_rfl) (fun x => by kernel_rfl) (fun x H kn => N29_6b_eq ρ call yc lim k (x.1) x5 x7 x8 x9 (x.2) H kn k2 k1 k0 R) (x3, x13) (sp 26 [(3, x3), (5, x5), (7, x7), (8, x8), (9, x9), (13, x13)]) H (by kernel_rfl)
noncomputable def N29_5 (ρ : Addr → Option Value) (call : CallF) (yc : YieldF) (lim k : Nat) (x3 x5 x7 x8 x9 x13 : AV) (H : Heap) (kn : AV → AV → Heap → Res) : Res :=
  N29_6 ρ call yc lim k x3 x5 x7 x8 x9 x13 H kn
theorem N29_5_x (ρ : Addr → Option Value) (call : CallF) (yc : YieldF) (lim k : Nat) (J : CodeF) (x3 x5 x7 x8 x9 x13 : AV) (H : Heap) (kn : KS) (k1 : KS) (k0 : KS) (R : List AV → Heap → Res) :
    evX (cx ρ) call yc false 29 lim k J (Code.at [1, 1, 0, 1, 0, 0, 1, 1, 0, 0, 1, 1] c29) (sp 26 [(3, x3), (5, x5), (7, x7), (8, x8), (9, x9), (13, x13)]) H (kk (some [3, 7, 8, 9]) kn [(1, (some [3, 7, 8, 9]), k1), (0, (some [3]), k0)] R [2]) =
  J (Code.at [1, 1, 0, 1, 0, 0, 1, 1, 0, 0, 1, 1, 0] c29) (sp 26 [(3, x3), (5, x5), (7, x7), (8, x8), (9, x9), (13, x13)]) H (kk (some [3, 7, 8, 9]) kn [(2, (some [3, 7, 8, 9]), kn), (1, (some [3, 7, 8, 9]), k1), (0, (some [3]), k0)] R [2]) := by
  kernel_rfl
theorem N29_5_eq (ρ : Addr → Option Value) (call : CallF) (yc : YieldF) (lim k : Nat) (x3 x5 x7 x8 x9 x13 : AV) (H : Heap) (kn : KS) (k1 : KS) (k0 : KS) (R : List AV → Heap → Res) :
    evL (cx ρ) call yc false 29 lim k (Code.at [1, 1, 0, 1, 0, 0, 1, 1, 0, 0, 1, 1] c29) (sp 26 [(3, x3), (5, x5), (7, x7), (8, x8), (9, x9), (13, x13)]) H (kk (some [3, 7, 8, 9]) kn [(1, (some [3, 7, 8, 9]), k1), (0, (some [3]), k0)] R [2]) = N29_5 ρ call yc lim k x3 x5 x7 x8 x9 x13 H (fun x3 x9 H => kn (sp 26 [(3, x3), (7, x7), (8, x8), (9, x9)]) H) := by
  rw [evL_X, N29_5_x]
  simp only [← evL_X, N29_5, N29_6_eq]
noncomputable def N29_3b (ρ : Addr → Option Value) (call : CallF) (yc : YieldF) (lim k : Nat) (x3 x7 x8 x9 : AV) (H : Heap) (kn : AV → AV → Heap → Res) (k0 : AV → Heap → Res) : Res :=
  purK (binA Tryz.prog H .lss 3 x9 x8) fun x10_1 =>
  condK x10_1
  (
    purK (ixS 1 x7 x9) fun x11_1 =>
    purK (ld1 ρ H x11_1) fun x12_1 =>
    N29_5 ρ call yc lim k x3 x12_1 x7 x8 x9 (.int .i64 0) H (fun x3_1 x9_1 H =>
      N29_4 ρ call yc lim k x3_1 x7 x8 x9_1 H kn))
  (
    k0 x3 H)
theorem N29_3b_x (ρ : Addr → Option Value) (call : CallF) (yc : YieldF) (lim k : Nat) (J : CodeF) (x3 x7 x8 x9 : AV) (H : Heap) (kn : KS) (k0 : KS) (R : List AV → Heap → Res) :
    evX (cx ρ) call yc false 29 lim k J (Code.at [1, 1, 0, 1, 0, 0] c29) (sp 26 [(3, x3), (7, x7), (8, x8), (9, x9)]) H (kk (some [3, 7, 8, 9]) kn [(0, (some [3]), k0)] R [2]) =
  purK (binA Tryz.prog H .lss 3 x9 x8) fun x10_1 =>
  condK x10_1
  (
    purK (ixS 1 x7 x9) fun x11_1 =>
    purK (ld1 ρ H x11_1) fun x12_1 =>
    J (Code.at [1, 1, 0, 1, 0, 0, 1, 1, 0, 0, 1, 1] c29) (sp 26 [(3, x3), (5, x12_1), (7, x7), (8, x8), (9, x9), (13, (.int .i64 0))]) H (kk (some [3, 7, 8, 9]) (fun s H => J (Code.at [1, 1, 0, 1, 0, 0, 1, 1, 1] c29) s H (kk (some [3, 7, 8, 9]) kn [(0, (some [3]), k0)] R [2])) [(1, (some [3, 7, 8, 9]), (fun s H => J (Code.at [1, 1, 0, 1, 0, 0, 1, 1, 1] c29) s H (kk (some [3, 7, 8, 9]) kn [(0, (some [3]), k0)] R [2]))), (0, (some [3]), k0)] R [2]))
  (
    k0 (sp 26 [(3, x3)]) H) := by
  kernel_rfl
theorem N29_3b_eq (ρ : Addr → Option Value) (call : CallF) (yc : YieldF) (lim k : Nat) (x3 x7 x8 x9 : AV) (H : Heap) (kn : KS) (k0 : KS) (R : List AV → Heap → Res) :
    evL (cx ρ) call yc false 29 lim k (Code.at [1, 1, 0, 1, 0, 0] c29) (sp 26 [(3, x3), (7, x7), (8, x8), (9, x9)]) H (kk (some [3, 7, 8, 9]) kn [(0, (some [3]), k0)] R [2]) = N29_3b ρ call yc lim k x3 x7 x8 x9 H (fun x3 x9 H => kn (sp 26 [(3, x3), (7, x7), (8, x8), (9, x9)]) H) (fun x3 H => k0 (sp 26 [(3, x3)]) H) := by
  rw [evL_X, N29_3b_x]
  simp only [← evL_X, N29_3b, N29_4_eq, N29_5_eq]
noncomputable def N29_3 (ρ : Addr → Option Value) (call : CallF) (yc : YieldF) (lim k : Nat) (x3 x7 x8 x9 : AV) (H : Heap) (k0 : AV → Heap → Res) : Res :=
  loopL (fun (x : AV × AV) H kn => N29_3b ρ call yc lim k x.1 x7 x8 x.2 H (fun x3 x9 H => kn (x3, x9) H) k0) k (x3, x9) H
theorem N29_3_eq (ρ : Addr → Option Value) (call : CallF) (yc : YieldF) (lim k : Nat) (x3 x7 x8 x9 : AV) (H : Heap) (kn : KS) (k0 : KS) (R : List AV → Heap → Res) :
    evL (cx ρ) call yc false 29 lim k (Code.at [1, 1, 0, 1, 0] c29) (sp 26 [(3, x3), (7, x7), (8, x8), (9, x9)]) H (kk (some [3]) kn [(0, (some [3]), k0)] R [2]) = N29_3 ρ call yc lim k x3 x7 x8 x9 H (fun x3 H => k0 (sp 26 [(3, x3)]) H) := by
  have e : Code.at [1, 1, 0, 1, 0] c29 = .loop (Code.at [1, 1, 0, 1, 0, 0] c29) := by kernel_rfl
  rw [e]
  unfold N29_3
  exact loop_node [3, 7, 8, 9] (fun x : AV × AV => (sp 26 [(3, (x.1)), (7, x7), (8, x8), (9, (x.2))])) (fun (x : AV × AV) H kn => N29_3b ρ call yc lim k x.1 x7 x8 x.2 H (fun x3 x9 H => kn (x3, x9) H) (fun x3 H => k0 (sp 26 [(3, x3)]) H)) (by kernel_rfl) (fun x => by kernel_rfl) (fun x H kn => N29_3b_eq ρ call yc lim k (x.1) x7 x8 (x.2) H kn k0 R) (x3, x9) (sp 26 [(3, x3), (7, x7), (8, x8), (9, x9)]) H (by kernel_rfl)
noncomputable def N29_2 (ρ : Addr → Option Value) (call : CallF) (yc : YieldF) (lim k : Nat) (x3 x7 x8 x9 : AV) (H : Heap) (kn : AV → Heap → Res) : Res :=
  N29_3 ρ call yc lim k x3 x7 x8 x9 H kn
theorem N29_2_x (ρ : Addr → Option Value) (call : CallF) (yc : YieldF) (lim k : Nat) (J : CodeF) (x3 x7 x8 x9 : AV) (H : Heap) (kn : KS) (R : List AV → Heap → Res) :
    evX (cx ρ) call yc false 29 lim k J (Code.at [1, 1, 0, 1] c29) (sp 26 [(3, x3), (7, x7), (8, x8), (9, x9)]) H (kk (some [3]) kn [] R [2]) =
  J (Code.at [1, 1, 0, 1, 0] c29) (sp 26 [(3, x3), (7, x7), (8, x8), (9, x9)]) H (kk (some [3]) kn [(0, (some [3]), kn)] R [2]) := by
  kernel_rfl
theorem N29_2_eq (ρ : Addr → Option Value) (call : CallF) (yc : YieldF) (lim k : Nat) (x3 x7 x8 x9 : AV) (H : Heap) (kn : KS) (R : List AV → Heap → Res) :
    evL (cx ρ) call yc false 29 lim k (Code.at [1, 1, 0, 1] c29) (sp 26 [(3, x3), (7, x7), (8, x8), (9, x9)]) H (kk (some [3]) kn [] R [2]) = N29_2 ρ call yc lim k x3 x7 x8 x9 H (fun x3 H => kn (sp 26 [(3, x3)]) H) := by
  rw [evL_X, N29_2_x]
  simp only [← evL_X, N29_2, N29_3_eq]
noncomputable def L29 (ρ : Addr → Option Value) (call : CallF) (yc : YieldF) (lim k : Nat) (x0 : AV) (H : Heap) : Res :=
  purK (lenS x0) fun x8 =>
  N29_2 ρ call yc lim k .nils x0 x8 (.int .i64 0) H (fun x3 H =>
    N29_1 ρ call yc lim k x3 H retK)
theorem L29_x (ρ : Addr → Option Value) (call : CallF) (yc : YieldF) (lim k : Nat) (J : CodeF) (x0 : AV) (H : Heap) :
    evX (cx ρ) call yc false 29 lim k J c29 [x0, (.tup []), (.tup []), (.tup []), (.tup []), (.tup []), (.tup []), (.tup []), (.tup []), (.tup []), (.tup []), (.tup []), (.tup []), (.tup []), (.tup []), (.tup []), (.tup []), (.tup []), (.tup []), (.tup []), (.tup []), (.tup []), (.tup []), (.tup []), (.tup []), (.tup [])] H (kk none (fun s H => retK (([2] : List Nat).map fun t => s.getD t (.tup [])) H) [] retK [2]) =
  purK (lenS x0) fun x8 =>
  J (Code.at [1, 1, 0, 1] c29) (sp 26 [(3, .nils), (7, x0), (8, x8), (9, (.int .i64 0))]) H (kk (some [3]) (fun s H => J (Code.at [1, 1, 1] c29) s H (kk none (fun s H => retK (([2] : List Nat).map fun t => s.getD t (.tup [])) H) [] retK [2])) [] retK [2]) := by
  kernel_rfl
theorem G29 (ρ : Addr → Option Value) (call : CallF) (yc : YieldF) (lim k : Nat) (x0 : AV) (H : Heap) :
    evL (cx ρ) call yc false 29 lim k c29 [x0, (.tup []), (.tup []), (.tup []), (.tup []), (.tup []), (.tup []), (.tup []), (.tup []), (.tup []), (.tup []), (.tup []), (.tup []), (.tup []), (.tup []), (.tup []), (.tup []), (.tup []), (.tup []), (.tup []), (.tup []), (.tup []), (.tup []), (.tup []), (.tup []), (.tup [])] H (kk none (fun s H => retK (([2] : List Nat).map fun t => s.getD t (.tup [])) H) [] retK [2]) = L29 ρ call yc lim k x0 H := by
  rw [evL_X, L29_x]
  simp only [← evL_X, L29, N29_1_eq, N29_2_eq]
theorem E29 (ρ : Addr → Option Value) (k lim : Nat) (x0 : AV) (H : Heap) : evCall (cx ρ) (k + 1) lim 29 [x0] H = L29 ρ (evCall (cx ρ) k) (evCY (cx ρ) k).2 lim k x0 H := by
  rw [evCall_body (cx ρ) k lim 29 _ H Tryz.f29 c29 [2] (by kernel_rfl) (by kernel_rfl) (by kernel_rfl) (by kernel_rfl) (by kernel_rfl)]
  exact G29 ρ (evCall (cx ρ) k) (evCY (cx ρ) k).2 lim k x0 H
-- (*haycroft/index.Index).Chain
noncomputable def c30 : Code := Code.of Tryz.prog 30
noncomputable def N30_1 (ρ : Addr → Option Value) (call : CallF) (yc : YieldF) (lim k : Nat) (x5 : AV) (H : Heap) (R : List AV → Heap → Res) : Res :=
  R [x5] H
theorem N30_1_eq (ρ : Addr → Option Value) (call : CallF) (yc : YieldF) (lim k : Nat) (x5 : AV) (H : Heap) (R : List AV → Heap → Res) :
    evL (cx ρ) call yc false 30 lim k (Code.at [1, 1, 1] c30) (sp 34 [(5, x5)]) H (kk none (fun s H => R (([4] : List Nat).map fun t => s.getD t (.tup [])) H) [] R [4]) = N30_1 ρ call yc lim k x5 H R := by
  kernel_rfl
noncomputable def N30_3b (ρ : Addr → Option Value) (call : CallF) (yc : YieldF) (lim k : Nat) (x0 x1 x5 x6 : AV) (H : Heap) (kn : AV → AV → AV → Heap → Res) (k0 : AV → Heap → Res) : Res :=
  purK (gPur (wantV x6 true) (some x5)) fun x17_1 =>
  purK (gPur (wantV x6 true) (lenS x17_1)) fun x18_1 =>
  purK (gPur (wantV x6 true) (some x0)) fun x19_1 =>
  resK (gRes (wantV x6 true) H (call lim 45 [x19_1] H)) fun x20_1 H =>
  purK (gPur (wantV x6 true) (binA Tryz.prog H .leq 3 x18_1 x20_1)) fun x21_1 =>
  purK (pickA x6 x21_1 (.bool false)) fun x22_1 =>
  condK x22_1
  (
    effK H (bldS H 3 1 [.int .i64 0] 1 [(0, 1, x1)]) fun x25_1 H =>
    effK H (apA ρ lim H 3 1 8 x5 x25_1) fun x26_1 H =>
    resK (call lim 46 [x0, x1] H) fun x30_1 H =>
    purK (extA 0 x30_1) fun x31_1 =>
    purK (extA 1 x30_1) fun x32_1 =>
    kn x31_1 x26_1 x32_1 H)
  (
    k0 x5 H)
theorem N30_3b_eq (ρ : Addr → Option Value) (call : CallF) (yc : YieldF) (lim k : Nat) (x0 x1 x5 x6 : AV) (H : Heap) (kn : KS) (k0 : KS) (R : List AV → Heap → Res) :
    evL (cx ρ) call yc false 30 lim k (Code.at [1, 1, 0, 1, 0, 0] c30) (sp 34 [(0, x0), (1, x1), (5, x5), (6, x6)]) H (kk (some [0, 1, 5, 6]) kn [(0, (some [5]), k0)] R [4]) = N30_3b ρ call yc lim k x0 x1 x5 x6 H (fun x1 x5 x6 H => kn (sp 34 [(0, x0), (1, x1), (5, x5), (6, x6)]) H) (fun x5 H => k0 (sp 34 [(5, x5)]) H) := by
  kernel_rfl
noncomputable def N30_3 (ρ : Addr → Option Value) (call : CallF) (yc : YieldF) (lim k : Nat) (x0 x1 x5 x6 : AV) (H : Heap) (k0 : AV → Heap → Res) : Res :=
  loopL (fun (x : AV × AV × AV) H kn => N30_3b ρ call yc lim k x0 x.1 x.2.1 x.2.2 H (fun x1 x5 x6 H => kn (x1, x5, x6) H) k0) k (x1, x5, x6) H
theorem N30_3_eq (ρ : Addr → Option Value) (call : CallF) (yc : YieldF) (lim k : Nat) (x0 x1 x5 x6 : AV) (H : Heap) (kn : KS) (k0 : KS) (R : List AV → Heap → Res) :
    evL (cx ρ) call yc false 30 lim k (Code.at [1, 1, 0, 1, 0] c30) (sp 34 [(0, x0), (1, x1), (5, x5), (6, x6)]) H (kk (some [5]) kn [(0, (some [5]), k0)] R [4]) = N30_3 ρ call yc lim k x0 x1 x5 x6 H (fun x5 H => k0 (sp 34 [(5, x5)]) H) := by
  have e : Code.at [1, 1, 0, 1, 0] c30 = .loop (Code.at [1, 1, 0, 1, 0, 0] c30) := by kernel_rfl
  rw [e]
  unfold N30_3
  exact loop_node [0, 1, 5, 6] (fun x : AV × AV × AV => (sp 34 [(0, x0), (1, (x.1)), (5, (x.2.1)), (6, (x.2.2))])) (fun (x : AV × AV × AV) H kn => N30_3b ρ call yc lim k x0 x.1 x.2.1 x.2.2 H (fun x1 x5 x6 H => kn (x1, x5, x6) H) (fun x5 H => k0 (sp 34 [(5, x5)]) H)) (by kernel_rfl) (fun x => by kernel_rfl) (fun x H kn => N30_3b_eq ρ call yc lim k x0 (x.1) (x.2.1) (x.2.2) H kn k0 R) (x1, x5, x6) (sp 34 [(0, x0), (1, x1), (5, x5), (6, x6)]) H (by kernel_rfl)
noncomputable def N30_2 (ρ : Addr → Option Value) (call : CallF) (yc : YieldF) (lim k : Nat) (x0 x1 x5 x6 : AV) (H : Heap) (kn : AV → Heap → Res) : Res :=
  N30_3 ρ call yc lim k x0 x1 x5 x6 H kn
theorem N30_2_x (ρ : Addr → Option Value) (call : CallF) (yc : YieldF) (lim k : Nat) (J : CodeF) (x0 x1 x5 x6 : AV) (H : Heap) (kn : KS) (R : List AV → Heap → Res) :
    evX (cx ρ) call yc false 30 lim k J (Code.at [1, 1, 0, 1] c30) (sp 34 [(0, x0), (1, x1), (5, x5), (6, x6)]) H (kk (some [5]) kn [] R [4]) =
  J (Code.at [1, 1, 0, 1, 0] c30) (sp 34 [(0, x0), (1, x1), (5, x5), (6, x6)]) H (kk (some [5]) kn [(0, (some [5]), kn)] R [4]) := by
  kernel_rfl
theorem N30_2_eq (ρ : Addr → Option Value) (call : CallF) (yc : YieldF) (lim k : Nat) (x0 x1 x5 x6 : AV) (H : Heap) (kn : KS) (R : List AV → Heap → Res) :
    evL (cx ρ) call yc false 30 lim k (Code.at [1, 1, 0, 1] c30) (sp 34 [(0, x0), (1, x1), (5, x5), (6, x6)]) H (kk (some [5]) kn [] R [4]) = N30_2 ρ call yc lim k x0 x1 x5 x6 H (fun x5 H => kn (sp 34 [(5, x5)]) H) := by
  rw [evL_X, N30_2_x]
  simp only [← evL_X, N30_2, N30_3_eq]
noncomputable def L30 (ρ : Addr → Option Value) (call : CallF) (yc : YieldF) (lim k : Nat) (x0 x1 : AV) (H : Heap) : Res :=
  purK (binA Tryz.prog H .geq 3 x1 (.int .i64 0)) fun x8 =>
  purK (gPur (wantV x8 true) (some x1)) fun x10 =>
  purK (gPur (wantV x8 true) (some x0)) fun x11 =>
  resK (gRes (wantV x8 true) H (call lim 45 [x11] H)) fun x12 H =>
  purK (gPur (wantV x8 true) (binA Tryz.prog H .lss 3 x10 x12)) fun x13 =>
  purK (pickA x8 x13 (.bool false)) fun x14 =>
  N30_2 ρ call yc lim k x0 x1 .nils x14 H (fun x5 H =>
    N30_1 ρ call yc lim k x5 H retK)
theorem L30_x (ρ : Addr → Option Value) (call : CallF) (yc : YieldF) (lim k : Nat) (J : CodeF) (x0 x1 : AV) (H : Heap) :
    evX (cx ρ) call yc false 30 lim k J c30 [x0, x1, (.tup []), (.tup []), (.tup []), (.tup []), (.tup []), (.tup []), (.tup []), (.tup []), (.tup []), (.tup []), (.tup []), (.tup []), (.tup []), (.tup []), (.tup []), (.tup []), (.tup []), (.tup []), (.tup []), (.tup []), (.tup []), (.tup []), (.tup []), (.tup []), (.tup []), (.tup []), (.tup []), (.tup []), (.tup []), (.tup []), (.tup []), (.tup [])] H (kk none (fun s H => retK (([4] : List Nat).map fun t => s.getD t (.tup [])) H) [] retK [4]) =
  purK (binA Tryz.prog H .geq 3 x1 (.int .i64 0)) fun x8 =>
  purK (gPur (wantV x8 true) (some x1)) fun x10 =>
  purK (gPur (wantV x8 true) (some x0)) fun x11 =>
  resK (gRes (wantV x8 true) H (call lim 45 [x11] H)) fun x12 H =>
  purK (gPur (wantV x8 true) (binA Tryz.prog H .lss 3 x10 x12)) fun x13 =>
  purK (pickA x8 x13 (.bool false)) fun x14 =>
  J (Code.at [1, 1, 0, 1] c30) (sp 34 [(0, x0), (1, x1), (5, .nils), (6, x14)]) H (kk (some [5]) (fun s H => J (Code.at [1, 1, 1] c30) s H (kk none (fun s H => retK (([4] : List Nat).map fun t => s.getD t (.tup [])) H) [] retK [4])) [] retK [4]) := by
  kernel_rfl
theorem G30 (ρ : Addr → Option Value) (call : CallF) (yc : YieldF) (lim k : Nat) (x0 x1 : AV) (H : Heap) :
    evL (cx ρ) call yc false 30 lim k c30 [x0, x1, (.tup []), (.tup []), (.tup []), (.tup []), (.tup []), (.tup []), (.tup []), (.tup []), (.tup []), (.tup []), (.tup []), (.tup []), (.tup []), (.tup []), (.tup []), (.tup []), (.tup []), (.tup []), (.tup []), (.tup []), (.tup []), (.tup []), (.tup []), (.tup []), (.tup []), (.tup []), (.tup []), (.tup []), (.tup []), (.tup []), (.tup []), (.tup [])] H (kk none (fun s H => retK (([4] : List Nat).map fun t => s.getD t (.tup [])) H) [] retK [4]) = L30 ρ call yc lim k x0 x1 H := by
  rw [evL_X, L30_x]
  simp only [← evL_X, L30, N30_1_eq, N30_2_eq]
theorem E30 (ρ : Addr → Option Value) (k lim : Nat) (x0 x1 : AV) (H : Heap) : evCall (cx ρ) (k + 1) lim 30 [x0, x1] H = L30 ρ (evCall (cx ρ) k) (evCY (cx ρ) k).2 lim k x0 x1 H := by
  rw [evCall_body (cx ρ) k lim 30 _ H Tryz.f30 c30 [4] (by kernel_rfl) (by kernel_rfl) (by kernel_rfl) (by kernel_rfl) (by kernel_rfl)]
  exact G30 ρ (evCall (cx ρ) k) (evCY (cx ρ) k).2 lim k x0 x1 H
-- (*haycroft/cell.Row).Load
noncomputable def c31 : Code := Code.of Tryz.prog 31
noncomputable def L31 (ρ : Addr → Option Value) (call : CallF) (yc : YieldF) (lim k : Nat) (x0 x1 : AV) (H : Heap) : Res :=
  resK (call lim 47 [x0, x1] H) fun x7 H =>
  purK (unA .not x7) fun x8 =>
  condK x8
  (
    retK [(.int .u64 0)] H)
  (
    purK (nilChkA x0) fun x10 =>
    purK (addA 0 x10) fun x11 =>
    purK (ld1 ρ H x11) fun x12 =>
    purK (ixS 1 x12 x1) fun x14 =>
    resK (call lim 48 [x14] H) fun x15 H =>
    retK [x15] H)
theorem G31 (ρ : Addr → Option Value) (call : CallF) (yc : YieldF) (lim k : Nat) (x0 x1 : AV) (H : Heap) :
    evL (cx ρ) call yc false 31 lim k c31 [x0, x1, (.tup []), (.tup []), (.tup []), (.tup []), (.tup []), (.tup []), (.tup []), (.tup []), (.tup []), (.tup []), (.tup []), (.tup []), (.tup []), (.tup [])] H (kk none (fun s H => retK (([4] : List Nat).map fun t => s.getD t (.tup [])) H) [] retK [4]) = L31 ρ call yc lim k x0 x1 H := by
  kernel_rfl
theorem E31 (ρ : Addr → Option Value) (k lim : Nat) (x0 x1 : AV) (H : Heap) : evCall (cx ρ) (k + 1) lim 31 [x0, x1] H = L31 ρ (evCall (cx ρ) k) (evCY (cx ρ) k).2 lim k x0 x1 H := by
  rw [evCall_body (cx ρ) k lim 31 _ H Tryz.f31 c31 [4] (by kernel_rfl) (by kernel_rfl) (by kernel_rfl) (by kernel_rfl) (by kernel_rfl)]
  exact G31 ρ (evCall (cx ρ) k) (evCY (cx ρ) k).2 lim k x0 x1 H
-- haycroft/place.May
noncomputable def c37 : Code := Code.of Tryz.prog 37
noncomputable def L37 (ρ : Addr → Option Value) (call : CallF) (yc : YieldF) (lim k : Nat) (x0 : AV) (H : Heap) : Res :=
  purK (binA Tryz.prog H .geq 3 x0 (.int .i64 5)) fun x4 =>
  purK (gPur (wantV x4 true) (some x0)) fun x6 =>
  purK (gPur (wantV x4 true) (binA Tryz.prog H .leq 3 x6 (.int .i64 9))) fun x7 =>
  purK (pickA x4 x7 (.bool false)) fun x8 =>
  retK [x8] H
theorem G37 (ρ : Addr → Option Value) (call : CallF) (yc : YieldF) (lim k : Nat) (x0 : AV) (H : Heap) :
    evL (cx ρ) call yc false 37 lim k c37 [x0, (.tup []), (.tup []), (.tup []), (.tup []), (.tup []), (.tup []), (.tup []), (.tup [])] H (kk none (fun s H => retK (([2] : List Nat).map fun t => s.getD t (.tup [])) H) [] retK [2]) = L37 ρ call yc lim k x0 H := by
  kernel_rfl
theorem E37 (ρ : Addr → Option Value) (k lim : Nat) (x0 : AV) (H : Heap) : evCall (cx ρ) (k + 1) lim 37 [x0] H = L37 ρ (evCall (cx ρ) k) (evCY (cx ρ) k).2 lim k x0 H := by
  rw [evCall_body (cx ρ) k lim 37 _ H Tryz.f37 c37 [2] (by kernel_rfl) (by kernel_rfl) (by kernel_rfl) (by kernel_rfl) (by kernel_rfl)]
  exact G37 ρ (evCall (cx ρ) k) (evCY (cx ρ) k).2 lim k x0 H
-- haycroft/store.within
noncomputable def c38 : Code := Code.of Tryz.prog 38
noncomputable def L38 (ρ : Addr → Option Value) (call : CallF) (yc : YieldF) (lim k : Nat) (x0 x1 x2 : AV) (H : Heap) : Res :=
  purK (binA Tryz.prog H .geq 3 x0 x1) fun x9 =>
  purK (gPur (wantV x9 true) (some x0)) fun x11 =>
  purK (gPur (wantV x9 true) (some x2)) fun x12 =>
  purK (gPur (wantV x9 true) (binA Tryz.prog H .leq 3 x11 x12)) fun x13 =>
  purK (pickA x9 x13 (.bool false)) fun x14 =>
  retK [x14] H
theorem G38 (ρ : Addr → Option Value) (call : CallF) (yc : YieldF) (lim k : Nat) (x0 x1 x2 : AV) (H : Heap) :
    evL (cx ρ) call yc false 38 lim k c38 [x0, x1, x2, (.tup []), (.tup []), (.tup []), (.tup []), (.tup []), (.tup []), (.tup []), (.tup []), (.tup []), (.tup []), (.tup []), (.tup [])] H (kk none (fun s H => retK (([6] : List Nat).map fun t => s.getD t (.tup [])) H) [] retK [6]) = L38 ρ call yc lim k x0 x1 x2 H := by
  kernel_rfl
theorem E38 (ρ : Addr → Option Value) (k lim : Nat) (x0 x1 x2 : AV) (H : Heap) : evCall (cx ρ) (k + 1) lim 38 [x0, x1, x2] H = L38 ρ (evCall (cx ρ) k) (evCY (cx ρ) k).2 lim k x0 x1 x2 H := by
  rw [evCall_body (cx ρ) k lim 38 _ H Tryz.f38 c38 [6] (by kernel_rfl) (by kernel_rfl) (by kernel_rfl) (by kernel_rfl) (by kernel_rfl)]
  exact G38 ρ (evCall (cx ρ) k) (evCY (cx ρ) k).2 lim k x0 x1 x2 H
-- haycroft/mix.May
noncomputable def c39 : Code := Code.of Tryz.prog 39
noncomputable def L39 (ρ : Addr → Option Value) (call : CallF) (yc : YieldF) (lim k : Nat) (x0 : AV) (H : Heap) : Res :=
  purK (binA Tryz.prog H .geq 3 x0 (.int .i64 1)) fun x4 =>
  purK (gPur (wantV x4 true) (some x0)) fun x6 =>
  purK (gPur (wantV x4 true) (binA Tryz.prog H .leq 3 x6 (.int .i64 1024))) fun x7 =>
  purK (pickA x4 x7 (.bool false)) fun x8 =>
  purK (gPur (wantV x8 true) (some x0)) fun x10 =>
  purK (gPur (wantV x8 true) (some x0)) fun x11 =>
  purK (gPur (wantV x8 true) (binA Tryz.prog H .sub 3 x11 (.int .i64 1))) fun x12 =>
  purK (gPur (wantV x8 true) (binA Tryz.prog H .and 3 x10 x12)) fun x13 =>
  purK (gPur (wantV x8 true) (binA Tryz.prog H .eql 3 x13 (.int .i64 0))) fun x14 =>
  purK (pickA x8 x14 (.bool false)) fun x15 =>
  retK [x15] H
theorem G39 (ρ : Addr → Option Value) (call : CallF) (yc : YieldF) (lim k : Nat) (x0 : AV) (H : Heap) :
    evL (cx ρ) call yc false 39 lim k c39 [x0, (.tup []), (.tup []), (.tup []), (.tup []), (.tup []), (.tup []), (.tup []), (.tup []), (.tup []), (.tup []), (.tup []), (.tup []), (.tup []), (.tup []), (.tup [])] H (kk none (fun s H => retK (([2] : List Nat).map fun t => s.getD t (.tup [])) H) [] retK [2]) = L39 ρ call yc lim k x0 H := by
  kernel_rfl
theorem E39 (ρ : Addr → Option Value) (k lim : Nat) (x0 : AV) (H : Heap) : evCall (cx ρ) (k + 1) lim 39 [x0] H = L39 ρ (evCall (cx ρ) k) (evCY (cx ρ) k).2 lim k x0 H := by
  rw [evCall_body (cx ρ) k lim 39 _ H Tryz.f39 c39 [2] (by kernel_rfl) (by kernel_rfl) (by kernel_rfl) (by kernel_rfl) (by kernel_rfl)]
  exact G39 ρ (evCall (cx ρ) k) (evCY (cx ρ) k).2 lim k x0 H
-- (*haycroft/device.Device).power
noncomputable def c40 : Code := Code.of Tryz.prog 40
noncomputable def L40 (ρ : Addr → Option Value) (call : CallF) (yc : YieldF) (lim k : Nat) (x0 : AV) (H : Heap) : Res :=
  purK (binA Tryz.prog H .eql 44 x0 .nilp) fun x5 =>
  condK x5
  (
    retK [(.int .i64 2)] H)
  (
    purK (nilChkA x0) fun x8 =>
    purK (addA 0 x8) fun x9 =>
    purK (ld1 ρ H x9) fun x10 =>
    condK x10
    (
      retK [(.int .i64 6)] H)
    (
      retK [(.int .i64 0)] H))
theorem G40 (ρ : Addr → Option Value) (call : CallF) (yc : YieldF) (lim k : Nat) (x0 : AV) (H : Heap) :
    evL (cx ρ) call yc false 40 lim k c40 [x0, (.tup []), (.tup []), (.tup []), (.tup []), (.tup []), (.tup []), (.tup []), (.tup []), (.tup []), (.tup [])] H (kk none (fun s H => retK (([2] : List Nat).map fun t => s.getD t (.tup [])) H) [] retK [2]) = L40 ρ call yc lim k x0 H := by
  kernel_rfl
theorem E40 (ρ : Addr → Option Value) (k lim : Nat) (x0 : AV) (H : Heap) : evCall (cx ρ) (k + 1) lim 40 [x0] H = L40 ρ (evCall (cx ρ) k) (evCY (cx ρ) k).2 lim k x0 H := by
  rw [evCall_body (cx ρ) k lim 40 _ H Tryz.f40 c40 [2] (by kernel_rfl) (by kernel_rfl) (by kernel_rfl) (by kernel_rfl) (by kernel_rfl)]
  exact G40 ρ (evCall (cx ρ) k) (evCY (cx ρ) k).2 lim k x0 H
-- haycroft/save.Find
noncomputable def c41 : Code := Code.of Tryz.prog 41
noncomputable def N41_2 (ρ : Addr → Option Value) (call : CallF) (yc : YieldF) (lim k : Nat) (x2 : AV) (H : Heap) (R : List AV → Heap → Res) : Res :=
  purK (bldA [.int .i64 0, .int .i64 0, .nils, .nils] []) fun x53_1 =>
  effK H (stA lim H 4 x2 x53_1) fun _ H =>
  R [x2, (.bool false)] H
theorem N41_2_eq (ρ : Addr → Option Value) (call : CallF) (yc : YieldF) (lim k : Nat) (x2 : AV) (H : Heap) (R : List AV → Heap → Res) :
    evL (cx ρ) call yc false 41 lim k (Code.at [1, 1, 1, 1, 1] c41) (sp 54 [(2, x2)]) H (kk none (fun s H => R (([2, 3] : List Nat).map fun t => s.getD t (.tup [])) H) [] R [2, 3]) = N41_2 ρ call yc lim k x2 H R := by
  kernel_rfl
noncomputable def N41_4b (ρ : Addr → Option Value) (call : CallF) (yc : YieldF) (lim k : Nat) (x0 x2 x38 x39 x40 : AV) (H : Heap) (kn : AV → Heap → Res) (k2 : AV → Heap → Res) (R : List AV → Heap → Res) : Res :=
  purK (binA Tryz.prog H .lss 3 x40 x39) fun x41_1 =>
  condK x41_1
  (
    purK (ixS 3 x38 x40) fun x42_1 =>
    purK (ldN ρ H 3 x42_1) fun x43_1 =>
    effK H (some (.ptr H.sz 0 0, .new (newCells 145 false [.int .i64 0, .int .i64 0, .int .u64 0]))) fun x11_1 H =>
    effK H (stA lim H 3 x11_1 x43_1) fun _ H =>
    purK (ldN ρ H 3 x11_1) fun x46_1 =>
    resK (call lim 61 [x0, x46_1] H) fun x47_1 H =>
    purK (extA 0 x47_1) fun x48_1 =>
    purK (extA 1 x47_1) fun x49_1 =>
    effK H (some (.ptr H.sz 0 0, .new (newCells 96 false [.int .i64 0, .int .i64 0, .nils, .nils]))) fun x12_1 H =>
    effK H (stA lim H 4 x12_1 x48_1) fun _ H =>
    condK x49_1
    (
      purK (ldN ρ H 4 x12_1) fun x51_1 =>
      effK H (stA lim H 4 x2 x51_1) fun _ H =>
      R [x2, (.bool true)] H)
    (
      purK (binA Tryz.prog H .add 3 x40 (.int .i64 1)) fun x52_1 =>
      kn x52_1 H))
  (
    k2 x2 H)
theorem N41_4b_eq (ρ : Addr → Option Value) (call : CallF) (yc : YieldF) (lim k : Nat) (x0 x2 x38 x39 x40 : AV) (H : Heap) (kn : KS) (k2 : KS) (R : List AV → Heap → Res) :
    evL (cx ρ) call yc false 41 lim k (Code.at [1, 1, 1, 1, 0, 1, 0, 0] c41) (sp 54 [(0, x0), (2, x2), (38, x38), (39, x39), (40, x40)]) H (kk (some [0, 2, 38, 39, 40]) kn [(2, (some [2]), k2)] R [2, 3]) = N41_4b ρ call yc lim k x0 x2 x38 x39 x40 H (fun x40 H => kn (sp 54 [(0, x0), (2, x2), (38, x38), (39, x39), (40, x40)]) H) (fun x2 H => k2 (sp 54 [(2, x2)]) H) R := by
  kernel_rfl
noncomputable def N41_4 (ρ : Addr → Option Value) (call : CallF) (yc : YieldF) (lim k : Nat) (x0 x2 x38 x39 x40 : AV) (H : Heap) (k2 : AV → Heap → Res) (R : List AV → Heap → Res) : Res :=
  loopL (fun (x : AV) H kn => N41_4b ρ call yc lim k x0 x2 x38 x39 x H (fun x40 H => kn x40 H) k2 R) k x40 H
theorem N41_4_eq (ρ : Addr → Option Value) (call : CallF) (yc : YieldF) (lim k : Nat) (x0 x2 x38 x39 x40 : AV) (H : Heap) (kn : KS) (k2 : KS) (R : List AV → Heap → Res) :
    evL (cx ρ) call yc false 41 lim k (Code.at [1, 1, 1, 1, 0, 1, 0] c41) (sp 54 [(0, x0), (2, x2), (38, x38), (39, x39), (40, x40)]) H (kk (some [2]) kn [(2, (some [2]), k2)] R [2, 3]) = N41_4 ρ call yc lim k x0 x2 x38 x39 x40 H (fun x2 H => k2 (sp 54 [(2, x2)]) H) R := by
  have e : Code.at [1, 1, 1, 1, 0, 1, 0] c41 = .loop (Code.at [1, 1, 1, 1, 0, 1, 0, 0] c41) := by kernel_rfl
  rw [e]
  unfold N41_4
  exact loop_node [0, 2, 38, 39, 40] (fun x : AV => (sp 54 [(0, x0), (2, x2), (38, x38), (39, x39), (40, (x))])) (fun (x : AV) H kn => N41_4b ρ call yc lim k x0 x2 x38 x39 x H (fun x40 H => kn x40 H) (fun x2 H => k2 (sp 54 [(2, x2)]) H) R) (by kernel_rfl) (fun x => by kernel_rfl) (fun x H kn => N41_4b_eq ρ call yc lim k x0 x2 x38 x39 (x) H kn k2 R) x40 (sp 54 [(0, x0), (2, x2), (38, x38), (39, x39), (40, x40)]) H (by kernel_rfl)
noncomputable def N41_3 (ρ : Addr → Option Value) (call : CallF) (yc : YieldF) (lim k : Nat) (x0 x2 x38 x39 x40 : AV) (H : Heap) (kn : AV → Heap → Res) (R : List AV → Heap → Res) : Res :=
  N41_4 ρ call yc lim k x0 x2 x38 x39 x40 H kn R
theorem N41_3_x (ρ : Addr → Option Value) (call : CallF) (yc : YieldF) (lim k : Nat) (J : CodeF) (x0 x2 x38 x39 x40 : AV) (H : Heap) (kn : KS) (R : List AV → Heap → Res) :
    evX (cx ρ) call yc false 41 lim k J (Code.at [1, 1, 1, 1, 0, 1] c41) (sp 54 [(0, x0), (2, x2), (38, x38), (39, x39), (40, x40)]) H (kk (some [2]) kn [] R [2, 3]) =
  J (Code.at [1, 1, 1, 1, 0, 1, 0] c41) (sp 54 [(0, x0), (2, x2), (38, x38), (39, x39), (40, x40)]) H (kk (some [2]) kn [(2, (some [2]), kn)] R [2, 3]) := by
  kernel_rfl
theorem N41_3_eq (ρ : Addr → Option Value) (call : CallF) (yc : YieldF) (lim k : Nat) (x0 x2 x38 x39 x40 : AV) (H : Heap) (kn : KS) (R : List AV → Heap → Res) :
    evL (cx ρ) call yc false 41 lim k (Code.at [1, 1, 1, 1, 0, 1] c41) (sp 54 [(0, x0), (2, x2), (38, x38), (39, x39), (40, x40)]) H (kk (some [2]) kn [] R [2, 3]) = N41_3 ρ call yc lim k x0 x2 x38 x39 x40 H (fun x2 H => kn (sp 54 [(2, x2)]) H) R := by
  rw [evL_X, N41_3_x]
  simp only [← evL_X, N41_3, N41_4_eq]
noncomputable def N41_1 (ρ : Addr → Option Value) (call : CallF) (yc : YieldF) (lim k : Nat) (x0 x2 x4 : AV) (H : Heap) (R : List AV → Heap → Res) : Res :=
  resK (call lim 58 [x4, (.fn (.func 59) [] [])] H) fun x37_1 H =>
  purK (lenS x4) fun x39_1 =>
  N41_3 ρ call yc lim k x0 x2 x4 x39_1 (.int .i64 0) H (fun x2_1 H =>
    N41_2 ρ call yc lim k x2_1 H R) R
theorem N41_1_x (ρ : Addr → Option Value) (call : CallF) (yc : YieldF) (lim k : Nat) (J : CodeF) (x0 x2 x4 : AV) (H : Heap) (R : List AV → Heap → Res) :
    evX (cx ρ) call yc false 41 lim k J (Code.at [1, 1, 1] c41) (sp 54 [(0, x0), (2, x2), (4, x4)]) H (kk none (fun s H => R (([2, 3] : List Nat).map fun t => s.getD t (.tup [])) H) [] R [2, 3]) =
  resK (call lim 58 [x4, (.fn (.func 59) [] [])] H) fun x37_1 H =>
  purK (lenS x4) fun x39_1 =>
  J (Code.at [1, 1, 1, 1, 0, 1] c41) (sp 54 [(0, x0), (2, x2), (38, x4), (39, x39_1), (40, (.int .i64 0))]) H (kk (some [2]) (fun s H => J (Code.at [1, 1, 1, 1, 1] c41) s H (kk none (fun s H => R (([2, 3] : List Nat).map fun t => s.getD t (.tup [])) H) [] R [2, 3])) [] R [2, 3]) := by
  kernel_rfl
theorem N41_1_eq (ρ : Addr → Option Value) (call : CallF) (yc : YieldF) (lim k : Nat) (x0 x2 x4 : AV) (H : Heap) (R : List AV → Heap → Res) :
    evL (cx ρ) call yc false 41 lim k (Code.at [1, 1, 1] c41) (sp 54 [(0, x0), (2, x2), (4, x4)]) H (kk none (fun s H => R (([2, 3] : List Nat).map fun t => s.getD t (.tup [])) H) [] R [2, 3]) = N41_1 ρ call yc lim k x0 x2 x4 H R := by
  rw [evL_X, N41_1_x]
  simp only [← evL_X, N41_1, N41_2_eq, N41_3_eq]
noncomputable def N41_7 (ρ : Addr → Option Value) (call : CallF) (yc : YieldF) (lim k : Nat) (x0 x2 x4 x14 : AV) (H : Heap) (kn : AV → AV → Heap → Res) : Res :=
  purK (binA Tryz.prog H .add 3 x14 (.int .i64 1)) fun x35_1 =>
  kn x4 x35_1 H
theorem N41_7_eq (ρ : Addr → Option Value) (call : CallF) (yc : YieldF) (lim k : Nat) (x0 x2 x4 x14 : AV) (H : Heap) (kn : KS) (k0 : KS) (R : List AV → Heap → Res) :
    evL (cx ρ) call yc false 41 lim k (Code.at [1, 1, 0, 1, 0, 0, 1, 1, 1] c41) (sp 54 [(0, x0), (2, x2), (4, x4), (14, x14)]) H (kk (some [0, 2, 4, 14]) kn [(0, (some [0, 2, 4]), k0)] R [2, 3]) = N41_7 ρ call yc lim k x0 x2 x4 x14 H (fun x4 x14 H => kn (sp 54 [(0, x0), (2, x2), (4, x4), (14, x14)]) H) := by
  kernel_rfl
noncomputable def N41_6b (ρ : Addr → Option Value) (call : CallF) (yc : YieldF) (lim k : Nat) (x0 x2 x4 x14 : AV) (H : Heap) (kn : AV → AV → Heap → Res) (k0 : AV → AV → AV → Heap → Res) : Res :=
  purK (binA Tryz.prog H .lss 3 x14 (.int .i64 2)) fun x15_1 =>
  condK x15_1
  (
    purK (bldA [.int .i64 0, .int .i64 0] [(0, 1, (.int .i64 2)), (1, 1, x14)]) fun x20_1 =>
    resK (call lim 56 [x0, x20_1] H) fun x21_1 H =>
    purK (extA 0 x21_1) fun x22_1 =>
    purK (extA 1 x21_1) fun x23_1 =>
    resK (call lim 57 [x22_1] H) fun x26_1 H =>
    purK (extA 0 x26_1) fun x27_1 =>
    purK (extA 1 x26_1) fun x28_1 =>
    effK H (some (.ptr H.sz 0 0, .new (newCells 145 false [.int .i64 0, .int .i64 0, .int .u64 0]))) fun x8_1 H =>
    effK H (stA lim H 3 x8_1 x27_1) fun _ H =>
    purK (binA Tryz.prog H .eql 24 x28_1 (.int .i64 0)) fun x30_1 =>
    condK x30_1
    (
      purK (ldN ρ H 3 x8_1) fun x32_1 =>
      effK H (bldS H 145 3 [.int .i64 0, .int .i64 0, .int .u64 0] 1 [(0, 3, x32_1)]) fun x33_1 H =>
      effK H (apA ρ lim H 145 3 24 x4 x33_1) fun x34_1 H =>
      N41_7 ρ call yc lim k x0 x2 x34_1 x14 H kn)
    (
      N41_7 ρ call yc lim k x0 x2 x4 x14 H kn))
  (
    k0 x0 x2 x4 H)
theorem N41_6b_x (ρ : Addr → Option Value) (call : CallF) (yc : YieldF) (lim k : Nat) (J : CodeF) (x0 x2 x4 x14 : AV) (H : Heap) (kn : KS) (k0 : KS) (R : List AV → Heap → Res) :
    evX (cx ρ) call yc false 41 lim k J (Code.at [1, 1, 0, 1, 0, 0] c41) (sp 54 [(0, x0), (2, x2), (4, x4), (14, x14)]) H (kk (some [0, 2, 4, 14]) kn [(0, (some [0, 2, 4]), k0)] R [2, 3]) =
  purK (binA Tryz.prog H .lss 3 x14 (.int .i64 2)) fun x15_1 =>
  condK x15_1
  (
    purK (bldA [.int .i64 0, .int .i64 0] [(0, 1, (.int .i64 2)), (1, 1, x14)]) fun x20_1 =>
    resK (call lim 56 [x0, x20_1] H) fun x21_1 H =>
    purK (extA 0 x21_1) fun x22_1 =>
    purK (extA 1 x21_1) fun x23_1 =>
    resK (call lim 57 [x22_1] H) fun x26_1 H =>
    purK (extA 0 x26_1) fun x27_1 =>
    purK (extA 1 x26_1) fun x28_1 =>
    effK H (some (.ptr H.sz 0 0, .new (newCells 145 false [.int .i64 0, .int .i64 0, .int .u64 0]))) fun x8_1 H =>
    effK H (stA lim H 3 x8_1 x27_1) fun _ H =>
    purK (binA Tryz.prog H .eql 24 x28_1 (.int .i64 0)) fun x30_1 =>
    condK x30_1
    (
      purK (ldN ρ H 3 x8_1) fun x32_1 =>
      effK H (bldS H 145 3 [.int .i64 0, .int .i64 0, .int .u64 0] 1 [(0, 3, x32_1)]) fun x33_1 H =>
      effK H (apA ρ lim H 145 3 24 x4 x33_1) fun x34_1 H =>
      J (Code.at [1, 1, 0, 1, 0, 0, 1, 1, 1] c41) (sp 54 [(0, x0), (2, x2), (4, x34_1), (14, x14)]) H (kk (some [0, 2, 4, 14]) kn [(0, (some [0, 2, 4]), k0)] R [2, 3]))
    (
      J (Code.at [1, 1, 0, 1, 0, 0, 1, 1, 1] c41) (sp 54 [(0, x0), (2, x2), (4, x4), (14, x14)]) H (kk (some [0, 2, 4, 14]) kn [(0, (some [0, 2, 4]), k0)] R [2, 3])))
  (
    k0 (sp 54 [(0, x0), (2, x2), (4, x4)]) H) := by
  kernel_rfl
theorem N41_6b_eq (ρ : Addr → Option Value) (call : CallF) (yc : YieldF) (lim k : Nat) (x0 x2 x4 x14 : AV) (H : Heap) (kn : KS) (k0 : KS) (R : List AV → Heap → Res) :
    evL (cx ρ) call yc false 41 lim k (Code.at [1, 1, 0, 1, 0, 0] c41) (sp 54 [(0, x0), (2, x2), (4, x4), (14, x14)]) H (kk (some [0, 2, 4, 14]) kn [(0, (some [0, 2, 4]), k0)] R [2, 3]) = N41_6b ρ call yc lim k x0 x2 x4 x14 H (fun x4 x14 H => kn (sp 54 [(0, x0), (2, x2), (4, x4), (14, x14)]) H) (fun x0 x2 x4 H => k0 (sp 54 [(0, x0), (2, x2), (4, x4)]) H) := by
  rw [evL_X, N41_6b_x]
  simp only [← evL_X, N41_6b, N41_7_eq]
noncomputable def N41_6 (ρ : Addr → Option Value) (call : CallF) (yc : YieldF) (lim k : Nat) (x0 x2 x4 x14 : AV) (H : Heap) (k0 : AV → AV → AV → Heap → Res) : Res :=
  loopL (fun (x : AV × AV) H kn => N41_6b ρ call yc lim k x0 x2 x.1 x.2 H (fun x4 x14 H => kn (x4, x14) H) k0) k (x4, x14) H
theorem N41_6_eq (ρ : Addr → Option Value) (call : CallF) (yc : YieldF) (lim k : Nat) (x0 x2 x4 x14 : AV) (H : Heap) (kn : KS) (k0 : KS) (R : List AV → Heap → Res) :
    evL (cx ρ) call yc false 41 lim k (Code.at [1, 1, 0, 1, 0] c41) (sp 54 [(0, x0), (2, x2), (4, x4), (14, x14)]) H (kk (some [0, 2, 4]) kn [(0, (some [0, 2, 4]), k0)] R [2, 3]) = N41_6 ρ call yc lim k x0 x2 x4 x14 H (fun x0 x2 x4 H => k0 (sp 54 [(0, x0), (2, x2), (4, x4)]) H) := by
  have e : Code.at [1, 1, 0, 1, 0] c41 = .loop (Code.at [1, 1, 0, 1, 0, 0] c41) := by kernel_rfl
  rw [e]
  unfold N41_6
  exact loop_node [0, 2, 4, 14] (fun x : AV × AV => (sp 54 [(0, x0), (2, x2), (4, (x.1)), (14, (x.2))])) (fun (x : AV × AV) H kn => N41_6b ρ call yc lim k x0 x2 x.1 x.2 H (fun x4 x14 H => kn (x4, x14) H) (fun x0 x2 x4 H => k0 (sp 54 [(0, x0), (2, x2), (4, x4)]) H)) (by kernel_rfl) (fun x => by kernel_rfl) (fun x H kn => N41_6b_eq ρ call yc lim k x0 x2 (x.1) (x.2) H kn k0 R) (x4, x14) (sp 54 [(0, x0), (2, x2), (4, x4), (14, x14)]) H (by kernel_rfl)
noncomputable def N41_5 (ρ : Addr → Option Value) (call : CallF) (yc : YieldF) (lim k : Nat) (x0 x2 x4 x14 : AV) (H : Heap) (kn : AV → AV → AV → Heap → Res) : Res :=
  N41_6 ρ call yc lim k x0 x2 x4 x14 H kn
theorem N41_5_x (ρ : Addr → Option Value) (call : CallF) (yc : YieldF) (lim k : Nat) (J : CodeF) (x0 x2 x4 x14 : AV) (H : Heap) (kn : KS) (R : List AV → Heap → Res) :
    evX (cx ρ) call yc false 41 lim k J (Code.at [1, 1, 0, 1] c41) (sp 54 [(0, x0), (2, x2), (4, x4), (14, x14)]) H (kk (some [0, 2, 4]) kn [] R [2, 3]) =
  J (Code.at [1, 1, 0, 1, 0] c41) (sp 54 [(0, x0), (2, x2), (4, x4), (14, x14)]) H (kk (some [0, 2, 4]) kn [(0, (some [0, 2, 4]), kn)] R [2, 3]) := by
  kernel_rfl
theorem N41_5_eq (ρ : Addr → Option Value) (call : CallF) (yc : YieldF) (lim k : Nat) (x0 x2 x4 x14 : AV) (H : Heap) (kn : KS) (R : List AV → Heap → Res) :
    evL (cx ρ) call yc false 41 lim k (Code.at [1, 1, 0, 1] c41) (sp 54 [(0, x0), (2, x2), (4, x4), (14, x14)]) H (kk (some [0, 2, 4]) kn [] R [2, 3]) = N41_5 ρ call yc lim k x0 x2 x4 x14 H (fun x0 x2 x4 H => kn (sp 54 [(0, x0), (2, x2), (4, x4)]) H) := by
  rw [evL_X, N41_5_x]
  simp only [← evL_X, N41_5, N41_6_eq]
noncomputable def L41 (ρ : Addr → Option Value) (call : CallF) (yc : YieldF) (lim k : Nat) (x0 : AV) (H : Heap) : Res :=
  effK H (some (.ptr H.sz 0 0, .new (newCells 96 false [.int .i64 0, .int .i64 0, .nils, .nils]))) fun x2 H =>
  N41_5 ρ call yc lim k x0 x2 .nils (.int .i64 0) H (fun x0_1 x2_1 x4 H =>
    N41_1 ρ call yc lim k x0_1 x2_1 x4 H (retC (cx ρ) [some 96, none]))
theorem L41_x (ρ : Addr → Option Value) (call : CallF) (yc : YieldF) (lim k : Nat) (J : CodeF) (x0 : AV) (H : Heap) :
    evX (cx ρ) call yc false 41 lim k J c41 [x0, (.tup []), (.tup []), (.tup []), (.tup []), (.tup []), (.tup []), (.tup []), (.tup []), (.tup []), (.tup []), (.tup []), (.tup []), (.tup []), (.tup []), (.tup []), (.tup []), (.tup []), (.tup []), (.tup []), (.tup []), (.tup []), (.tup []), (.tup []), (.tup []), (.tup []), (.tup []), (.tup []), (.tup []), (.tup []), (.tup []), (.tup []), (.tup []), (.tup []), (.tup []), (.tup []), (.tup []), (.tup []), (.tup []), (.tup []), (.tup []), (.tup []), (.tup []), (.tup []), (.tup []), (.tup []), (.tup []), (.tup []), (.tup []), (.tup []), (.tup []), (.tup []), (.tup []), (.tup [])] H (kk none (fun s H => (retC (cx ρ) [some 96, none]) (([2, 3] : List Nat).map fun t => s.getD t (.tup [])) H) [] (retC (cx ρ) [some 96, none]) [2, 3]) =
  effK H (some (.ptr H.sz 0 0, .new (newCells 96 false [.int .i64 0, .int .i64 0, .nils, .nils]))) fun x2 H =>
  J (Code.at [1, 1, 0, 1] c41) (sp 54 [(0, x0), (2, x2), (4, .nils), (14, (.int .i64 0))]) H (kk (some [0, 2, 4]) (fun s H => J (Code.at [1, 1, 1] c41) s H (kk none (fun s H => (retC (cx ρ) [some 96, none]) (([2, 3] : List Nat).map fun t => s.getD t (.tup [])) H) [] (retC (cx ρ) [some 96, none]) [2, 3])) [] (retC (cx ρ) [some 96, none]) [2, 3]) := by
  kernel_rfl
theorem G41 (ρ : Addr → Option Value) (call : CallF) (yc : YieldF) (lim k : Nat) (x0 : AV) (H : Heap) :
    evL (cx ρ) call yc false 41 lim k c41 [x0, (.tup []), (.tup []), (.tup []), (.tup []), (.tup []), (.tup []), (.tup []), (.tup []), (.tup []), (.tup []), (.tup []), (.tup []), (.tup []), (.tup []), (.tup []), (.tup []), (.tup []), (.tup []), (.tup []), (.tup []), (.tup []), (.tup []), (.tup []), (.tup []), (.tup []), (.tup []), (.tup []), (.tup []), (.tup []), (.tup []), (.tup []), (.tup []), (.tup []), (.tup []), (.tup []), (.tup []), (.tup []), (.tup []), (.tup []), (.tup []), (.tup []), (.tup []), (.tup []), (.tup []), (.tup []), (.tup []), (.tup []), (.tup []), (.tup []), (.tup []), (.tup []), (.tup []), (.tup [])] H (kk none (fun s H => (retC (cx ρ) [some 96, none]) (([2, 3] : List Nat).map fun t => s.getD t (.tup [])) H) [] (retC (cx ρ) [some 96, none]) [2, 3]) = L41 ρ call yc lim k x0 H := by
  rw [evL_X, L41_x]
  simp only [← evL_X, L41, N41_1_eq, N41_5_eq]
theorem E41 (ρ : Addr → Option Value) (k lim : Nat) (x0 : AV) (H : Heap) : evCall (cx ρ) (k + 1) lim 41 [x0] H = L41 ρ (evCall (cx ρ) k) (evCY (cx ρ) k).2 lim k x0 H := by
  rw [evCall_cells (cx ρ) k lim 41 _ H Tryz.f41 c41 [2, 3] [some 96, none] (by kernel_rfl) (by kernel_rfl) (by kernel_rfl) (by kernel_rfl) (by kernel_rfl) (by kernel_rfl)]
  exact G41 ρ (evCall (cx ρ) k) (evCY (cx ρ) k).2 lim k x0 H
-- haycroft/store.fresh
noncomputable def c43 : Code := Code.of Tryz.prog 43
noncomputable def N43_2 (ρ : Addr → Option Value) (call : CallF) (yc : YieldF) (lim k : Nat) (x9 : AV) (H : Heap) (R : List AV → Heap → Res) : Res :=
  R [x9, (.int .i64 0)] H
theorem N43_2_eq (ρ : Addr → Option Value) (call : CallF) (yc : YieldF) (lim k : Nat) (x9 : AV) (H : Heap) (R : List AV → Heap → Res) :
    evL (cx ρ) call yc false 43 lim k (Code.at [1, 1, 1, 1, 1, 1, 1] c43) (sp 64 [(9, x9)]) H (kk none (fun s H => R (([4, 5] : List Nat).map fun t => s.getD t (.tup [])) H) [] R [4, 5]) = N43_2 ρ call yc lim k x9 H R := by
  kernel_rfl
noncomputable def N43_5 (ρ : Addr → Option Value) (call : CallF) (yc : YieldF) (lim k : Nat) (x6 x8 x9 x38 x39 : AV) (H : Heap) (kn : AV → Heap → Res) : Res :=
  purK (binA Tryz.prog H .add 3 x39 (.int .i64 1)) fun x62_1 =>
  kn x62_1 H
theorem N43_5_eq (ρ : Addr → Option Value) (call : CallF) (yc : YieldF) (lim k : Nat) (x6 x8 x9 x38 x39 : AV) (H : Heap) (kn : KS) (k0 : KS) (R : List AV → Heap → Res) :
    evL (cx ρ) call yc false 43 lim k (Code.at [1, 1, 1, 1, 1, 1, 0, 1, 0, 0, 1, 1, 1] c43) (sp 64 [(6, x6), (8, x8), (9, x9), (38, x38), (39, x39)]) H (kk (some [6, 8, 9, 38, 39]) kn [(0, (some [9]), k0)] R [4, 5]) = N43_5 ρ call yc lim k x6 x8 x9 x38 x39 H (fun x39 H => kn (sp 64 [(6, x6), (8, x8), (9, x9), (38, x38), (39, x39)]) H) := by
  kernel_rfl
noncomputable def N43_4b (ρ : Addr → Option Value) (call : CallF) (yc : YieldF) (lim k : Nat) (x6 x8 x9 x38 x39 : AV) (H : Heap) (kn : AV → Heap → Res) (k0 : AV → Heap → Res) (R : List AV → Heap → Res) : Res :=
  purK (binA Tryz.prog H .lss 3 x39 x38) fun x40_1 =>
  condK x40_1
  (
    resK (call lim 66 [x6, x8, x39] H) fun x46_1 H =>
    purK (extA 0 x46_1) fun x47_1 =>
    purK (extA 1 x46_1) fun x48_1 =>
    purK (binA Tryz.prog H .neq 24 x48_1 (.int .i64 0)) fun x50_1 =>
    condK x50_1
    (
      R [.nilp, x48_1] H)
    (
      purK (nilChkA x9) fun x54_1 =>
      purK (addA 2 x54_1) fun x55_1 =>
      purK (ld1 ρ H x55_1) fun x56_1 =>
      effK H (bldS H 152 1 [.nilp] 1 [(0, 1, x47_1)]) fun x58_1 H =>
      effK H (apA ρ lim H 152 1 8 x56_1 x58_1) fun x59_1 H =>
      purK (nilChkA x9) fun x60_1 =>
      purK (addA 2 x60_1) fun x61_1 =>
      effK H (stA lim H 1 x61_1 x59_1) fun _ H =>
      N43_5 ρ call yc lim k x6 x8 x9 x38 x39 H kn))
  (
    k0 x9 H)
theorem N43_4b_x (ρ : Addr → Option Value) (call : CallF) (yc : YieldF) (lim k : Nat) (J : CodeF) (x6 x8 x9 x38 x39 : AV) (H : Heap) (kn : KS) (k0 : KS) (R : List AV → Heap → Res) :
    evX (cx ρ) call yc false 43 lim k J (Code.at [1, 1, 1, 1, 1, 1, 0, 1, 0, 0] c43) (sp 64 [(6, x6), (8, x8), (9, x9), (38, x38), (39, x39)]) H (kk (some [6, 8, 9, 38, 39]) kn [(0, (some [9]), k0)] R [4, 5]) =
  purK (binA Tryz.prog H .lss 3 x39 x38) fun x40_1 =>
  condK x40_1
  (
    resK (call lim 66 [x6, x8, x39] H) fun x46_1 H =>
    purK (extA 0 x46_1) fun x47_1 =>
    purK (extA 1 x46_1) fun x48_1 =>
    purK (binA Tryz.prog H .neq 24 x48_1 (.int .i64 0)) fun x50_1 =>
    condK x50_1
    (
      R [.nilp, x48_1] H)
    (
      purK (nilChkA x9) fun x54_1 =>
      purK (addA 2 x54_1) fun x55_1 =>
      purK (ld1 ρ H x55_1) fun x56_1 =>
      effK H (bldS H 152 1 [.nilp] 1 [(0, 1, x47_1)]) fun x58_1 H =>
      effK H (apA ρ lim H 152 1 8 x56_1 x58_1) fun x59_1 H =>
      purK (nilChkA x9) fun x60_1 =>
      purK (addA 2 x60_1) fun x61_1 =>
      effK H (stA lim H 1 x61_1 x59_1) fun _ H =>
      J (Code.at [1, 1, 1, 1, 1, 1, 0, 1, 0, 0, 1, 1, 1] c43) (sp 64 [(6, x6), (8, x8), (9, x9), (38, x38), (39, x39)]) H (kk (some [6, 8, 9, 38, 39]) kn [(0, (some [9]), k0)] R [4, 5])))
  (
    k0 (sp 64 [(9, x9)]) H) := by
  kernel_rfl
theorem N43_4b_eq (ρ : Addr → Option Value) (call : CallF) (yc : YieldF) (lim k : Nat) (x6 x8 x9 x38 x39 : AV) (H : Heap) (kn : KS) (k0 : KS) (R : List AV → Heap → Res) :
    evL (cx ρ) call yc false 43 lim k (Code.at [1, 1, 1, 1, 1, 1, 0, 1, 0, 0] c43) (sp 64 [(6, x6), (8, x8), (9, x9), (38, x38), (39, x39)]) H (kk (some [6, 8, 9, 38, 39]) kn [(0, (some [9]), k0)] R [4, 5]) = N43_4b ρ call yc lim k x6 x8 x9 x38 x39 H (fun x39 H => kn (sp 64 [(6, x6), (8, x8), (9, x9), (38, x38), (39, x39)]) H) (fun x9 H => k0 (sp 64 [(9, x9)]) H) R := by
  rw [evL_X, N43_4b_x]
  simp only [← evL_X, N43_4b, N43_5_eq]
noncomputable def N43_4 (ρ : Addr → Option Value) (call : CallF) (yc : YieldF) (lim k : Nat) (x6 x8 x9 x38 x39 : AV) (H : Heap) (k0 : AV → Heap → Res) (R : List AV → Heap → Res) : Res :=
  loopL (fun (x : AV) H kn => N43_4b ρ call yc lim k x6 x8 x9 x38 x H (fun x39 H => kn x39 H) k0 R) k x39 H
theorem N43_4_eq (ρ : Addr → Option Value) (call : CallF) (yc : YieldF) (lim k : Nat) (x6 x8 x9 x38 x39 : AV) (H : Heap) (kn : KS) (k0 : KS) (R : List AV → Heap → Res) :
    evL (cx ρ) call yc false 43 lim k (Code.at [1, 1, 1, 1, 1, 1, 0, 1, 0] c43) (sp 64 [(6, x6), (8, x8), (9, x9), (38, x38), (39, x39)]) H (kk (some [9]) kn [(0, (some [9]), k0)] R [4, 5]) = N43_4 ρ call yc lim k x6 x8 x9 x38 x39 H (fun x9 H => k0 (sp 64 [(9, x9)]) H) R := by
  have e : Code.at [1, 1, 1, 1, 1, 1, 0, 1, 0] c43 = .loop (Code.at [1, 1, 1, 1, 1, 1, 0, 1, 0, 0] c43) := by kernel_rfl
  rw [e]
  unfold N43_4
  exact loop_node [6, 8, 9, 38, 39] (fun x : AV => (sp 64 [(6, x6), (8, x8), (9, x9), (38, x38), (39, (x))])) (fun (x : AV) H kn => N43_4b ρ call yc lim k x6 x8 x9 x38 x H (fun x39 H => kn x39 H) (fun x9 H => k0 (sp 64 [(9, x9)]) H) R) (by kernel_rfl) (fun x => by kernel_rfl) (fun x H kn => N43_4b_eq ρ call yc lim k x6 x8 x9 x38 (x) H kn k0 R) x39 (sp 64 [(6, x6), (8, x8), (9, x9), (38, x38), (39, x39)]) H (by kernel_rfl)
noncomputable def N43_3 (ρ : Addr → Option Value) (call : CallF) (yc : YieldF) (lim k : Nat) (x6 x8 x9 x38 x39 : AV) (H : Heap) (kn : AV → Heap → Res) (R : List AV → Heap → Res) : Res :=
  N43_4 ρ call yc lim k x6 x8 x9 x38 x39 H kn R
theorem N43_3_x (ρ : Addr → Option Value) (call : CallF) (yc : YieldF) (lim k : Nat) (J : CodeF) (x6 x8 x9 x38 x39 : AV) (H : Heap) (kn : KS) (R : List AV → Heap → Res) :
    evX (cx ρ) call yc false 43 lim k J (Code.at [1, 1, 1, 1, 1, 1, 0, 1] c43) (sp 64 [(6, x6), (8, x8), (9, x9), (38, x38), (39, x39)]) H (kk (some [9]) kn [] R [4, 5]) =
  J (Code.at [1, 1, 1, 1, 1, 1, 0, 1, 0] c43) (sp 64 [(6, x6), (8, x8), (9, x9), (38, x38), (39, x39)]) H (kk (some [9]) kn [(0, (some [9]), kn)] R [4, 5]) := by
  kernel_rfl
theorem N43_3_eq (ρ : Addr → Option Value) (call : CallF) (yc : YieldF) (lim k : Nat) (x6 x8 x9 x38 x39 : AV) (H : Heap) (kn : KS) (R : List AV → Heap → Res) :
    evL (cx ρ) call yc false 43 lim k (Code.at [1, 1, 1, 1, 1, 1, 0, 1] c43) (sp 64 [(6, x6), (8, x8), (9, x9), (38, x38), (39, x39)]) H (kk (some [9]) kn [] R [4, 5]) = N43_3 ρ call yc lim k x6 x8 x9 x38 x39 H (fun x9 H => kn (sp 64 [(9, x9)]) H) R := by
  rw [evL_X, N43_3_x]
  simp only [← evL_X, N43_3, N43_4_eq]
noncomputable def N43_1 (ρ : Addr → Option Value) (call : CallF) (yc : YieldF) (lim k : Nat) (x2 x6 x7 x8 : AV) (H : Heap) (R : List AV → Heap → Res) : Res :=
  purK (binA Tryz.prog H .neq 24 x7 (.int .i64 0)) fun x31_1 =>
  condK x31_1
  (
    R [.nilp, x7] H)
  (
    purK (bldA [.nilp, .nilp, .nils, .int .i64 0, .nilp] [(0, 1, x6), (1, 1, x8)]) fun x35_1 =>
    effK H (boxA H 81 x35_1) fun x36_1 H =>
    purK (addA 5 x2) fun x37_1 =>
    purK (ld1 ρ H x37_1) fun x38_1 =>
    N43_3 ρ call yc lim k x6 x8 x36_1 x38_1 (.int .i64 0) H (fun x9_1 H =>
      N43_2 ρ call yc lim k x9_1 H R) R)
theorem N43_1_x (ρ : Addr → Option Value) (call : CallF) (yc : YieldF) (lim k : Nat) (J : CodeF) (x2 x6 x7 x8 : AV) (H : Heap) (R : List AV → Heap → Res) :
    evX (cx ρ) call yc false 43 lim k J (Code.at [1, 1, 1, 1] c43) (sp 64 [(2, x2), (6, x6), (7, x7), (8, x8)]) H (kk none (fun s H => R (([4, 5] : List Nat).map fun t => s.getD t (.tup [])) H) [] R [4, 5]) =
  purK (binA Tryz.prog H .neq 24 x7 (.int .i64 0)) fun x31_1 =>
  condK x31_1
  (
    R [.nilp, x7] H)
  (
    purK (bldA [.nilp, .nilp, .nils, .int .i64 0, .nilp] [(0, 1, x6), (1, 1, x8)]) fun x35_1 =>
    effK H (boxA H 81 x35_1) fun x36_1 H =>
    purK (addA 5 x2) fun x37_1 =>
    purK (ld1 ρ H x37_1) fun x38_1 =>
    J (Code.at [1, 1, 1, 1, 1, 1, 0, 1] c43) (sp 64 [(6, x6), (8, x8), (9, x36_1), (38, x38_1), (39, (.int .i64 0))]) H (kk (some [9]) (fun s H => J (Code.at [1, 1, 1, 1, 1, 1, 1] c43) s H (kk none (fun s H => R (([4, 5] : List Nat).map fun t => s.getD t (.tup [])) H) [] R [4, 5])) [] R [4, 5])) := by
  kernel_rfl
theorem N43_1_eq (ρ : Addr → Option Value) (call : CallF) (yc : YieldF) (lim k : Nat) (x2 x6 x7 x8 : AV) (H : Heap) (R : List AV → Heap → Res) :
    evL (cx ρ) call yc false 43 lim k (Code.at [1, 1, 1, 1] c43) (sp 64 [(2, x2), (6, x6), (7, x7), (8, x8)]) H (kk none (fun s H => R (([4, 5] : List Nat).map fun t => s.getD t (.tup [])) H) [] R [4, 5]) = N43_1 ρ call yc lim k x2 x6 x7 x8 H R := by
  rw [evL_X, N43_1_x]
  simp only [← evL_X, N43_1, N43_2_eq, N43_3_eq]
noncomputable def L43 (ρ : Addr → Option Value) (call : CallF) (yc : YieldF) (lim k : Nat) (x0 x1 : AV) (H : Heap) : Res :=
  effK H (boxA H 42 x0) fun x2 H =>
  purK (ldN ρ H 6 x2) fun x14 =>
  resK (call lim 64 [x14, x1] H) fun x16 H =>
  purK (extA 0 x16) fun x17 =>
  purK (extA 1 x16) fun x18 =>
  purK (binA Tryz.prog H .neq 24 x18 (.int .i64 0)) fun x20 =>
  condK x20
  (
    retK [.nilp, x18] H)
  (
    purK (addA 3 x2) fun x23 =>
    purK (ld1 ρ H x23) fun x24 =>
    purK (addA 4 x2) fun x25 =>
    purK (ld1 ρ H x25) fun x26 =>
    resK (call lim 65 [x24, x26] H) fun x27 H =>
    purK (extA 0 x27) fun x28 =>
    purK (extA 1 x27) fun x29 =>
    N43_1 ρ call yc lim k x2 x17 x29 x28 H retK)
theorem L43_x (ρ : Addr → Option Value) (call : CallF) (yc : YieldF) (lim k : Nat) (J : CodeF) (x0 x1 : AV) (H : Heap) :
    evX (cx ρ) call yc false 43 lim k J c43 [x0, x1, (.tup []), (.tup []), (.tup []), (.tup []), (.tup []), (.tup []), (.tup []), (.tup []), (.tup []), (.tup []), (.tup []), (.tup []), (.tup []), (.tup []), (.tup []), (.tup []), (.tup []), (.tup []), (.tup []), (.tup []), (.tup []), (.tup []), (.tup []), (.tup []), (.tup []), (.tup []), (.tup []), (.tup []), (.tup []), (.tup []), (.tup []), (.tup []), (.tup []), (.tup []), (.tup []), (.tup []), (.tup []), (.tup []), (.tup []), (.tup []), (.tup []), (.tup []), (.tup []), (.tup []), (.tup []), (.tup []), (.tup []), (.tup []), (.tup []), (.tup []), (.tup []), (.tup []), (.tup []), (.tup []), (.tup []), (.tup []), (.tup []), (.tup []), (.tup []), (.tup []), (.tup []), (.tup [])] H (kk none (fun s H => retK (([4, 5] : List Nat).map fun t => s.getD t (.tup [])) H) [] retK [4, 5]) =
  effK H (boxA H 42 x0) fun x2 H =>
  purK (ldN ρ H 6 x2) fun x14 =>
  resK (call lim 64 [x14, x1] H) fun x16 H =>
  purK (extA 0 x16) fun x17 =>
  purK (extA 1 x16) fun x18 =>
  purK (binA Tryz.prog H .neq 24 x18 (.int .i64 0)) fun x20 =>
  condK x20
  (
    retK [.nilp, x18] H)
  (
    purK (addA 3 x2) fun x23 =>
    purK (ld1 ρ H x23) fun x24 =>
    purK (addA 4 x2) fun x25 =>
    purK (ld1 ρ H x25) fun x26 =>
    resK (call lim 65 [x24, x26] H) fun x27 H =>
    purK (extA 0 x27) fun x28 =>
    purK (extA 1 x27) fun x29 =>
    J (Code.at [1, 1, 1, 1] c43) (sp 64 [(2, x2), (6, x17), (7, x29), (8, x28)]) H (kk none (fun s H => retK (([4, 5] : List Nat).map fun t => s.getD t (.tup [])) H) [] retK [4, 5])) := by
  kernel_rfl
theorem G43 (ρ : Addr → Option Value) (call : CallF) (yc : YieldF) (lim k : Nat) (x0 x1 : AV) (H : Heap) :
    evL (cx ρ) call yc false 43 lim k c43 [x0, x1, (.tup []), (.tup []), (.tup []), (.tup []), (.tup []), (.tup []), (.tup []), (.tup []), (.tup []), (.tup []), (.tup []), (.tup []), (.tup []), (.tup []), (.tup []), (.tup []), (.tup []), (.tup []), (.tup []), (.tup []), (.tup []), (.tup []), (.tup []), (.tup []), (.tup []), (.tup []), (.tup []), (.tup []), (.tup []), (.tup []), (.tup []), (.tup []), (.tup []), (.tup []), (.tup []), (.tup []), (.tup []), (.tup []), (.tup []), (.tup []), (.tup []), (.tup []), (.tup []), (.tup []), (.tup []), (.tup []), (.tup []), (.tup []), (.tup []), (.tup []), (.tup []), (.tup []), (.tup []), (.tup []), (.tup []), (.tup []), (.tup []), (.tup []), (.tup []), (.tup []), (.tup []), (.tup [])] H (kk none (fun s H => retK (([4, 5] : List Nat).map fun t => s.getD t (.tup [])) H) [] retK [4, 5]) = L43 ρ call yc lim k x0 x1 H := by
  rw [evL_X, L43_x]
  simp only [← evL_X, L43, N43_1_eq]
theorem E43 (ρ : Addr → Option Value) (k lim : Nat) (x0 x1 : AV) (H : Heap) : evCall (cx ρ) (k + 1) lim 43 [x0, x1] H = L43 ρ (evCall (cx ρ) k) (evCY (cx ρ) k).2 lim k x0 x1 H := by
  rw [evCall_body (cx ρ) k lim 43 _ H Tryz.f43 c43 [4, 5] (by kernel_rfl) (by kernel_rfl) (by kernel_rfl) (by kernel_rfl) (by kernel_rfl)]
  exact G43 ρ (evCall (cx ρ) k) (evCY (cx ρ) k).2 lim k x0 x1 H
-- (*haycroft/tail.Tail).now
noncomputable def c44 : Code := Code.of Tryz.prog 44
noncomputable def L44 (ρ : Addr → Option Value) (call : CallF) (yc : YieldF) (lim k : Nat) (x0 : AV) (H : Heap) : Res :=
  purK (nilChkA x0) fun x6 =>
  purK (addA 2 x6) fun x7 =>
  purK (ld1 ρ H x7) fun x8 =>
  resK (call lim 31 [x8, (.int .i64 0)] H) fun x9 H =>
  purK (binA Tryz.prog H .shr 52 x9 (.int .u64 32)) fun x11 =>
  purK (cvI .i64 x11) fun x12 =>
  resK (call lim 50 [(.int .i64 32)] H) fun x14 H =>
  purK (binA Tryz.prog H .and 52 x9 x14) fun x15 =>
  purK (cvI .i64 x15) fun x16 =>
  retK [x12, x16] H
theorem G44 (ρ : Addr → Option Value) (call : CallF) (yc : YieldF) (lim k : Nat) (x0 : AV) (H : Heap) :
    evL (cx ρ) call yc false 44 lim k c44 [x0, (.tup []), (.tup []), (.tup []), (.tup []), (.tup []), (.tup []), (.tup []), (.tup []), (.tup []), (.tup []), (.tup []), (.tup []), (.tup []), (.tup []), (.tup []), (.tup [])] H (kk none (fun s H => retK (([2, 3] : List Nat).map fun t => s.getD t (.tup [])) H) [] retK [2, 3]) = L44 ρ call yc lim k x0 H := by
  kernel_rfl
theorem E44 (ρ : Addr → Option Value) (k lim : Nat) (x0 : AV) (H : Heap) : evCall (cx ρ) (k + 1) lim 44 [x0] H = L44 ρ (evCall (cx ρ) k) (evCY (cx ρ) k).2 lim k x0 H := by
  rw [evCall_body (cx ρ) k lim 44 _ H Tryz.f44 c44 [2, 3] (by kernel_rfl) (by kernel_rfl) (by kernel_rfl) (by kernel_rfl) (by kernel_rfl)]
  exact G44 ρ (evCall (cx ρ) k) (evCY (cx ρ) k).2 lim k x0 H
-- (*haycroft/index.Index).all
noncomputable def c45 : Code := Code.of Tryz.prog 45
noncomputable def L45 (ρ : Addr → Option Value) (call : CallF) (yc : YieldF) (lim k : Nat) (x0 : AV) (H : Heap) : Res :=
  purK (binA Tryz.prog H .eql 49 x0 .nilp) fun x4 =>
  condK x4
  (
    retK [(.int .i64 0)] H)
  (
    purK (nilChkA x0) fun x6 =>
    purK (addA 0 x6) fun x7 =>
    purK (ld1 ρ H x7) fun x8 =>
    purK (nilChkA x0) fun x10 =>
    purK (addA 1 x10) fun x11 =>
    purK (ld1 ρ H x11) fun x12 =>
    purK (binA Tryz.prog H .add 3 x8 x12) fun x13 =>
    retK [x13] H)
theorem G45 (ρ : Addr → Option Value) (call : CallF) (yc : YieldF) (lim k : Nat) (x0 : AV) (H : Heap) :
    evL (cx ρ) call yc false 45 lim k c45 [x0, (.tup []), (.tup []), (.tup []), (.tup []), (.tup []), (.tup []), (.tup []), (.tup []), (.tup []), (.tup []), (.tup []), (.tup []), (.tup [])] H (kk none (fun s H => retK (([2] : List Nat).map fun t => s.getD t (.tup [])) H) [] retK [2]) = L45 ρ call yc lim k x0 H := by
  kernel_rfl
theorem E45 (ρ : Addr → Option Value) (k lim : Nat) (x0 : AV) (H : Heap) : evCall (cx ρ) (k + 1) lim 45 [x0] H = L45 ρ (evCall (cx ρ) k) (evCY (cx ρ) k).2 lim k x0 H := by
  rw [evCall_body (cx ρ) k lim 45 _ H Tryz.f45 c45 [2] (by kernel_rfl) (by kernel_rfl) (by kernel_rfl) (by kernel_rfl) (by kernel_rfl)]
  exact G45 ρ (evCall (cx ρ) k) (evCY (cx ρ) k).2 lim k x0 H
end Go.Proofs.YtonakeopionkkaaGreat
