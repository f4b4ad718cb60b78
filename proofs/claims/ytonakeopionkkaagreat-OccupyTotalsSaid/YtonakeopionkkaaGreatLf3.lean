/- Functions, lifted. Printed by a program of this repo. -/
import Derived.Test.YtonakeopionkkaaGreatLfTab
set_option linter.unusedVariables false
set_option linter.unusedSimpArgs false
set_option maxRecDepth 100000
set_option maxHeartbeats 4000000
namespace Go.Proofs.YtonakeopionkkaaGreat
open Go.Ev Go.RowKit
-- (*haycroft/cell.Row).Fill
noncomputable def c123 : Code := Code.of Tryz.prog 123
noncomputable def N123_1 (ρ : Addr → Option Value) (call : CallF) (yc : YieldF) (lim k : Nat) (H : Heap) (R : List AV → Heap → Res) : Res :=
  R [(.int .i64 0)] H
theorem N123_1_eq (ρ : Addr → Option Value) (call : CallF) (yc : YieldF) (lim k : Nat) (H : Heap) (R : List AV → Heap → Res) :
    evL (cx ρ) call yc false 123 lim k (Code.at [1, 1, 1] c123) (sp 36 []) H (kk none (fun s H => R (([6] : List Nat).map fun t => s.getD t (.tup [])) H) [] R [6]) = N123_1 ρ call yc lim k H R := by
  kernel_rfl
noncomputable def N123_3b (ρ : Addr → Option Value) (call : CallF) (yc : YieldF) (lim k : Nat) (x0 x1 x18 x19 x20 : AV) (H : Heap) (kn : AV → Heap → Res) (k0 : Heap → Res) : Res :=
  purK (binA Tryz.prog H .lss 3 x20 x19) fun x21_1 =>
  condK x21_1
  (
    purK (ixS 1 x18 x20) fun x23_1 =>
    purK (ld1 ρ H x23_1) fun x24_1 =>
    purK (nilChkA x0) fun x26_1 =>
    purK (addA 0 x26_1) fun x27_1 =>
    purK (ld1 ρ H x27_1) fun x28_1 =>
    purK (binA Tryz.prog H .add 3 x1 x20) fun x31_1 =>
    purK (ixS 1 x28_1 x31_1) fun x32_1 =>
    resK (call lim 149 [x32_1, x24_1] H) fun x34_1 H =>
    purK (binA Tryz.prog H .add 3 x20 (.int .i64 1)) fun x35_1 =>
    kn x35_1 H)
  (
    k0 H)
theorem N123_3b_eq (ρ : Addr → Option Value) (call : CallF) (yc : YieldF) (lim k : Nat) (x0 x1 x18 x19 x20 : AV) (H : Heap) (kn : KS) (k0 : KS) (R : List AV → Heap → Res) :
    evL (cx ρ) call yc false 123 lim k (Code.at [1, 1, 0, 1, 0, 0] c123) (sp 36 [(0, x0), (1, x1), (18, x18), (19, x19), (20, x20)]) H (kk (some [0, 1, 18, 19, 20]) kn [(0, (some []), k0)] R [6]) = N123_3b ρ call yc lim k x0 x1 x18 x19 x20 H (fun x20 H => kn (sp 36 [(0, x0), (1, x1), (18, x18), (19, x19), (20, x20)]) H) (fun H => k0 (sp 36 []) H) := by
  kernel_rfl
noncomputable def N123_3 (ρ : Addr → Option Value) (call : CallF) (yc : YieldF) (lim k : Nat) (x0 x1 x18 x19 x20 : AV) (H : Heap) (k0 : Heap → Res) : Res :=
  loopL (fun (x : AV) H kn => N123_3b ρ call yc lim k x0 x1 x18 x19 x H (fun x20 H => kn x20 H) k0) k x20 H
theorem N123_3_eq (ρ : Addr → Option Value) (call : CallF) (yc : YieldF) (lim k : Nat) (x0 x1 x18 x19 x20 : AV) (H : Heap) (kn : KS) (k0 : KS) (R : List AV → Heap → Res) :
    evL (cx ρ) call yc false 123 lim k (Code.at [1, 1, 0, 1, 0] c123) (sp 36 [(0, x0), (1, x1), (18, x18), (19, x19), (20, x20)]) H (kk (some []) kn [(0, (some []), k0)] R [6]) = N123_3 ρ call yc lim k x0 x1 x18 x19 x20 H (fun H => k0 (sp 36 []) H) := by
  have e : Code.at [1, 1, 0, 1, 0] c123 = .loop (Code.at [1, 1, 0, 1, 0, 0] c123) := by kernel_rfl
  rw [e]
  unfold N123_3
  exact loop_node [0, 1, 18, 19, 20] (fun x : AV => (sp 36 [(0, x0), (1, x1), (18, x18), (19, x19), (20, (x))])) (fun (x : AV) H kn => N123_3b ρ call yc lim k x0 x1 x18 x19 x H (fun x20 H => kn x20 H) (fun H => k0 (sp 36 []) H)) (by kernel_rfl) (fun x => by kernel_rfl) (fun x H kn => N123_3b_eq ρ call yc lim k x0 x1 x18 x19 (x) H kn k0 R) x20 (sp 36 [(0, x0), (1, x1), (18, x18), (19, x19), (20, x20)]) H (by kernel_rfl)
noncomputable def N123_2 (ρ : Addr → Option Value) (call : CallF) (yc : YieldF) (lim k : Nat) (x0 x1 x18 x19 x20 : AV) (H : Heap) (kn : Heap → Res) : Res :=
  N123_3 ρ call yc lim k x0 x1 x18 x19 x20 H kn
theorem N123_2_x (ρ : Addr → Option Value) (call : CallF) (yc : YieldF) (lim k : Nat) (J : CodeF) (x0 x1 x18 x19 x20 : AV) (H : Heap) (kn : KS) (R : List AV → Heap → Res) :
    evX (cx ρ) call yc false 123 lim k J (Code.at [1, 1, 0, 1] c123) (sp 36 [(0, x0), (1, x1), (18, x18), (19, x19), (20, x20)]) H (kk (some []) kn [] R [6]) =
  J (Code.at [1, 1, 0, 1, 0] c123) (sp 36 [(0, x0), (1, x1), (18, x18), (19, x19), (20, x20)]) H (kk (some []) kn [(0, (some []), kn)] R [6]) := by
  kernel_rfl
theorem N123_2_eq (ρ : Addr → Option Value) (call : CallF) (yc : YieldF) (lim k : Nat) (x0 x1 x18 x19 x20 : AV) (H : Heap) (kn : KS) (R : List AV → Heap → Res) :
    evL (cx ρ) call yc false 123 lim k (Code.at [1, 1, 0, 1] c123) (sp 36 [(0, x0), (1, x1), (18, x18), (19, x19), (20, x20)]) H (kk (some []) kn [] R [6]) = N123_2 ρ call yc lim k x0 x1 x18 x19 x20 H (fun H => kn (sp 36 []) H) := by
  rw [evL_X, N123_2_x]
  simp only [← evL_X, N123_2, N123_3_eq]
noncomputable def L123 (ρ : Addr → Option Value) (call : CallF) (yc : YieldF) (lim k : Nat) (x0 x1 x2 : AV) (H : Heap) : Res :=
  purK (lenS x2) fun x13 =>
  resK (call lim 150 [x0, x1, x13] H) fun x14 H =>
  purK (binA Tryz.prog H .neq 24 x14 (.int .i64 0)) fun x16 =>
  condK x16
  (
    retK [x14] H)
  (
    purK (lenS x2) fun x19 =>
    N123_2 ρ call yc lim k x0 x1 x2 x19 (.int .i64 0) H (fun H =>
      N123_1 ρ call yc lim k H retK))
theorem L123_x (ρ : Addr → Option Value) (call : CallF) (yc : YieldF) (lim k : Nat) (J : CodeF) (x0 x1 x2 : AV) (H : Heap) :
    evX (cx ρ) call yc false 123 lim k J c123 [x0, x1, x2, (.tup []), (.tup []), (.tup []), (.tup []), (.tup []), (.tup []), (.tup []), (.tup []), (.tup []), (.tup []), (.tup []), (.tup []), (.tup []), (.tup []), (.tup []), (.tup []), (.tup []), (.tup []), (.tup []), (.tup []), (.tup []), (.tup []), (.tup []), (.tup []), (.tup []), (.tup []), (.tup []), (.tup []), (.tup []), (.tup []), (.tup []), (.tup []), (.tup [])] H (kk none (fun s H => retK (([6] : List Nat).map fun t => s.getD t (.tup [])) H) [] retK [6]) =
  purK (lenS x2) fun x13 =>
  resK (call lim 150 [x0, x1, x13] H) fun x14 H =>
  purK (binA Tryz.prog H .neq 24 x14 (.int .i64 0)) fun x16 =>
  condK x16
  (
    retK [x14] H)
  (
    purK (lenS x2) fun x19 =>
    J (Code.at [1, 1, 0, 1] c123) (sp 36 [(0, x0), (1, x1), (18, x2), (19, x19), (20, (.int .i64 0))]) H (kk (some []) (fun s H => J (Code.at [1, 1, 1] c123) s H (kk none (fun s H => retK (([6] : List Nat).map fun t => s.getD t (.tup [])) H) [] retK [6])) [] retK [6])) := by
  kernel_rfl
theorem G123 (ρ : Addr → Option Value) (call : CallF) (yc : YieldF) (lim k : Nat) (x0 x1 x2 : AV) (H : Heap) :
    evL (cx ρ) call yc false 123 lim k c123 [x0, x1, x2, (.tup []), (.tup []), (.tup []), (.tup []), (.tup []), (.tup []), (.tup []), (.tup []), (.tup []), (.tup []), (.tup []), (.tup []), (.tup []), (.tup []), (.tup []), (.tup []), (.tup []), (.tup []), (.tup []), (.tup []), (.tup []), (.tup []), (.tup []), (.tup []), (.tup []), (.tup []), (.tup []), (.tup []), (.tup []), (.tup []), (.tup []), (.tup []), (.tup [])] H (kk none (fun s H => retK (([6] : List Nat).map fun t => s.getD t (.tup [])) H) [] retK [6]) = L123 ρ call yc lim k x0 x1 x2 H := by
  rw [evL_X, L123_x]
  simp only [← evL_X, L123, N123_1_eq, N123_2_eq]
theorem E123 (ρ : Addr → Option Value) (k lim : Nat) (x0 x1 x2 : AV) (H : Heap) : evCall (cx ρ) (k + 1) lim 123 [x0, x1, x2] H = L123 ρ (evCall (cx ρ) k) (evCY (cx ρ) k).2 lim k x0 x1 x2 H := by
  rw [evCall_body (cx ρ) k lim 123 _ H Tryz.f123 c123 [6] (by kernel_rfl) (by kernel_rfl) (by kernel_rfl) (by kernel_rfl) (by kernel_rfl)]
  exact G123 ρ (evCall (cx ρ) k) (evCY (cx ρ) k).2 lim k x0 x1 x2 H
-- (*haycroft/pages.Buffer).Has
noncomputable def c124 : Code := Code.of Tryz.prog 124
noncomputable def L124 (ρ : Addr → Option Value) (call : CallF) (yc : YieldF) (lim k : Nat) (x0 x1 : AV) (H : Heap) : Res :=
  purK (binA Tryz.prog H .neq 101 x0 .nilp) fun x6 =>
  boolK (wantV x6 true) fun b1 => purK (bif b1 then some x1 else some (.tup [])) fun x8 =>
  boolK (wantV x6 true) fun b2 => purK (bif b2 then binA Tryz.prog H .geq 3 x8 (.int .i64 0) else some (.tup [])) fun x9 =>
  purK (pickA x6 x9 (.bool false)) fun x10 =>
  boolK (wantV x10 true) fun b3 => purK (bif b3 then some x0 else some (.tup [])) fun x12 =>
  boolK (wantV x10 true) fun b4 => purK (bif b4 then nilChkA x12 else some (.tup [])) fun x13 =>
  boolK (wantV x10 true) fun b5 => purK (bif b5 then addA 2 x13 else some (.tup [])) fun x14 =>
  boolK (wantV x10 true) fun b6 => purK (bif b6 then ld1 ρ H x14 else some (.tup [])) fun x15 =>
  boolK (wantV x10 true) fun b7 => purK (bif b7 then some x0 else some (.tup [])) fun x16 =>
  boolK (wantV x10 true) fun b8 => purK (bif b8 then some x1 else some (.tup [])) fun x17 =>
  boolK (wantV x10 true) fun b9 => purK (bif b9 then some x1 else some (.tup [])) fun x20 =>
  boolK (wantV x10 true) fun b10 => resK (gRes (some b10) H (call lim 125 [x16, x17] H)) fun x18 H => bif !b10 || ((!b6 || agn (ld1 ρ H x14) x15) && ((!b2 || true) && true)) then
    boolK (wantV x10 true) fun b11 => resK (gRes (some b11) H (call lim 31 [x15, x18] H)) fun x19 H => bif !b11 || ((!b6 || true) && ((!b2 || true) && true)) then
      boolK (wantV x10 true) fun b12 => resK (gRes (some b12) H (call lim 127 [x20] H)) fun x21 H => bif !b12 || ((!b6 || true) && ((!b2 || true) && true)) then
        purK (gPur (wantV x10 true) (binA Tryz.prog H .eql 52 x19 x21)) fun x22 =>
        purK (pickA x10 x22 (.bool false)) fun x23 =>
        retK [x23] H
      else none
    else none
  else none
theorem G124 (ρ : Addr → Option Value) (call : CallF) (yc : YieldF) (lim k : Nat) (x0 x1 : AV) (H : Heap) :
    evL (cx ρ) call yc false 124 lim k c124 [x0, x1, (.tup []), (.tup []), (.tup []), (.tup []), (.tup []), (.tup []), (.tup []), (.tup []), (.tup []), (.tup []), (.tup []), (.tup []), (.tup []), (.tup []), (.tup []), (.tup []), (.tup []), (.tup []), (.tup []), (.tup []), (.tup []), (.tup [])] H (kk none (fun s H => retK (([4] : List Nat).map fun t => s.getD t (.tup [])) H) [] retK [4]) = L124 ρ call yc lim k x0 x1 H := by
  kernel_rfl
theorem E124 (ρ : Addr → Option Value) (k lim : Nat) (x0 x1 : AV) (H : Heap) : evCall (cx ρ) (k + 1) lim 124 [x0, x1] H = L124 ρ (evCall (cx ρ) k) (evCY (cx ρ) k).2 lim k x0 x1 H := by
  rw [evCall_body (cx ρ) k lim 124 _ H Tryz.f124 c124 [4] (by kernel_rfl) (by kernel_rfl) (by kernel_rfl) (by kernel_rfl) (by kernel_rfl)]
  exact G124 ρ (evCall (cx ρ) k) (evCY (cx ρ) k).2 lim k x0 x1 H
-- (*haycroft/pages.Buffer).frame
noncomputable def c125 : Code := Code.of Tryz.prog 125
noncomputable def L125 (ρ : Addr → Option Value) (call : CallF) (yc : YieldF) (lim k : Nat) (x0 x1 : AV) (H : Heap) : Res :=
  purK (nilChkA x0) fun x7 =>
  purK (addA 2 x7) fun x8 =>
  purK (ld1 ρ H x8) fun x9 =>
  resK (call lim 67 [x9] H) fun x10 H =>
  purK (binA Tryz.prog H .rem 3 x1 x10) fun x11 =>
  retK [x11] H
theorem G125 (ρ : Addr → Option Value) (call : CallF) (yc : YieldF) (lim k : Nat) (x0 x1 : AV) (H : Heap) :
    evL (cx ρ) call yc false 125 lim k c125 [x0, x1, (.tup []), (.tup []), (.tup []), (.tup []), (.tup []), (.tup []), (.tup []), (.tup []), (.tup []), (.tup [])] H (kk none (fun s H => retK (([4] : List Nat).map fun t => s.getD t (.tup [])) H) [] retK [4]) = L125 ρ call yc lim k x0 x1 H := by
  kernel_rfl
theorem E125 (ρ : Addr → Option Value) (k lim : Nat) (x0 x1 : AV) (H : Heap) : evCall (cx ρ) (k + 1) lim 125 [x0, x1] H = L125 ρ (evCall (cx ρ) k) (evCY (cx ρ) k).2 lim k x0 x1 H := by
  rw [evCall_body (cx ρ) k lim 125 _ H Tryz.f125 c125 [4] (by kernel_rfl) (by kernel_rfl) (by kernel_rfl) (by kernel_rfl) (by kernel_rfl)]
  exact G125 ρ (evCall (cx ρ) k) (evCY (cx ρ) k).2 lim k x0 x1 H
-- (*haycroft/cell.Row).CAS
noncomputable def c126 : Code := Code.of Tryz.prog 126
noncomputable def N126_1 (ρ : Addr → Option Value) (call : CallF) (yc : YieldF) (lim k : Nat) (x11 : AV) (H : Heap) (R : List AV → Heap → Res) : Res :=
  R [x11, (.int .i64 0)] H
theorem N126_1_eq (ρ : Addr → Option Value) (call : CallF) (yc : YieldF) (lim k : Nat) (x11 : AV) (H : Heap) (R : List AV → Heap → Res) :
    evL (cx ρ) call yc false 126 lim k (Code.at [1, 1, 1, 1] c126) (sp 37 [(11, x11)]) H (kk none (fun s H => R (([8, 9] : List Nat).map fun t => s.getD t (.tup [])) H) [] R [8, 9]) = N126_1 ρ call yc lim k x11 H R := by
  kernel_rfl
noncomputable def L126 (ρ : Addr → Option Value) (call : CallF) (yc : YieldF) (lim k : Nat) (x0 x1 x2 x3 : AV) (H : Heap) : Res :=
  resK (call lim 148 [x0, x1] H) fun x14 H =>
  purK (binA Tryz.prog H .neq 24 x14 (.int .i64 0)) fun x16 =>
  condK x16
  (
    retK [(.bool false), x14] H)
  (
    purK (nilChkA x0) fun x19 =>
    purK (addA 0 x19) fun x20 =>
    purK (ld1 ρ H x20) fun x21 =>
    purK (ixS 1 x21 x1) fun x23 =>
    resK (call lim 151 [x23, x2, x3] H) fun x26 H =>
    condK x26
    (
      purK (nilChkA x0) fun x29 =>
      purK (addA 1 x29) fun x30 =>
      resK (call lim 152 [x30, (.int .i64 1)] H) fun x31 H =>
      N126_1 ρ call yc lim k x26 H retK)
    (
      purK (nilChkA x0) fun x33 =>
      purK (addA 2 x33) fun x34 =>
      resK (call lim 152 [x34, (.int .i64 1)] H) fun x35 H =>
      N126_1 ρ call yc lim k x26 H retK))
theorem L126_x (ρ : Addr → Option Value) (call : CallF) (yc : YieldF) (lim k : Nat) (J : CodeF) (x0 x1 x2 x3 : AV) (H : Heap) :
    evX (cx ρ) call yc false 126 lim k J c126 [x0, x1, x2, x3, (.tup []), (.tup []), (.tup []), (.tup []), (.tup []), (.tup []), (.tup []), (.tup []), (.tup []), (.tup []), (.tup []), (.tup []), (.tup []), (.tup []), (.tup []), (.tup []), (.tup []), (.tup []), (.tup []), (.tup []), (.tup []), (.tup []), (.tup []), (.tup []), (.tup []), (.tup []), (.tup []), (.tup []), (.tup []), (.tup []), (.tup []), (.tup []), (.tup [])] H (kk none (fun s H => retK (([8, 9] : List Nat).map fun t => s.getD t (.tup [])) H) [] retK [8, 9]) =
  resK (call lim 148 [x0, x1] H) fun x14 H =>
  purK (binA Tryz.prog H .neq 24 x14 (.int .i64 0)) fun x16 =>
  condK x16
  (
    retK [(.bool false), x14] H)
  (
    purK (nilChkA x0) fun x19 =>
    purK (addA 0 x19) fun x20 =>
    purK (ld1 ρ H x20) fun x21 =>
    purK (ixS 1 x21 x1) fun x23 =>
    resK (call lim 151 [x23, x2, x3] H) fun x26 H =>
    condK x26
    (
      purK (nilChkA x0) fun x29 =>
      purK (addA 1 x29) fun x30 =>
      resK (call lim 152 [x30, (.int .i64 1)] H) fun x31 H =>
      J (Code.at [1, 1, 1, 1] c126) (sp 37 [(11, x26)]) H (kk none (fun s H => retK (([8, 9] : List Nat).map fun t => s.getD t (.tup [])) H) [] retK [8, 9]))
    (
      purK (nilChkA x0) fun x33 =>
      purK (addA 2 x33) fun x34 =>
      resK (call lim 152 [x34, (.int .i64 1)] H) fun x35 H =>
      J (Code.at [1, 1, 1, 1] c126) (sp 37 [(11, x26)]) H (kk none (fun s H => retK (([8, 9] : List Nat).map fun t => s.getD t (.tup [])) H) [] retK [8, 9]))) := by
  kernel_rfl
theorem G126 (ρ : Addr → Option Value) (call : CallF) (yc : YieldF) (lim k : Nat) (x0 x1 x2 x3 : AV) (H : Heap) :
    evL (cx ρ) call yc false 126 lim k c126 [x0, x1, x2, x3, (.tup []), (.tup []), (.tup []), (.tup []), (.tup []), (.tup []), (.tup []), (.tup []), (.tup []), (.tup []), (.tup []), (.tup []), (.tup []), (.tup []), (.tup []), (.tup []), (.tup []), (.tup []), (.tup []), (.tup []), (.tup []), (.tup []), (.tup []), (.tup []), (.tup []), (.tup []), (.tup []), (.tup []), (.tup []), (.tup []), (.tup []), (.tup []), (.tup [])] H (kk none (fun s H => retK (([8, 9] : List Nat).map fun t => s.getD t (.tup [])) H) [] retK [8, 9]) = L126 ρ call yc lim k x0 x1 x2 x3 H := by
  rw [evL_X, L126_x]
  simp only [← evL_X, L126, N126_1_eq]
theorem E126 (ρ : Addr → Option Value) (k lim : Nat) (x0 x1 x2 x3 : AV) (H : Heap) : evCall (cx ρ) (k + 1) lim 126 [x0, x1, x2, x3] H = L126 ρ (evCall (cx ρ) k) (evCY (cx ρ) k).2 lim k x0 x1 x2 x3 H := by
  rw [evCall_body (cx ρ) k lim 126 _ H Tryz.f126 c126 [8, 9] (by kernel_rfl) (by kernel_rfl) (by kernel_rfl) (by kernel_rfl) (by kernel_rfl)]
  exact G126 ρ (evCall (cx ρ) k) (evCY (cx ρ) k).2 lim k x0 x1 x2 x3 H
-- haycroft/pages.mark
noncomputable def c127 : Code := Code.of Tryz.prog 127
noncomputable def L127 (ρ : Addr → Option Value) (call : CallF) (yc : YieldF) (lim k : Nat) (x0 : AV) (H : Heap) : Res :=
  purK (cvI .u64 x0) fun x4 =>
  purK (binA Tryz.prog H .add 52 x4 (.int .u64 1)) fun x5 =>
  retK [x5] H
theorem G127 (ρ : Addr → Option Value) (call : CallF) (yc : YieldF) (lim k : Nat) (x0 : AV) (H : Heap) :
    evL (cx ρ) call yc false 127 lim k c127 [x0, (.tup []), (.tup []), (.tup []), (.tup []), (.tup [])] H (kk none (fun s H => retK (([2] : List Nat).map fun t => s.getD t (.tup [])) H) [] retK [2]) = L127 ρ call yc lim k x0 H := by
  kernel_rfl
theorem E127 (ρ : Addr → Option Value) (k lim : Nat) (x0 : AV) (H : Heap) : evCall (cx ρ) (k + 1) lim 127 [x0] H = L127 ρ (evCall (cx ρ) k) (evCY (cx ρ) k).2 lim k x0 H := by
  rw [evCall_body (cx ρ) k lim 127 _ H Tryz.f127 c127 [2] (by kernel_rfl) (by kernel_rfl) (by kernel_rfl) (by kernel_rfl) (by kernel_rfl)]
  exact G127 ρ (evCall (cx ρ) k) (evCY (cx ρ) k).2 lim k x0 H
-- haycroft/tail.pack
noncomputable def c145 : Code := Code.of Tryz.prog 145
noncomputable def L145 (ρ : Addr → Option Value) (call : CallF) (yc : YieldF) (lim k : Nat) (x0 x1 : AV) (H : Heap) : Res :=
  purK (cvI .u64 x0) fun x6 =>
  purK (binA Tryz.prog H .shl 52 x6 (.int .u64 32)) fun x7 =>
  purK (cvI .u64 x1) fun x9 =>
  purK (binA Tryz.prog H .or 52 x7 x9) fun x10 =>
  retK [x10] H
theorem G145 (ρ : Addr → Option Value) (call : CallF) (yc : YieldF) (lim k : Nat) (x0 x1 : AV) (H : Heap) :
    evL (cx ρ) call yc false 145 lim k c145 [x0, x1, (.tup []), (.tup []), (.tup []), (.tup []), (.tup []), (.tup []), (.tup []), (.tup []), (.tup [])] H (kk none (fun s H => retK (([4] : List Nat).map fun t => s.getD t (.tup [])) H) [] retK [4]) = L145 ρ call yc lim k x0 x1 H := by
  kernel_rfl
theorem E145 (ρ : Addr → Option Value) (k lim : Nat) (x0 x1 : AV) (H : Heap) : evCall (cx ρ) (k + 1) lim 145 [x0, x1] H = L145 ρ (evCall (cx ρ) k) (evCY (cx ρ) k).2 lim k x0 x1 H := by
  rw [evCall_body (cx ρ) k lim 145 _ H Tryz.f145 c145 [4] (by kernel_rfl) (by kernel_rfl) (by kernel_rfl) (by kernel_rfl) (by kernel_rfl)]
  exact G145 ρ (evCall (cx ρ) k) (evCY (cx ρ) k).2 lim k x0 x1 H
-- haycroft/tail.first
noncomputable def c146 : Code := Code.of Tryz.prog 146
noncomputable def L146 (ρ : Addr → Option Value) (call : CallF) (yc : YieldF) (lim k : Nat) (x0 : AV) (H : Heap) : Res :=
  purK (binA Tryz.prog H .eql 3 x0 (.int .i64 0)) fun x4 =>
  condK x4
  (
    retK [(.int .i64 1)] H)
  (
    retK [(.int .i64 0)] H)
theorem G146 (ρ : Addr → Option Value) (call : CallF) (yc : YieldF) (lim k : Nat) (x0 : AV) (H : Heap) :
    evL (cx ρ) call yc false 146 lim k c146 [x0, (.tup []), (.tup []), (.tup []), (.tup [])] H (kk none (fun s H => retK (([2] : List Nat).map fun t => s.getD t (.tup [])) H) [] retK [2]) = L146 ρ call yc lim k x0 H := by
  kernel_rfl
theorem E146 (ρ : Addr → Option Value) (k lim : Nat) (x0 : AV) (H : Heap) : evCall (cx ρ) (k + 1) lim 146 [x0] H = L146 ρ (evCall (cx ρ) k) (evCY (cx ρ) k).2 lim k x0 H := by
  rw [evCall_body (cx ρ) k lim 146 _ H Tryz.f146 c146 [2] (by kernel_rfl) (by kernel_rfl) (by kernel_rfl) (by kernel_rfl) (by kernel_rfl)]
  exact G146 ρ (evCall (cx ρ) k) (evCY (cx ρ) k).2 lim k x0 H
-- (*haycroft/cell.Row).may
noncomputable def c148 : Code := Code.of Tryz.prog 148
noncomputable def L148 (ρ : Addr → Option Value) (call : CallF) (yc : YieldF) (lim k : Nat) (x0 x1 : AV) (H : Heap) : Res :=
  purK (binA Tryz.prog H .eql 82 x0 .nilp) fun x7 =>
  condK x7
  (
    retK [(.int .i64 2)] H)
  (
    resK (call lim 47 [x0, x1] H) fun x11 H =>
    purK (unA .not x11) fun x12 =>
    condK x12
    (
      retK [(.int .i64 1)] H)
    (
      retK [(.int .i64 0)] H))
theorem G148 (ρ : Addr → Option Value) (call : CallF) (yc : YieldF) (lim k : Nat) (x0 x1 : AV) (H : Heap) :
    evL (cx ρ) call yc false 148 lim k c148 [x0, x1, (.tup []), (.tup []), (.tup []), (.tup []), (.tup []), (.tup []), (.tup []), (.tup []), (.tup []), (.tup []), (.tup [])] H (kk none (fun s H => retK (([4] : List Nat).map fun t => s.getD t (.tup [])) H) [] retK [4]) = L148 ρ call yc lim k x0 x1 H := by
  kernel_rfl
theorem E148 (ρ : Addr → Option Value) (k lim : Nat) (x0 x1 : AV) (H : Heap) : evCall (cx ρ) (k + 1) lim 148 [x0, x1] H = L148 ρ (evCall (cx ρ) k) (evCY (cx ρ) k).2 lim k x0 x1 H := by
  rw [evCall_body (cx ρ) k lim 148 _ H Tryz.f148 c148 [4] (by kernel_rfl) (by kernel_rfl) (by kernel_rfl) (by kernel_rfl) (by kernel_rfl)]
  exact G148 ρ (evCall (cx ρ) k) (evCY (cx ρ) k).2 lim k x0 x1 H
-- (*sync/atomic.Uint64).Store
noncomputable def c149 : Code := Code.of Tryz.prog 149
noncomputable def L149 (ρ : Addr → Option Value) (call : CallF) (yc : YieldF) (lim k : Nat) (x0 x1 : AV) (H : Heap) : Res :=
  purK (nilChkA x0) fun x5 =>
  purK (addA 0 x5) fun x6 =>
  resK (call lim 158 [x6, x1] H) fun x8 H =>
  retK [] H
theorem G149 (ρ : Addr → Option Value) (call : CallF) (yc : YieldF) (lim k : Nat) (x0 x1 : AV) (H : Heap) :
    evL (cx ρ) call yc false 149 lim k c149 [x0, x1, (.tup []), (.tup []), (.tup []), (.tup []), (.tup []), (.tup []), (.tup [])] H (kk none (fun s H => retK (([] : List Nat).map fun t => s.getD t (.tup [])) H) [] retK []) = L149 ρ call yc lim k x0 x1 H := by
  kernel_rfl
theorem E149 (ρ : Addr → Option Value) (k lim : Nat) (x0 x1 : AV) (H : Heap) : evCall (cx ρ) (k + 1) lim 149 [x0, x1] H = L149 ρ (evCall (cx ρ) k) (evCY (cx ρ) k).2 lim k x0 x1 H := by
  rw [evCall_body (cx ρ) k lim 149 _ H Tryz.f149 c149 [] (by kernel_rfl) (by kernel_rfl) (by kernel_rfl) (by kernel_rfl) (by kernel_rfl)]
  exact G149 ρ (evCall (cx ρ) k) (evCY (cx ρ) k).2 lim k x0 x1 H
-- (*haycroft/cell.Row).within
noncomputable def c150 : Code := Code.of Tryz.prog 150
noncomputable def N150_1 (ρ : Addr → Option Value) (call : CallF) (yc : YieldF) (lim k : Nat) (H : Heap) (R : List AV → Heap → Res) : Res :=
  R [(.int .i64 0)] H
theorem N150_1_eq (ρ : Addr → Option Value) (call : CallF) (yc : YieldF) (lim k : Nat) (H : Heap) (R : List AV → Heap → Res) :
    evL (cx ρ) call yc false 150 lim k (Code.at [1, 1] c150) (sp 25 []) H (kk none (fun s H => R (([6] : List Nat).map fun t => s.getD t (.tup [])) H) [] R [6]) = N150_1 ρ call yc lim k H R := by
  kernel_rfl
noncomputable def N150_2 (ρ : Addr → Option Value) (call : CallF) (yc : YieldF) (lim k : Nat) (x10 : AV) (H : Heap) (kn : Heap → Res) (R : List AV → Heap → Res) : Res :=
  condK x10
  (
    R [(.int .i64 1)] H)
  (
    kn H)
theorem N150_2_eq (ρ : Addr → Option Value) (call : CallF) (yc : YieldF) (lim k : Nat) (x10 : AV) (H : Heap) (kn : KS) (k0 : KS) (R : List AV → Heap → Res) :
    evL (cx ρ) call yc false 150 lim k (Code.at [1, 0, 0, 1, 1, 1] c150) (sp 25 [(10, x10)]) H (kk (some []) kn [(0, (some []), k0)] R [6]) = N150_2 ρ call yc lim k x10 H (fun H => kn (sp 25 []) H) R := by
  kernel_rfl
noncomputable def L150 (ρ : Addr → Option Value) (call : CallF) (yc : YieldF) (lim k : Nat) (x0 x1 x2 : AV) (H : Heap) : Res :=
  purK (binA Tryz.prog H .eql 82 x0 .nilp) fun x9 =>
  condK x9
  (
    retK [(.int .i64 2)] H)
  (
    purK (binA Tryz.prog H .lss 3 x2 (.int .i64 0)) fun x12 =>
    condK x12
    (
      N150_2 ρ call yc lim k x12 H (fun H =>
        N150_1 ρ call yc lim k H retK) retK)
    (
      purK (binA Tryz.prog H .lss 3 x1 (.int .i64 0)) fun x14 =>
      condK x14
      (
        N150_2 ρ call yc lim k x14 H (fun H =>
          N150_1 ρ call yc lim k H retK) retK)
      (
        resK (call lim 67 [x0] H) fun x17 H =>
        purK (binA Tryz.prog H .gtr 3 x2 x17) fun x18 =>
        condK x18
        (
          N150_2 ρ call yc lim k x18 H (fun H =>
            N150_1 ρ call yc lim k H retK) retK)
        (
          resK (call lim 67 [x0] H) fun x21 H =>
          purK (binA Tryz.prog H .sub 3 x21 x2) fun x23 =>
          purK (binA Tryz.prog H .gtr 3 x1 x23) fun x24 =>
          N150_2 ρ call yc lim k x24 H (fun H =>
            N150_1 ρ call yc lim k H retK) retK))))
theorem L150_x (ρ : Addr → Option Value) (call : CallF) (yc : YieldF) (lim k : Nat) (J : CodeF) (x0 x1 x2 : AV) (H : Heap) :
    evX (cx ρ) call yc false 150 lim k J c150 [x0, x1, x2, (.tup []), (.tup []), (.tup []), (.tup []), (.tup []), (.tup []), (.tup []), (.tup []), (.tup []), (.tup []), (.tup []), (.tup []), (.tup []), (.tup []), (.tup []), (.tup []), (.tup []), (.tup []), (.tup []), (.tup []), (.tup []), (.tup [])] H (kk none (fun s H => retK (([6] : List Nat).map fun t => s.getD t (.tup [])) H) [] retK [6]) =
  purK (binA Tryz.prog H .eql 82 x0 .nilp) fun x9 =>
  condK x9
  (
    retK [(.int .i64 2)] H)
  (
    purK (binA Tryz.prog H .lss 3 x2 (.int .i64 0)) fun x12 =>
    condK x12
    (
      J (Code.at [1, 0, 0, 1, 1, 1] c150) (sp 25 [(10, x12)]) H (kk (some []) (fun s H => J (Code.at [1, 1] c150) s H (kk none (fun s H => retK (([6] : List Nat).map fun t => s.getD t (.tup [])) H) [] retK [6])) [(0, (some []), (fun s H => J (Code.at [1, 1] c150) s H (kk none (fun s H => retK (([6] : List Nat).map fun t => s.getD t (.tup [])) H) [] retK [6])))] retK [6]))
    (
      purK (binA Tryz.prog H .lss 3 x1 (.int .i64 0)) fun x14 =>
      condK x14
      (
        J (Code.at [1, 0, 0, 1, 1, 1] c150) (sp 25 [(10, x14)]) H (kk (some []) (fun s H => J (Code.at [1, 1] c150) s H (kk none (fun s H => retK (([6] : List Nat).map fun t => s.getD t (.tup [])) H) [] retK [6])) [(0, (some []), (fun s H => J (Code.at [1, 1] c150) s H (kk none (fun s H => retK (([6] : List Nat).map fun t => s.getD t (.tup [])) H) [] retK [6])))] retK [6]))
      (
        resK (call lim 67 [x0] H) fun x17 H =>
        purK (binA Tryz.prog H .gtr 3 x2 x17) fun x18 =>
        condK x18
        (
          J (Code.at [1, 0, 0, 1, 1, 1] c150) (sp 25 [(10, x18)]) H (kk (some []) (fun s H => J (Code.at [1, 1] c150) s H (kk none (fun s H => retK (([6] : List Nat).map fun t => s.getD t (.tup [])) H) [] retK [6])) [(0, (some []), (fun s H => J (Code.at [1, 1] c150) s H (kk none (fun s H => retK (([6] : List Nat).map fun t => s.getD t (.tup [])) H) [] retK [6])))] retK [6]))
        (
          resK (call lim 67 [x0] H) fun x21 H =>
          purK (binA Tryz.prog H .sub 3 x21 x2) fun x23 =>
          purK (binA Tryz.prog H .gtr 3 x1 x23) fun x24 =>
          J (Code.at [1, 0, 0, 1, 1, 1] c150) (sp 25 [(10, x24)]) H (kk (some []) (fun s H => J (Code.at [1, 1] c150) s H (kk none (fun s H => retK (([6] : List Nat).map fun t => s.getD t (.tup [])) H) [] retK [6])) [(0, (some []), (fun s H => J (Code.at [1, 1] c150) s H (kk none (fun s H => retK (([6] : List Nat).map fun t => s.getD t (.tup [])) H) [] retK [6])))] retK [6]))))) := by
  kernel_rfl
theorem G150 (ρ : Addr → Option Value) (call : CallF) (yc : YieldF) (lim k : Nat) (x0 x1 x2 : AV) (H : Heap) :
    evL (cx ρ) call yc false 150 lim k c150 [x0, x1, x2, (.tup []), (.tup []), (.tup []), (.tup []), (.tup []), (.tup []), (.tup []), (.tup []), (.tup []), (.tup []), (.tup []), (.tup []), (.tup []), (.tup []), (.tup []), (.tup []), (.tup []), (.tup []), (.tup []), (.tup []), (.tup []), (.tup [])] H (kk none (fun s H => retK (([6] : List Nat).map fun t => s.getD t (.tup [])) H) [] retK [6]) = L150 ρ call yc lim k x0 x1 x2 H := by
  rw [evL_X, L150_x]
  simp only [← evL_X, L150, N150_1_eq, N150_2_eq]
theorem E150 (ρ : Addr → Option Value) (k lim : Nat) (x0 x1 x2 : AV) (H : Heap) : evCall (cx ρ) (k + 1) lim 150 [x0, x1, x2] H = L150 ρ (evCall (cx ρ) k) (evCY (cx ρ) k).2 lim k x0 x1 x2 H := by
  rw [evCall_body (cx ρ) k lim 150 _ H Tryz.f150 c150 [6] (by kernel_rfl) (by kernel_rfl) (by kernel_rfl) (by kernel_rfl) (by kernel_rfl)]
  exact G150 ρ (evCall (cx ρ) k) (evCY (cx ρ) k).2 lim k x0 x1 x2 H
-- (*sync/atomic.Uint64).CompareAndSwap
noncomputable def c151 : Code := Code.of Tryz.prog 151
noncomputable def L151 (ρ : Addr → Option Value) (call : CallF) (yc : YieldF) (lim k : Nat) (x0 x1 x2 : AV) (H : Heap) : Res :=
  purK (nilChkA x0) fun x8 =>
  purK (addA 0 x8) fun x9 =>
  resK (call lim 159 [x9, x1, x2] H) fun x12 H =>
  retK [x12] H
theorem G151 (ρ : Addr → Option Value) (call : CallF) (yc : YieldF) (lim k : Nat) (x0 x1 x2 : AV) (H : Heap) :
    evL (cx ρ) call yc false 151 lim k c151 [x0, x1, x2, (.tup []), (.tup []), (.tup []), (.tup []), (.tup []), (.tup []), (.tup []), (.tup []), (.tup []), (.tup [])] H (kk none (fun s H => retK (([6] : List Nat).map fun t => s.getD t (.tup [])) H) [] retK [6]) = L151 ρ call yc lim k x0 x1 x2 H := by
  kernel_rfl
theorem E151 (ρ : Addr → Option Value) (k lim : Nat) (x0 x1 x2 : AV) (H : Heap) : evCall (cx ρ) (k + 1) lim 151 [x0, x1, x2] H = L151 ρ (evCall (cx ρ) k) (evCY (cx ρ) k).2 lim k x0 x1 x2 H := by
  rw [evCall_body (cx ρ) k lim 151 _ H Tryz.f151 c151 [6] (by kernel_rfl) (by kernel_rfl) (by kernel_rfl) (by kernel_rfl) (by kernel_rfl)]
  exact G151 ρ (evCall (cx ρ) k) (evCY (cx ρ) k).2 lim k x0 x1 x2 H
-- (*sync/atomic.Int64).Add
noncomputable def c152 : Code := Code.of Tryz.prog 152
noncomputable def L152 (ρ : Addr → Option Value) (call : CallF) (yc : YieldF) (lim k : Nat) (x0 x1 : AV) (H : Heap) : Res :=
  purK (nilChkA x0) fun x6 =>
  purK (addA 0 x6) fun x7 =>
  resK (call lim 160 [x7, x1] H) fun x9 H =>
  retK [x9] H
theorem G152 (ρ : Addr → Option Value) (call : CallF) (yc : YieldF) (lim k : Nat) (x0 x1 : AV) (H : Heap) :
    evL (cx ρ) call yc false 152 lim k c152 [x0, x1, (.tup []), (.tup []), (.tup []), (.tup []), (.tup []), (.tup []), (.tup []), (.tup [])] H (kk none (fun s H => retK (([4] : List Nat).map fun t => s.getD t (.tup [])) H) [] retK [4]) = L152 ρ call yc lim k x0 x1 H := by
  kernel_rfl
theorem E152 (ρ : Addr → Option Value) (k lim : Nat) (x0 x1 : AV) (H : Heap) : evCall (cx ρ) (k + 1) lim 152 [x0, x1] H = L152 ρ (evCall (cx ρ) k) (evCY (cx ρ) k).2 lim k x0 x1 H := by
  rw [evCall_body (cx ρ) k lim 152 _ H Tryz.f152 c152 [4] (by kernel_rfl) (by kernel_rfl) (by kernel_rfl) (by kernel_rfl) (by kernel_rfl)]
  exact G152 ρ (evCall (cx ρ) k) (evCY (cx ρ) k).2 lim k x0 x1 H
end Go.Proofs.YtonakeopionkkaaGreat
