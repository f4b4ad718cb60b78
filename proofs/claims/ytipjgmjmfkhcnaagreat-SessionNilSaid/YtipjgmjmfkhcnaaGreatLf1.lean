/- Functions, lifted. Printed by a program of this repo. -/
import Derived.Test.YtipjgmjmfkhcnaaGreatLfTab
set_option linter.unusedVariables false
set_option linter.unusedSimpArgs false
set_option maxRecDepth 100000
set_option maxHeartbeats 4000000
namespace Go.Proofs.YtipjgmjmfkhcnaaGreat
open Go.Ev Go.RowKit
-- (*haycroft/cell.Row).Fill
noncomputable def c98 : Code := Code.of Tryz.prog 98
noncomputable def N98_1 (ρ : Addr → Option Value) (call : CallF) (yc : YieldF) (lim k : Nat) (H : Heap) (R : List AV → Heap → Res) : Res :=
  R [(.int .i64 0)] H
theorem N98_1_eq (ρ : Addr → Option Value) (call : CallF) (yc : YieldF) (lim k : Nat) (H : Heap) (R : List AV → Heap → Res) :
    evL (cx ρ) call yc false 98 lim k (Code.at [1, 1, 1] c98) (sp 36 []) H (kk none (fun s H => R (([6] : List Nat).map fun t => s.getD t (.tup [])) H) [] R [6]) = N98_1 ρ call yc lim k H R := by
  kernel_rfl
noncomputable def N98_3b (ρ : Addr → Option Value) (call : CallF) (yc : YieldF) (lim k : Nat) (x0 x1 x18 x19 x20 : AV) (H : Heap) (kn : AV → AV → AV → AV → AV → Heap → Res) (k0 : Heap → Res) : Res :=
  purK (binA Tryz.prog H .lss 3 x20 x19) fun x21_1 =>
  condK x21_1
  (
    purK (ixS 1 x18 x20) fun x23_1 =>
    purK (ld1 ρ H x23_1) fun x24_1 =>
    purK (nilChkA x0) fun x26_1 =>
    purK (addA 0 x26_1) fun x27_1 =>
    purK (ld1 ρ H x27_1) fun x28_1 =>
    purK (binA Tryz.prog H .add 3 x1 x20) fun x31_1 =>
    purK (ixS 1 x28_1 x31_1) fun x32_1 =>
    resK (call lim 127 [x32_1, x24_1] H) fun x34_1 H =>
    purK (binA Tryz.prog H .add 3 x20 (.int .i64 1)) fun x35_1 =>
    kn x0 x1 x18 x19 x35_1 H)
  (
    k0 H)
theorem N98_3b_eq (ρ : Addr → Option Value) (call : CallF) (yc : YieldF) (lim k : Nat) (x0 x1 x18 x19 x20 : AV) (H : Heap) (kn : KS) (k0 : KS) (R : List AV → Heap → Res) :
    evL (cx ρ) call yc false 98 lim k (Code.at [1, 1, 0, 1, 0, 0] c98) (sp 36 [(0, x0), (1, x1), (18, x18), (19, x19), (20, x20)]) H (kk (some [0, 1, 18, 19, 20]) kn [(0, (some []), k0)] R [6]) = N98_3b ρ call yc lim k x0 x1 x18 x19 x20 H (fun x0 x1 x18 x19 x20 H => kn (sp 36 [(0, x0), (1, x1), (18, x18), (19, x19), (20, x20)]) H) (fun H => k0 (sp 36 []) H) := by
  kernel_rfl
noncomputable def N98_3 (ρ : Addr → Option Value) (call : CallF) (yc : YieldF) (lim k : Nat) (x0 x1 x18 x19 x20 : AV) (H : Heap) (k0 : Heap → Res) : Res :=
  loopL (fun (x : AV) H kn => N98_3b ρ call yc lim k x0 x1 x18 x19 x H (fun _ _ _ _ x20 H => kn x20 H) k0) k x20 H
theorem N98_3_eq (ρ : Addr → Option Value) (call : CallF) (yc : YieldF) (lim k : Nat) (x0 x1 x18 x19 x20 : AV) (H : Heap) (kn : KS) (k0 : KS) (R : List AV → Heap → Res) :
    evL (cx ρ) call yc false 98 lim k (Code.at [1, 1, 0, 1, 0] c98) (sp 36 [(0, x0), (1, x1), (18, x18), (19, x19), (20, x20)]) H (kk (some []) kn [(0, (some []), k0)] R [6]) = N98_3 ρ call yc lim k x0 x1 x18 x19 x20 H (fun H => k0 (sp 36 []) H) := by
  have e : Code.at [1, 1, 0, 1, 0] c98 = .loop (Code.at [1, 1, 0, 1, 0, 0] c98) := by kernel_rfl
  rw [e]
  unfold N98_3
  exact loop_node [0, 1, 18, 19, 20] (fun x : AV => (sp 36 [(0, x0), (1, x1), (18, x18), (19, x19), (20, (x))])) (fun (x : AV) H kn => N98_3b ρ call yc lim k x0 x1 x18 x19 x H (fun _ _ _ _ x20 H => kn x20 H) (fun H => k0 (sp 36 []) H)) (by kernel_rfl) (fun x => by kernel_rfl) (fun x H kn => N98_3b_eq ρ call yc lim k x0 x1 x18 x19 (x) H kn k0 R) x20 (sp 36 [(0, x0), (1, x1), (18, x18), (19, x19), (20, x20)]) H (by kernel_rfl)
noncomputable def N98_2 (ρ : Addr → Option Value) (call : CallF) (yc : YieldF) (lim k : Nat) (x0 x1 x18 x19 x20 : AV) (H : Heap) (kn : Heap → Res) : Res :=
  N98_3 ρ call yc lim k x0 x1 x18 x19 x20 H kn
theorem N98_2_x (ρ : Addr → Option Value) (call : CallF) (yc : YieldF) (lim k : Nat) (J : CodeF) (x0 x1 x18 x19 x20 : AV) (H : Heap) (kn : KS) (R : List AV → Heap → Res) :
    evX (cx ρ) call yc false 98 lim k J (Code.at [1, 1, 0, 1] c98) (sp 36 [(0, x0), (1, x1), (18, x18), (19, x19), (20, x20)]) H (kk (some []) kn [] R [6]) =
  J (Code.at [1, 1, 0, 1, 0] c98) (sp 36 [(0, x0), (1, x1), (18, x18), (19, x19), (20, x20)]) H (kk (some []) kn [(0, (some []), kn)] R [6]) := by
  kernel_rfl
theorem N98_2_eq (ρ : Addr → Option Value) (call : CallF) (yc : YieldF) (lim k : Nat) (x0 x1 x18 x19 x20 : AV) (H : Heap) (kn : KS) (R : List AV → Heap → Res) :
    evL (cx ρ) call yc false 98 lim k (Code.at [1, 1, 0, 1] c98) (sp 36 [(0, x0), (1, x1), (18, x18), (19, x19), (20, x20)]) H (kk (some []) kn [] R [6]) = N98_2 ρ call yc lim k x0 x1 x18 x19 x20 H (fun H => kn (sp 36 []) H) := by
  rw [evL_X, N98_2_x]
  simp only [← evL_X, N98_2, N98_3_eq]
noncomputable def L98 (ρ : Addr → Option Value) (call : CallF) (yc : YieldF) (lim k : Nat) (x0 x1 x2 : AV) (H : Heap) : Res :=
  purK (lenS x2) fun x13 =>
  resK (call lim 142 [x0, x1, x13] H) fun x14 H =>
  purK (binA Tryz.prog H .neq 27 x14 (.int .i64 0)) fun x16 =>
  condK x16
  (
    retK [x14] H)
  (
    purK (lenS x2) fun x19 =>
    N98_2 ρ call yc lim k x0 x1 x2 x19 (.int .i64 0) H (fun H =>
      N98_1 ρ call yc lim k H retK))
theorem L98_x (ρ : Addr → Option Value) (call : CallF) (yc : YieldF) (lim k : Nat) (J : CodeF) (x0 x1 x2 : AV) (H : Heap) :
    evX (cx ρ) call yc false 98 lim k J c98 [x0, x1, x2, (.tup []), (.tup []), (.tup []), (.tup []), (.tup []), (.tup []), (.tup []), (.tup []), (.tup []), (.tup []), (.tup []), (.tup []), (.tup []), (.tup []), (.tup []), (.tup []), (.tup []), (.tup []), (.tup []), (.tup []), (.tup []), (.tup []), (.tup []), (.tup []), (.tup []), (.tup []), (.tup []), (.tup []), (.tup []), (.tup []), (.tup []), (.tup []), (.tup [])] H (kk none (fun s H => retK (([6] : List Nat).map fun t => s.getD t (.tup [])) H) [] retK [6]) =
  purK (lenS x2) fun x13 =>
  resK (call lim 142 [x0, x1, x13] H) fun x14 H =>
  purK (binA Tryz.prog H .neq 27 x14 (.int .i64 0)) fun x16 =>
  condK x16
  (
    retK [x14] H)
  (
    purK (lenS x2) fun x19 =>
    J (Code.at [1, 1, 0, 1] c98) (sp 36 [(0, x0), (1, x1), (18, x2), (19, x19), (20, (.int .i64 0))]) H (kk (some []) (fun s H => J (Code.at [1, 1, 1] c98) s H (kk none (fun s H => retK (([6] : List Nat).map fun t => s.getD t (.tup [])) H) [] retK [6])) [] retK [6])) := by
  kernel_rfl
theorem G98 (ρ : Addr → Option Value) (call : CallF) (yc : YieldF) (lim k : Nat) (x0 x1 x2 : AV) (H : Heap) :
    evL (cx ρ) call yc false 98 lim k c98 [x0, x1, x2, (.tup []), (.tup []), (.tup []), (.tup []), (.tup []), (.tup []), (.tup []), (.tup []), (.tup []), (.tup []), (.tup []), (.tup []), (.tup []), (.tup []), (.tup []), (.tup []), (.tup []), (.tup []), (.tup []), (.tup []), (.tup []), (.tup []), (.tup []), (.tup []), (.tup []), (.tup []), (.tup []), (.tup []), (.tup []), (.tup []), (.tup []), (.tup []), (.tup [])] H (kk none (fun s H => retK (([6] : List Nat).map fun t => s.getD t (.tup [])) H) [] retK [6]) = L98 ρ call yc lim k x0 x1 x2 H := by
  rw [evL_X, L98_x]
  simp only [← evL_X, L98, N98_1_eq, N98_2_eq]
theorem E98 (ρ : Addr → Option Value) (k lim : Nat) (x0 x1 x2 : AV) (H : Heap) : evCall (cx ρ) (k + 1) lim 98 [x0, x1, x2] H = L98 ρ (evCall (cx ρ) k) (evCY (cx ρ) k).2 lim k x0 x1 x2 H := by
  rw [evCall_body (cx ρ) k lim 98 _ H Tryz.f98 c98 [6] (by kernel_rfl) (by kernel_rfl) (by kernel_rfl) (by kernel_rfl) (by kernel_rfl)]
  exact G98 ρ (evCall (cx ρ) k) (evCY (cx ρ) k).2 lim k x0 x1 x2 H
-- (*haycroft/index.Index).Chain
noncomputable def c99 : Code := Code.of Tryz.prog 99
noncomputable def N99_1 (ρ : Addr → Option Value) (call : CallF) (yc : YieldF) (lim k : Nat) (x5 : AV) (H : Heap) (R : List AV → Heap → Res) : Res :=
  R [x5] H
theorem N99_1_eq (ρ : Addr → Option Value) (call : CallF) (yc : YieldF) (lim k : Nat) (x5 : AV) (H : Heap) (R : List AV → Heap → Res) :
    evL (cx ρ) call yc false 99 lim k (Code.at [1, 1, 1] c99) (sp 34 [(5, x5)]) H (kk none (fun s H => R (([4] : List Nat).map fun t => s.getD t (.tup [])) H) [] R [4]) = N99_1 ρ call yc lim k x5 H R := by
  kernel_rfl
noncomputable def N99_3b (ρ : Addr → Option Value) (call : CallF) (yc : YieldF) (lim k : Nat) (x0 x1 x5 x6 : AV) (H : Heap) (kn : AV → AV → AV → AV → Heap → Res) (k0 : AV → Heap → Res) : Res :=
  purK (gPur (wantV x6 true) (some x5)) fun x17_1 =>
  purK (gPur (wantV x6 true) (lenS x17_1)) fun x18_1 =>
  purK (gPur (wantV x6 true) (some x0)) fun x19_1 =>
  resK (gRes (wantV x6 true) H (call lim 143 [x19_1] H)) fun x20_1 H =>
  purK (gPur (wantV x6 true) (binA Tryz.prog H .leq 3 x18_1 x20_1)) fun x21_1 =>
  purK (pickA x6 x21_1 (.bool false)) fun x22_1 =>
  condK x22_1
  (
    effK H (bldS H 3 1 [.int .i64 0] 1 [(0, 1, x1)]) fun x25_1 H =>
    effK H (apA ρ lim H 3 1 8 x5 x25_1) fun x26_1 H =>
    resK (call lim 144 [x0, x1] H) fun x30_1 H =>
    purK (extA 0 x30_1) fun x31_1 =>
    purK (extA 1 x30_1) fun x32_1 =>
    kn x0 x31_1 x26_1 x32_1 H)
  (
    k0 x5 H)
theorem N99_3b_eq (ρ : Addr → Option Value) (call : CallF) (yc : YieldF) (lim k : Nat) (x0 x1 x5 x6 : AV) (H : Heap) (kn : KS) (k0 : KS) (R : List AV → Heap → Res) :
    evL (cx ρ) call yc false 99 lim k (Code.at [1, 1, 0, 1, 0, 0] c99) (sp 34 [(0, x0), (1, x1), (5, x5), (6, x6)]) H (kk (some [0, 1, 5, 6]) kn [(0, (some [5]), k0)] R [4]) = N99_3b ρ call yc lim k x0 x1 x5 x6 H (fun x0 x1 x5 x6 H => kn (sp 34 [(0, x0), (1, x1), (5, x5), (6, x6)]) H) (fun x5 H => k0 (sp 34 [(5, x5)]) H) := by
  kernel_rfl
noncomputable def N99_3 (ρ : Addr → Option Value) (call : CallF) (yc : YieldF) (lim k : Nat) (x0 x1 x5 x6 : AV) (H : Heap) (k0 : AV → Heap → Res) : Res :=
  loopL (fun (x : AV × AV × AV) H kn => N99_3b ρ call yc lim k x0 x.1 x.2.1 x.2.2 H (fun _ x1 x5 x6 H => kn (x1, x5, x6) H) k0) k (x1, x5, x6) H
theorem N99_3_eq (ρ : Addr → Option Value) (call : CallF) (yc : YieldF) (lim k : Nat) (x0 x1 x5 x6 : AV) (H : Heap) (kn : KS) (k0 : KS) (R : List AV → Heap → Res) :
    evL (cx ρ) call yc false 99 lim k (Code.at [1, 1, 0, 1, 0] c99) (sp 34 [(0, x0), (1, x1), (5, x5), (6, x6)]) H (kk (some [5]) kn [(0, (some [5]), k0)] R [4]) = N99_3 ρ call yc lim k x0 x1 x5 x6 H (fun x5 H => k0 (sp 34 [(5, x5)]) H) := by
  have e : Code.at [1, 1, 0, 1, 0] c99 = .loop (Code.at [1, 1, 0, 1, 0, 0] c99) := by kernel_rfl
  rw [e]
  unfold N99_3
  exact loop_node [0, 1, 5, 6] (fun x : AV × AV × AV => (sp 34 [(0, x0), (1, (x.1)), (5, (x.2.1)), (6, (x.2.2))])) (fun (x : AV × AV × AV) H kn => N99_3b ρ call yc lim k x0 x.1 x.2.1 x.2.2 H (fun _ x1 x5 x6 H => kn (x1, x5, x6) H) (fun x5 H => k0 (sp 34 [(5, x5)]) H)) (by kernel_rfl) (fun x => by kernel_rfl) (fun x H kn => N99_3b_eq ρ call yc lim k x0 (x.1) (x.2.1) (x.2.2) H kn k0 R) (x1, x5, x6) (sp 34 [(0, x0), (1, x1), (5, x5), (6, x6)]) H (by kernel_rfl)
noncomputable def N99_2 (ρ : Addr → Option Value) (call : CallF) (yc : YieldF) (lim k : Nat) (x0 x1 x5 x6 : AV) (H : Heap) (kn : AV → Heap → Res) : Res :=
  N99_3 ρ call yc lim k x0 x1 x5 x6 H kn
theorem N99_2_x (ρ : Addr → Option Value) (call : CallF) (yc : YieldF) (lim k : Nat) (J : CodeF) (x0 x1 x5 x6 : AV) (H : Heap) (kn : KS) (R : List AV → Heap → Res) :
    evX (cx ρ) call yc false 99 lim k J (Code.at [1, 1, 0, 1] c99) (sp 34 [(0, x0), (1, x1), (5, x5), (6, x6)]) H (kk (some [5]) kn [] R [4]) =
  J (Code.at [1, 1, 0, 1, 0] c99) (sp 34 [(0, x0), (1, x1), (5, x5), (6, x6)]) H (kk (some [5]) kn [(0, (some [5]), kn)] R [4]) := by
  kernel_rfl
theorem N99_2_eq (ρ : Addr → Option Value) (call : CallF) (yc : YieldF) (lim k : Nat) (x0 x1 x5 x6 : AV) (H : Heap) (kn : KS) (R : List AV → Heap → Res) :
    evL (cx ρ) call yc false 99 lim k (Code.at [1, 1, 0, 1] c99) (sp 34 [(0, x0), (1, x1), (5, x5), (6, x6)]) H (kk (some [5]) kn [] R [4]) = N99_2 ρ call yc lim k x0 x1 x5 x6 H (fun x5 H => kn (sp 34 [(5, x5)]) H) := by
  rw [evL_X, N99_2_x]
  simp only [← evL_X, N99_2, N99_3_eq]
noncomputable def L99 (ρ : Addr → Option Value) (call : CallF) (yc : YieldF) (lim k : Nat) (x0 x1 : AV) (H : Heap) : Res :=
  purK (binA Tryz.prog H .geq 3 x1 (.int .i64 0)) fun x8 =>
  purK (gPur (wantV x8 true) (some x1)) fun x10 =>
  purK (gPur (wantV x8 true) (some x0)) fun x11 =>
  resK (gRes (wantV x8 true) H (call lim 143 [x11] H)) fun x12 H =>
  purK (gPur (wantV x8 true) (binA Tryz.prog H .lss 3 x10 x12)) fun x13 =>
  purK (pickA x8 x13 (.bool false)) fun x14 =>
  N99_2 ρ call yc lim k x0 x1 .nils x14 H (fun x5 H =>
    N99_1 ρ call yc lim k x5 H retK)
theorem L99_x (ρ : Addr → Option Value) (call : CallF) (yc : YieldF) (lim k : Nat) (J : CodeF) (x0 x1 : AV) (H : Heap) :
    evX (cx ρ) call yc false 99 lim k J c99 [x0, x1, (.tup []), (.tup []), (.tup []), (.tup []), (.tup []), (.tup []), (.tup []), (.tup []), (.tup []), (.tup []), (.tup []), (.tup []), (.tup []), (.tup []), (.tup []), (.tup []), (.tup []), (.tup []), (.tup []), (.tup []), (.tup []), (.tup []), (.tup []), (.tup []), (.tup []), (.tup []), (.tup []), (.tup []), (.tup []), (.tup []), (.tup []), (.tup [])] H (kk none (fun s H => retK (([4] : List Nat).map fun t => s.getD t (.tup [])) H) [] retK [4]) =
  purK (binA Tryz.prog H .geq 3 x1 (.int .i64 0)) fun x8 =>
  purK (gPur (wantV x8 true) (some x1)) fun x10 =>
  purK (gPur (wantV x8 true) (some x0)) fun x11 =>
  resK (gRes (wantV x8 true) H (call lim 143 [x11] H)) fun x12 H =>
  purK (gPur (wantV x8 true) (binA Tryz.prog H .lss 3 x10 x12)) fun x13 =>
  purK (pickA x8 x13 (.bool false)) fun x14 =>
  J (Code.at [1, 1, 0, 1] c99) (sp 34 [(0, x0), (1, x1), (5, .nils), (6, x14)]) H (kk (some [5]) (fun s H => J (Code.at [1, 1, 1] c99) s H (kk none (fun s H => retK (([4] : List Nat).map fun t => s.getD t (.tup [])) H) [] retK [4])) [] retK [4]) := by
  kernel_rfl
theorem G99 (ρ : Addr → Option Value) (call : CallF) (yc : YieldF) (lim k : Nat) (x0 x1 : AV) (H : Heap) :
    evL (cx ρ) call yc false 99 lim k c99 [x0, x1, (.tup []), (.tup []), (.tup []), (.tup []), (.tup []), (.tup []), (.tup []), (.tup []), (.tup []), (.tup []), (.tup []), (.tup []), (.tup []), (.tup []), (.tup []), (.tup []), (.tup []), (.tup []), (.tup []), (.tup []), (.tup []), (.tup []), (.tup []), (.tup []), (.tup []), (.tup []), (.tup []), (.tup []), (.tup []), (.tup []), (.tup []), (.tup [])] H (kk none (fun s H => retK (([4] : List Nat).map fun t => s.getD t (.tup [])) H) [] retK [4]) = L99 ρ call yc lim k x0 x1 H := by
  rw [evL_X, L99_x]
  simp only [← evL_X, L99, N99_1_eq, N99_2_eq]
theorem E99 (ρ : Addr → Option Value) (k lim : Nat) (x0 x1 : AV) (H : Heap) : evCall (cx ρ) (k + 1) lim 99 [x0, x1] H = L99 ρ (evCall (cx ρ) k) (evCY (cx ρ) k).2 lim k x0 x1 H := by
  rw [evCall_body (cx ρ) k lim 99 _ H Tryz.f99 c99 [4] (by kernel_rfl) (by kernel_rfl) (by kernel_rfl) (by kernel_rfl) (by kernel_rfl)]
  exact G99 ρ (evCall (cx ρ) k) (evCY (cx ρ) k).2 lim k x0 x1 H
-- haycroft/mix.Bucket
noncomputable def c100 : Code := Code.of Tryz.prog 100
noncomputable def L100 (ρ : Addr → Option Value) (call : CallF) (yc : YieldF) (lim k : Nat) (x0 x1 : AV) (H : Heap) : Res :=
  resK (call lim 60 [x1] H) fun x6 H =>
  purK (unA .not x6) fun x7 =>
  condK x7
  (
    retK [(.int .i64 0)] H)
  (
    purK (binA Tryz.prog H .sub 3 x1 (.int .i64 1)) fun x10 =>
    purK (cvI .u64 x10) fun x11 =>
    purK (binA Tryz.prog H .and 22 x0 x11) fun x12 =>
    purK (cvI .i64 x12) fun x13 =>
    retK [x13] H)
theorem G100 (ρ : Addr → Option Value) (call : CallF) (yc : YieldF) (lim k : Nat) (x0 x1 : AV) (H : Heap) :
    evL (cx ρ) call yc false 100 lim k c100 [x0, x1, (.tup []), (.tup []), (.tup []), (.tup []), (.tup []), (.tup []), (.tup []), (.tup []), (.tup []), (.tup []), (.tup []), (.tup [])] H (kk none (fun s H => retK (([4] : List Nat).map fun t => s.getD t (.tup [])) H) [] retK [4]) = L100 ρ call yc lim k x0 x1 H := by
  kernel_rfl
theorem E100 (ρ : Addr → Option Value) (k lim : Nat) (x0 x1 : AV) (H : Heap) : evCall (cx ρ) (k + 1) lim 100 [x0, x1] H = L100 ρ (evCall (cx ρ) k) (evCY (cx ρ) k).2 lim k x0 x1 H := by
  rw [evCall_body (cx ρ) k lim 100 _ H Tryz.f100 c100 [4] (by kernel_rfl) (by kernel_rfl) (by kernel_rfl) (by kernel_rfl) (by kernel_rfl)]
  exact G100 ρ (evCall (cx ρ) k) (evCY (cx ρ) k).2 lim k x0 x1 H
-- haycroft/index.slots
noncomputable def c101 : Code := Code.of Tryz.prog 101
noncomputable def N101_1 (ρ : Addr → Option Value) (call : CallF) (yc : YieldF) (lim k : Nat) (x3 : AV) (H : Heap) (R : List AV → Heap → Res) : Res :=
  R [x3] H
theorem N101_1_eq (ρ : Addr → Option Value) (call : CallF) (yc : YieldF) (lim k : Nat) (x3 : AV) (H : Heap) (R : List AV → Heap → Res) :
    evL (cx ρ) call yc false 101 lim k (Code.at [1, 1, 1] c101) (sp 26 [(3, x3)]) H (kk none (fun s H => R (([2] : List Nat).map fun t => s.getD t (.tup [])) H) [] R [2]) = N101_1 ρ call yc lim k x3 H R := by
  kernel_rfl
noncomputable def N101_4 (ρ : Addr → Option Value) (call : CallF) (yc : YieldF) (lim k : Nat) (x3 x7 x8 x9 : AV) (H : Heap) (kn : AV → AV → AV → AV → Heap → Res) : Res :=
  purK (binA Tryz.prog H .add 3 x9 (.int .i64 1)) fun x24_1 =>
  kn x3 x7 x8 x24_1 H
theorem N101_4_eq (ρ : Addr → Option Value) (call : CallF) (yc : YieldF) (lim k : Nat) (x3 x7 x8 x9 : AV) (H : Heap) (kn : KS) (k0 : KS) (R : List AV → Heap → Res) :
    evL (cx ρ) call yc false 101 lim k (Code.at [1, 1, 0, 1, 0, 0, 1, 1, 1] c101) (sp 26 [(3, x3), (7, x7), (8, x8), (9, x9)]) H (kk (some [3, 7, 8, 9]) kn [(0, (some [3]), k0)] R [2]) = N101_4 ρ call yc lim k x3 x7 x8 x9 H (fun x3 x7 x8 x9 H => kn (sp 26 [(3, x3), (7, x7), (8, x8), (9, x9)]) H) := by
  kernel_rfl
noncomputable def N101_6b (ρ : Addr → Option Value) (call : CallF) (yc : YieldF) (lim k : Nat) (x3 x5 x7 x8 x9 x13 : AV) (H : Heap) (kn : AV → AV → AV → AV → AV → AV → Heap → Res) (k2 : AV → AV → AV → AV → Heap → Res) : Res :=
  purK (binA Tryz.prog H .lss 3 x13 (.int .i64 7)) fun x14_1 =>
  condK x14_1
  (
    purK (binA Tryz.prog H .mul 3 x5 (.int .i64 8)) fun x18_1 =>
    purK (binA Tryz.prog H .add 3 x18_1 x13) fun x20_1 =>
    effK H (bldS H 3 1 [.int .i64 0] 1 [(0, 1, x20_1)]) fun x21_1 H =>
    effK H (apA ρ lim H 3 1 8 x3 x21_1) fun x22_1 H =>
    purK (binA Tryz.prog H .add 3 x13 (.int .i64 1)) fun x23_1 =>
    kn x22_1 x5 x7 x8 x9 x23_1 H)
  (
    k2 x3 x7 x8 x9 H)
theorem N101_6b_eq (ρ : Addr → Option Value) (call : CallF) (yc : YieldF) (lim k : Nat) (x3 x5 x7 x8 x9 x13 : AV) (H : Heap) (kn : KS) (k2 : KS) (k1 : KS) (k0 : KS) (R : List AV → Heap → Res) :
    evL (cx ρ) call yc false 101 lim k (Code.at [1, 1, 0, 1, 0, 0, 1, 1, 0, 0, 1, 1, 0, 0] c101) (sp 26 [(3, x3), (5, x5), (7, x7), (8, x8), (9, x9), (13, x13)]) H (kk (some [3, 5, 7, 8, 9, 13]) kn [(2, (some [3, 7, 8, 9]), k2), (1, (some [3, 7, 8, 9]), k1), (0, (some [3]), k0)] R [2]) = N101_6b ρ call yc lim k x3 x5 x7 x8 x9 x13 H (fun x3 x5 x7 x8 x9 x13 H => kn (sp 26 [(3, x3), (5, x5), (7, x7), (8, x8), (9, x9), (13, x13)]) H) (fun x3 x7 x8 x9 H => k2 (sp 26 [(3, x3), (7, x7), (8, x8), (9, x9)]) H) := by
  kernel_rfl
noncomputable def N101_6 (ρ : Addr → Option Value) (call : CallF) (yc : YieldF) (lim k : Nat) (x3 x5 x7 x8 x9 x13 : AV) (H : Heap) (k2 : AV → AV → AV → AV → Heap → Res) : Res :=
  loopL (fun (x : AV × AV) H kn => N101_6b ρ call yc lim k x.1 x5 x7 x8 x9 x.2 H (fun x3 _ _ _ _ x13 H => kn (x3, x13) H) k2) k (x3, x13) H
theorem N101_6_eq (ρ : Addr → Option Value) (call : CallF) (yc : YieldF) (lim k : Nat) (x3 x5 x7 x8 x9 x13 : AV) (H : Heap) (kn : KS) (k2 : KS) (k1 : KS) (k0 : KS) (R : List AV → Heap → Res) :
    evL (cx ρ) call yc false 101 lim k (Code.at [1, 1, 0, 1, 0, 0, 1, 1, 0, 0, 1, 1, 0] c101) (sp 26 [(3, x3), (5, x5), (7, x7), (8, x8), (9, x9), (13, x13)]) H (kk (some [3, 7, 8, 9]) kn [(2, (some [3, 7, 8, 9]), k2), (1, (some [3, 7, 8, 9]), k1), (0, (some [3]), k0)] R [2]) = N101_6 ρ call yc lim k x3 x5 x7 x8 x9 x13 H (fun x3 x7 x8 x9 H => k2 (sp 26 [(3, x3), (7, x7), (8, x8), (9, x9)]) H) := by
  have e : Code.at [1, 1, 0, 1, 0, 0, 1, 1, 0, 0, 1, 1, 0] c101 = .loop (Code.at [1, 1, 0, 1, 0, 0, 1, 1, 0, 0, 1, 1, 0, 0] c101) := by kernel_rfl
  rw [e]
  unfold N101_6
  exact loop_node [3, 5, 7, 8, 9, 13] (fun x : AV × AV => (sp 26 [(3, (x.1)), (5, x5), (7, x7), (8, x8), (9, x9), (13, (x.2))])) (fun (x : AV × AV) H kn => N101_6b ρ call yc lim k x.1 x5 x7 x8 x9 x.2 H (fun x3 _ _ _ _ x13 H => kn (x3, x13) H) (fun x3 x7 x8 x9 H => k2 (sp 26 [(3, x3), (7, x7), (8, x8), (9, x9)]) H)) (by kernel_rfl) (fun x => by kernel_rfl) (fun x H kn => N101_6b_eq ρ call yc lim k (x.1) x5 x7 x8 x9 (x.2) H kn k2 k1 k0 R) (x3, x13) (sp 26 [(3, x3), (5, x5), (7, x7), (8, x8), (9, x9), (13, x13)]) H (by kernel_rfl)
noncomputable def N101_5 (ρ : Addr → Option Value) (call : CallF) (yc : YieldF) (lim k : Nat) (x3 x5 x7 x8 x9 x13 : AV) (H : Heap) (kn : AV → AV → AV → AV → Heap → Res) : Res :=
  N101_6 ρ call yc lim k x3 x5 x7 x8 x9 x13 H kn
theorem N101_5_x (ρ : Addr → Option Value) (call : CallF) (yc : YieldF) (lim k : Nat) (J : CodeF) (x3 x5 x7 x8 x9 x13 : AV) (H : Heap) (kn : KS) (k1 : KS) (k0 : KS) (R : List AV → Heap → Res) :
    evX (cx ρ) call yc false 101 lim k J (Code.at [1, 1, 0, 1, 0, 0, 1, 1, 0, 0, 1, 1] c101) (sp 26 [(3, x3), (5, x5), (7, x7), (8, x8), (9, x9), (13, x13)]) H (kk (some [3, 7, 8, 9]) kn [(1, (some [3, 7, 8, 9]), k1), (0, (some [3]), k0)] R [2]) =
  J (Code.at [1, 1, 0, 1, 0, 0, 1, 1, 0, 0, 1, 1, 0] c101) (sp 26 [(3, x3), (5, x5), (7, x7), (8, x8), (9, x9), (13, x13)]) H (kk (some [3, 7, 8, 9]) kn [(2, (some [3, 7, 8, 9]), kn), (1, (some [3, 7, 8, 9]), k1), (0, (some [3]), k0)] R [2]) := by
  kernel_rfl
theorem N101_5_eq (ρ : Addr → Option Value) (call : CallF) (yc : YieldF) (lim k : Nat) (x3 x5 x7 x8 x9 x13 : AV) (H : Heap) (kn : KS) (k1 : KS) (k0 : KS) (R : List AV → Heap → Res) :
    evL (cx ρ) call yc false 101 lim k (Code.at [1, 1, 0, 1, 0, 0, 1, 1, 0, 0, 1, 1] c101) (sp 26 [(3, x3), (5, x5), (7, x7), (8, x8), (9, x9), (13, x13)]) H (kk (some [3, 7, 8, 9]) kn [(1, (some [3, 7, 8, 9]), k1), (0, (some [3]), k0)] R [2]) = N101_5 ρ call yc lim k x3 x5 x7 x8 x9 x13 H (fun x3 x7 x8 x9 H => kn (sp 26 [(3, x3), (7, x7), (8, x8), (9, x9)]) H) := by
  rw [evL_X, N101_5_x]
  simp only [← evL_X, N101_5, N101_6_eq]
noncomputable def N101_3b (ρ : Addr → Option Value) (call : CallF) (yc : YieldF) (lim k : Nat) (x3 x7 x8 x9 : AV) (H : Heap) (kn : AV → AV → AV → AV → Heap → Res) (k0 : AV → Heap → Res) : Res :=
  purK (binA Tryz.prog H .lss 3 x9 x8) fun x10_1 =>
  condK x10_1
  (
    purK (ixS 1 x7 x9) fun x11_1 =>
    purK (ld1 ρ H x11_1) fun x12_1 =>
    N101_5 ρ call yc lim k x3 x12_1 x7 x8 x9 (.int .i64 0) H (fun x3_1 x7_1 x8_1 x9_1 H =>
      N101_4 ρ call yc lim k x3_1 x7_1 x8_1 x9_1 H kn))
  (
    k0 x3 H)
theorem N101_3b_x (ρ : Addr → Option Value) (call : CallF) (yc : YieldF) (lim k : Nat) (J : CodeF) (x3 x7 x8 x9 : AV) (H : Heap) (kn : KS) (k0 : KS) (R : List AV → Heap → Res) :
    evX (cx ρ) call yc false 101 lim k J (Code.at [1, 1, 0, 1, 0, 0] c101) (sp 26 [(3, x3), (7, x7), (8, x8), (9, x9)]) H (kk (some [3, 7, 8, 9]) kn [(0, (some [3]), k0)] R [2]) =
  purK (binA Tryz.prog H .lss 3 x9 x8) fun x10_1 =>
  condK x10_1
  (
    purK (ixS 1 x7 x9) fun x11_1 =>
    purK (ld1 ρ H x11_1) fun x12_1 =>
    J (Code.at [1, 1, 0, 1, 0, 0, 1, 1, 0, 0, 1, 1] c101) (sp 26 [(3, x3), (5, x12_1), (7, x7), (8, x8), (9, x9), (13, (.int .i64 0))]) H (kk (some [3, 7, 8, 9]) (fun s H => J (Code.at [1, 1, 0, 1, 0, 0, 1, 1, 1] c101) s H (kk (some [3, 7, 8, 9]) kn [(0, (some [3]), k0)] R [2])) [(1, (some [3, 7, 8, 9]), (fun s H => J (Code.at [1, 1, 0, 1, 0, 0, 1, 1, 1] c101) s H (kk (some [3, 7, 8, 9]) kn [(0, (some [3]), k0)] R [2]))), (0, (some [3]), k0)] R [2]))
  (
    k0 (sp 26 [(3, x3)]) H) := by
  kernel_rfl
theorem N101_3b_eq (ρ : Addr → Option Value) (call : CallF) (yc : YieldF) (lim k : Nat) (x3 x7 x8 x9 : AV) (H : Heap) (kn : KS) (k0 : KS) (R : List AV → Heap → Res) :
    evL (cx ρ) call yc false 101 lim k (Code.at [1, 1, 0, 1, 0, 0] c101) (sp 26 [(3, x3), (7, x7), (8, x8), (9, x9)]) H (kk (some [3, 7, 8, 9]) kn [(0, (some [3]), k0)] R [2]) = N101_3b ρ call yc lim k x3 x7 x8 x9 H (fun x3 x7 x8 x9 H => kn (sp 26 [(3, x3), (7, x7), (8, x8), (9, x9)]) H) (fun x3 H => k0 (sp 26 [(3, x3)]) H) := by
  rw [evL_X, N101_3b_x]
  simp only [← evL_X, N101_3b, N101_4_eq, N101_5_eq]
noncomputable def N101_3 (ρ : Addr → Option Value) (call : CallF) (yc : YieldF) (lim k : Nat) (x3 x7 x8 x9 : AV) (H : Heap) (k0 : AV → Heap → Res) : Res :=
  loopL (fun (x : AV × AV) H kn => N101_3b ρ call yc lim k x.1 x7 x8 x.2 H (fun x3 _ _ x9 H => kn (x3, x9) H) k0) k (x3, x9) H
theorem N101_3_eq (ρ : Addr → Option Value) (call : CallF) (yc : YieldF) (lim k : Nat) (x3 x7 x8 x9 : AV) (H : Heap) (kn : KS) (k0 : KS) (R : List AV → Heap → Res) :
    evL (cx ρ) call yc false 101 lim k (Code.at [1, 1, 0, 1, 0] c101) (sp 26 [(3, x3), (7, x7), (8, x8), (9, x9)]) H (kk (some [3]) kn [(0, (some [3]), k0)] R [2]) = N101_3 ρ call yc lim k x3 x7 x8 x9 H (fun x3 H => k0 (sp 26 [(3, x3)]) H) := by
  have e : Code.at [1, 1, 0, 1, 0] c101 = .loop (Code.at [1, 1, 0, 1, 0, 0] c101) := by kernel_rfl
  rw [e]
  unfold N101_3
  exact loop_node [3, 7, 8, 9] (fun x : AV × AV => (sp 26 [(3, (x.1)), (7, x7), (8, x8), (9, (x.2))])) (fun (x : AV × AV) H kn => N101_3b ρ call yc lim k x.1 x7 x8 x.2 H (fun x3 _ _ x9 H => kn (x3, x9) H) (fun x3 H => k0 (sp 26 [(3, x3)]) H)) (by kernel_rfl) (fun x => by kernel_rfl) (fun x H kn => N101_3b_eq ρ call yc lim k (x.1) x7 x8 (x.2) H kn k0 R) (x3, x9) (sp 26 [(3, x3), (7, x7), (8, x8), (9, x9)]) H (by kernel_rfl)
noncomputable def N101_2 (ρ : Addr → Option Value) (call : CallF) (yc : YieldF) (lim k : Nat) (x3 x7 x8 x9 : AV) (H : Heap) (kn : AV → Heap → Res) : Res :=
  N101_3 ρ call yc lim k x3 x7 x8 x9 H kn
theorem N101_2_x (ρ : Addr → Option Value) (call : CallF) (yc : YieldF) (lim k : Nat) (J : CodeF) (x3 x7 x8 x9 : AV) (H : Heap) (kn : KS) (R : List AV → Heap → Res) :
    evX (cx ρ) call yc false 101 lim k J (Code.at [1, 1, 0, 1] c101) (sp 26 [(3, x3), (7, x7), (8, x8), (9, x9)]) H (kk (some [3]) kn [] R [2]) =
  J (Code.at [1, 1, 0, 1, 0] c101) (sp 26 [(3, x3), (7, x7), (8, x8), (9, x9)]) H (kk (some [3]) kn [(0, (some [3]), kn)] R [2]) := by
  kernel_rfl
theorem N101_2_eq (ρ : Addr → Option Value) (call : CallF) (yc : YieldF) (lim k : Nat) (x3 x7 x8 x9 : AV) (H : Heap) (kn : KS) (R : List AV → Heap → Res) :
    evL (cx ρ) call yc false 101 lim k (Code.at [1, 1, 0, 1] c101) (sp 26 [(3, x3), (7, x7), (8, x8), (9, x9)]) H (kk (some [3]) kn [] R [2]) = N101_2 ρ call yc lim k x3 x7 x8 x9 H (fun x3 H => kn (sp 26 [(3, x3)]) H) := by
  rw [evL_X, N101_2_x]
  simp only [← evL_X, N101_2, N101_3_eq]
noncomputable def L101 (ρ : Addr → Option Value) (call : CallF) (yc : YieldF) (lim k : Nat) (x0 : AV) (H : Heap) : Res :=
  purK (lenS x0) fun x8 =>
  N101_2 ρ call yc lim k .nils x0 x8 (.int .i64 0) H (fun x3 H =>
    N101_1 ρ call yc lim k x3 H retK)
theorem L101_x (ρ : Addr → Option Value) (call : CallF) (yc : YieldF) (lim k : Nat) (J : CodeF) (x0 : AV) (H : Heap) :
    evX (cx ρ) call yc false 101 lim k J c101 [x0, (.tup []), (.tup []), (.tup []), (.tup []), (.tup []), (.tup []), (.tup []), (.tup []), (.tup []), (.tup []), (.tup []), (.tup []), (.tup []), (.tup []), (.tup []), (.tup []), (.tup []), (.tup []), (.tup []), (.tup []), (.tup []), (.tup []), (.tup []), (.tup []), (.tup [])] H (kk none (fun s H => retK (([2] : List Nat).map fun t => s.getD t (.tup [])) H) [] retK [2]) =
  purK (lenS x0) fun x8 =>
  J (Code.at [1, 1, 0, 1] c101) (sp 26 [(3, .nils), (7, x0), (8, x8), (9, (.int .i64 0))]) H (kk (some [3]) (fun s H => J (Code.at [1, 1, 1] c101) s H (kk none (fun s H => retK (([2] : List Nat).map fun t => s.getD t (.tup [])) H) [] retK [2])) [] retK [2]) := by
  kernel_rfl
theorem G101 (ρ : Addr → Option Value) (call : CallF) (yc : YieldF) (lim k : Nat) (x0 : AV) (H : Heap) :
    evL (cx ρ) call yc false 101 lim k c101 [x0, (.tup []), (.tup []), (.tup []), (.tup []), (.tup []), (.tup []), (.tup []), (.tup []), (.tup []), (.tup []), (.tup []), (.tup []), (.tup []), (.tup []), (.tup []), (.tup []), (.tup []), (.tup []), (.tup []), (.tup []), (.tup []), (.tup []), (.tup []), (.tup []), (.tup [])] H (kk none (fun s H => retK (([2] : List Nat).map fun t => s.getD t (.tup [])) H) [] retK [2]) = L101 ρ call yc lim k x0 H := by
  rw [evL_X, L101_x]
  simp only [← evL_X, L101, N101_1_eq, N101_2_eq]
theorem E101 (ρ : Addr → Option Value) (k lim : Nat) (x0 : AV) (H : Heap) : evCall (cx ρ) (k + 1) lim 101 [x0] H = L101 ρ (evCall (cx ρ) k) (evCY (cx ρ) k).2 lim k x0 H := by
  rw [evCall_body (cx ρ) k lim 101 _ H Tryz.f101 c101 [2] (by kernel_rfl) (by kernel_rfl) (by kernel_rfl) (by kernel_rfl) (by kernel_rfl)]
  exact G101 ρ (evCall (cx ρ) k) (evCY (cx ρ) k).2 lim k x0 H
-- slices.IndexFunc[[]int,int]
noncomputable def c102 : Code := Code.of Tryz.prog 102
noncomputable def N102_1 (ρ : Addr → Option Value) (call : CallF) (yc : YieldF) (lim k : Nat) (H : Heap) (R : List AV → Heap → Res) : Res :=
  R [(.int .i64 (-1))] H
theorem N102_1_eq (ρ : Addr → Option Value) (call : CallF) (yc : YieldF) (lim k : Nat) (H : Heap) (R : List AV → Heap → Res) :
    evL (cx ρ) call yc false 102 lim k (Code.at [1, 1] c102) (sp 19 []) H (kk none (fun s H => R (([4] : List Nat).map fun t => s.getD t (.tup [])) H) [] R [4]) = N102_1 ρ call yc lim k H R := by
  kernel_rfl
noncomputable def N102_3b (ρ : Addr → Option Value) (call : CallF) (yc : YieldF) (lim k : Nat) (x0 x1 x7 x8 : AV) (H : Heap) (kn : AV → AV → AV → AV → Heap → Res) (k0 : Heap → Res) (R : List AV → Heap → Res) : Res :=
  purK (binA Tryz.prog H .lss 3 x8 x7) fun x9_1 =>
  condK x9_1
  (
    purK (ixS 1 x0 x8) fun x14_1 =>
    purK (ld1 ρ H x14_1) fun x15_1 =>
    valK call yc lim x1 [x15_1] H fun x16_1 H =>
    condK x16_1
    (
      R [x8] H)
    (
      purK (binA Tryz.prog H .add 3 x8 (.int .i64 1)) fun x18_1 =>
      kn x0 x1 x7 x18_1 H))
  (
    k0 H)
theorem N102_3b_eq (ρ : Addr → Option Value) (call : CallF) (yc : YieldF) (lim k : Nat) (x0 x1 x7 x8 : AV) (H : Heap) (kn : KS) (k0 : KS) (R : List AV → Heap → Res) :
    evL (cx ρ) call yc false 102 lim k (Code.at [1, 0, 1, 0, 0] c102) (sp 19 [(0, x0), (1, x1), (7, x7), (8, x8)]) H (kk (some [0, 1, 7, 8]) kn [(0, (some []), k0)] R [4]) = N102_3b ρ call yc lim k x0 x1 x7 x8 H (fun x0 x1 x7 x8 H => kn (sp 19 [(0, x0), (1, x1), (7, x7), (8, x8)]) H) (fun H => k0 (sp 19 []) H) R := by
  kernel_rfl
noncomputable def N102_3 (ρ : Addr → Option Value) (call : CallF) (yc : YieldF) (lim k : Nat) (x0 x1 x7 x8 : AV) (H : Heap) (k0 : Heap → Res) (R : List AV → Heap → Res) : Res :=
  loopL (fun (x : AV) H kn => N102_3b ρ call yc lim k x0 x1 x7 x H (fun _ _ _ x8 H => kn x8 H) k0 R) k x8 H
theorem N102_3_eq (ρ : Addr → Option Value) (call : CallF) (yc : YieldF) (lim k : Nat) (x0 x1 x7 x8 : AV) (H : Heap) (kn : KS) (k0 : KS) (R : List AV → Heap → Res) :
    evL (cx ρ) call yc false 102 lim k (Code.at [1, 0, 1, 0] c102) (sp 19 [(0, x0), (1, x1), (7, x7), (8, x8)]) H (kk (some []) kn [(0, (some []), k0)] R [4]) = N102_3 ρ call yc lim k x0 x1 x7 x8 H (fun H => k0 (sp 19 []) H) R := by
  have e : Code.at [1, 0, 1, 0] c102 = .loop (Code.at [1, 0, 1, 0, 0] c102) := by kernel_rfl
  rw [e]
  unfold N102_3
  exact loop_node [0, 1, 7, 8] (fun x : AV => (sp 19 [(0, x0), (1, x1), (7, x7), (8, (x))])) (fun (x : AV) H kn => N102_3b ρ call yc lim k x0 x1 x7 x H (fun _ _ _ x8 H => kn x8 H) (fun H => k0 (sp 19 []) H) R) (by kernel_rfl) (fun x => by kernel_rfl) (fun x H kn => N102_3b_eq ρ call yc lim k x0 x1 x7 (x) H kn k0 R) x8 (sp 19 [(0, x0), (1, x1), (7, x7), (8, x8)]) H (by kernel_rfl)
noncomputable def N102_2 (ρ : Addr → Option Value) (call : CallF) (yc : YieldF) (lim k : Nat) (x0 x1 x7 x8 : AV) (H : Heap) (kn : Heap → Res) (R : List AV → Heap → Res) : Res :=
  N102_3 ρ call yc lim k x0 x1 x7 x8 H kn R
theorem N102_2_x (ρ : Addr → Option Value) (call : CallF) (yc : YieldF) (lim k : Nat) (J : CodeF) (x0 x1 x7 x8 : AV) (H : Heap) (kn : KS) (R : List AV → Heap → Res) :
    evX (cx ρ) call yc false 102 lim k J (Code.at [1, 0, 1] c102) (sp 19 [(0, x0), (1, x1), (7, x7), (8, x8)]) H (kk (some []) kn [] R [4]) =
  J (Code.at [1, 0, 1, 0] c102) (sp 19 [(0, x0), (1, x1), (7, x7), (8, x8)]) H (kk (some []) kn [(0, (some []), kn)] R [4]) := by
  kernel_rfl
theorem N102_2_eq (ρ : Addr → Option Value) (call : CallF) (yc : YieldF) (lim k : Nat) (x0 x1 x7 x8 : AV) (H : Heap) (kn : KS) (R : List AV → Heap → Res) :
    evL (cx ρ) call yc false 102 lim k (Code.at [1, 0, 1] c102) (sp 19 [(0, x0), (1, x1), (7, x7), (8, x8)]) H (kk (some []) kn [] R [4]) = N102_2 ρ call yc lim k x0 x1 x7 x8 H (fun H => kn (sp 19 []) H) R := by
  rw [evL_X, N102_2_x]
  simp only [← evL_X, N102_2, N102_3_eq]
noncomputable def L102 (ρ : Addr → Option Value) (call : CallF) (yc : YieldF) (lim k : Nat) (x0 x1 : AV) (H : Heap) : Res :=
  purK (lenS x0) fun x7 =>
  N102_2 ρ call yc lim k x0 x1 x7 (.int .i64 0) H (fun H =>
    N102_1 ρ call yc lim k H retK) retK
theorem L102_x (ρ : Addr → Option Value) (call : CallF) (yc : YieldF) (lim k : Nat) (J : CodeF) (x0 x1 : AV) (H : Heap) :
    evX (cx ρ) call yc false 102 lim k J c102 [x0, x1, (.tup []), (.tup []), (.tup []), (.tup []), (.tup []), (.tup []), (.tup []), (.tup []), (.tup []), (.tup []), (.tup []), (.tup []), (.tup []), (.tup []), (.tup []), (.tup []), (.tup [])] H (kk none (fun s H => retK (([4] : List Nat).map fun t => s.getD t (.tup [])) H) [] retK [4]) =
  purK (lenS x0) fun x7 =>
  J (Code.at [1, 0, 1] c102) (sp 19 [(0, x0), (1, x1), (7, x7), (8, (.int .i64 0))]) H (kk (some []) (fun s H => J (Code.at [1, 1] c102) s H (kk none (fun s H => retK (([4] : List Nat).map fun t => s.getD t (.tup [])) H) [] retK [4])) [] retK [4]) := by
  kernel_rfl
theorem G102 (ρ : Addr → Option Value) (call : CallF) (yc : YieldF) (lim k : Nat) (x0 x1 : AV) (H : Heap) :
    evL (cx ρ) call yc false 102 lim k c102 [x0, x1, (.tup []), (.tup []), (.tup []), (.tup []), (.tup []), (.tup []), (.tup []), (.tup []), (.tup []), (.tup []), (.tup []), (.tup []), (.tup []), (.tup []), (.tup []), (.tup []), (.tup [])] H (kk none (fun s H => retK (([4] : List Nat).map fun t => s.getD t (.tup [])) H) [] retK [4]) = L102 ρ call yc lim k x0 x1 H := by
  rw [evL_X, L102_x]
  simp only [← evL_X, L102, N102_1_eq, N102_2_eq]
theorem E102 (ρ : Addr → Option Value) (k lim : Nat) (x0 x1 : AV) (H : Heap) : evCall (cx ρ) (k + 1) lim 102 [x0, x1] H = L102 ρ (evCall (cx ρ) k) (evCY (cx ρ) k).2 lim k x0 x1 H := by
  rw [evCall_body (cx ρ) k lim 102 _ H Tryz.f102 c102 [4] (by kernel_rfl) (by kernel_rfl) (by kernel_rfl) (by kernel_rfl) (by kernel_rfl)]
  exact G102 ρ (evCall (cx ρ) k) (evCY (cx ρ) k).2 lim k x0 x1 H
-- (*haycroft/index.Index).Look$1
noncomputable def c103 : Code := Code.of Tryz.prog 103
noncomputable def L103 (ρ : Addr → Option Value) (call : CallF) (yc : YieldF) (lim k : Nat) (x0 x1 x2 : AV) (H : Heap) : Res :=
  purK (ld1 ρ H x1) fun x5 =>
  purK (nilChkA x5) fun x6 =>
  purK (addA 2 x6) fun x7 =>
  purK (ld1 ρ H x7) fun x8 =>
  purK (ld1 ρ H x2) fun x11 =>
  resK (call lim 41 [x8, x0] H) fun x10 H => bif (agn (ld1 ρ H x2) x11 && true) then
    resK (call lim 105 [x11] H) fun x12 H =>
    resK (call lim 104 [x10, x12] H) fun x13 H =>
    retK [x13] H
  else none
theorem G103 (ρ : Addr → Option Value) (call : CallF) (yc : YieldF) (lim k : Nat) (x0 x1 x2 : AV) (H : Heap) :
    evL (cx ρ) call yc false 103 lim k c103 [x0, x1, x2, (.tup []), (.tup []), (.tup []), (.tup []), (.tup []), (.tup []), (.tup []), (.tup []), (.tup []), (.tup []), (.tup [])] H (kk none (fun s H => retK (([4] : List Nat).map fun t => s.getD t (.tup [])) H) [] retK [4]) = L103 ρ call yc lim k x0 x1 x2 H := by
  kernel_rfl
theorem E103 (ρ : Addr → Option Value) (k lim : Nat) (x0 x1 x2 : AV) (H : Heap) : evCall (cx ρ) (k + 1) lim 103 [x0, x1, x2] H = L103 ρ (evCall (cx ρ) k) (evCY (cx ρ) k).2 lim k x0 x1 x2 H := by
  rw [evCall_body (cx ρ) k lim 103 _ H Tryz.f103 c103 [4] (by kernel_rfl) (by kernel_rfl) (by kernel_rfl) (by kernel_rfl) (by kernel_rfl)]
  exact G103 ρ (evCall (cx ρ) k) (evCY (cx ρ) k).2 lim k x0 x1 x2 H
-- haycroft/entry.Has
noncomputable def c104 : Code := Code.of Tryz.prog 104
noncomputable def L104 (ρ : Addr → Option Value) (call : CallF) (yc : YieldF) (lim k : Nat) (x0 x1 : AV) (H : Heap) : Res :=
  resK (call lim 145 [x0] H) fun x9 H =>
  purK (extA 0 x9) fun x10 =>
  purK (extA 1 x9) fun x11 =>
  effK H (some (.ptr H.sz 0 0, .new (newCells 225 false [.int .u64 0, .int .u64 0, .bool false]))) fun x5 H =>
  effK H (stA lim H 3 x5 x10) fun _ H =>
  purK (binA Tryz.prog H .eql 27 x11 (.int .i64 0)) fun x13 =>
  purK (gPur (wantV x13 true) (addA 1 x5)) fun x15 =>
  purK (gPur (wantV x13 true) (ld1 ρ H x15)) fun x16 =>
  purK (gPur (wantV x13 true) (some x1)) fun x17 =>
  purK (gPur (wantV x13 true) (binA Tryz.prog H .eql 22 x16 x17)) fun x18 =>
  purK (pickA x13 x18 (.bool false)) fun x19 =>
  retK [x19] H
theorem G104 (ρ : Addr → Option Value) (call : CallF) (yc : YieldF) (lim k : Nat) (x0 x1 : AV) (H : Heap) :
    evL (cx ρ) call yc false 104 lim k c104 [x0, x1, (.tup []), (.tup []), (.tup []), (.tup []), (.tup []), (.tup []), (.tup []), (.tup []), (.tup []), (.tup []), (.tup []), (.tup []), (.tup []), (.tup []), (.tup []), (.tup []), (.tup []), (.tup [])] H (kk none (fun s H => retK (([4] : List Nat).map fun t => s.getD t (.tup [])) H) [] retK [4]) = L104 ρ call yc lim k x0 x1 H := by
  kernel_rfl
theorem E104 (ρ : Addr → Option Value) (k lim : Nat) (x0 x1 : AV) (H : Heap) : evCall (cx ρ) (k + 1) lim 104 [x0, x1] H = L104 ρ (evCall (cx ρ) k) (evCY (cx ρ) k).2 lim k x0 x1 H := by
  rw [evCall_body (cx ρ) k lim 104 _ H Tryz.f104 c104 [4] (by kernel_rfl) (by kernel_rfl) (by kernel_rfl) (by kernel_rfl) (by kernel_rfl)]
  exact G104 ρ (evCall (cx ρ) k) (evCY (cx ρ) k).2 lim k x0 x1 H
-- haycroft/mix.Tag
noncomputable def c105 : Code := Code.of Tryz.prog 105
noncomputable def L105 (ρ : Addr → Option Value) (call : CallF) (yc : YieldF) (lim k : Nat) (x0 : AV) (H : Heap) : Res :=
  resK (call lim 64 [x0, (.int .i64 50), (.int .i64 14)] H) fun x4 H =>
  retK [x4] H
theorem G105 (ρ : Addr → Option Value) (call : CallF) (yc : YieldF) (lim k : Nat) (x0 : AV) (H : Heap) :
    evL (cx ρ) call yc false 105 lim k c105 [x0, (.tup []), (.tup []), (.tup []), (.tup [])] H (kk none (fun s H => retK (([2] : List Nat).map fun t => s.getD t (.tup [])) H) [] retK [2]) = L105 ρ call yc lim k x0 H := by
  kernel_rfl
theorem E105 (ρ : Addr → Option Value) (k lim : Nat) (x0 : AV) (H : Heap) : evCall (cx ρ) (k + 1) lim 105 [x0] H = L105 ρ (evCall (cx ρ) k) (evCY (cx ρ) k).2 lim k x0 H := by
  rw [evCall_body (cx ρ) k lim 105 _ H Tryz.f105 c105 [2] (by kernel_rfl) (by kernel_rfl) (by kernel_rfl) (by kernel_rfl) (by kernel_rfl)]
  exact G105 ρ (evCall (cx ρ) k) (evCY (cx ρ) k).2 lim k x0 H
-- (*haycroft/index.Index).Look$2
noncomputable def c106 : Code := Code.of Tryz.prog 106
noncomputable def L106 (ρ : Addr → Option Value) (call : CallF) (yc : YieldF) (lim k : Nat) (x0 x1 : AV) (H : Heap) : Res :=
  purK (ld1 ρ H x1) fun x4 =>
  purK (nilChkA x4) fun x5 =>
  purK (addA 2 x5) fun x6 =>
  purK (ld1 ρ H x6) fun x7 =>
  resK (call lim 41 [x7, x0] H) fun x9 H =>
  purK (binA Tryz.prog H .eql 22 x9 (.int .u64 0)) fun x10 =>
  retK [x10] H
theorem G106 (ρ : Addr → Option Value) (call : CallF) (yc : YieldF) (lim k : Nat) (x0 x1 : AV) (H : Heap) :
    evL (cx ρ) call yc false 106 lim k c106 [x0, x1, (.tup []), (.tup []), (.tup []), (.tup []), (.tup []), (.tup []), (.tup []), (.tup []), (.tup [])] H (kk none (fun s H => retK (([3] : List Nat).map fun t => s.getD t (.tup [])) H) [] retK [3]) = L106 ρ call yc lim k x0 x1 H := by
  kernel_rfl
theorem E106 (ρ : Addr → Option Value) (k lim : Nat) (x0 x1 : AV) (H : Heap) : evCall (cx ρ) (k + 1) lim 106 [x0, x1] H = L106 ρ (evCall (cx ρ) k) (evCY (cx ρ) k).2 lim k x0 x1 H := by
  rw [evCall_body (cx ρ) k lim 106 _ H Tryz.f106 c106 [3] (by kernel_rfl) (by kernel_rfl) (by kernel_rfl) (by kernel_rfl) (by kernel_rfl)]
  exact G106 ρ (evCall (cx ρ) k) (evCY (cx ρ) k).2 lim k x0 x1 H
-- haycroft/field.Right
noncomputable def c110 : Code := Code.of Tryz.prog 110
noncomputable def L110 (ρ : Addr → Option Value) (call : CallF) (yc : YieldF) (lim k : Nat) (x0 x1 : AV) (H : Heap) : Res :=
  purK (binA Tryz.prog H .geq 3 x0 (.int .i64 0)) fun x6 =>
  purK (gPur (wantV x6 true) (some x0)) fun x8 =>
  purK (gPur (wantV x6 true) (binA Tryz.prog H .lss 3 x8 (.int .i64 64))) fun x9 =>
  purK (pickA x6 x9 (.bool false)) fun x10 =>
  purK (gPur (wantV x10 true) (some x1)) fun x12 =>
  purK (gPur (wantV x10 true) (binA Tryz.prog H .geq 3 x12 (.int .i64 1))) fun x13 =>
  purK (pickA x10 x13 (.bool false)) fun x14 =>
  purK (gPur (wantV x14 true) (some x1)) fun x16 =>
  purK (gPur (wantV x14 true) (some x0)) fun x17 =>
  purK (gPur (wantV x14 true) (binA Tryz.prog H .sub 3 (.int .i64 64) x17)) fun x18 =>
  purK (gPur (wantV x14 true) (binA Tryz.prog H .leq 3 x16 x18)) fun x19 =>
  purK (pickA x14 x19 (.bool false)) fun x20 =>
  retK [x20] H
theorem G110 (ρ : Addr → Option Value) (call : CallF) (yc : YieldF) (lim k : Nat) (x0 x1 : AV) (H : Heap) :
    evL (cx ρ) call yc false 110 lim k c110 [x0, x1, (.tup []), (.tup []), (.tup []), (.tup []), (.tup []), (.tup []), (.tup []), (.tup []), (.tup []), (.tup []), (.tup []), (.tup []), (.tup []), (.tup []), (.tup []), (.tup []), (.tup []), (.tup []), (.tup [])] H (kk none (fun s H => retK (([4] : List Nat).map fun t => s.getD t (.tup [])) H) [] retK [4]) = L110 ρ call yc lim k x0 x1 H := by
  kernel_rfl
theorem E110 (ρ : Addr → Option Value) (k lim : Nat) (x0 x1 : AV) (H : Heap) : evCall (cx ρ) (k + 1) lim 110 [x0, x1] H = L110 ρ (evCall (cx ρ) k) (evCY (cx ρ) k).2 lim k x0 x1 H := by
  rw [evCall_body (cx ρ) k lim 110 _ H Tryz.f110 c110 [4] (by kernel_rfl) (by kernel_rfl) (by kernel_rfl) (by kernel_rfl) (by kernel_rfl)]
  exact G110 ρ (evCall (cx ρ) k) (evCY (cx ρ) k).2 lim k x0 x1 H
-- haycroft/field.Most
noncomputable def c111 : Code := Code.of Tryz.prog 111
noncomputable def L111 (ρ : Addr → Option Value) (call : CallF) (yc : YieldF) (lim k : Nat) (x0 : AV) (H : Heap) : Res :=
  purK (binA Tryz.prog H .lss 3 x0 (.int .i64 1)) fun x5 =>
  condK x5
  (
    retK [(.int .u64 0)] H)
  (
    purK (binA Tryz.prog H .geq 3 x0 (.int .i64 64)) fun x8 =>
    condK x8
    (
      retK [(.int .u64 18446744073709551615)] H)
    (
      purK (binA Tryz.prog H .shl 22 (.int .u64 1) x0) fun x10 =>
      purK (binA Tryz.prog H .sub 22 x10 (.int .u64 1)) fun x11 =>
      retK [x11] H))
theorem G111 (ρ : Addr → Option Value) (call : CallF) (yc : YieldF) (lim k : Nat) (x0 : AV) (H : Heap) :
    evL (cx ρ) call yc false 111 lim k c111 [x0, (.tup []), (.tup []), (.tup []), (.tup []), (.tup []), (.tup []), (.tup []), (.tup []), (.tup []), (.tup []), (.tup [])] H (kk none (fun s H => retK (([2] : List Nat).map fun t => s.getD t (.tup [])) H) [] retK [2]) = L111 ρ call yc lim k x0 H := by
  kernel_rfl
theorem E111 (ρ : Addr → Option Value) (k lim : Nat) (x0 : AV) (H : Heap) : evCall (cx ρ) (k + 1) lim 111 [x0] H = L111 ρ (evCall (cx ρ) k) (evCY (cx ρ) k).2 lim k x0 H := by
  rw [evCall_body (cx ρ) k lim 111 _ H Tryz.f111 c111 [2] (by kernel_rfl) (by kernel_rfl) (by kernel_rfl) (by kernel_rfl) (by kernel_rfl)]
  exact G111 ρ (evCall (cx ρ) k) (evCY (cx ρ) k).2 lim k x0 H
-- (*haycroft/cell.Row).may
noncomputable def c126 : Code := Code.of Tryz.prog 126
noncomputable def L126 (ρ : Addr → Option Value) (call : CallF) (yc : YieldF) (lim k : Nat) (x0 x1 : AV) (H : Heap) : Res :=
  purK (binA Tryz.prog H .eql 95 x0 .nilp) fun x7 =>
  condK x7
  (
    retK [(.int .i64 2)] H)
  (
    resK (call lim 71 [x0, x1] H) fun x11 H =>
    purK (unA .not x11) fun x12 =>
    condK x12
    (
      retK [(.int .i64 1)] H)
    (
      retK [(.int .i64 0)] H))
theorem G126 (ρ : Addr → Option Value) (call : CallF) (yc : YieldF) (lim k : Nat) (x0 x1 : AV) (H : Heap) :
    evL (cx ρ) call yc false 126 lim k c126 [x0, x1, (.tup []), (.tup []), (.tup []), (.tup []), (.tup []), (.tup []), (.tup []), (.tup []), (.tup []), (.tup []), (.tup [])] H (kk none (fun s H => retK (([4] : List Nat).map fun t => s.getD t (.tup [])) H) [] retK [4]) = L126 ρ call yc lim k x0 x1 H := by
  kernel_rfl
theorem E126 (ρ : Addr → Option Value) (k lim : Nat) (x0 x1 : AV) (H : Heap) : evCall (cx ρ) (k + 1) lim 126 [x0, x1] H = L126 ρ (evCall (cx ρ) k) (evCY (cx ρ) k).2 lim k x0 x1 H := by
  rw [evCall_body (cx ρ) k lim 126 _ H Tryz.f126 c126 [4] (by kernel_rfl) (by kernel_rfl) (by kernel_rfl) (by kernel_rfl) (by kernel_rfl)]
  exact G126 ρ (evCall (cx ρ) k) (evCY (cx ρ) k).2 lim k x0 x1 H
-- (*sync/atomic.Uint64).Store
noncomputable def c127 : Code := Code.of Tryz.prog 127
noncomputable def L127 (ρ : Addr → Option Value) (call : CallF) (yc : YieldF) (lim k : Nat) (x0 x1 : AV) (H : Heap) : Res :=
  purK (nilChkA x0) fun x5 =>
  purK (addA 0 x5) fun x6 =>
  resK (call lim 170 [x6, x1] H) fun x8 H =>
  retK [] H
theorem G127 (ρ : Addr → Option Value) (call : CallF) (yc : YieldF) (lim k : Nat) (x0 x1 : AV) (H : Heap) :
    evL (cx ρ) call yc false 127 lim k c127 [x0, x1, (.tup []), (.tup []), (.tup []), (.tup []), (.tup []), (.tup []), (.tup [])] H (kk none (fun s H => retK (([] : List Nat).map fun t => s.getD t (.tup [])) H) [] retK []) = L127 ρ call yc lim k x0 x1 H := by
  kernel_rfl
theorem E127 (ρ : Addr → Option Value) (k lim : Nat) (x0 x1 : AV) (H : Heap) : evCall (cx ρ) (k + 1) lim 127 [x0, x1] H = L127 ρ (evCall (cx ρ) k) (evCY (cx ρ) k).2 lim k x0 x1 H := by
  rw [evCall_body (cx ρ) k lim 127 _ H Tryz.f127 c127 [] (by kernel_rfl) (by kernel_rfl) (by kernel_rfl) (by kernel_rfl) (by kernel_rfl)]
  exact G127 ρ (evCall (cx ρ) k) (evCY (cx ρ) k).2 lim k x0 x1 H
-- haycroft/tail.pack
noncomputable def c138 : Code := Code.of Tryz.prog 138
noncomputable def L138 (ρ : Addr → Option Value) (call : CallF) (yc : YieldF) (lim k : Nat) (x0 x1 : AV) (H : Heap) : Res :=
  purK (cvI .u64 x0) fun x6 =>
  purK (binA Tryz.prog H .shl 22 x6 (.int .u64 32)) fun x7 =>
  purK (cvI .u64 x1) fun x9 =>
  purK (binA Tryz.prog H .or 22 x7 x9) fun x10 =>
  retK [x10] H
theorem G138 (ρ : Addr → Option Value) (call : CallF) (yc : YieldF) (lim k : Nat) (x0 x1 : AV) (H : Heap) :
    evL (cx ρ) call yc false 138 lim k c138 [x0, x1, (.tup []), (.tup []), (.tup []), (.tup []), (.tup []), (.tup []), (.tup []), (.tup []), (.tup [])] H (kk none (fun s H => retK (([4] : List Nat).map fun t => s.getD t (.tup [])) H) [] retK [4]) = L138 ρ call yc lim k x0 x1 H := by
  kernel_rfl
theorem E138 (ρ : Addr → Option Value) (k lim : Nat) (x0 x1 : AV) (H : Heap) : evCall (cx ρ) (k + 1) lim 138 [x0, x1] H = L138 ρ (evCall (cx ρ) k) (evCY (cx ρ) k).2 lim k x0 x1 H := by
  rw [evCall_body (cx ρ) k lim 138 _ H Tryz.f138 c138 [4] (by kernel_rfl) (by kernel_rfl) (by kernel_rfl) (by kernel_rfl) (by kernel_rfl)]
  exact G138 ρ (evCall (cx ρ) k) (evCY (cx ρ) k).2 lim k x0 x1 H
-- haycroft/tail.first
noncomputable def c139 : Code := Code.of Tryz.prog 139
noncomputable def L139 (ρ : Addr → Option Value) (call : CallF) (yc : YieldF) (lim k : Nat) (x0 : AV) (H : Heap) : Res :=
  purK (binA Tryz.prog H .eql 3 x0 (.int .i64 0)) fun x4 =>
  condK x4
  (
    retK [(.int .i64 1)] H)
  (
    retK [(.int .i64 0)] H)
theorem G139 (ρ : Addr → Option Value) (call : CallF) (yc : YieldF) (lim k : Nat) (x0 : AV) (H : Heap) :
    evL (cx ρ) call yc false 139 lim k c139 [x0, (.tup []), (.tup []), (.tup []), (.tup [])] H (kk none (fun s H => retK (([2] : List Nat).map fun t => s.getD t (.tup [])) H) [] retK [2]) = L139 ρ call yc lim k x0 H := by
  kernel_rfl
theorem E139 (ρ : Addr → Option Value) (k lim : Nat) (x0 : AV) (H : Heap) : evCall (cx ρ) (k + 1) lim 139 [x0] H = L139 ρ (evCall (cx ρ) k) (evCY (cx ρ) k).2 lim k x0 H := by
  rw [evCall_body (cx ρ) k lim 139 _ H Tryz.f139 c139 [2] (by kernel_rfl) (by kernel_rfl) (by kernel_rfl) (by kernel_rfl) (by kernel_rfl)]
  exact G139 ρ (evCall (cx ρ) k) (evCY (cx ρ) k).2 lim k x0 H
-- (*sync/atomic.Uint64).CompareAndSwap
noncomputable def c140 : Code := Code.of Tryz.prog 140
noncomputable def L140 (ρ : Addr → Option Value) (call : CallF) (yc : YieldF) (lim k : Nat) (x0 x1 x2 : AV) (H : Heap) : Res :=
  purK (nilChkA x0) fun x8 =>
  purK (addA 0 x8) fun x9 =>
  resK (call lim 176 [x9, x1, x2] H) fun x12 H =>
  retK [x12] H
theorem G140 (ρ : Addr → Option Value) (call : CallF) (yc : YieldF) (lim k : Nat) (x0 x1 x2 : AV) (H : Heap) :
    evL (cx ρ) call yc false 140 lim k c140 [x0, x1, x2, (.tup []), (.tup []), (.tup []), (.tup []), (.tup []), (.tup []), (.tup []), (.tup []), (.tup []), (.tup [])] H (kk none (fun s H => retK (([6] : List Nat).map fun t => s.getD t (.tup [])) H) [] retK [6]) = L140 ρ call yc lim k x0 x1 x2 H := by
  kernel_rfl
theorem E140 (ρ : Addr → Option Value) (k lim : Nat) (x0 x1 x2 : AV) (H : Heap) : evCall (cx ρ) (k + 1) lim 140 [x0, x1, x2] H = L140 ρ (evCall (cx ρ) k) (evCY (cx ρ) k).2 lim k x0 x1 x2 H := by
  rw [evCall_body (cx ρ) k lim 140 _ H Tryz.f140 c140 [6] (by kernel_rfl) (by kernel_rfl) (by kernel_rfl) (by kernel_rfl) (by kernel_rfl)]
  exact G140 ρ (evCall (cx ρ) k) (evCY (cx ρ) k).2 lim k x0 x1 x2 H
-- (*sync/atomic.Int64).Add
noncomputable def c141 : Code := Code.of Tryz.prog 141
noncomputable def L141 (ρ : Addr → Option Value) (call : CallF) (yc : YieldF) (lim k : Nat) (x0 x1 : AV) (H : Heap) : Res :=
  purK (nilChkA x0) fun x6 =>
  purK (addA 0 x6) fun x7 =>
  resK (call lim 177 [x7, x1] H) fun x9 H =>
  retK [x9] H
theorem G141 (ρ : Addr → Option Value) (call : CallF) (yc : YieldF) (lim k : Nat) (x0 x1 : AV) (H : Heap) :
    evL (cx ρ) call yc false 141 lim k c141 [x0, x1, (.tup []), (.tup []), (.tup []), (.tup []), (.tup []), (.tup []), (.tup []), (.tup [])] H (kk none (fun s H => retK (([4] : List Nat).map fun t => s.getD t (.tup [])) H) [] retK [4]) = L141 ρ call yc lim k x0 x1 H := by
  kernel_rfl
theorem E141 (ρ : Addr → Option Value) (k lim : Nat) (x0 x1 : AV) (H : Heap) : evCall (cx ρ) (k + 1) lim 141 [x0, x1] H = L141 ρ (evCall (cx ρ) k) (evCY (cx ρ) k).2 lim k x0 x1 H := by
  rw [evCall_body (cx ρ) k lim 141 _ H Tryz.f141 c141 [4] (by kernel_rfl) (by kernel_rfl) (by kernel_rfl) (by kernel_rfl) (by kernel_rfl)]
  exact G141 ρ (evCall (cx ρ) k) (evCY (cx ρ) k).2 lim k x0 x1 H
-- (*haycroft/cell.Row).within
noncomputable def c142 : Code := Code.of Tryz.prog 142
noncomputable def N142_1 (ρ : Addr → Option Value) (call : CallF) (yc : YieldF) (lim k : Nat) (H : Heap) (R : List AV → Heap → Res) : Res :=
  R [(.int .i64 0)] H
theorem N142_1_eq (ρ : Addr → Option Value) (call : CallF) (yc : YieldF) (lim k : Nat) (H : Heap) (R : List AV → Heap → Res) :
    evL (cx ρ) call yc false 142 lim k (Code.at [1, 1] c142) (sp 25 []) H (kk none (fun s H => R (([6] : List Nat).map fun t => s.getD t (.tup [])) H) [] R [6]) = N142_1 ρ call yc lim k H R := by
  kernel_rfl
noncomputable def N142_2 (ρ : Addr → Option Value) (call : CallF) (yc : YieldF) (lim k : Nat) (x10 : AV) (H : Heap) (kn : Heap → Res) (R : List AV → Heap → Res) : Res :=
  condK x10
  (
    R [(.int .i64 1)] H)
  (
    kn H)
theorem N142_2_eq (ρ : Addr → Option Value) (call : CallF) (yc : YieldF) (lim k : Nat) (x10 : AV) (H : Heap) (kn : KS) (k0 : KS) (R : List AV → Heap → Res) :
    evL (cx ρ) call yc false 142 lim k (Code.at [1, 0, 0, 1, 1, 1] c142) (sp 25 [(10, x10)]) H (kk (some []) kn [(0, (some []), k0)] R [6]) = N142_2 ρ call yc lim k x10 H (fun H => kn (sp 25 []) H) R := by
  kernel_rfl
noncomputable def L142 (ρ : Addr → Option Value) (call : CallF) (yc : YieldF) (lim k : Nat) (x0 x1 x2 : AV) (H : Heap) : Res :=
  purK (binA Tryz.prog H .eql 95 x0 .nilp) fun x9 =>
  condK x9
  (
    retK [(.int .i64 2)] H)
  (
    purK (binA Tryz.prog H .lss 3 x2 (.int .i64 0)) fun x12 =>
    condK x12
    (
      N142_2 ρ call yc lim k x12 H (fun H =>
        N142_1 ρ call yc lim k H retK) retK)
    (
      purK (binA Tryz.prog H .lss 3 x1 (.int .i64 0)) fun x14 =>
      condK x14
      (
        N142_2 ρ call yc lim k x14 H (fun H =>
          N142_1 ρ call yc lim k H retK) retK)
      (
        resK (call lim 70 [x0] H) fun x17 H =>
        purK (binA Tryz.prog H .gtr 3 x2 x17) fun x18 =>
        condK x18
        (
          N142_2 ρ call yc lim k x18 H (fun H =>
            N142_1 ρ call yc lim k H retK) retK)
        (
          resK (call lim 70 [x0] H) fun x21 H =>
          purK (binA Tryz.prog H .sub 3 x21 x2) fun x23 =>
          purK (binA Tryz.prog H .gtr 3 x1 x23) fun x24 =>
          N142_2 ρ call yc lim k x24 H (fun H =>
            N142_1 ρ call yc lim k H retK) retK))))
theorem L142_x (ρ : Addr → Option Value) (call : CallF) (yc : YieldF) (lim k : Nat) (J : CodeF) (x0 x1 x2 : AV) (H : Heap) :
    evX (cx ρ) call yc false 142 lim k J c142 [x0, x1, x2, (.tup []), (.tup []), (.tup []), (.tup []), (.tup []), (.tup []), (.tup []), (.tup []), (.tup []), (.tup []), (.tup []), (.tup []), (.tup []), (.tup []), (.tup []), (.tup []), (.tup []), (.tup []), (.tup []), (.tup []), (.tup []), (.tup [])] H (kk none (fun s H => retK (([6] : List Nat).map fun t => s.getD t (.tup [])) H) [] retK [6]) =
  purK (binA Tryz.prog H .eql 95 x0 .nilp) fun x9 =>
  condK x9
  (
    retK [(.int .i64 2)] H)
  (
    purK (binA Tryz.prog H .lss 3 x2 (.int .i64 0)) fun x12 =>
    condK x12
    (
      J (Code.at [1, 0, 0, 1, 1, 1] c142) (sp 25 [(10, x12)]) H (kk (some []) (fun s H => J (Code.at [1, 1] c142) s H (kk none (fun s H => retK (([6] : List Nat).map fun t => s.getD t (.tup [])) H) [] retK [6])) [(0, (some []), (fun s H => J (Code.at [1, 1] c142) s H (kk none (fun s H => retK (([6] : List Nat).map fun t => s.getD t (.tup [])) H) [] retK [6])))] retK [6]))
    (
      purK (binA Tryz.prog H .lss 3 x1 (.int .i64 0)) fun x14 =>
      condK x14
      (
        J (Code.at [1, 0, 0, 1, 1, 1] c142) (sp 25 [(10, x14)]) H (kk (some []) (fun s H => J (Code.at [1, 1] c142) s H (kk none (fun s H => retK (([6] : List Nat).map fun t => s.getD t (.tup [])) H) [] retK [6])) [(0, (some []), (fun s H => J (Code.at [1, 1] c142) s H (kk none (fun s H => retK (([6] : List Nat).map fun t => s.getD t (.tup [])) H) [] retK [6])))] retK [6]))
      (
        resK (call lim 70 [x0] H) fun x17 H =>
        purK (binA Tryz.prog H .gtr 3 x2 x17) fun x18 =>
        condK x18
        (
          J (Code.at [1, 0, 0, 1, 1, 1] c142) (sp 25 [(10, x18)]) H (kk (some []) (fun s H => J (Code.at [1, 1] c142) s H (kk none (fun s H => retK (([6] : List Nat).map fun t => s.getD t (.tup [])) H) [] retK [6])) [(0, (some []), (fun s H => J (Code.at [1, 1] c142) s H (kk none (fun s H => retK (([6] : List Nat).map fun t => s.getD t (.tup [])) H) [] retK [6])))] retK [6]))
        (
          resK (call lim 70 [x0] H) fun x21 H =>
          purK (binA Tryz.prog H .sub 3 x21 x2) fun x23 =>
          purK (binA Tryz.prog H .gtr 3 x1 x23) fun x24 =>
          J (Code.at [1, 0, 0, 1, 1, 1] c142) (sp 25 [(10, x24)]) H (kk (some []) (fun s H => J (Code.at [1, 1] c142) s H (kk none (fun s H => retK (([6] : List Nat).map fun t => s.getD t (.tup [])) H) [] retK [6])) [(0, (some []), (fun s H => J (Code.at [1, 1] c142) s H (kk none (fun s H => retK (([6] : List Nat).map fun t => s.getD t (.tup [])) H) [] retK [6])))] retK [6]))))) := by
  kernel_rfl
theorem G142 (ρ : Addr → Option Value) (call : CallF) (yc : YieldF) (lim k : Nat) (x0 x1 x2 : AV) (H : Heap) :
    evL (cx ρ) call yc false 142 lim k c142 [x0, x1, x2, (.tup []), (.tup []), (.tup []), (.tup []), (.tup []), (.tup []), (.tup []), (.tup []), (.tup []), (.tup []), (.tup []), (.tup []), (.tup []), (.tup []), (.tup []), (.tup []), (.tup []), (.tup []), (.tup []), (.tup []), (.tup []), (.tup [])] H (kk none (fun s H => retK (([6] : List Nat).map fun t => s.getD t (.tup [])) H) [] retK [6]) = L142 ρ call yc lim k x0 x1 x2 H := by
  rw [evL_X, L142_x]
  simp only [← evL_X, L142, N142_1_eq, N142_2_eq]
theorem E142 (ρ : Addr → Option Value) (k lim : Nat) (x0 x1 x2 : AV) (H : Heap) : evCall (cx ρ) (k + 1) lim 142 [x0, x1, x2] H = L142 ρ (evCall (cx ρ) k) (evCY (cx ρ) k).2 lim k x0 x1 x2 H := by
  rw [evCall_body (cx ρ) k lim 142 _ H Tryz.f142 c142 [6] (by kernel_rfl) (by kernel_rfl) (by kernel_rfl) (by kernel_rfl) (by kernel_rfl)]
  exact G142 ρ (evCall (cx ρ) k) (evCY (cx ρ) k).2 lim k x0 x1 x2 H
-- (*haycroft/index.Index).all
noncomputable def c143 : Code := Code.of Tryz.prog 143
noncomputable def L143 (ρ : Addr → Option Value) (call : CallF) (yc : YieldF) (lim k : Nat) (x0 : AV) (H : Heap) : Res :=
  purK (binA Tryz.prog H .eql 43 x0 .nilp) fun x4 =>
  condK x4
  (
    retK [(.int .i64 0)] H)
  (
    purK (nilChkA x0) fun x6 =>
    purK (addA 0 x6) fun x7 =>
    purK (ld1 ρ H x7) fun x8 =>
    purK (nilChkA x0) fun x10 =>
    purK (addA 1 x10) fun x11 =>
    purK (ld1 ρ H x11) fun x12 =>
    purK (binA Tryz.prog H .add 3 x8 x12) fun x13 =>
    retK [x13] H)
theorem G143 (ρ : Addr → Option Value) (call : CallF) (yc : YieldF) (lim k : Nat) (x0 : AV) (H : Heap) :
    evL (cx ρ) call yc false 143 lim k c143 [x0, (.tup []), (.tup []), (.tup []), (.tup []), (.tup []), (.tup []), (.tup []), (.tup []), (.tup []), (.tup []), (.tup []), (.tup []), (.tup [])] H (kk none (fun s H => retK (([2] : List Nat).map fun t => s.getD t (.tup [])) H) [] retK [2]) = L143 ρ call yc lim k x0 H := by
  kernel_rfl
theorem E143 (ρ : Addr → Option Value) (k lim : Nat) (x0 : AV) (H : Heap) : evCall (cx ρ) (k + 1) lim 143 [x0] H = L143 ρ (evCall (cx ρ) k) (evCY (cx ρ) k).2 lim k x0 H := by
  rw [evCall_body (cx ρ) k lim 143 _ H Tryz.f143 c143 [2] (by kernel_rfl) (by kernel_rfl) (by kernel_rfl) (by kernel_rfl) (by kernel_rfl)]
  exact G143 ρ (evCall (cx ρ) k) (evCY (cx ρ) k).2 lim k x0 H
-- (*haycroft/index.Index).link
noncomputable def c144 : Code := Code.of Tryz.prog 144
noncomputable def L144 (ρ : Addr → Option Value) (call : CallF) (yc : YieldF) (lim k : Nat) (x0 x1 : AV) (H : Heap) : Res :=
  purK (nilChkA x0) fun x8 =>
  purK (addA 2 x8) fun x9 =>
  purK (ld1 ρ H x9) fun x10 =>
  purK (binA Tryz.prog H .mul 3 x1 (.int .i64 8)) fun x12 =>
  purK (binA Tryz.prog H .add 3 x12 (.int .i64 7)) fun x13 =>
  resK (call lim 41 [x10, x13] H) fun x14 H =>
  purK (cvI .i64 x14) fun x16 =>
  purK (binA Tryz.prog H .sub 3 x16 (.int .i64 1)) fun x17 =>
  purK (binA Tryz.prog H .gtr 22 x14 (.int .u64 0)) fun x19 =>
  retK [x17, x19] H
theorem G144 (ρ : Addr → Option Value) (call : CallF) (yc : YieldF) (lim k : Nat) (x0 x1 : AV) (H : Heap) :
    evL (cx ρ) call yc false 144 lim k c144 [x0, x1, (.tup []), (.tup []), (.tup []), (.tup []), (.tup []), (.tup []), (.tup []), (.tup []), (.tup []), (.tup []), (.tup []), (.tup []), (.tup []), (.tup []), (.tup []), (.tup []), (.tup []), (.tup [])] H (kk none (fun s H => retK (([4, 5] : List Nat).map fun t => s.getD t (.tup [])) H) [] retK [4, 5]) = L144 ρ call yc lim k x0 x1 H := by
  kernel_rfl
theorem E144 (ρ : Addr → Option Value) (k lim : Nat) (x0 x1 : AV) (H : Heap) : evCall (cx ρ) (k + 1) lim 144 [x0, x1] H = L144 ρ (evCall (cx ρ) k) (evCY (cx ρ) k).2 lim k x0 x1 H := by
  rw [evCall_body (cx ρ) k lim 144 _ H Tryz.f144 c144 [4, 5] (by kernel_rfl) (by kernel_rfl) (by kernel_rfl) (by kernel_rfl) (by kernel_rfl)]
  exact G144 ρ (evCall (cx ρ) k) (evCY (cx ρ) k).2 lim k x0 x1 H
-- haycroft/entry.Unpack
noncomputable def c145 : Code := Code.of Tryz.prog 145
noncomputable def L145 (ρ : Addr → Option Value) (call : CallF) (yc : YieldF) (lim k : Nat) (x0 : AV) (H : Heap) : Res :=
  effK H (some (.ptr H.sz 0 0, .new (newCells 225 false [.int .u64 0, .int .u64 0, .bool false]))) fun x2 H =>
  resK (call lim 64 [x0, (.int .i64 0), (.int .i64 48)] H) fun x6 H =>
  resK (call lim 64 [x0, (.int .i64 48), (.int .i64 14)] H) fun x8 H =>
  resK (call lim 161 [x0, (.int .i64 62)] H) fun x10 H =>
  purK (bldA [.int .u64 0, .int .u64 0, .bool false] [(0, 1, x6), (1, 1, x8), (2, 1, x10)]) fun x11 =>
  effK H (some (.ptr H.sz 0 0, .new (newCells 225 false [.int .u64 0, .int .u64 0, .bool false]))) fun x4 H =>
  effK H (stA lim H 3 x4 x11) fun _ H =>
  purK (binA Tryz.prog H .eql 22 x0 (.int .u64 0)) fun x14 =>
  condK x14
  (
    purK (bldA [.int .u64 0, .int .u64 0, .bool false] []) fun x15 =>
    effK H (stA lim H 3 x2 x15) fun _ H =>
    (retC (cx ρ) [some 225, none]) [x2, (.int .i64 7)] H)
  (
    resK (call lim 161 [x0, (.int .i64 63)] H) fun x18 H =>
    purK (unA .not x18) fun x19 =>
    purK (gPur (wantV x19 false) (ldN ρ H 3 x4)) fun x21 =>
    resK (gRes (wantV x19 false) H (call lim 178 [x21] H)) fun x22 H =>
    purK (gPur (wantV x19 false) (unA .not x22)) fun x23 =>
    purK (pickA x19 (.bool true) x23) fun x24 =>
    condK x24
    (
      purK (bldA [.int .u64 0, .int .u64 0, .bool false] []) fun x25 =>
      effK H (stA lim H 3 x2 x25) fun _ H =>
      (retC (cx ρ) [some 225, none]) [x2, (.int .i64 4)] H)
    (
      purK (ldN ρ H 3 x4) fun x26 =>
      effK H (stA lim H 3 x2 x26) fun _ H =>
      (retC (cx ρ) [some 225, none]) [x2, (.int .i64 0)] H))
theorem G145 (ρ : Addr → Option Value) (call : CallF) (yc : YieldF) (lim k : Nat) (x0 : AV) (H : Heap) :
    evL (cx ρ) call yc false 145 lim k c145 [x0, (.tup []), (.tup []), (.tup []), (.tup []), (.tup []), (.tup []), (.tup []), (.tup []), (.tup []), (.tup []), (.tup []), (.tup []), (.tup []), (.tup []), (.tup []), (.tup []), (.tup []), (.tup []), (.tup []), (.tup []), (.tup []), (.tup []), (.tup []), (.tup []), (.tup []), (.tup [])] H (kk none (fun s H => (retC (cx ρ) [some 225, none]) (([2, 3] : List Nat).map fun t => s.getD t (.tup [])) H) [] (retC (cx ρ) [some 225, none]) [2, 3]) = L145 ρ call yc lim k x0 H := by
  kernel_rfl
theorem E145 (ρ : Addr → Option Value) (k lim : Nat) (x0 : AV) (H : Heap) : evCall (cx ρ) (k + 1) lim 145 [x0] H = L145 ρ (evCall (cx ρ) k) (evCY (cx ρ) k).2 lim k x0 H := by
  rw [evCall_cells (cx ρ) k lim 145 _ H Tryz.f145 c145 [2, 3] [some 225, none] (by kernel_rfl) (by kernel_rfl) (by kernel_rfl) (by kernel_rfl) (by kernel_rfl) (by kernel_rfl)]
  exact G145 ρ (evCall (cx ρ) k) (evCY (cx ρ) k).2 lim k x0 H
-- haycroft/field.Flag
noncomputable def c161 : Code := Code.of Tryz.prog 161
noncomputable def L161 (ρ : Addr → Option Value) (call : CallF) (yc : YieldF) (lim k : Nat) (x0 x1 : AV) (H : Heap) : Res :=
  resK (call lim 64 [x0, x1, (.int .i64 1)] H) fun x7 H =>
  purK (binA Tryz.prog H .eql 22 x7 (.int .u64 1)) fun x8 =>
  retK [x8] H
theorem G161 (ρ : Addr → Option Value) (call : CallF) (yc : YieldF) (lim k : Nat) (x0 x1 : AV) (H : Heap) :
    evL (cx ρ) call yc false 161 lim k c161 [x0, x1, (.tup []), (.tup []), (.tup []), (.tup []), (.tup []), (.tup []), (.tup [])] H (kk none (fun s H => retK (([4] : List Nat).map fun t => s.getD t (.tup [])) H) [] retK [4]) = L161 ρ call yc lim k x0 x1 H := by
  kernel_rfl
theorem E161 (ρ : Addr → Option Value) (k lim : Nat) (x0 x1 : AV) (H : Heap) : evCall (cx ρ) (k + 1) lim 161 [x0, x1] H = L161 ρ (evCall (cx ρ) k) (evCY (cx ρ) k).2 lim k x0 x1 H := by
  rw [evCall_body (cx ρ) k lim 161 _ H Tryz.f161 c161 [4] (by kernel_rfl) (by kernel_rfl) (by kernel_rfl) (by kernel_rfl) (by kernel_rfl)]
  exact G161 ρ (evCall (cx ρ) k) (evCY (cx ρ) k).2 lim k x0 x1 H
end Go.Proofs.YtipjgmjmfkhcnaaGreat
