/- Functions, lifted. Printed by a program of this repo. -/
import Derived.Test.YtbnhlcgbigeceaaGreatLfTab
set_option linter.unusedVariables false
set_option linter.unusedSimpArgs false
set_option maxRecDepth 100000
set_option maxHeartbeats 4000000
namespace Go.Proofs.YtbnhlcgbigeceaaGreat
open Go.Ev Go.RowKit
-- haycroft/field.Bytes
noncomputable def c63 : Code := Code.of Tryz.prog 63
noncomputable def N63_2 (ρ : Addr → Option Value) (call : CallF) (yc : YieldF) (lim k : Nat) (x1 x6 : AV) (H : Heap) (R : List AV → Heap → Res) : Res :=
  purK (sliceA Tryz.prog 207 x6 none (some x1) none) fun x62_1 =>
  purK (convXA (cx ρ) H 207 9 x62_1) fun x63_1 =>
  R [x63_1, (.int .i64 0)] H
theorem N63_2_eq (ρ : Addr → Option Value) (call : CallF) (yc : YieldF) (lim k : Nat) (x1 x6 : AV) (H : Heap) (R : List AV → Heap → Res) :
    evL (cx ρ) call yc false 63 lim k (Code.at [1, 1, 1, 1, 1, 1] c63) (sp 64 [(1, x1), (6, x6)]) H (kk none (fun s H => R (([4, 5] : List Nat).map fun t => s.getD t (.tup [])) H) [] R [4, 5]) = N63_2 ρ call yc lim k x1 x6 H R := by
  kernel_rfl
noncomputable def N63_4b (ρ : Addr → Option Value) (call : CallF) (yc : YieldF) (lim k : Nat) (x1 x6 x51 x52 x53 : AV) (H : Heap) (kn : AV → AV → AV → AV → AV → Heap → Res) (k3 : AV → AV → Heap → Res) (R : List AV → Heap → Res) : Res :=
  purK (binA Tryz.prog H .lss 3 x53 x52) fun x54_1 =>
  condK x54_1
  (
    purK (indexAddrA Tryz.prog 207 x51 x53) fun x55_1 =>
    purK (loadA (cx ρ) H 5 x55_1) fun x56_1 =>
    purK (binA Tryz.prog H .neq 5 x56_1 (.int .u8 0)) fun x58_1 =>
    condK x58_1
    (
      R [(.str (ByteArray.mk #[])), (.int .i64 4)] H)
    (
      purK (binA Tryz.prog H .add 3 x53 (.int .i64 1)) fun x59_1 =>
      kn x1 x6 x51 x52 x59_1 H))
  (
    k3 x1 x6 H)
theorem N63_4b_eq (ρ : Addr → Option Value) (call : CallF) (yc : YieldF) (lim k : Nat) (x1 x6 x51 x52 x53 : AV) (H : Heap) (kn : KS) (k3 : KS) (R : List AV → Heap → Res) :
    evL (cx ρ) call yc false 63 lim k (Code.at [1, 1, 1, 1, 1, 0, 1, 0, 0] c63) (sp 64 [(1, x1), (6, x6), (51, x51), (52, x52), (53, x53)]) H (kk (some [1, 6, 51, 52, 53]) kn [(3, (some [1, 6]), k3)] R [4, 5]) = N63_4b ρ call yc lim k x1 x6 x51 x52 x53 H (fun x1 x6 x51 x52 x53 H => kn (sp 64 [(1, x1), (6, x6), (51, x51), (52, x52), (53, x53)]) H) (fun x1 x6 H => k3 (sp 64 [(1, x1), (6, x6)]) H) R := by
  kernel_rfl
noncomputable def N63_4 (ρ : Addr → Option Value) (call : CallF) (yc : YieldF) (lim k : Nat) (x1 x6 x51 x52 x53 : AV) (H : Heap) (k3 : AV → AV → Heap → Res) (R : List AV → Heap → Res) : Res :=
  loopL (fun (x : AV) H kn => N63_4b ρ call yc lim k x1 x6 x51 x52 x H (fun _ _ _ _ x53 H => kn x53 H) k3 R) k x53 H
theorem N63_4_eq (ρ : Addr → Option Value) (call : CallF) (yc : YieldF) (lim k : Nat) (x1 x6 x51 x52 x53 : AV) (H : Heap) (kn : KS) (k3 : KS) (R : List AV → Heap → Res) :
    evL (cx ρ) call yc false 63 lim k (Code.at [1, 1, 1, 1, 1, 0, 1, 0] c63) (sp 64 [(1, x1), (6, x6), (51, x51), (52, x52), (53, x53)]) H (kk (some [1, 6]) kn [(3, (some [1, 6]), k3)] R [4, 5]) = N63_4 ρ call yc lim k x1 x6 x51 x52 x53 H (fun x1 x6 H => k3 (sp 64 [(1, x1), (6, x6)]) H) R := by
  have e : Code.at [1, 1, 1, 1, 1, 0, 1, 0] c63 = .loop (Code.at [1, 1, 1, 1, 1, 0, 1, 0, 0] c63) := by kernel_rfl
  rw [e]
  unfold N63_4
  exact loop_node [1, 6, 51, 52, 53] (fun x : AV => (sp 64 [(1, x1), (6, x6), (51, x51), (52, x52), (53, (x))])) (fun (x : AV) H kn => N63_4b ρ call yc lim k x1 x6 x51 x52 x H (fun _ _ _ _ x53 H => kn x53 H) (fun x1 x6 H => k3 (sp 64 [(1, x1), (6, x6)]) H) R) (by kernel_rfl) (fun x => by kernel_rfl) (fun x H kn => N63_4b_eq ρ call yc lim k x1 x6 x51 x52 (x) H kn k3 R) x53 (sp 64 [(1, x1), (6, x6), (51, x51), (52, x52), (53, x53)]) H (by kernel_rfl)
noncomputable def N63_3 (ρ : Addr → Option Value) (call : CallF) (yc : YieldF) (lim k : Nat) (x1 x6 x51 x52 x53 : AV) (H : Heap) (kn : AV → AV → Heap → Res) (R : List AV → Heap → Res) : Res :=
  N63_4 ρ call yc lim k x1 x6 x51 x52 x53 H kn R
theorem N63_3_x (ρ : Addr → Option Value) (call : CallF) (yc : YieldF) (lim k : Nat) (J : CodeF) (x1 x6 x51 x52 x53 : AV) (H : Heap) (kn : KS) (R : List AV → Heap → Res) :
    evX (cx ρ) call yc false 63 lim k J (Code.at [1, 1, 1, 1, 1, 0, 1] c63) (sp 64 [(1, x1), (6, x6), (51, x51), (52, x52), (53, x53)]) H (kk (some [1, 6]) kn [] R [4, 5]) =
  J (Code.at [1, 1, 1, 1, 1, 0, 1, 0] c63) (sp 64 [(1, x1), (6, x6), (51, x51), (52, x52), (53, x53)]) H (kk (some [1, 6]) kn [(3, (some [1, 6]), kn)] R [4, 5]) := by
  kernel_rfl
theorem N63_3_eq (ρ : Addr → Option Value) (call : CallF) (yc : YieldF) (lim k : Nat) (x1 x6 x51 x52 x53 : AV) (H : Heap) (kn : KS) (R : List AV → Heap → Res) :
    evL (cx ρ) call yc false 63 lim k (Code.at [1, 1, 1, 1, 1, 0, 1] c63) (sp 64 [(1, x1), (6, x6), (51, x51), (52, x52), (53, x53)]) H (kk (some [1, 6]) kn [] R [4, 5]) = N63_3 ρ call yc lim k x1 x6 x51 x52 x53 H (fun x1 x6 H => kn (sp 64 [(1, x1), (6, x6)]) H) R := by
  rw [evL_X, N63_3_x]
  simp only [← evL_X, N63_3, N63_4_eq]
noncomputable def N63_1 (ρ : Addr → Option Value) (call : CallF) (yc : YieldF) (lim k : Nat) (x0 x1 x6 : AV) (H : Heap) (R : List AV → Heap → Res) : Res :=
  purK (lenBA (cx ρ) H 31 x0) fun x43_1 =>
  purK (binA Tryz.prog H .add 3 x1 (.int .i64 8)) fun x45_1 =>
  purK (binA Tryz.prog H .sub 3 x45_1 (.int .i64 1)) fun x46_1 =>
  purK (binA Tryz.prog H .quo 3 x46_1 (.int .i64 8)) fun x47_1 =>
  purK (binA Tryz.prog H .neq 3 x43_1 x47_1) fun x48_1 =>
  condK x48_1
  (
    R [(.str (ByteArray.mk #[])), (.int .i64 4)] H)
  (
    purK (sliceA Tryz.prog 207 x6 (some x1) none none) fun x51_1 =>
    purK (lenBA (cx ρ) H 207 x51_1) fun x52_1 =>
    N63_3 ρ call yc lim k x1 x6 x51_1 x52_1 (.int .i64 0) H (fun x1_1 x6_1 H =>
      N63_2 ρ call yc lim k x1_1 x6_1 H R) R)
theorem N63_1_x (ρ : Addr → Option Value) (call : CallF) (yc : YieldF) (lim k : Nat) (J : CodeF) (x0 x1 x6 : AV) (H : Heap) (R : List AV → Heap → Res) :
    evX (cx ρ) call yc false 63 lim k J (Code.at [1, 1, 1, 1] c63) (sp 64 [(0, x0), (1, x1), (6, x6)]) H (kk none (fun s H => R (([4, 5] : List Nat).map fun t => s.getD t (.tup [])) H) [] R [4, 5]) =
  purK (lenBA (cx ρ) H 31 x0) fun x43_1 =>
  purK (binA Tryz.prog H .add 3 x1 (.int .i64 8)) fun x45_1 =>
  purK (binA Tryz.prog H .sub 3 x45_1 (.int .i64 1)) fun x46_1 =>
  purK (binA Tryz.prog H .quo 3 x46_1 (.int .i64 8)) fun x47_1 =>
  purK (binA Tryz.prog H .neq 3 x43_1 x47_1) fun x48_1 =>
  condK x48_1
  (
    R [(.str (ByteArray.mk #[])), (.int .i64 4)] H)
  (
    purK (sliceA Tryz.prog 207 x6 (some x1) none none) fun x51_1 =>
    purK (lenBA (cx ρ) H 207 x51_1) fun x52_1 =>
    J (Code.at [1, 1, 1, 1, 1, 0, 1] c63) (sp 64 [(1, x1), (6, x6), (51, x51_1), (52, x52_1), (53, (.int .i64 0))]) H (kk (some [1, 6]) (fun s H => J (Code.at [1, 1, 1, 1, 1, 1] c63) s H (kk none (fun s H => R (([4, 5] : List Nat).map fun t => s.getD t (.tup [])) H) [] R [4, 5])) [] R [4, 5])) := by
  kernel_rfl
theorem N63_1_eq (ρ : Addr → Option Value) (call : CallF) (yc : YieldF) (lim k : Nat) (x0 x1 x6 : AV) (H : Heap) (R : List AV → Heap → Res) :
    evL (cx ρ) call yc false 63 lim k (Code.at [1, 1, 1, 1] c63) (sp 64 [(0, x0), (1, x1), (6, x6)]) H (kk none (fun s H => R (([4, 5] : List Nat).map fun t => s.getD t (.tup [])) H) [] R [4, 5]) = N63_1 ρ call yc lim k x0 x1 x6 H R := by
  rw [evL_X, N63_1_x]
  simp only [← evL_X, N63_1, N63_2_eq, N63_3_eq]
noncomputable def N63_6b (ρ : Addr → Option Value) (call : CallF) (yc : YieldF) (lim k : Nat) (x0 x1 x6 x24 x25 : AV) (H : Heap) (kn : AV → AV → AV → AV → AV → Heap → Res) (k1 : AV → AV → AV → Heap → Res) : Res :=
  purK (binA Tryz.prog H .lss 3 x25 x24) fun x26_1 =>
  condK x26_1
  (
    purK (binA Tryz.prog H .quo 3 x25 (.int .i64 8)) fun x32_1 =>
    purK (indexAddrA Tryz.prog 31 x0 x32_1) fun x33_1 =>
    purK (loadA (cx ρ) H 22 x33_1) fun x34_1 =>
    purK (binA Tryz.prog H .rem 3 x25 (.int .i64 8)) fun x36_1 =>
    purK (binA Tryz.prog H .mul 3 x36_1 (.int .i64 8)) fun x37_1 =>
    purK (binA Tryz.prog H .shr 22 x34_1 x37_1) fun x38_1 =>
    purK (convXA (cx ρ) H 22 5 x38_1) fun x39_1 =>
    purK (indexAddrA Tryz.prog 207 x6 x25) fun x40_1 =>
    effK H ((storeA (cx ρ) lim H 5 x40_1 x39_1).map skips) fun _ H =>
    purK (binA Tryz.prog H .add 3 x25 (.int .i64 1)) fun x41_1 =>
    kn x0 x1 x6 x24 x41_1 H)
  (
    k1 x0 x1 x6 H)
theorem N63_6b_eq (ρ : Addr → Option Value) (call : CallF) (yc : YieldF) (lim k : Nat) (x0 x1 x6 x24 x25 : AV) (H : Heap) (kn : KS) (k1 : KS) (R : List AV → Heap → Res) :
    evL (cx ρ) call yc false 63 lim k (Code.at [1, 1, 1, 0, 1, 0, 0] c63) (sp 64 [(0, x0), (1, x1), (6, x6), (24, x24), (25, x25)]) H (kk (some [0, 1, 6, 24, 25]) kn [(1, (some [0, 1, 6]), k1)] R [4, 5]) = N63_6b ρ call yc lim k x0 x1 x6 x24 x25 H (fun x0 x1 x6 x24 x25 H => kn (sp 64 [(0, x0), (1, x1), (6, x6), (24, x24), (25, x25)]) H) (fun x0 x1 x6 H => k1 (sp 64 [(0, x0), (1, x1), (6, x6)]) H) := by
  kernel_rfl
noncomputable def N63_6 (ρ : Addr → Option Value) (call : CallF) (yc : YieldF) (lim k : Nat) (x0 x1 x6 x24 x25 : AV) (H : Heap) (k1 : AV → AV → AV → Heap → Res) : Res :=
  loopL (fun (x : AV) H kn => N63_6b ρ call yc lim k x0 x1 x6 x24 x H (fun _ _ _ _ x25 H => kn x25 H) k1) k x25 H
theorem N63_6_eq (ρ : Addr → Option Value) (call : CallF) (yc : YieldF) (lim k : Nat) (x0 x1 x6 x24 x25 : AV) (H : Heap) (kn : KS) (k1 : KS) (R : List AV → Heap → Res) :
    evL (cx ρ) call yc false 63 lim k (Code.at [1, 1, 1, 0, 1, 0] c63) (sp 64 [(0, x0), (1, x1), (6, x6), (24, x24), (25, x25)]) H (kk (some [0, 1, 6]) kn [(1, (some [0, 1, 6]), k1)] R [4, 5]) = N63_6 ρ call yc lim k x0 x1 x6 x24 x25 H (fun x0 x1 x6 H => k1 (sp 64 [(0, x0), (1, x1), (6, x6)]) H) := by
  have e : Code.at [1, 1, 1, 0, 1, 0] c63 = .loop (Code.at [1, 1, 1, 0, 1, 0, 0] c63) := by kernel_rfl
  rw [e]
  unfold N63_6
  exact loop_node [0, 1, 6, 24, 25] (fun x : AV => (sp 64 [(0, x0), (1, x1), (6, x6), (24, x24), (25, (x))])) (fun (x : AV) H kn => N63_6b ρ call yc lim k x0 x1 x6 x24 x H (fun _ _ _ _ x25 H => kn x25 H) (fun x0 x1 x6 H => k1 (sp 64 [(0, x0), (1, x1), (6, x6)]) H)) (by kernel_rfl) (fun x => by kernel_rfl) (fun x H kn => N63_6b_eq ρ call yc lim k x0 x1 x6 x24 (x) H kn k1 R) x25 (sp 64 [(0, x0), (1, x1), (6, x6), (24, x24), (25, x25)]) H (by kernel_rfl)
noncomputable def N63_5 (ρ : Addr → Option Value) (call : CallF) (yc : YieldF) (lim k : Nat) (x0 x1 x6 x24 x25 : AV) (H : Heap) (kn : AV → AV → AV → Heap → Res) : Res :=
  N63_6 ρ call yc lim k x0 x1 x6 x24 x25 H kn
theorem N63_5_x (ρ : Addr → Option Value) (call : CallF) (yc : YieldF) (lim k : Nat) (J : CodeF) (x0 x1 x6 x24 x25 : AV) (H : Heap) (kn : KS) (R : List AV → Heap → Res) :
    evX (cx ρ) call yc false 63 lim k J (Code.at [1, 1, 1, 0, 1] c63) (sp 64 [(0, x0), (1, x1), (6, x6), (24, x24), (25, x25)]) H (kk (some [0, 1, 6]) kn [] R [4, 5]) =
  J (Code.at [1, 1, 1, 0, 1, 0] c63) (sp 64 [(0, x0), (1, x1), (6, x6), (24, x24), (25, x25)]) H (kk (some [0, 1, 6]) kn [(1, (some [0, 1, 6]), kn)] R [4, 5]) := by
  kernel_rfl
theorem N63_5_eq (ρ : Addr → Option Value) (call : CallF) (yc : YieldF) (lim k : Nat) (x0 x1 x6 x24 x25 : AV) (H : Heap) (kn : KS) (R : List AV → Heap → Res) :
    evL (cx ρ) call yc false 63 lim k (Code.at [1, 1, 1, 0, 1] c63) (sp 64 [(0, x0), (1, x1), (6, x6), (24, x24), (25, x25)]) H (kk (some [0, 1, 6]) kn [] R [4, 5]) = N63_5 ρ call yc lim k x0 x1 x6 x24 x25 H (fun x0 x1 x6 H => kn (sp 64 [(0, x0), (1, x1), (6, x6)]) H) := by
  rw [evL_X, N63_5_x]
  simp only [← evL_X, N63_5, N63_6_eq]
noncomputable def L63 (ρ : Addr → Option Value) (call : CallF) (yc : YieldF) (lim k : Nat) (x0 x1 : AV) (H : Heap) : Res :=
  purK (binA Tryz.prog H .lss 3 x1 (.int .i64 0)) fun x12 =>
  condK x12
  (
    retK [(.str (ByteArray.mk #[])), (.int .i64 1)] H)
  (
    purK (lenBA (cx ρ) H 31 x0) fun x16 =>
    purK (binA Tryz.prog H .mul 3 (.int .i64 8) x16) fun x17 =>
    purK (binA Tryz.prog H .gtr 3 x1 x17) fun x18 =>
    condK x18
    (
      retK [(.str (ByteArray.mk #[])), (.int .i64 3)] H)
    (
      purK (lenBA (cx ρ) H 31 x0) fun x20 =>
      purK (binA Tryz.prog H .mul 3 (.int .i64 8) x20) fun x21 =>
      effK H (makeSliceA (cx ρ) H 207 x21 x21) fun x22 H =>
      purK (lenBA (cx ρ) H 207 x22) fun x24 =>
      N63_5 ρ call yc lim k x0 x1 x22 x24 (.int .i64 0) H (fun x0_1 x1_1 x6 H =>
        N63_1 ρ call yc lim k x0_1 x1_1 x6 H retK)))
theorem L63_x (ρ : Addr → Option Value) (call : CallF) (yc : YieldF) (lim k : Nat) (J : CodeF) (x0 x1 : AV) (H : Heap) :
    evX (cx ρ) call yc false 63 lim k J c63 [x0, x1, (.tup []), (.tup []), (.tup []), (.tup []), (.tup []), (.tup []), (.tup []), (.tup []), (.tup []), (.tup []), (.tup []), (.tup []), (.tup []), (.tup []), (.tup []), (.tup []), (.tup []), (.tup []), (.tup []), (.tup []), (.tup []), (.tup []), (.tup []), (.tup []), (.tup []), (.tup []), (.tup []), (.tup []), (.tup []), (.tup []), (.tup []), (.tup []), (.tup []), (.tup []), (.tup []), (.tup []), (.tup []), (.tup []), (.tup []), (.tup []), (.tup []), (.tup []), (.tup []), (.tup []), (.tup []), (.tup []), (.tup []), (.tup []), (.tup []), (.tup []), (.tup []), (.tup []), (.tup []), (.tup []), (.tup []), (.tup []), (.tup []), (.tup []), (.tup []), (.tup []), (.tup []), (.tup [])] H (kk none (fun s H => retK (([4, 5] : List Nat).map fun t => s.getD t (.tup [])) H) [] retK [4, 5]) =
  purK (binA Tryz.prog H .lss 3 x1 (.int .i64 0)) fun x12 =>
  condK x12
  (
    retK [(.str (ByteArray.mk #[])), (.int .i64 1)] H)
  (
    purK (lenBA (cx ρ) H 31 x0) fun x16 =>
    purK (binA Tryz.prog H .mul 3 (.int .i64 8) x16) fun x17 =>
    purK (binA Tryz.prog H .gtr 3 x1 x17) fun x18 =>
    condK x18
    (
      retK [(.str (ByteArray.mk #[])), (.int .i64 3)] H)
    (
      purK (lenBA (cx ρ) H 31 x0) fun x20 =>
      purK (binA Tryz.prog H .mul 3 (.int .i64 8) x20) fun x21 =>
      effK H (makeSliceA (cx ρ) H 207 x21 x21) fun x22 H =>
      purK (lenBA (cx ρ) H 207 x22) fun x24 =>
      J (Code.at [1, 1, 1, 0, 1] c63) (sp 64 [(0, x0), (1, x1), (6, x22), (24, x24), (25, (.int .i64 0))]) H (kk (some [0, 1, 6]) (fun s H => J (Code.at [1, 1, 1, 1] c63) s H (kk none (fun s H => retK (([4, 5] : List Nat).map fun t => s.getD t (.tup [])) H) [] retK [4, 5])) [] retK [4, 5]))) := by
  kernel_rfl
theorem G63 (ρ : Addr → Option Value) (call : CallF) (yc : YieldF) (lim k : Nat) (x0 x1 : AV) (H : Heap) :
    evL (cx ρ) call yc false 63 lim k c63 [x0, x1, (.tup []), (.tup []), (.tup []), (.tup []), (.tup []), (.tup []), (.tup []), (.tup []), (.tup []), (.tup []), (.tup []), (.tup []), (.tup []), (.tup []), (.tup []), (.tup []), (.tup []), (.tup []), (.tup []), (.tup []), (.tup []), (.tup []), (.tup []), (.tup []), (.tup []), (.tup []), (.tup []), (.tup []), (.tup []), (.tup []), (.tup []), (.tup []), (.tup []), (.tup []), (.tup []), (.tup []), (.tup []), (.tup []), (.tup []), (.tup []), (.tup []), (.tup []), (.tup []), (.tup []), (.tup []), (.tup []), (.tup []), (.tup []), (.tup []), (.tup []), (.tup []), (.tup []), (.tup []), (.tup []), (.tup []), (.tup []), (.tup []), (.tup []), (.tup []), (.tup []), (.tup []), (.tup [])] H (kk none (fun s H => retK (([4, 5] : List Nat).map fun t => s.getD t (.tup [])) H) [] retK [4, 5]) = L63 ρ call yc lim k x0 x1 H := by
  rw [evL_X, L63_x]
  simp only [← evL_X, L63, N63_1_eq, N63_5_eq]
theorem E63 (ρ : Addr → Option Value) (k lim : Nat) (x0 x1 : AV) (H : Heap) : evCall (cx ρ) (k + 1) lim 63 [x0, x1] H = L63 ρ (evCall (cx ρ) k) (evCY (cx ρ) k).2 lim k x0 x1 H := by
  rw [evCall_body (cx ρ) k lim 63 _ H Tryz.f63 c63 [4, 5] (by kernel_rfl) (by kernel_rfl) (by kernel_rfl) (by kernel_rfl) (by kernel_rfl)]
  exact G63 ρ (evCall (cx ρ) k) (evCY (cx ρ) k).2 lim k x0 x1 H
-- haycroft/record.ValueAt
noncomputable def c64 : Code := Code.of Tryz.prog 64
noncomputable def L64 (ρ : Addr → Option Value) (call : CallF) (yc : YieldF) (lim k : Nat) (x0 : AV) (H : Heap) : Res :=
  resK (call lim 129 [x0, (.int .i64 0)] H) fun x7 H =>
  purK (extA 0 x7) fun x8 =>
  purK (extA 1 x7) fun x9 =>
  purK (binA Tryz.prog H .neq 28 x9 (.int .i64 0)) fun x11 =>
  condK x11
  (
    retK [(.int .i64 0)] H)
  (
    resK (call lim 130 [x0] H) fun x13 H =>
    purK (binA Tryz.prog H .add 3 (.int .i64 3) x13) fun x14 =>
    retK [x14] H)
theorem G64 (ρ : Addr → Option Value) (call : CallF) (yc : YieldF) (lim k : Nat) (x0 : AV) (H : Heap) :
    evL (cx ρ) call yc false 64 lim k c64 [x0, (.tup []), (.tup []), (.tup []), (.tup []), (.tup []), (.tup []), (.tup []), (.tup []), (.tup []), (.tup []), (.tup []), (.tup []), (.tup []), (.tup [])] H (kk none (fun s H => retK (([2] : List Nat).map fun t => s.getD t (.tup [])) H) [] retK [2]) = L64 ρ call yc lim k x0 H := by
  kernel_rfl
theorem E64 (ρ : Addr → Option Value) (k lim : Nat) (x0 : AV) (H : Heap) : evCall (cx ρ) (k + 1) lim 64 [x0] H = L64 ρ (evCall (cx ρ) k) (evCY (cx ρ) k).2 lim k x0 H := by
  rw [evCall_body (cx ρ) k lim 64 _ H Tryz.f64 c64 [2] (by kernel_rfl) (by kernel_rfl) (by kernel_rfl) (by kernel_rfl) (by kernel_rfl)]
  exact G64 ρ (evCall (cx ρ) k) (evCY (cx ρ) k).2 lim k x0 H
-- haycroft/header.Count
noncomputable def c65 : Code := Code.of Tryz.prog 65
noncomputable def L65 (ρ : Addr → Option Value) (call : CallF) (yc : YieldF) (lim k : Nat) (x0 : AV) (H : Heap) : Res :=
  resK (call lim 86 [x0, (.int .i64 0), (.int .i64 32)] H) fun x4 H =>
  retK [x4] H
theorem G65 (ρ : Addr → Option Value) (call : CallF) (yc : YieldF) (lim k : Nat) (x0 : AV) (H : Heap) :
    evL (cx ρ) call yc false 65 lim k c65 [x0, (.tup []), (.tup []), (.tup []), (.tup [])] H (kk none (fun s H => retK (([2] : List Nat).map fun t => s.getD t (.tup [])) H) [] retK [2]) = L65 ρ call yc lim k x0 H := by
  kernel_rfl
theorem E65 (ρ : Addr → Option Value) (k lim : Nat) (x0 : AV) (H : Heap) : evCall (cx ρ) (k + 1) lim 65 [x0] H = L65 ρ (evCall (cx ρ) k) (evCY (cx ρ) k).2 lim k x0 H := by
  rw [evCall_body (cx ρ) k lim 65 _ H Tryz.f65 c65 [2] (by kernel_rfl) (by kernel_rfl) (by kernel_rfl) (by kernel_rfl) (by kernel_rfl)]
  exact G65 ρ (evCall (cx ρ) k) (evCY (cx ρ) k).2 lim k x0 H
-- haycroft/record.Right
noncomputable def c66 : Code := Code.of Tryz.prog 66
noncomputable def L66 (ρ : Addr → Option Value) (call : CallF) (yc : YieldF) (lim k : Nat) (x0 : AV) (H : Heap) : Res :=
  effK H (boxA H 27 x0) fun x1 H =>
  purK (fieldAddrA Tryz.prog 27 x1 0) fun x8 =>
  purK (loadA (cx ρ) H 25 x8) fun x9 =>
  resK (call lim 132 [x9] H) fun x10 H =>
  purK (extA 0 x10) fun x11 =>
  purK (extA 1 x10) fun x12 =>
  purK (binA Tryz.prog H .neq 28 x12 (.int .i64 0)) fun x14 =>
  purK (gPur (wantV x14 false) (fieldAddrA Tryz.prog 27 x1 1)) fun x16 =>
  purK (gPur (wantV x14 false) (loadA (cx ρ) H 9 x16)) fun x17 =>
  purK (gPur (wantV x14 false) (binA Tryz.prog H .eql 9 x17 (.str (ByteArray.mk #[])))) fun x18 =>
  purK (pickA x14 (.bool true) x18) fun x19 =>
  purK (gPur (wantV x19 false) (fieldAddrA Tryz.prog 27 x1 0)) fun x21 =>
  purK (gPur (wantV x19 false) (fieldAddrA Tryz.prog 25 x21 1)) fun x22 =>
  purK (gPur (wantV x19 false) (loadA (cx ρ) H 4 x22)) fun x23 =>
  purK (gPur (wantV x19 false) (some x23)) fun x24 =>
  purK (gPur (wantV x24 true) (fieldAddrA Tryz.prog 27 x1 2)) fun x25 =>
  purK (gPur (wantV x24 true) (loadA (cx ρ) H 9 x25)) fun x26 =>
  purK (gPur (wantV x24 true) (binA Tryz.prog H .neq 9 x26 (.str (ByteArray.mk #[])))) fun x27 =>
  purK (gPur (wantV x19 false) (pickA x24 x27 (.bool false))) fun x28 =>
  purK (pickA x19 (.bool true) x28) fun x29 =>
  condK x29
  (
    retK [(.int .i64 1)] H)
  (
    purK (fieldAddrA Tryz.prog 27 x1 1) fun x31 =>
    purK (loadA (cx ρ) H 9 x31) fun x32 =>
    purK (lenBA (cx ρ) H 9 x32) fun x33 =>
    purK (fieldAddrA Tryz.prog 27 x1 2) fun x34 =>
    purK (loadA (cx ρ) H 9 x34) fun x35 =>
    purK (lenBA (cx ρ) H 9 x35) fun x36 =>
    resK (call lim 129 [x33, x36] H) fun x37 H =>
    purK (extA 0 x37) fun x38 =>
    purK (extA 1 x37) fun x39 =>
    retK [x39] H)
theorem G66 (ρ : Addr → Option Value) (call : CallF) (yc : YieldF) (lim k : Nat) (x0 : AV) (H : Heap) :
    evL (cx ρ) call yc false 66 lim k c66 [x0, (.tup []), (.tup []), (.tup []), (.tup []), (.tup []), (.tup []), (.tup []), (.tup []), (.tup []), (.tup []), (.tup []), (.tup []), (.tup []), (.tup []), (.tup []), (.tup []), (.tup []), (.tup []), (.tup []), (.tup []), (.tup []), (.tup []), (.tup []), (.tup []), (.tup []), (.tup []), (.tup []), (.tup []), (.tup []), (.tup []), (.tup []), (.tup []), (.tup []), (.tup []), (.tup []), (.tup []), (.tup []), (.tup []), (.tup []), (.tup [])] H (kk none (fun s H => retK (([2] : List Nat).map fun t => s.getD t (.tup [])) H) [] retK [2]) = L66 ρ call yc lim k x0 H := by
  kernel_rfl
theorem E66 (ρ : Addr → Option Value) (k lim : Nat) (x0 : AV) (H : Heap) : evCall (cx ρ) (k + 1) lim 66 [x0] H = L66 ρ (evCall (cx ρ) k) (evCY (cx ρ) k).2 lim k x0 H := by
  rw [evCall_body (cx ρ) k lim 66 _ H Tryz.f66 c66 [2] (by kernel_rfl) (by kernel_rfl) (by kernel_rfl) (by kernel_rfl) (by kernel_rfl)]
  exact G66 ρ (evCall (cx ρ) k) (evCY (cx ρ) k).2 lim k x0 H
-- (*haycroft/index.Index).Entries
noncomputable def c67 : Code := Code.of Tryz.prog 67
noncomputable def N67_1 (ρ : Addr → Option Value) (call : CallF) (yc : YieldF) (lim k : Nat) (x3 : AV) (H : Heap) (R : List AV → Heap → Res) : Res :=
  R [x3] H
theorem N67_1_eq (ρ : Addr → Option Value) (call : CallF) (yc : YieldF) (lim k : Nat) (x3 : AV) (H : Heap) (R : List AV → Heap → Res) :
    evL (cx ρ) call yc false 67 lim k (Code.at [1, 1, 1, 1] c67) (sp 41 [(3, x3)]) H (kk none (fun s H => R (([2] : List Nat).map fun t => s.getD t (.tup [])) H) [] R [2]) = N67_1 ρ call yc lim k x3 H R := by
  kernel_rfl
noncomputable def N67_4 (ρ : Addr → Option Value) (call : CallF) (yc : YieldF) (lim k : Nat) (x0 x3 x13 x14 : AV) (H : Heap) (kn : AV → AV → AV → AV → Heap → Res) : Res :=
  purK (binA Tryz.prog H .add 3 x14 (.int .i64 1)) fun x39_1 =>
  kn x0 x3 x13 x39_1 H
theorem N67_4_eq (ρ : Addr → Option Value) (call : CallF) (yc : YieldF) (lim k : Nat) (x0 x3 x13 x14 : AV) (H : Heap) (kn : KS) (k0 : KS) (R : List AV → Heap → Res) :
    evL (cx ρ) call yc false 67 lim k (Code.at [1, 1, 1, 0, 1, 0, 0, 1, 1, 1] c67) (sp 41 [(0, x0), (3, x3), (13, x13), (14, x14)]) H (kk (some [0, 3, 13, 14]) kn [(0, (some [3]), k0)] R [2]) = N67_4 ρ call yc lim k x0 x3 x13 x14 H (fun x0 x3 x13 x14 H => kn (sp 41 [(0, x0), (3, x3), (13, x13), (14, x14)]) H) := by
  kernel_rfl
noncomputable def N67_7 (ρ : Addr → Option Value) (call : CallF) (yc : YieldF) (lim k : Nat) (x0 x3 x13 x14 x20 x21 x22 : AV) (H : Heap) (kn : AV → AV → AV → AV → AV → AV → AV → Heap → Res) : Res :=
  purK (binA Tryz.prog H .add 3 x22 (.int .i64 1)) fun x38_1 =>
  kn x0 x3 x13 x14 x20 x21 x38_1 H
theorem N67_7_eq (ρ : Addr → Option Value) (call : CallF) (yc : YieldF) (lim k : Nat) (x0 x3 x13 x14 x20 x21 x22 : AV) (H : Heap) (kn : KS) (k2 : KS) (k1 : KS) (k0 : KS) (R : List AV → Heap → Res) :
    evL (cx ρ) call yc false 67 lim k (Code.at [1, 1, 1, 0, 1, 0, 0, 1, 1, 0, 0, 1, 1, 0, 0, 1, 1, 1] c67) (sp 41 [(0, x0), (3, x3), (13, x13), (14, x14), (20, x20), (21, x21), (22, x22)]) H (kk (some [0, 3, 13, 14, 20, 21, 22]) kn [(2, (some [0, 3, 13, 14]), k2), (1, (some [0, 3, 13, 14]), k1), (0, (some [3]), k0)] R [2]) = N67_7 ρ call yc lim k x0 x3 x13 x14 x20 x21 x22 H (fun x0 x3 x13 x14 x20 x21 x22 H => kn (sp 41 [(0, x0), (3, x3), (13, x13), (14, x14), (20, x20), (21, x21), (22, x22)]) H) := by
  kernel_rfl
noncomputable def N67_6b (ρ : Addr → Option Value) (call : CallF) (yc : YieldF) (lim k : Nat) (x0 x3 x13 x14 x20 x21 x22 : AV) (H : Heap) (kn : AV → AV → AV → AV → AV → AV → AV → Heap → Res) (k2 : AV → AV → AV → AV → Heap → Res) : Res :=
  purK (binA Tryz.prog H .lss 3 x22 x21) fun x23_1 =>
  condK x23_1
  (
    purK (indexAddrA Tryz.prog 60 x20 x22) fun x24_1 =>
    purK (loadA (cx ρ) H 3 x24_1) fun x25_1 =>
    purK (nilChkA x0) fun x27_1 =>
    purK (fieldAddrA Tryz.prog 162 x27_1 2) fun x28_1 =>
    purK (loadA (cx ρ) H 160 x28_1) fun x29_1 =>
    resK (call lim 84 [x29_1, x25_1] H) fun x31_1 H =>
    purK (binA Tryz.prog H .neq 22 x31_1 (.int .u64 0)) fun x33_1 =>
    condK x33_1
    (
      effK H (buildSliceA (cx ρ) H 31 1 [(0, x31_1)]) fun x36_1 H =>
      effK H (builtinA (cx ρ) lim H .append #[31, 31] [x3, x36_1]) fun x37_1 H =>
      N67_7 ρ call yc lim k x0 x37_1 x13 x14 x20 x21 x22 H kn)
    (
      N67_7 ρ call yc lim k x0 x3 x13 x14 x20 x21 x22 H kn))
  (
    k2 x0 x3 x13 x14 H)
theorem N67_6b_x (ρ : Addr → Option Value) (call : CallF) (yc : YieldF) (lim k : Nat) (J : CodeF) (x0 x3 x13 x14 x20 x21 x22 : AV) (H : Heap) (kn : KS) (k2 : KS) (k1 : KS) (k0 : KS) (R : List AV → Heap → Res) :
    evX (cx ρ) call yc false 67 lim k J (Code.at [1, 1, 1, 0, 1, 0, 0, 1, 1, 0, 0, 1, 1, 0, 0] c67) (sp 41 [(0, x0), (3, x3), (13, x13), (14, x14), (20, x20), (21, x21), (22, x22)]) H (kk (some [0, 3, 13, 14, 20, 21, 22]) kn [(2, (some [0, 3, 13, 14]), k2), (1, (some [0, 3, 13, 14]), k1), (0, (some [3]), k0)] R [2]) =
  purK (binA Tryz.prog H .lss 3 x22 x21) fun x23_1 =>
  condK x23_1
  (
    purK (indexAddrA Tryz.prog 60 x20 x22) fun x24_1 =>
    purK (loadA (cx ρ) H 3 x24_1) fun x25_1 =>
    purK (nilChkA x0) fun x27_1 =>
    purK (fieldAddrA Tryz.prog 162 x27_1 2) fun x28_1 =>
    purK (loadA (cx ρ) H 160 x28_1) fun x29_1 =>
    resK (call lim 84 [x29_1, x25_1] H) fun x31_1 H =>
    purK (binA Tryz.prog H .neq 22 x31_1 (.int .u64 0)) fun x33_1 =>
    condK x33_1
    (
      effK H (buildSliceA (cx ρ) H 31 1 [(0, x31_1)]) fun x36_1 H =>
      effK H (builtinA (cx ρ) lim H .append #[31, 31] [x3, x36_1]) fun x37_1 H =>
      J (Code.at [1, 1, 1, 0, 1, 0, 0, 1, 1, 0, 0, 1, 1, 0, 0, 1, 1, 1] c67) (sp 41 [(0, x0), (3, x37_1), (13, x13), (14, x14), (20, x20), (21, x21), (22, x22)]) H (kk (some [0, 3, 13, 14, 20, 21, 22]) kn [(2, (some [0, 3, 13, 14]), k2), (1, (some [0, 3, 13, 14]), k1), (0, (some [3]), k0)] R [2]))
    (
      J (Code.at [1, 1, 1, 0, 1, 0, 0, 1, 1, 0, 0, 1, 1, 0, 0, 1, 1, 1] c67) (sp 41 [(0, x0), (3, x3), (13, x13), (14, x14), (20, x20), (21, x21), (22, x22)]) H (kk (some [0, 3, 13, 14, 20, 21, 22]) kn [(2, (some [0, 3, 13, 14]), k2), (1, (some [0, 3, 13, 14]), k1), (0, (some [3]), k0)] R [2])))
  (
    k2 (sp 41 [(0, x0), (3, x3), (13, x13), (14, x14)]) H) := by
  kernel_rfl
theorem N67_6b_eq (ρ : Addr → Option Value) (call : CallF) (yc : YieldF) (lim k : Nat) (x0 x3 x13 x14 x20 x21 x22 : AV) (H : Heap) (kn : KS) (k2 : KS) (k1 : KS) (k0 : KS) (R : List AV → Heap → Res) :
    evL (cx ρ) call yc false 67 lim k (Code.at [1, 1, 1, 0, 1, 0, 0, 1, 1, 0, 0, 1, 1, 0, 0] c67) (sp 41 [(0, x0), (3, x3), (13, x13), (14, x14), (20, x20), (21, x21), (22, x22)]) H (kk (some [0, 3, 13, 14, 20, 21, 22]) kn [(2, (some [0, 3, 13, 14]), k2), (1, (some [0, 3, 13, 14]), k1), (0, (some [3]), k0)] R [2]) = N67_6b ρ call yc lim k x0 x3 x13 x14 x20 x21 x22 H (fun x0 x3 x13 x14 x20 x21 x22 H => kn (sp 41 [(0, x0), (3, x3), (13, x13), (14, x14), (20, x20), (21, x21), (22, x22)]) H) (fun x0 x3 x13 x14 H => k2 (sp 41 [(0, x0), (3, x3), (13, x13), (14, x14)]) H) := by
  rw [evL_X, N67_6b_x]
  simp only [← evL_X, N67_6b, N67_7_eq]
noncomputable def N67_6 (ρ : Addr → Option Value) (call : CallF) (yc : YieldF) (lim k : Nat) (x0 x3 x13 x14 x20 x21 x22 : AV) (H : Heap) (k2 : AV → AV → AV → AV → Heap → Res) : Res :=
  loopL (fun (x : AV × AV) H kn => N67_6b ρ call yc lim k x0 x.1 x13 x14 x20 x21 x.2 H (fun _ x3 _ _ _ _ x22 H => kn (x3, x22) H) k2) k (x3, x22) H
theorem N67_6_eq (ρ : Addr → Option Value) (call : CallF) (yc : YieldF) (lim k : Nat) (x0 x3 x13 x14 x20 x21 x22 : AV) (H : Heap) (kn : KS) (k2 : KS) (k1 : KS) (k0 : KS) (R : List AV → Heap → Res) :
    evL (cx ρ) call yc false 67 lim k (Code.at [1, 1, 1, 0, 1, 0, 0, 1, 1, 0, 0, 1, 1, 0] c67) (sp 41 [(0, x0), (3, x3), (13, x13), (14, x14), (20, x20), (21, x21), (22, x22)]) H (kk (some [0, 3, 13, 14]) kn [(2, (some [0, 3, 13, 14]), k2), (1, (some [0, 3, 13, 14]), k1), (0, (some [3]), k0)] R [2]) = N67_6 ρ call yc lim k x0 x3 x13 x14 x20 x21 x22 H (fun x0 x3 x13 x14 H => k2 (sp 41 [(0, x0), (3, x3), (13, x13), (14, x14)]) H) := by
  have e : Code.at [1, 1, 1, 0, 1, 0, 0, 1, 1, 0, 0, 1, 1, 0] c67 = .loop (Code.at [1, 1, 1, 0, 1, 0, 0, 1, 1, 0, 0, 1, 1, 0, 0] c67) := by kernel_rfl
  rw [e]
  unfold N67_6
  exact loop_node [0, 3, 13, 14, 20, 21, 22] (fun x : AV × AV => (sp 41 [(0, x0), (3, (x.1)), (13, x13), (14, x14), (20, x20), (21, x21), (22, (x.2))])) (fun (x : AV × AV) H kn => N67_6b ρ call yc lim k x0 x.1 x13 x14 x20 x21 x.2 H (fun _ x3 _ _ _ _ x22 H => kn (x3, x22) H) (fun x0 x3 x13 x14 H => k2 (sp 41 [(0, x0), (3, x3), (13, x13), (14, x14)]) H)) (by kernel_rfl) (fun x => by kernel_rfl) (fun x H kn => N67_6b_eq ρ call yc lim k x0 (x.1) x13 x14 x20 x21 (x.2) H kn k2 k1 k0 R) (x3, x22) (sp 41 [(0, x0), (3, x3), (13, x13), (14, x14), (20, x20), (21, x21), (22, x22)]) H (by kernel_rfl)
noncomputable def N67_5 (ρ : Addr → Option Value) (call : CallF) (yc : YieldF) (lim k : Nat) (x0 x3 x13 x14 x20 x21 x22 : AV) (H : Heap) (kn : AV → AV → AV → AV → Heap → Res) : Res :=
  N67_6 ρ call yc lim k x0 x3 x13 x14 x20 x21 x22 H kn
theorem N67_5_x (ρ : Addr → Option Value) (call : CallF) (yc : YieldF) (lim k : Nat) (J : CodeF) (x0 x3 x13 x14 x20 x21 x22 : AV) (H : Heap) (kn : KS) (k1 : KS) (k0 : KS) (R : List AV → Heap → Res) :
    evX (cx ρ) call yc false 67 lim k J (Code.at [1, 1, 1, 0, 1, 0, 0, 1, 1, 0, 0, 1, 1] c67) (sp 41 [(0, x0), (3, x3), (13, x13), (14, x14), (20, x20), (21, x21), (22, x22)]) H (kk (some [0, 3, 13, 14]) kn [(1, (some [0, 3, 13, 14]), k1), (0, (some [3]), k0)] R [2]) =
  J (Code.at [1, 1, 1, 0, 1, 0, 0, 1, 1, 0, 0, 1, 1, 0] c67) (sp 41 [(0, x0), (3, x3), (13, x13), (14, x14), (20, x20), (21, x21), (22, x22)]) H (kk (some [0, 3, 13, 14]) kn [(2, (some [0, 3, 13, 14]), kn), (1, (some [0, 3, 13, 14]), k1), (0, (some [3]), k0)] R [2]) := by
  kernel_rfl
theorem N67_5_eq (ρ : Addr → Option Value) (call : CallF) (yc : YieldF) (lim k : Nat) (x0 x3 x13 x14 x20 x21 x22 : AV) (H : Heap) (kn : KS) (k1 : KS) (k0 : KS) (R : List AV → Heap → Res) :
    evL (cx ρ) call yc false 67 lim k (Code.at [1, 1, 1, 0, 1, 0, 0, 1, 1, 0, 0, 1, 1] c67) (sp 41 [(0, x0), (3, x3), (13, x13), (14, x14), (20, x20), (21, x21), (22, x22)]) H (kk (some [0, 3, 13, 14]) kn [(1, (some [0, 3, 13, 14]), k1), (0, (some [3]), k0)] R [2]) = N67_5 ρ call yc lim k x0 x3 x13 x14 x20 x21 x22 H (fun x0 x3 x13 x14 H => kn (sp 41 [(0, x0), (3, x3), (13, x13), (14, x14)]) H) := by
  rw [evL_X, N67_5_x]
  simp only [← evL_X, N67_5, N67_6_eq]
noncomputable def N67_3b (ρ : Addr → Option Value) (call : CallF) (yc : YieldF) (lim k : Nat) (x0 x3 x13 x14 : AV) (H : Heap) (kn : AV → AV → AV → AV → Heap → Res) (k0 : AV → Heap → Res) : Res :=
  purK (binA Tryz.prog H .lss 3 x14 x13) fun x15_1 =>
  condK x15_1
  (
    resK (call lim 74 [x0, x14] H) fun x19_1 H =>
    resK (call lim 80 [x19_1] H) fun x20_1 H =>
    purK (lenBA (cx ρ) H 60 x20_1) fun x21_1 =>
    N67_5 ρ call yc lim k x0 x3 x13 x14 x20_1 x21_1 (.int .i64 0) H (fun x0_1 x3_1 x13_1 x14_1 H =>
      N67_4 ρ call yc lim k x0_1 x3_1 x13_1 x14_1 H kn))
  (
    k0 x3 H)
theorem N67_3b_x (ρ : Addr → Option Value) (call : CallF) (yc : YieldF) (lim k : Nat) (J : CodeF) (x0 x3 x13 x14 : AV) (H : Heap) (kn : KS) (k0 : KS) (R : List AV → Heap → Res) :
    evX (cx ρ) call yc false 67 lim k J (Code.at [1, 1, 1, 0, 1, 0, 0] c67) (sp 41 [(0, x0), (3, x3), (13, x13), (14, x14)]) H (kk (some [0, 3, 13, 14]) kn [(0, (some [3]), k0)] R [2]) =
  purK (binA Tryz.prog H .lss 3 x14 x13) fun x15_1 =>
  condK x15_1
  (
    resK (call lim 74 [x0, x14] H) fun x19_1 H =>
    resK (call lim 80 [x19_1] H) fun x20_1 H =>
    purK (lenBA (cx ρ) H 60 x20_1) fun x21_1 =>
    J (Code.at [1, 1, 1, 0, 1, 0, 0, 1, 1, 0, 0, 1, 1] c67) (sp 41 [(0, x0), (3, x3), (13, x13), (14, x14), (20, x20_1), (21, x21_1), (22, (.int .i64 0))]) H (kk (some [0, 3, 13, 14]) (fun s H => J (Code.at [1, 1, 1, 0, 1, 0, 0, 1, 1, 1] c67) s H (kk (some [0, 3, 13, 14]) kn [(0, (some [3]), k0)] R [2])) [(1, (some [0, 3, 13, 14]), (fun s H => J (Code.at [1, 1, 1, 0, 1, 0, 0, 1, 1, 1] c67) s H (kk (some [0, 3, 13, 14]) kn [(0, (some [3]), k0)] R [2]))), (0, (some [3]), k0)] R [2]))
  (
    k0 (sp 41 [(3, x3)]) H) := by
  kernel_rfl
theorem N67_3b_eq (ρ : Addr → Option Value) (call : CallF) (yc : YieldF) (lim k : Nat) (x0 x3 x13 x14 : AV) (H : Heap) (kn : KS) (k0 : KS) (R : List AV → Heap → Res) :
    evL (cx ρ) call yc false 67 lim k (Code.at [1, 1, 1, 0, 1, 0, 0] c67) (sp 41 [(0, x0), (3, x3), (13, x13), (14, x14)]) H (kk (some [0, 3, 13, 14]) kn [(0, (some [3]), k0)] R [2]) = N67_3b ρ call yc lim k x0 x3 x13 x14 H (fun x0 x3 x13 x14 H => kn (sp 41 [(0, x0), (3, x3), (13, x13), (14, x14)]) H) (fun x3 H => k0 (sp 41 [(3, x3)]) H) := by
  rw [evL_X, N67_3b_x]
  simp only [← evL_X, N67_3b, N67_4_eq, N67_5_eq]
noncomputable def N67_3 (ρ : Addr → Option Value) (call : CallF) (yc : YieldF) (lim k : Nat) (x0 x3 x13 x14 : AV) (H : Heap) (k0 : AV → Heap → Res) : Res :=
  loopL (fun (x : AV × AV) H kn => N67_3b ρ call yc lim k x0 x.1 x13 x.2 H (fun _ x3 _ x14 H => kn (x3, x14) H) k0) k (x3, x14) H
theorem N67_3_eq (ρ : Addr → Option Value) (call : CallF) (yc : YieldF) (lim k : Nat) (x0 x3 x13 x14 : AV) (H : Heap) (kn : KS) (k0 : KS) (R : List AV → Heap → Res) :
    evL (cx ρ) call yc false 67 lim k (Code.at [1, 1, 1, 0, 1, 0] c67) (sp 41 [(0, x0), (3, x3), (13, x13), (14, x14)]) H (kk (some [3]) kn [(0, (some [3]), k0)] R [2]) = N67_3 ρ call yc lim k x0 x3 x13 x14 H (fun x3 H => k0 (sp 41 [(3, x3)]) H) := by
  have e : Code.at [1, 1, 1, 0, 1, 0] c67 = .loop (Code.at [1, 1, 1, 0, 1, 0, 0] c67) := by kernel_rfl
  rw [e]
  unfold N67_3
  exact loop_node [0, 3, 13, 14] (fun x : AV × AV => (sp 41 [(0, x0), (3, (x.1)), (13, x13), (14, (x.2))])) (fun (x : AV × AV) H kn => N67_3b ρ call yc lim k x0 x.1 x13 x.2 H (fun _ x3 _ x14 H => kn (x3, x14) H) (fun x3 H => k0 (sp 41 [(3, x3)]) H)) (by kernel_rfl) (fun x => by kernel_rfl) (fun x H kn => N67_3b_eq ρ call yc lim k x0 (x.1) x13 (x.2) H kn k0 R) (x3, x14) (sp 41 [(0, x0), (3, x3), (13, x13), (14, x14)]) H (by kernel_rfl)
noncomputable def N67_2 (ρ : Addr → Option Value) (call : CallF) (yc : YieldF) (lim k : Nat) (x0 x3 x13 x14 : AV) (H : Heap) (kn : AV → Heap → Res) : Res :=
  N67_3 ρ call yc lim k x0 x3 x13 x14 H kn
theorem N67_2_x (ρ : Addr → Option Value) (call : CallF) (yc : YieldF) (lim k : Nat) (J : CodeF) (x0 x3 x13 x14 : AV) (H : Heap) (kn : KS) (R : List AV → Heap → Res) :
    evX (cx ρ) call yc false 67 lim k J (Code.at [1, 1, 1, 0, 1] c67) (sp 41 [(0, x0), (3, x3), (13, x13), (14, x14)]) H (kk (some [3]) kn [] R [2]) =
  J (Code.at [1, 1, 1, 0, 1, 0] c67) (sp 41 [(0, x0), (3, x3), (13, x13), (14, x14)]) H (kk (some [3]) kn [(0, (some [3]), kn)] R [2]) := by
  kernel_rfl
theorem N67_2_eq (ρ : Addr → Option Value) (call : CallF) (yc : YieldF) (lim k : Nat) (x0 x3 x13 x14 : AV) (H : Heap) (kn : KS) (R : List AV → Heap → Res) :
    evL (cx ρ) call yc false 67 lim k (Code.at [1, 1, 1, 0, 1] c67) (sp 41 [(0, x0), (3, x3), (13, x13), (14, x14)]) H (kk (some [3]) kn [] R [2]) = N67_2 ρ call yc lim k x0 x3 x13 x14 H (fun x3 H => kn (sp 41 [(3, x3)]) H) := by
  rw [evL_X, N67_2_x]
  simp only [← evL_X, N67_2, N67_3_eq]
noncomputable def L67 (ρ : Addr → Option Value) (call : CallF) (yc : YieldF) (lim k : Nat) (x0 : AV) (H : Heap) : Res :=
  purK (binA Tryz.prog H .eql 95 x0 .nilp) fun x9 =>
  condK x9
  (
    retK [.nils] H)
  (
    purK (nilChkA x0) fun x11 =>
    purK (fieldAddrA Tryz.prog 162 x11 0) fun x12 =>
    purK (loadA (cx ρ) H 3 x12) fun x13 =>
    N67_2 ρ call yc lim k x0 .nils x13 (.int .i64 0) H (fun x3 H =>
      N67_1 ρ call yc lim k x3 H retK))
theorem L67_x (ρ : Addr → Option Value) (call : CallF) (yc : YieldF) (lim k : Nat) (J : CodeF) (x0 : AV) (H : Heap) :
    evX (cx ρ) call yc false 67 lim k J c67 [x0, (.tup []), (.tup []), (.tup []), (.tup []), (.tup []), (.tup []), (.tup []), (.tup []), (.tup []), (.tup []), (.tup []), (.tup []), (.tup []), (.tup []), (.tup []), (.tup []), (.tup []), (.tup []), (.tup []), (.tup []), (.tup []), (.tup []), (.tup []), (.tup []), (.tup []), (.tup []), (.tup []), (.tup []), (.tup []), (.tup []), (.tup []), (.tup []), (.tup []), (.tup []), (.tup []), (.tup []), (.tup []), (.tup []), (.tup []), (.tup [])] H (kk none (fun s H => retK (([2] : List Nat).map fun t => s.getD t (.tup [])) H) [] retK [2]) =
  purK (binA Tryz.prog H .eql 95 x0 .nilp) fun x9 =>
  condK x9
  (
    retK [.nils] H)
  (
    purK (nilChkA x0) fun x11 =>
    purK (fieldAddrA Tryz.prog 162 x11 0) fun x12 =>
    purK (loadA (cx ρ) H 3 x12) fun x13 =>
    J (Code.at [1, 1, 1, 0, 1] c67) (sp 41 [(0, x0), (3, .nils), (13, x13), (14, (.int .i64 0))]) H (kk (some [3]) (fun s H => J (Code.at [1, 1, 1, 1] c67) s H (kk none (fun s H => retK (([2] : List Nat).map fun t => s.getD t (.tup [])) H) [] retK [2])) [] retK [2])) := by
  kernel_rfl
theorem G67 (ρ : Addr → Option Value) (call : CallF) (yc : YieldF) (lim k : Nat) (x0 : AV) (H : Heap) :
    evL (cx ρ) call yc false 67 lim k c67 [x0, (.tup []), (.tup []), (.tup []), (.tup []), (.tup []), (.tup []), (.tup []), (.tup []), (.tup []), (.tup []), (.tup []), (.tup []), (.tup []), (.tup []), (.tup []), (.tup []), (.tup []), (.tup []), (.tup []), (.tup []), (.tup []), (.tup []), (.tup []), (.tup []), (.tup []), (.tup []), (.tup []), (.tup []), (.tup []), (.tup []), (.tup []), (.tup []), (.tup []), (.tup []), (.tup []), (.tup []), (.tup []), (.tup []), (.tup []), (.tup [])] H (kk none (fun s H => retK (([2] : List Nat).map fun t => s.getD t (.tup [])) H) [] retK [2]) = L67 ρ call yc lim k x0 H := by
  rw [evL_X, L67_x]
  simp only [← evL_X, L67, N67_1_eq, N67_2_eq]
theorem E67 (ρ : Addr → Option Value) (k lim : Nat) (x0 : AV) (H : Heap) : evCall (cx ρ) (k + 1) lim 67 [x0] H = L67 ρ (evCall (cx ρ) k) (evCY (cx ρ) k).2 lim k x0 H := by
  rw [evCall_body (cx ρ) k lim 67 _ H Tryz.f67 c67 [2] (by kernel_rfl) (by kernel_rfl) (by kernel_rfl) (by kernel_rfl) (by kernel_rfl)]
  exact G67 ρ (evCall (cx ρ) k) (evCY (cx ρ) k).2 lim k x0 H
-- slices.pdqsortCmpFunc[haycroft/api.Pair]
noncomputable def c68 : Code := Code.of Tryz.prog 68
noncomputable def N68_5 (ρ : Addr → Option Value) (call : CallF) (yc : YieldF) (lim k : Nat) (x0 x1 x2 x3 x4 x10 x11 x12 x13 : AV) (H : Heap) (kn : AV → AV → AV → AV → AV → AV → AV → Heap → Res) (k1 : AV → AV → AV → AV → AV → AV → AV → Heap → Res) : Res :=
  purK (binA Tryz.prog H .gtr 3 x1 (.int .i64 0)) fun x82_1 =>
  boolK (wantV x82_1 true) fun b1 => purK (bif b1 then some x4 else some (.tup [])) fun x84_1 =>
  boolK (wantV x82_1 true) fun b2 => purK (bif b2 then some x0 else some (.tup [])) fun x85_1 =>
  boolK (wantV x82_1 true) fun b3 => purK (bif b3 then some x1 else some (.tup [])) fun x86_1 =>
  boolK (wantV x82_1 true) fun b4 => purK (bif b4 then binA Tryz.prog H .sub 3 x86_1 (.int .i64 1) else some (.tup [])) fun x87_1 =>
  boolK (wantV x82_1 true) fun b5 => purK (bif b5 then indexAddrA Tryz.prog 34 x85_1 x87_1 else some (.tup [])) fun x88_1 =>
  boolK (wantV x82_1 true) fun b6 => purK (bif b6 then loadA (cx ρ) H 80 x88_1 else some (.tup [])) fun x89_1 =>
  boolK (wantV x82_1 true) fun b7 => purK (bif b7 then some x0 else some (.tup [])) fun x90_1 =>
  boolK (wantV x82_1 true) fun b8 => purK (bif b8 then some x13 else some (.tup [])) fun x91_1 =>
  boolK (wantV x82_1 true) fun b9 => purK (bif b9 then indexAddrA Tryz.prog 34 x90_1 x91_1 else some (.tup [])) fun x92_1 =>
  boolK (wantV x82_1 true) fun b10 => purK (bif b10 then loadA (cx ρ) H 80 x92_1 else some (.tup [])) fun x93_1 =>
  boolK (wantV x82_1 true) fun b11 => resK (gRes (some b11) H (valR call noY lim x84_1 [x89_1, x93_1] H)) fun x94_1 H => bif !b11 || ((!b10 || true) && ((!b6 || true) && ((!b4 || true) && true))) then
    purK (gPur (wantV x82_1 true) (binA Tryz.prog H .lss 3 x94_1 (.int .i64 0))) fun x95_1 =>
    purK (gPur (wantV x82_1 true) (unA .not x95_1)) fun x96_1 =>
    purK (pickA x82_1 x96_1 (.bool false)) fun x97_1 =>
    condK x97_1
    (
      resK (call lim 139 [x0, x1, x2, x13, x4] H) fun x103_1 H =>
      k1 x0 x103_1 x2 x3 x4 x10 x11 H)
    (
      resK (call lim 140 [x0, x1, x2, x13, x4] H) fun x111_1 H =>
      purK (extA 0 x111_1) fun x112_1 =>
      purK (extA 1 x111_1) fun x113_1 =>
      purK (binA Tryz.prog H .sub 3 x112_1 x1) fun x117_1 =>
      purK (binA Tryz.prog H .sub 3 x2 x112_1) fun x120_1 =>
      purK (binA Tryz.prog H .quo 3 x12 (.int .i64 8)) fun x122_1 =>
      purK (binA Tryz.prog H .lss 3 x117_1 x120_1) fun x125_1 =>
      condK x125_1
      (
        purK (binA Tryz.prog H .geq 3 x117_1 x122_1) fun x128_1 =>
        resK (call lim 68 [x0, x1, x112_1, x3, x4] H) fun x134_1 H =>
        purK (binA Tryz.prog H .add 3 x112_1 (.int .i64 1)) fun x136_1 =>
        kn x0 x136_1 x2 x3 x4 x128_1 x113_1 H)
      (
        purK (binA Tryz.prog H .geq 3 x120_1 x122_1) fun x139_1 =>
        purK (binA Tryz.prog H .add 3 x112_1 (.int .i64 1)) fun x142_1 =>
        resK (call lim 68 [x0, x142_1, x2, x3, x4] H) fun x146_1 H =>
        kn x0 x1 x112_1 x3 x4 x139_1 x113_1 H))
  else none
theorem N68_5_eq (ρ : Addr → Option Value) (call : CallF) (yc : YieldF) (lim k : Nat) (x0 x1 x2 x3 x4 x10 x11 x12 x13 : AV) (H : Heap) (kn : KS) (k1 : KS) (R : List AV → Heap → Res) :
    evL (cx ρ) call yc false 68 lim k (Code.at [1, 1, 0, 0, 0, 1, 1, 1, 1, 1, 1, 1] c68) (sp 148 [(0, x0), (1, x1), (2, x2), (3, x3), (4, x4), (10, x10), (11, x11), (12, x12), (13, x13)]) H (kk (some [0, 1, 2, 3, 4, 10, 11]) kn [(1, (some [0, 1, 2, 3, 4, 10, 11]), k1), (0, none, (fun s H => R (([] : List Nat).map fun t => s.getD t (.tup [])) H))] R []) = N68_5 ρ call yc lim k x0 x1 x2 x3 x4 x10 x11 x12 x13 H (fun x0 x1 x2 x3 x4 x10 x11 H => kn (sp 148 [(0, x0), (1, x1), (2, x2), (3, x3), (4, x4), (10, x10), (11, x11)]) H) (fun x0 x1 x2 x3 x4 x10 x11 H => k1 (sp 148 [(0, x0), (1, x1), (2, x2), (3, x3), (4, x4), (10, x10), (11, x11)]) H) := by
  kernel_rfl
noncomputable def N68_4 (ρ : Addr → Option Value) (call : CallF) (yc : YieldF) (lim k : Nat) (x0 x1 x2 x3 x4 x10 x11 x12 x13 x14 : AV) (H : Heap) (kn : AV → AV → AV → AV → AV → AV → AV → Heap → Res) (k1 : AV → AV → AV → AV → AV → AV → AV → Heap → Res) (R : List AV → Heap → Res) : Res :=
  purK (gPur (wantV x10 true) (some x11)) fun x70_1 =>
  purK (pickA x10 x70_1 (.bool false)) fun x71_1 =>
  purK (gPur (wantV x71_1 true) (some x14)) fun x73_1 =>
  purK (gPur (wantV x71_1 true) (binA Tryz.prog H .eql 210 x73_1 (.int .i64 1))) fun x74_1 =>
  purK (pickA x71_1 x74_1 (.bool false)) fun x75_1 =>
  condK x75_1
  (
    resK (call lim 138 [x0, x1, x2, x4] H) fun x80_1 H =>
    condK x80_1
    (
      R [] H)
    (
      N68_5 ρ call yc lim k x0 x1 x2 x3 x4 x10 x11 x12 x13 H kn k1))
  (
    N68_5 ρ call yc lim k x0 x1 x2 x3 x4 x10 x11 x12 x13 H kn k1)
theorem N68_4_x (ρ : Addr → Option Value) (call : CallF) (yc : YieldF) (lim k : Nat) (J : CodeF) (x0 x1 x2 x3 x4 x10 x11 x12 x13 x14 : AV) (H : Heap) (kn : KS) (k1 : KS) (R : List AV → Heap → Res) :
    evX (cx ρ) call yc false 68 lim k J (Code.at [1, 1, 0, 0, 0, 1, 1, 1, 1, 1, 1] c68) (sp 148 [(0, x0), (1, x1), (2, x2), (3, x3), (4, x4), (10, x10), (11, x11), (12, x12), (13, x13), (14, x14)]) H (kk (some [0, 1, 2, 3, 4, 10, 11]) kn [(1, (some [0, 1, 2, 3, 4, 10, 11]), k1), (0, none, (fun s H => R (([] : List Nat).map fun t => s.getD t (.tup [])) H))] R []) =
  purK (gPur (wantV x10 true) (some x11)) fun x70_1 =>
  purK (pickA x10 x70_1 (.bool false)) fun x71_1 =>
  purK (gPur (wantV x71_1 true) (some x14)) fun x73_1 =>
  purK (gPur (wantV x71_1 true) (binA Tryz.prog H .eql 210 x73_1 (.int .i64 1))) fun x74_1 =>
  purK (pickA x71_1 x74_1 (.bool false)) fun x75_1 =>
  condK x75_1
  (
    resK (call lim 138 [x0, x1, x2, x4] H) fun x80_1 H =>
    condK x80_1
    (
      R [] H)
    (
      J (Code.at [1, 1, 0, 0, 0, 1, 1, 1, 1, 1, 1, 1] c68) (sp 148 [(0, x0), (1, x1), (2, x2), (3, x3), (4, x4), (10, x10), (11, x11), (12, x12), (13, x13)]) H (kk (some [0, 1, 2, 3, 4, 10, 11]) kn [(1, (some [0, 1, 2, 3, 4, 10, 11]), k1), (0, none, (fun s H => R (([] : List Nat).map fun t => s.getD t (.tup [])) H))] R [])))
  (
    J (Code.at [1, 1, 0, 0, 0, 1, 1, 1, 1, 1, 1, 1] c68) (sp 148 [(0, x0), (1, x1), (2, x2), (3, x3), (4, x4), (10, x10), (11, x11), (12, x12), (13, x13)]) H (kk (some [0, 1, 2, 3, 4, 10, 11]) kn [(1, (some [0, 1, 2, 3, 4, 10, 11]), k1), (0, none, (fun s H => R (([] : List Nat).map fun t => s.getD t (.tup [])) H))] R [])) := by
  kernel_rfl
theorem N68_4_eq (ρ : Addr → Option Value) (call : CallF) (yc : YieldF) (lim k : Nat) (x0 x1 x2 x3 x4 x10 x11 x12 x13 x14 : AV) (H : Heap) (kn : KS) (k1 : KS) (R : List AV → Heap → Res) :
    evL (cx ρ) call yc false 68 lim k (Code.at [1, 1, 0, 0, 0, 1, 1, 1, 1, 1, 1] c68) (sp 148 [(0, x0), (1, x1), (2, x2), (3, x3), (4, x4), (10, x10), (11, x11), (12, x12), (13, x13), (14, x14)]) H (kk (some [0, 1, 2, 3, 4, 10, 11]) kn [(1, (some [0, 1, 2, 3, 4, 10, 11]), k1), (0, none, (fun s H => R (([] : List Nat).map fun t => s.getD t (.tup [])) H))] R []) = N68_4 ρ call yc lim k x0 x1 x2 x3 x4 x10 x11 x12 x13 x14 H (fun x0 x1 x2 x3 x4 x10 x11 H => kn (sp 148 [(0, x0), (1, x1), (2, x2), (3, x3), (4, x4), (10, x10), (11, x11)]) H) (fun x0 x1 x2 x3 x4 x10 x11 H => k1 (sp 148 [(0, x0), (1, x1), (2, x2), (3, x3), (4, x4), (10, x10), (11, x11)]) H) R := by
  rw [evL_X, N68_4_x]
  simp only [← evL_X, N68_4, N68_5_eq]
noncomputable def N68_3 (ρ : Addr → Option Value) (call : CallF) (yc : YieldF) (lim k : Nat) (x0 x1 x2 x3 x4 x10 x11 x12 : AV) (H : Heap) (kn : AV → AV → AV → AV → AV → AV → AV → Heap → Res) (k1 : AV → AV → AV → AV → AV → AV → AV → Heap → Res) (R : List AV → Heap → Res) : Res :=
  resK (call lim 136 [x0, x1, x2, x4] H) fun x52_1 H =>
  purK (extA 0 x52_1) fun x53_1 =>
  purK (extA 1 x52_1) fun x54_1 =>
  purK (binA Tryz.prog H .eql 210 x54_1 (.int .i64 2)) fun x56_1 =>
  condK x56_1
  (
    resK (call lim 137 [x0, x1, x2, x4] H) fun x61_1 H =>
    purK (binA Tryz.prog H .sub 3 x2 (.int .i64 1)) fun x63_1 =>
    purK (binA Tryz.prog H .sub 3 x53_1 x1) fun x66_1 =>
    purK (binA Tryz.prog H .sub 3 x63_1 x66_1) fun x67_1 =>
    N68_4 ρ call yc lim k x0 x1 x2 x3 x4 x10 x11 x12 x67_1 (.int .i64 1) H kn k1 R)
  (
    N68_4 ρ call yc lim k x0 x1 x2 x3 x4 x10 x11 x12 x53_1 x54_1 H kn k1 R)
theorem N68_3_x (ρ : Addr → Option Value) (call : CallF) (yc : YieldF) (lim k : Nat) (J : CodeF) (x0 x1 x2 x3 x4 x10 x11 x12 : AV) (H : Heap) (kn : KS) (k1 : KS) (R : List AV → Heap → Res) :
    evX (cx ρ) call yc false 68 lim k J (Code.at [1, 1, 0, 0, 0, 1, 1, 1, 1] c68) (sp 148 [(0, x0), (1, x1), (2, x2), (3, x3), (4, x4), (10, x10), (11, x11), (12, x12)]) H (kk (some [0, 1, 2, 3, 4, 10, 11]) kn [(1, (some [0, 1, 2, 3, 4, 10, 11]), k1), (0, none, (fun s H => R (([] : List Nat).map fun t => s.getD t (.tup [])) H))] R []) =
  resK (call lim 136 [x0, x1, x2, x4] H) fun x52_1 H =>
  purK (extA 0 x52_1) fun x53_1 =>
  purK (extA 1 x52_1) fun x54_1 =>
  purK (binA Tryz.prog H .eql 210 x54_1 (.int .i64 2)) fun x56_1 =>
  condK x56_1
  (
    resK (call lim 137 [x0, x1, x2, x4] H) fun x61_1 H =>
    purK (binA Tryz.prog H .sub 3 x2 (.int .i64 1)) fun x63_1 =>
    purK (binA Tryz.prog H .sub 3 x53_1 x1) fun x66_1 =>
    purK (binA Tryz.prog H .sub 3 x63_1 x66_1) fun x67_1 =>
    J (Code.at [1, 1, 0, 0, 0, 1, 1, 1, 1, 1, 1] c68) (sp 148 [(0, x0), (1, x1), (2, x2), (3, x3), (4, x4), (10, x10), (11, x11), (12, x12), (13, x67_1), (14, (.int .i64 1))]) H (kk (some [0, 1, 2, 3, 4, 10, 11]) kn [(1, (some [0, 1, 2, 3, 4, 10, 11]), k1), (0, none, (fun s H => R (([] : List Nat).map fun t => s.getD t (.tup [])) H))] R []))
  (
    J (Code.at [1, 1, 0, 0, 0, 1, 1, 1, 1, 1, 1] c68) (sp 148 [(0, x0), (1, x1), (2, x2), (3, x3), (4, x4), (10, x10), (11, x11), (12, x12), (13, x53_1), (14, x54_1)]) H (kk (some [0, 1, 2, 3, 4, 10, 11]) kn [(1, (some [0, 1, 2, 3, 4, 10, 11]), k1), (0, none, (fun s H => R (([] : List Nat).map fun t => s.getD t (.tup [])) H))] R [])) := by
  kernel_rfl
theorem N68_3_eq (ρ : Addr → Option Value) (call : CallF) (yc : YieldF) (lim k : Nat) (x0 x1 x2 x3 x4 x10 x11 x12 : AV) (H : Heap) (kn : KS) (k1 : KS) (R : List AV → Heap → Res) :
    evL (cx ρ) call yc false 68 lim k (Code.at [1, 1, 0, 0, 0, 1, 1, 1, 1] c68) (sp 148 [(0, x0), (1, x1), (2, x2), (3, x3), (4, x4), (10, x10), (11, x11), (12, x12)]) H (kk (some [0, 1, 2, 3, 4, 10, 11]) kn [(1, (some [0, 1, 2, 3, 4, 10, 11]), k1), (0, none, (fun s H => R (([] : List Nat).map fun t => s.getD t (.tup [])) H))] R []) = N68_3 ρ call yc lim k x0 x1 x2 x3 x4 x10 x11 x12 H (fun x0 x1 x2 x3 x4 x10 x11 H => kn (sp 148 [(0, x0), (1, x1), (2, x2), (3, x3), (4, x4), (10, x10), (11, x11)]) H) (fun x0 x1 x2 x3 x4 x10 x11 H => k1 (sp 148 [(0, x0), (1, x1), (2, x2), (3, x3), (4, x4), (10, x10), (11, x11)]) H) R := by
  rw [evL_X, N68_3_x]
  simp only [← evL_X, N68_3, N68_4_eq]
noncomputable def N68_2b (ρ : Addr → Option Value) (call : CallF) (yc : YieldF) (lim k : Nat) (x0 x1 x2 x3 x4 x10 x11 : AV) (H : Heap) (kn : AV → AV → AV → AV → AV → AV → AV → Heap → Res) (R : List AV → Heap → Res) : Res :=
  purK (binA Tryz.prog H .sub 3 x2 x1) fun x23_1 =>
  purK (binA Tryz.prog H .leq 3 x23_1 (.int .i64 12)) fun x25_1 =>
  condK x25_1
  (
    resK (call lim 133 [x0, x1, x2, x4] H) fun x30_1 H =>
    R [] H)
  (
    purK (binA Tryz.prog H .eql 3 x3 (.int .i64 0)) fun x32_1 =>
    condK x32_1
    (
      resK (call lim 134 [x0, x1, x2, x4] H) fun x37_1 H =>
      R [] H)
    (
      purK (unA .not x10) fun x39_1 =>
      condK x39_1
      (
        resK (call lim 135 [x0, x1, x2, x4] H) fun x44_1 H =>
        purK (binA Tryz.prog H .sub 3 x3 (.int .i64 1)) fun x46_1 =>
        N68_3 ρ call yc lim k x0 x1 x2 x46_1 x4 x10 x11 x23_1 H kn kn R)
      (
        N68_3 ρ call yc lim k x0 x1 x2 x3 x4 x10 x11 x23_1 H kn kn R)))
theorem N68_2b_x (ρ : Addr → Option Value) (call : CallF) (yc : YieldF) (lim k : Nat) (J : CodeF) (x0 x1 x2 x3 x4 x10 x11 : AV) (H : Heap) (kn : KS) (R : List AV → Heap → Res) :
    evX (cx ρ) call yc false 68 lim k J (Code.at [1, 1, 0, 0] c68) (sp 148 [(0, x0), (1, x1), (2, x2), (3, x3), (4, x4), (10, x10), (11, x11)]) H (kk (some [0, 1, 2, 3, 4, 10, 11]) kn [(0, none, (fun s H => R (([] : List Nat).map fun t => s.getD t (.tup [])) H))] R []) =
  purK (binA Tryz.prog H .sub 3 x2 x1) fun x23_1 =>
  purK (binA Tryz.prog H .leq 3 x23_1 (.int .i64 12)) fun x25_1 =>
  condK x25_1
  (
    resK (call lim 133 [x0, x1, x2, x4] H) fun x30_1 H =>
    R [] H)
  (
    purK (binA Tryz.prog H .eql 3 x3 (.int .i64 0)) fun x32_1 =>
    condK x32_1
    (
      resK (call lim 134 [x0, x1, x2, x4] H) fun x37_1 H =>
      R [] H)
    (
      purK (unA .not x10) fun x39_1 =>
      condK x39_1
      (
        resK (call lim 135 [x0, x1, x2, x4] H) fun x44_1 H =>
        purK (binA Tryz.prog H .sub 3 x3 (.int .i64 1)) fun x46_1 =>
        J (Code.at [1, 1, 0, 0, 0, 1, 1, 1, 1] c68) (sp 148 [(0, x0), (1, x1), (2, x2), (3, x46_1), (4, x4), (10, x10), (11, x11), (12, x23_1)]) H (kk (some [0, 1, 2, 3, 4, 10, 11]) kn [(1, (some [0, 1, 2, 3, 4, 10, 11]), kn), (0, none, (fun s H => R (([] : List Nat).map fun t => s.getD t (.tup [])) H))] R []))
      (
        J (Code.at [1, 1, 0, 0, 0, 1, 1, 1, 1] c68) (sp 148 [(0, x0), (1, x1), (2, x2), (3, x3), (4, x4), (10, x10), (11, x11), (12, x23_1)]) H (kk (some [0, 1, 2, 3, 4, 10, 11]) kn [(1, (some [0, 1, 2, 3, 4, 10, 11]), kn), (0, none, (fun s H => R (([] : List Nat).map fun t => s.getD t (.tup [])) H))] R [])))) := by
  kernel_rfl
theorem N68_2b_eq (ρ : Addr → Option Value) (call : CallF) (yc : YieldF) (lim k : Nat) (x0 x1 x2 x3 x4 x10 x11 : AV) (H : Heap) (kn : KS) (R : List AV → Heap → Res) :
    evL (cx ρ) call yc false 68 lim k (Code.at [1, 1, 0, 0] c68) (sp 148 [(0, x0), (1, x1), (2, x2), (3, x3), (4, x4), (10, x10), (11, x11)]) H (kk (some [0, 1, 2, 3, 4, 10, 11]) kn [(0, none, (fun s H => R (([] : List Nat).map fun t => s.getD t (.tup [])) H))] R []) = N68_2b ρ call yc lim k x0 x1 x2 x3 x4 x10 x11 H (fun x0 x1 x2 x3 x4 x10 x11 H => kn (sp 148 [(0, x0), (1, x1), (2, x2), (3, x3), (4, x4), (10, x10), (11, x11)]) H) R := by
  rw [evL_X, N68_2b_x]
  simp only [← evL_X, N68_2b, N68_3_eq]
noncomputable def N68_2 (ρ : Addr → Option Value) (call : CallF) (yc : YieldF) (lim k : Nat) (x0 x1 x2 x3 x4 x10 x11 : AV) (H : Heap) (R : List AV → Heap → Res) : Res :=
  loopL (fun (x : AV × AV × AV × AV × AV) H kn => N68_2b ρ call yc lim k x0 x.1 x.2.1 x.2.2.1 x4 x.2.2.2.1 x.2.2.2.2 H (fun _ x1 x2 x3 _ x10 x11 H => kn (x1, x2, x3, x10, x11) H) R) k (x1, x2, x3, x10, x11) H
theorem N68_2_eq (ρ : Addr → Option Value) (call : CallF) (yc : YieldF) (lim k : Nat) (x0 x1 x2 x3 x4 x10 x11 : AV) (H : Heap) (R : List AV → Heap → Res) :
    evL (cx ρ) call yc false 68 lim k (Code.at [1, 1, 0] c68) (sp 148 [(0, x0), (1, x1), (2, x2), (3, x3), (4, x4), (10, x10), (11, x11)]) H (kk none (fun s H => R (([] : List Nat).map fun t => s.getD t (.tup [])) H) [(0, none, (fun s H => R (([] : List Nat).map fun t => s.getD t (.tup [])) H))] R []) = N68_2 ρ call yc lim k x0 x1 x2 x3 x4 x10 x11 H R := by
  have e : Code.at [1, 1, 0] c68 = .loop (Code.at [1, 1, 0, 0] c68) := by kernel_rfl
  rw [e]
  unfold N68_2
  exact loop_node [0, 1, 2, 3, 4, 10, 11] (fun x : AV × AV × AV × AV × AV => (sp 148 [(0, x0), (1, (x.1)), (2, (x.2.1)), (3, (x.2.2.1)), (4, x4), (10, (x.2.2.2.1)), (11, (x.2.2.2.2))])) (fun (x : AV × AV × AV × AV × AV) H kn => N68_2b ρ call yc lim k x0 x.1 x.2.1 x.2.2.1 x4 x.2.2.2.1 x.2.2.2.2 H (fun _ x1 x2 x3 _ x10 x11 H => kn (x1, x2, x3, x10, x11) H) R) (by kernel_rfl) (fun x => by kernel_rfl) (fun x H kn => N68_2b_eq ρ call yc lim k x0 (x.1) (x.2.1) (x.2.2.1) x4 (x.2.2.2.1) (x.2.2.2.2) H kn R) (x1, x2, x3, x10, x11) (sp 148 [(0, x0), (1, x1), (2, x2), (3, x3), (4, x4), (10, x10), (11, x11)]) H (by kernel_rfl)
noncomputable def N68_1 (ρ : Addr → Option Value) (call : CallF) (yc : YieldF) (lim k : Nat) (x0 x1 x2 x3 x4 x10 x11 : AV) (H : Heap) (R : List AV → Heap → Res) : Res :=
  N68_2 ρ call yc lim k x0 x1 x2 x3 x4 x10 x11 H R
theorem N68_1_x (ρ : Addr → Option Value) (call : CallF) (yc : YieldF) (lim k : Nat) (J : CodeF) (x0 x1 x2 x3 x4 x10 x11 : AV) (H : Heap) (R : List AV → Heap → Res) :
    evX (cx ρ) call yc false 68 lim k J (Code.at [1, 1] c68) (sp 148 [(0, x0), (1, x1), (2, x2), (3, x3), (4, x4), (10, x10), (11, x11)]) H (kk none (fun s H => R (([] : List Nat).map fun t => s.getD t (.tup [])) H) [] R []) =
  J (Code.at [1, 1, 0] c68) (sp 148 [(0, x0), (1, x1), (2, x2), (3, x3), (4, x4), (10, x10), (11, x11)]) H (kk none (fun s H => R (([] : List Nat).map fun t => s.getD t (.tup [])) H) [(0, none, (fun s H => R (([] : List Nat).map fun t => s.getD t (.tup [])) H))] R []) := by
  kernel_rfl
theorem N68_1_eq (ρ : Addr → Option Value) (call : CallF) (yc : YieldF) (lim k : Nat) (x0 x1 x2 x3 x4 x10 x11 : AV) (H : Heap) (R : List AV → Heap → Res) :
    evL (cx ρ) call yc false 68 lim k (Code.at [1, 1] c68) (sp 148 [(0, x0), (1, x1), (2, x2), (3, x3), (4, x4), (10, x10), (11, x11)]) H (kk none (fun s H => R (([] : List Nat).map fun t => s.getD t (.tup [])) H) [] R []) = N68_1 ρ call yc lim k x0 x1 x2 x3 x4 x10 x11 H R := by
  rw [evL_X, N68_1_x]
  simp only [← evL_X, N68_1, N68_2_eq]
noncomputable def L68 (ρ : Addr → Option Value) (call : CallF) (yc : YieldF) (lim k : Nat) (x0 x1 x2 x3 x4 : AV) (H : Heap) : Res :=
  N68_1 ρ call yc lim k x0 x1 x2 x3 x4 (.bool true) (.bool true) H retK
theorem L68_x (ρ : Addr → Option Value) (call : CallF) (yc : YieldF) (lim k : Nat) (J : CodeF) (x0 x1 x2 x3 x4 : AV) (H : Heap) :
    evX (cx ρ) call yc false 68 lim k J c68 [x0, x1, x2, x3, x4, (.tup []), (.tup []), (.tup []), (.tup []), (.tup []), (.tup []), (.tup []), (.tup []), (.tup []), (.tup []), (.tup []), (.tup []), (.tup []), (.tup []), (.tup []), (.tup []), (.tup []), (.tup []), (.tup []), (.tup []), (.tup []), (.tup []), (.tup []), (.tup []), (.tup []), (.tup []), (.tup []), (.tup []), (.tup []), (.tup []), (.tup []), (.tup []), (.tup []), (.tup []), (.tup []), (.tup []), (.tup []), (.tup []), (.tup []), (.tup []), (.tup []), (.tup []), (.tup []), (.tup []), (.tup []), (.tup []), (.tup []), (.tup []), (.tup []), (.tup []), (.tup []), (.tup []), (.tup []), (.tup []), (.tup []), (.tup []), (.tup []), (.tup []), (.tup []), (.tup []), (.tup []), (.tup []), (.tup []), (.tup []), (.tup []), (.tup []), (.tup []), (.tup []), (.tup []), (.tup []), (.tup []), (.tup []), (.tup []), (.tup []), (.tup []), (.tup []), (.tup []), (.tup []), (.tup []), (.tup []), (.tup []), (.tup []), (.tup []), (.tup []), (.tup []), (.tup []), (.tup []), (.tup []), (.tup []), (.tup []), (.tup []), (.tup []), (.tup []), (.tup []), (.tup []), (.tup []), (.tup []), (.tup []), (.tup []), (.tup []), (.tup []), (.tup []), (.tup []), (.tup []), (.tup []), (.tup []), (.tup []), (.tup []), (.tup []), (.tup []), (.tup []), (.tup []), (.tup []), (.tup []), (.tup []), (.tup []), (.tup []), (.tup []), (.tup []), (.tup []), (.tup []), (.tup []), (.tup []), (.tup []), (.tup []), (.tup []), (.tup []), (.tup []), (.tup []), (.tup []), (.tup []), (.tup []), (.tup []), (.tup []), (.tup []), (.tup []), (.tup []), (.tup []), (.tup []), (.tup []), (.tup []), (.tup []), (.tup [])] H (kk none (fun s H => retK (([] : List Nat).map fun t => s.getD t (.tup [])) H) [] retK []) =
  J (Code.at [1, 1] c68) (sp 148 [(0, x0), (1, x1), (2, x2), (3, x3), (4, x4), (10, (.bool true)), (11, (.bool true))]) H (kk none (fun s H => retK (([] : List Nat).map fun t => s.getD t (.tup [])) H) [] retK []) := by
  kernel_rfl
theorem G68 (ρ : Addr → Option Value) (call : CallF) (yc : YieldF) (lim k : Nat) (x0 x1 x2 x3 x4 : AV) (H : Heap) :
    evL (cx ρ) call yc false 68 lim k c68 [x0, x1, x2, x3, x4, (.tup []), (.tup []), (.tup []), (.tup []), (.tup []), (.tup []), (.tup []), (.tup []), (.tup []), (.tup []), (.tup []), (.tup []), (.tup []), (.tup []), (.tup []), (.tup []), (.tup []), (.tup []), (.tup []), (.tup []), (.tup []), (.tup []), (.tup []), (.tup []), (.tup []), (.tup []), (.tup []), (.tup []), (.tup []), (.tup []), (.tup []), (.tup []), (.tup []), (.tup []), (.tup []), (.tup []), (.tup []), (.tup []), (.tup []), (.tup []), (.tup []), (.tup []), (.tup []), (.tup []), (.tup []), (.tup []), (.tup []), (.tup []), (.tup []), (.tup []), (.tup []), (.tup []), (.tup []), (.tup []), (.tup []), (.tup []), (.tup []), (.tup []), (.tup []), (.tup []), (.tup []), (.tup []), (.tup []), (.tup []), (.tup []), (.tup []), (.tup []), (.tup []), (.tup []), (.tup []), (.tup []), (.tup []), (.tup []), (.tup []), (.tup []), (.tup []), (.tup []), (.tup []), (.tup []), (.tup []), (.tup []), (.tup []), (.tup []), (.tup []), (.tup []), (.tup []), (.tup []), (.tup []), (.tup []), (.tup []), (.tup []), (.tup []), (.tup []), (.tup []), (.tup []), (.tup []), (.tup []), (.tup []), (.tup []), (.tup []), (.tup []), (.tup []), (.tup []), (.tup []), (.tup []), (.tup []), (.tup []), (.tup []), (.tup []), (.tup []), (.tup []), (.tup []), (.tup []), (.tup []), (.tup []), (.tup []), (.tup []), (.tup []), (.tup []), (.tup []), (.tup []), (.tup []), (.tup []), (.tup []), (.tup []), (.tup []), (.tup []), (.tup []), (.tup []), (.tup []), (.tup []), (.tup []), (.tup []), (.tup []), (.tup []), (.tup []), (.tup []), (.tup []), (.tup []), (.tup []), (.tup []), (.tup []), (.tup [])] H (kk none (fun s H => retK (([] : List Nat).map fun t => s.getD t (.tup [])) H) [] retK []) = L68 ρ call yc lim k x0 x1 x2 x3 x4 H := by
  rw [evL_X, L68_x]
  simp only [← evL_X, L68, N68_1_eq]
theorem E68 (ρ : Addr → Option Value) (k lim : Nat) (x0 x1 x2 x3 x4 : AV) (H : Heap) : evCall (cx ρ) (k + 1) lim 68 [x0, x1, x2, x3, x4] H = L68 ρ (evCall (cx ρ) k) (evCY (cx ρ) k).2 lim k x0 x1 x2 x3 x4 H := by
  rw [evCall_body (cx ρ) k lim 68 _ H Tryz.f68 c68 [] (by kernel_rfl) (by kernel_rfl) (by kernel_rfl) (by kernel_rfl) (by kernel_rfl)]
  exact G68 ρ (evCall (cx ρ) k) (evCY (cx ρ) k).2 lim k x0 x1 x2 x3 x4 H
-- math/bits.Len
noncomputable def c69 : Code := Code.of Tryz.prog 69
noncomputable def L69 (ρ : Addr → Option Value) (call : CallF) (yc : YieldF) (lim k : Nat) (x0 : AV) (H : Heap) : Res :=
  condK (.bool false)
  (
    purK (convXA (cx ρ) H 146 218 x0) fun x4 =>
    resK (call lim 141 [x4] H) fun x5 H =>
    retK [x5] H)
  (
    resK (call lim 142 [x0] H) fun x7 H =>
    retK [x7] H)
theorem G69 (ρ : Addr → Option Value) (call : CallF) (yc : YieldF) (lim k : Nat) (x0 : AV) (H : Heap) :
    evL (cx ρ) call yc false 69 lim k c69 [x0, (.tup []), (.tup []), (.tup []), (.tup []), (.tup []), (.tup []), (.tup [])] H (kk none (fun s H => retK (([2] : List Nat).map fun t => s.getD t (.tup [])) H) [] retK [2]) = L69 ρ call yc lim k x0 H := by
  kernel_rfl
theorem E69 (ρ : Addr → Option Value) (k lim : Nat) (x0 : AV) (H : Heap) : evCall (cx ρ) (k + 1) lim 69 [x0] H = L69 ρ (evCall (cx ρ) k) (evCY (cx ρ) k).2 lim k x0 H := by
  rw [evCall_body (cx ρ) k lim 69 _ H Tryz.f69 c69 [2] (by kernel_rfl) (by kernel_rfl) (by kernel_rfl) (by kernel_rfl) (by kernel_rfl)]
  exact G69 ρ (evCall (cx ρ) k) (evCY (cx ρ) k).2 lim k x0 H
-- (*haycroft/marks.Set).Region
noncomputable def c71 : Code := Code.of Tryz.prog 71
noncomputable def L71 (ρ : Addr → Option Value) (call : CallF) (yc : YieldF) (lim k : Nat) (x0 x1 x2 : AV) (H : Heap) : Res :=
  purK (binA Tryz.prog H .eql 148 x0 .nilp) fun x9 =>
  purK (gPur (wantV x9 false) (some x1)) fun x11 =>
  purK (gPur (wantV x9 false) (binA Tryz.prog H .lss 3 x11 (.int .i64 0))) fun x12 =>
  purK (pickA x9 (.bool true) x12) fun x13 =>
  purK (gPur (wantV x13 false) (some x1)) fun x15 =>
  purK (gPur (wantV x13 false) (some x2)) fun x16 =>
  purK (gPur (wantV x13 false) (binA Tryz.prog H .gtr 3 x15 x16)) fun x17 =>
  purK (pickA x13 (.bool true) x17) fun x18 =>
  condK x18
  (
    retK [(.int .i64 0)] H)
  (
    resK (call lim 112 [x0, (.int .i64 0)] H) fun x22 H =>
    purK (binA Tryz.prog H .geq 3 x1 x22) fun x23 =>
    condK x23
    (
      retK [(.int .i64 1)] H)
    (
      resK (call lim 112 [x0, (.int .i64 1)] H) fun x27 H =>
      purK (binA Tryz.prog H .geq 3 x1 x27) fun x28 =>
      condK x28
      (
        retK [(.int .i64 2)] H)
      (
        resK (call lim 112 [x0, (.int .i64 3)] H) fun x32 H =>
        purK (binA Tryz.prog H .geq 3 x1 x32) fun x33 =>
        condK x33
        (
          retK [(.int .i64 3)] H)
        (
          retK [(.int .i64 4)] H))))
theorem G71 (ρ : Addr → Option Value) (call : CallF) (yc : YieldF) (lim k : Nat) (x0 x1 x2 : AV) (H : Heap) :
    evL (cx ρ) call yc false 71 lim k c71 [x0, x1, x2, (.tup []), (.tup []), (.tup []), (.tup []), (.tup []), (.tup []), (.tup []), (.tup []), (.tup []), (.tup []), (.tup []), (.tup []), (.tup []), (.tup []), (.tup []), (.tup []), (.tup []), (.tup []), (.tup []), (.tup []), (.tup []), (.tup []), (.tup []), (.tup []), (.tup []), (.tup []), (.tup []), (.tup []), (.tup []), (.tup []), (.tup [])] H (kk none (fun s H => retK (([6] : List Nat).map fun t => s.getD t (.tup [])) H) [] retK [6]) = L71 ρ call yc lim k x0 x1 x2 H := by
  kernel_rfl
theorem E71 (ρ : Addr → Option Value) (k lim : Nat) (x0 x1 x2 : AV) (H : Heap) : evCall (cx ρ) (k + 1) lim 71 [x0, x1, x2] H = L71 ρ (evCall (cx ρ) k) (evCY (cx ρ) k).2 lim k x0 x1 x2 H := by
  rw [evCall_body (cx ρ) k lim 71 _ H Tryz.f71 c71 [6] (by kernel_rfl) (by kernel_rfl) (by kernel_rfl) (by kernel_rfl) (by kernel_rfl)]
  exact G71 ρ (evCall (cx ρ) k) (evCY (cx ρ) k).2 lim k x0 x1 x2 H
-- (*haycroft/pages.Buffer).Bits
noncomputable def c72 : Code := Code.of Tryz.prog 72
noncomputable def L72 (ρ : Addr → Option Value) (call : CallF) (yc : YieldF) (lim k : Nat) (x0 : AV) (H : Heap) : Res :=
  purK (binA Tryz.prog H .eql 122 x0 .nilp) fun x4 =>
  condK x4
  (
    retK [(.int .i64 0)] H)
  (
    purK (nilChkA x0) fun x6 =>
    purK (fieldAddrA Tryz.prog 199 x6 0) fun x7 =>
    purK (loadA (cx ρ) H 3 x7) fun x8 =>
    retK [x8] H)
theorem G72 (ρ : Addr → Option Value) (call : CallF) (yc : YieldF) (lim k : Nat) (x0 : AV) (H : Heap) :
    evL (cx ρ) call yc false 72 lim k c72 [x0, (.tup []), (.tup []), (.tup []), (.tup []), (.tup []), (.tup []), (.tup []), (.tup [])] H (kk none (fun s H => retK (([2] : List Nat).map fun t => s.getD t (.tup [])) H) [] retK [2]) = L72 ρ call yc lim k x0 H := by
  kernel_rfl
theorem E72 (ρ : Addr → Option Value) (k lim : Nat) (x0 : AV) (H : Heap) : evCall (cx ρ) (k + 1) lim 72 [x0] H = L72 ρ (evCall (cx ρ) k) (evCY (cx ρ) k).2 lim k x0 H := by
  rw [evCall_body (cx ρ) k lim 72 _ H Tryz.f72 c72 [2] (by kernel_rfl) (by kernel_rfl) (by kernel_rfl) (by kernel_rfl) (by kernel_rfl)]
  exact G72 ρ (evCall (cx ρ) k) (evCY (cx ρ) k).2 lim k x0 H
-- (*haycroft/tail.Tail).Page
noncomputable def c73 : Code := Code.of Tryz.prog 73
noncomputable def L73 (ρ : Addr → Option Value) (call : CallF) (yc : YieldF) (lim k : Nat) (x0 : AV) (H : Heap) : Res :=
  purK (binA Tryz.prog H .eql 147 x0 .nilp) fun x6 =>
  condK x6
  (
    retK [(.int .i64 0)] H)
  (
    resK (call lim 144 [x0] H) fun x9 H =>
    purK (extA 0 x9) fun x10 =>
    purK (extA 1 x9) fun x11 =>
    retK [x10] H)
theorem G73 (ρ : Addr → Option Value) (call : CallF) (yc : YieldF) (lim k : Nat) (x0 : AV) (H : Heap) :
    evL (cx ρ) call yc false 73 lim k c73 [x0, (.tup []), (.tup []), (.tup []), (.tup []), (.tup []), (.tup []), (.tup []), (.tup []), (.tup []), (.tup []), (.tup []), (.tup [])] H (kk none (fun s H => retK (([2] : List Nat).map fun t => s.getD t (.tup [])) H) [] retK [2]) = L73 ρ call yc lim k x0 H := by
  kernel_rfl
theorem E73 (ρ : Addr → Option Value) (k lim : Nat) (x0 : AV) (H : Heap) : evCall (cx ρ) (k + 1) lim 73 [x0] H = L73 ρ (evCall (cx ρ) k) (evCY (cx ρ) k).2 lim k x0 H := by
  rw [evCall_body (cx ρ) k lim 73 _ H Tryz.f73 c73 [2] (by kernel_rfl) (by kernel_rfl) (by kernel_rfl) (by kernel_rfl) (by kernel_rfl)]
  exact G73 ρ (evCall (cx ρ) k) (evCY (cx ρ) k).2 lim k x0 H
-- (*haycroft/index.Index).Chain
noncomputable def c74 : Code := Code.of Tryz.prog 74
noncomputable def N74_1 (ρ : Addr → Option Value) (call : CallF) (yc : YieldF) (lim k : Nat) (x5 : AV) (H : Heap) (R : List AV → Heap → Res) : Res :=
  R [x5] H
theorem N74_1_eq (ρ : Addr → Option Value) (call : CallF) (yc : YieldF) (lim k : Nat) (x5 : AV) (H : Heap) (R : List AV → Heap → Res) :
    evL (cx ρ) call yc false 74 lim k (Code.at [1, 1, 1] c74) (sp 34 [(5, x5)]) H (kk none (fun s H => R (([4] : List Nat).map fun t => s.getD t (.tup [])) H) [] R [4]) = N74_1 ρ call yc lim k x5 H R := by
  kernel_rfl
noncomputable def N74_3b (ρ : Addr → Option Value) (call : CallF) (yc : YieldF) (lim k : Nat) (x0 x1 x5 x6 : AV) (H : Heap) (kn : AV → AV → AV → AV → Heap → Res) (k0 : AV → Heap → Res) : Res :=
  purK (gPur (wantV x6 true) (some x5)) fun x17_1 =>
  purK (gPur (wantV x6 true) (lenBA (cx ρ) H 60 x17_1)) fun x18_1 =>
  purK (gPur (wantV x6 true) (some x0)) fun x19_1 =>
  resK (gRes (wantV x6 true) H (call lim 145 [x19_1] H)) fun x20_1 H =>
  purK (gPur (wantV x6 true) (binA Tryz.prog H .leq 3 x18_1 x20_1)) fun x21_1 =>
  purK (pickA x6 x21_1 (.bool false)) fun x22_1 =>
  condK x22_1
  (
    effK H (buildSliceA (cx ρ) H 60 1 [(0, x1)]) fun x25_1 H =>
    effK H (builtinA (cx ρ) lim H .append #[60, 60] [x5, x25_1]) fun x26_1 H =>
    resK (call lim 146 [x0, x1] H) fun x30_1 H =>
    purK (extA 0 x30_1) fun x31_1 =>
    purK (extA 1 x30_1) fun x32_1 =>
    kn x0 x31_1 x26_1 x32_1 H)
  (
    k0 x5 H)
theorem N74_3b_eq (ρ : Addr → Option Value) (call : CallF) (yc : YieldF) (lim k : Nat) (x0 x1 x5 x6 : AV) (H : Heap) (kn : KS) (k0 : KS) (R : List AV → Heap → Res) :
    evL (cx ρ) call yc false 74 lim k (Code.at [1, 1, 0, 1, 0, 0] c74) (sp 34 [(0, x0), (1, x1), (5, x5), (6, x6)]) H (kk (some [0, 1, 5, 6]) kn [(0, (some [5]), k0)] R [4]) = N74_3b ρ call yc lim k x0 x1 x5 x6 H (fun x0 x1 x5 x6 H => kn (sp 34 [(0, x0), (1, x1), (5, x5), (6, x6)]) H) (fun x5 H => k0 (sp 34 [(5, x5)]) H) := by
  kernel_rfl
noncomputable def N74_3 (ρ : Addr → Option Value) (call : CallF) (yc : YieldF) (lim k : Nat) (x0 x1 x5 x6 : AV) (H : Heap) (k0 : AV → Heap → Res) : Res :=
  loopL (fun (x : AV × AV × AV) H kn => N74_3b ρ call yc lim k x0 x.1 x.2.1 x.2.2 H (fun _ x1 x5 x6 H => kn (x1, x5, x6) H) k0) k (x1, x5, x6) H
theorem N74_3_eq (ρ : Addr → Option Value) (call : CallF) (yc : YieldF) (lim k : Nat) (x0 x1 x5 x6 : AV) (H : Heap) (kn : KS) (k0 : KS) (R : List AV → Heap → Res) :
    evL (cx ρ) call yc false 74 lim k (Code.at [1, 1, 0, 1, 0] c74) (sp 34 [(0, x0), (1, x1), (5, x5), (6, x6)]) H (kk (some [5]) kn [(0, (some [5]), k0)] R [4]) = N74_3 ρ call yc lim k x0 x1 x5 x6 H (fun x5 H => k0 (sp 34 [(5, x5)]) H) := by
  have e : Code.at [1, 1, 0, 1, 0] c74 = .loop (Code.at [1, 1, 0, 1, 0, 0] c74) := by kernel_rfl
  rw [e]
  unfold N74_3
  exact loop_node [0, 1, 5, 6] (fun x : AV × AV × AV => (sp 34 [(0, x0), (1, (x.1)), (5, (x.2.1)), (6, (x.2.2))])) (fun (x : AV × AV × AV) H kn => N74_3b ρ call yc lim k x0 x.1 x.2.1 x.2.2 H (fun _ x1 x5 x6 H => kn (x1, x5, x6) H) (fun x5 H => k0 (sp 34 [(5, x5)]) H)) (by kernel_rfl) (fun x => by kernel_rfl) (fun x H kn => N74_3b_eq ρ call yc lim k x0 (x.1) (x.2.1) (x.2.2) H kn k0 R) (x1, x5, x6) (sp 34 [(0, x0), (1, x1), (5, x5), (6, x6)]) H (by kernel_rfl)
noncomputable def N74_2 (ρ : Addr → Option Value) (call : CallF) (yc : YieldF) (lim k : Nat) (x0 x1 x5 x6 : AV) (H : Heap) (kn : AV → Heap → Res) : Res :=
  N74_3 ρ call yc lim k x0 x1 x5 x6 H kn
theorem N74_2_x (ρ : Addr → Option Value) (call : CallF) (yc : YieldF) (lim k : Nat) (J : CodeF) (x0 x1 x5 x6 : AV) (H : Heap) (kn : KS) (R : List AV → Heap → Res) :
    evX (cx ρ) call yc false 74 lim k J (Code.at [1, 1, 0, 1] c74) (sp 34 [(0, x0), (1, x1), (5, x5), (6, x6)]) H (kk (some [5]) kn [] R [4]) =
  J (Code.at [1, 1, 0, 1, 0] c74) (sp 34 [(0, x0), (1, x1), (5, x5), (6, x6)]) H (kk (some [5]) kn [(0, (some [5]), kn)] R [4]) := by
  kernel_rfl
theorem N74_2_eq (ρ : Addr → Option Value) (call : CallF) (yc : YieldF) (lim k : Nat) (x0 x1 x5 x6 : AV) (H : Heap) (kn : KS) (R : List AV → Heap → Res) :
    evL (cx ρ) call yc false 74 lim k (Code.at [1, 1, 0, 1] c74) (sp 34 [(0, x0), (1, x1), (5, x5), (6, x6)]) H (kk (some [5]) kn [] R [4]) = N74_2 ρ call yc lim k x0 x1 x5 x6 H (fun x5 H => kn (sp 34 [(5, x5)]) H) := by
  rw [evL_X, N74_2_x]
  simp only [← evL_X, N74_2, N74_3_eq]
noncomputable def L74 (ρ : Addr → Option Value) (call : CallF) (yc : YieldF) (lim k : Nat) (x0 x1 : AV) (H : Heap) : Res :=
  purK (binA Tryz.prog H .geq 3 x1 (.int .i64 0)) fun x8 =>
  purK (gPur (wantV x8 true) (some x1)) fun x10 =>
  purK (gPur (wantV x8 true) (some x0)) fun x11 =>
  resK (gRes (wantV x8 true) H (call lim 145 [x11] H)) fun x12 H =>
  purK (gPur (wantV x8 true) (binA Tryz.prog H .lss 3 x10 x12)) fun x13 =>
  purK (pickA x8 x13 (.bool false)) fun x14 =>
  N74_2 ρ call yc lim k x0 x1 .nils x14 H (fun x5 H =>
    N74_1 ρ call yc lim k x5 H retK)
theorem L74_x (ρ : Addr → Option Value) (call : CallF) (yc : YieldF) (lim k : Nat) (J : CodeF) (x0 x1 : AV) (H : Heap) :
    evX (cx ρ) call yc false 74 lim k J c74 [x0, x1, (.tup []), (.tup []), (.tup []), (.tup []), (.tup []), (.tup []), (.tup []), (.tup []), (.tup []), (.tup []), (.tup []), (.tup []), (.tup []), (.tup []), (.tup []), (.tup []), (.tup []), (.tup []), (.tup []), (.tup []), (.tup []), (.tup []), (.tup []), (.tup []), (.tup []), (.tup []), (.tup []), (.tup []), (.tup []), (.tup []), (.tup []), (.tup [])] H (kk none (fun s H => retK (([4] : List Nat).map fun t => s.getD t (.tup [])) H) [] retK [4]) =
  purK (binA Tryz.prog H .geq 3 x1 (.int .i64 0)) fun x8 =>
  purK (gPur (wantV x8 true) (some x1)) fun x10 =>
  purK (gPur (wantV x8 true) (some x0)) fun x11 =>
  resK (gRes (wantV x8 true) H (call lim 145 [x11] H)) fun x12 H =>
  purK (gPur (wantV x8 true) (binA Tryz.prog H .lss 3 x10 x12)) fun x13 =>
  purK (pickA x8 x13 (.bool false)) fun x14 =>
  J (Code.at [1, 1, 0, 1] c74) (sp 34 [(0, x0), (1, x1), (5, .nils), (6, x14)]) H (kk (some [5]) (fun s H => J (Code.at [1, 1, 1] c74) s H (kk none (fun s H => retK (([4] : List Nat).map fun t => s.getD t (.tup [])) H) [] retK [4])) [] retK [4]) := by
  kernel_rfl
theorem G74 (ρ : Addr → Option Value) (call : CallF) (yc : YieldF) (lim k : Nat) (x0 x1 : AV) (H : Heap) :
    evL (cx ρ) call yc false 74 lim k c74 [x0, x1, (.tup []), (.tup []), (.tup []), (.tup []), (.tup []), (.tup []), (.tup []), (.tup []), (.tup []), (.tup []), (.tup []), (.tup []), (.tup []), (.tup []), (.tup []), (.tup []), (.tup []), (.tup []), (.tup []), (.tup []), (.tup []), (.tup []), (.tup []), (.tup []), (.tup []), (.tup []), (.tup []), (.tup []), (.tup []), (.tup []), (.tup []), (.tup [])] H (kk none (fun s H => retK (([4] : List Nat).map fun t => s.getD t (.tup [])) H) [] retK [4]) = L74 ρ call yc lim k x0 x1 H := by
  rw [evL_X, L74_x]
  simp only [← evL_X, L74, N74_1_eq, N74_2_eq]
theorem E74 (ρ : Addr → Option Value) (k lim : Nat) (x0 x1 : AV) (H : Heap) : evCall (cx ρ) (k + 1) lim 74 [x0, x1] H = L74 ρ (evCall (cx ρ) k) (evCY (cx ρ) k).2 lim k x0 x1 H := by
  rw [evCall_body (cx ρ) k lim 74 _ H Tryz.f74 c74 [4] (by kernel_rfl) (by kernel_rfl) (by kernel_rfl) (by kernel_rfl) (by kernel_rfl)]
  exact G74 ρ (evCall (cx ρ) k) (evCY (cx ρ) k).2 lim k x0 x1 H
-- haycroft/mix.Tag
noncomputable def c77 : Code := Code.of Tryz.prog 77
noncomputable def L77 (ρ : Addr → Option Value) (call : CallF) (yc : YieldF) (lim k : Nat) (x0 : AV) (H : Heap) : Res :=
  resK (call lim 86 [x0, (.int .i64 50), (.int .i64 14)] H) fun x4 H =>
  retK [x4] H
theorem G77 (ρ : Addr → Option Value) (call : CallF) (yc : YieldF) (lim k : Nat) (x0 : AV) (H : Heap) :
    evL (cx ρ) call yc false 77 lim k c77 [x0, (.tup []), (.tup []), (.tup []), (.tup [])] H (kk none (fun s H => retK (([2] : List Nat).map fun t => s.getD t (.tup [])) H) [] retK [2]) = L77 ρ call yc lim k x0 H := by
  kernel_rfl
theorem E77 (ρ : Addr → Option Value) (k lim : Nat) (x0 : AV) (H : Heap) : evCall (cx ρ) (k + 1) lim 77 [x0] H = L77 ρ (evCall (cx ρ) k) (evCY (cx ρ) k).2 lim k x0 H := by
  rw [evCall_body (cx ρ) k lim 77 _ H Tryz.f77 c77 [2] (by kernel_rfl) (by kernel_rfl) (by kernel_rfl) (by kernel_rfl) (by kernel_rfl)]
  exact G77 ρ (evCall (cx ρ) k) (evCY (cx ρ) k).2 lim k x0 H
-- haycroft/mix.Bucket
noncomputable def c78 : Code := Code.of Tryz.prog 78
noncomputable def L78 (ρ : Addr → Option Value) (call : CallF) (yc : YieldF) (lim k : Nat) (x0 x1 : AV) (H : Heap) : Res :=
  resK (call lim 91 [x1] H) fun x6 H =>
  purK (unA .not x6) fun x7 =>
  condK x7
  (
    retK [(.int .i64 0)] H)
  (
    purK (binA Tryz.prog H .sub 3 x1 (.int .i64 1)) fun x10 =>
    purK (convXA (cx ρ) H 3 22 x10) fun x11 =>
    purK (binA Tryz.prog H .and 22 x0 x11) fun x12 =>
    purK (convXA (cx ρ) H 22 3 x12) fun x13 =>
    retK [x13] H)
theorem G78 (ρ : Addr → Option Value) (call : CallF) (yc : YieldF) (lim k : Nat) (x0 x1 : AV) (H : Heap) :
    evL (cx ρ) call yc false 78 lim k c78 [x0, x1, (.tup []), (.tup []), (.tup []), (.tup []), (.tup []), (.tup []), (.tup []), (.tup []), (.tup []), (.tup []), (.tup []), (.tup [])] H (kk none (fun s H => retK (([4] : List Nat).map fun t => s.getD t (.tup [])) H) [] retK [4]) = L78 ρ call yc lim k x0 x1 H := by
  kernel_rfl
theorem E78 (ρ : Addr → Option Value) (k lim : Nat) (x0 x1 : AV) (H : Heap) : evCall (cx ρ) (k + 1) lim 78 [x0, x1] H = L78 ρ (evCall (cx ρ) k) (evCY (cx ρ) k).2 lim k x0 x1 H := by
  rw [evCall_body (cx ρ) k lim 78 _ H Tryz.f78 c78 [4] (by kernel_rfl) (by kernel_rfl) (by kernel_rfl) (by kernel_rfl) (by kernel_rfl)]
  exact G78 ρ (evCall (cx ρ) k) (evCY (cx ρ) k).2 lim k x0 x1 H
-- haycroft/index.slots
noncomputable def c80 : Code := Code.of Tryz.prog 80
noncomputable def N80_1 (ρ : Addr → Option Value) (call : CallF) (yc : YieldF) (lim k : Nat) (x3 : AV) (H : Heap) (R : List AV → Heap → Res) : Res :=
  R [x3] H
theorem N80_1_eq (ρ : Addr → Option Value) (call : CallF) (yc : YieldF) (lim k : Nat) (x3 : AV) (H : Heap) (R : List AV → Heap → Res) :
    evL (cx ρ) call yc false 80 lim k (Code.at [1, 1, 1] c80) (sp 26 [(3, x3)]) H (kk none (fun s H => R (([2] : List Nat).map fun t => s.getD t (.tup [])) H) [] R [2]) = N80_1 ρ call yc lim k x3 H R := by
  kernel_rfl
noncomputable def N80_4 (ρ : Addr → Option Value) (call : CallF) (yc : YieldF) (lim k : Nat) (x3 x7 x8 x9 : AV) (H : Heap) (kn : AV → AV → AV → AV → Heap → Res) : Res :=
  purK (binA Tryz.prog H .add 3 x9 (.int .i64 1)) fun x24_1 =>
  kn x3 x7 x8 x24_1 H
theorem N80_4_eq (ρ : Addr → Option Value) (call : CallF) (yc : YieldF) (lim k : Nat) (x3 x7 x8 x9 : AV) (H : Heap) (kn : KS) (k0 : KS) (R : List AV → Heap → Res) :
    evL (cx ρ) call yc false 80 lim k (Code.at [1, 1, 0, 1, 0, 0, 1, 1, 1] c80) (sp 26 [(3, x3), (7, x7), (8, x8), (9, x9)]) H (kk (some [3, 7, 8, 9]) kn [(0, (some [3]), k0)] R [2]) = N80_4 ρ call yc lim k x3 x7 x8 x9 H (fun x3 x7 x8 x9 H => kn (sp 26 [(3, x3), (7, x7), (8, x8), (9, x9)]) H) := by
  kernel_rfl
noncomputable def N80_6b (ρ : Addr → Option Value) (call : CallF) (yc : YieldF) (lim k : Nat) (x3 x5 x7 x8 x9 x13 : AV) (H : Heap) (kn : AV → AV → AV → AV → AV → AV → Heap → Res) (k2 : AV → AV → AV → AV → Heap → Res) : Res :=
  purK (binA Tryz.prog H .lss 3 x13 (.int .i64 7)) fun x14_1 =>
  condK x14_1
  (
    purK (binA Tryz.prog H .mul 3 x5 (.int .i64 8)) fun x18_1 =>
    purK (binA Tryz.prog H .add 3 x18_1 x13) fun x20_1 =>
    effK H (buildSliceA (cx ρ) H 60 1 [(0, x20_1)]) fun x21_1 H =>
    effK H (builtinA (cx ρ) lim H .append #[60, 60] [x3, x21_1]) fun x22_1 H =>
    purK (binA Tryz.prog H .add 3 x13 (.int .i64 1)) fun x23_1 =>
    kn x22_1 x5 x7 x8 x9 x23_1 H)
  (
    k2 x3 x7 x8 x9 H)
theorem N80_6b_eq (ρ : Addr → Option Value) (call : CallF) (yc : YieldF) (lim k : Nat) (x3 x5 x7 x8 x9 x13 : AV) (H : Heap) (kn : KS) (k2 : KS) (k1 : KS) (k0 : KS) (R : List AV → Heap → Res) :
    evL (cx ρ) call yc false 80 lim k (Code.at [1, 1, 0, 1, 0, 0, 1, 1, 0, 0, 1, 1, 0, 0] c80) (sp 26 [(3, x3), (5, x5), (7, x7), (8, x8), (9, x9), (13, x13)]) H (kk (some [3, 5, 7, 8, 9, 13]) kn [(2, (some [3, 7, 8, 9]), k2), (1, (some [3, 7, 8, 9]), k1), (0, (some [3]), k0)] R [2]) = N80_6b ρ call yc lim k x3 x5 x7 x8 x9 x13 H (fun x3 x5 x7 x8 x9 x13 H => kn (sp 26 [(3, x3), (5, x5), (7, x7), (8, x8), (9, x9), (13, x13)]) H) (fun x3 x7 x8 x9 H => k2 (sp 26 [(3, x3), (7, x7), (8, x8), (9, x9)]) H) := by
  kernel_rfl
noncomputable def N80_6 (ρ : Addr → Option Value) (call : CallF) (yc : YieldF) (lim k : Nat) (x3 x5 x7 x8 x9 x13 : AV) (H : Heap) (k2 : AV → AV → AV → AV → Heap → Res) : Res :=
  loopL (fun (x : AV × AV) H kn => N80_6b ρ call yc lim k x.1 x5 x7 x8 x9 x.2 H (fun x3 _ _ _ _ x13 H => kn (x3, x13) H) k2) k (x3, x13) H
theorem N80_6_eq (ρ : Addr → Option Value) (call : CallF) (yc : YieldF) (lim k : Nat) (x3 x5 x7 x8 x9 x13 : AV) (H : Heap) (kn : KS) (k2 : KS) (k1 : KS) (k0 : KS) (R : List AV → Heap → Res) :
    evL (cx ρ) call yc false 80 lim k (Code.at [1, 1, 0, 1, 0, 0, 1, 1, 0, 0, 1, 1, 0] c80) (sp 26 [(3, x3), (5, x5), (7, x7), (8, x8), (9, x9), (13, x13)]) H (kk (some [3, 7, 8, 9]) kn [(2, (some [3, 7, 8, 9]), k2), (1, (some [3, 7, 8, 9]), k1), (0, (some [3]), k0)] R [2]) = N80_6 ρ call yc lim k x3 x5 x7 x8 x9 x13 H (fun x3 x7 x8 x9 H => k2 (sp 26 [(3, x3), (7, x7), (8, x8), (9, x9)]) H) := by
  have e : Code.at [1, 1, 0, 1, 0, 0, 1, 1, 0, 0, 1, 1, 0] c80 = .loop (Code.at [1, 1, 0, 1, 0, 0, 1, 1, 0, 0, 1, 1, 0, 0] c80) := by kernel_rfl
  rw [e]
  unfold N80_6
  exact loop_node [3, 5, 7, 8, 9, 13] (fun x : AV × AV => (sp 26 [(3, (x.1)), (5, x5), (7, x7), (8, x8), (9, x9), (13, (x.2))])) (fun (x : AV × AV) H kn => N80_6b ρ call yc lim k x.1 x5 x7 x8 x9 x.2 H (fun x3 _ _ _ _ x13 H => kn (x3, x13) H) (fun x3 x7 x8 x9 H => k2 (sp 26 [(3, x3), (7, x7), (8, x8), (9, x9)]) H)) (by kernel_rfl) (fun x => by kernel_rfl) (fun x H kn => N80_6b_eq ρ call yc lim k (x.1) x5 x7 x8 x9 (x.2) H kn k2 k1 k0 R) (x3, x13) (sp 26 [(3, x3), (5, x5), (7, x7), (8, x8), (9, x9), (13, x13)]) H (by kernel_rfl)
noncomputable def N80_5 (ρ : Addr → Option Value) (call : CallF) (yc : YieldF) (lim k : Nat) (x3 x5 x7 x8 x9 x13 : AV) (H : Heap) (kn : AV → AV → AV → AV → Heap → Res) : Res :=
  N80_6 ρ call yc lim k x3 x5 x7 x8 x9 x13 H kn
theorem N80_5_x (ρ : Addr → Option Value) (call : CallF) (yc : YieldF) (lim k : Nat) (J : CodeF) (x3 x5 x7 x8 x9 x13 : AV) (H : Heap) (kn : KS) (k1 : KS) (k0 : KS) (R : List AV → Heap → Res) :
    evX (cx ρ) call yc false 80 lim k J (Code.at [1, 1, 0, 1, 0, 0, 1, 1, 0, 0, 1, 1] c80) (sp 26 [(3, x3), (5, x5), (7, x7), (8, x8), (9, x9), (13, x13)]) H (kk (some [3, 7, 8, 9]) kn [(1, (some [3, 7, 8, 9]), k1), (0, (some [3]), k0)] R [2]) =
  J (Code.at [1, 1, 0, 1, 0, 0, 1, 1, 0, 0, 1, 1, 0] c80) (sp 26 [(3, x3), (5, x5), (7, x7), (8, x8), (9, x9), (13, x13)]) H (kk (some [3, 7, 8, 9]) kn [(2, (some [3, 7, 8, 9]), kn), (1, (some [3, 7, 8, 9]), k1), (0, (some [3]), k0)] R [2]) := by
  kernel_rfl
theorem N80_5_eq (ρ : Addr → Option Value) (call : CallF) (yc : YieldF) (lim k : Nat) (x3 x5 x7 x8 x9 x13 : AV) (H : Heap) (kn : KS) (k1 : KS) (k0 : KS) (R : List AV → Heap → Res) :
    evL (cx ρ) call yc false 80 lim k (Code.at [1, 1, 0, 1, 0, 0, 1, 1, 0, 0, 1, 1] c80) (sp 26 [(3, x3), (5, x5), (7, x7), (8, x8), (9, x9), (13, x13)]) H (kk (some [3, 7, 8, 9]) kn [(1, (some [3, 7, 8, 9]), k1), (0, (some [3]), k0)] R [2]) = N80_5 ρ call yc lim k x3 x5 x7 x8 x9 x13 H (fun x3 x7 x8 x9 H => kn (sp 26 [(3, x3), (7, x7), (8, x8), (9, x9)]) H) := by
  rw [evL_X, N80_5_x]
  simp only [← evL_X, N80_5, N80_6_eq]
noncomputable def N80_3b (ρ : Addr → Option Value) (call : CallF) (yc : YieldF) (lim k : Nat) (x3 x7 x8 x9 : AV) (H : Heap) (kn : AV → AV → AV → AV → Heap → Res) (k0 : AV → Heap → Res) : Res :=
  purK (binA Tryz.prog H .lss 3 x9 x8) fun x10_1 =>
  condK x10_1
  (
    purK (indexAddrA Tryz.prog 60 x7 x9) fun x11_1 =>
    purK (loadA (cx ρ) H 3 x11_1) fun x12_1 =>
    N80_5 ρ call yc lim k x3 x12_1 x7 x8 x9 (.int .i64 0) H (fun x3_1 x7_1 x8_1 x9_1 H =>
      N80_4 ρ call yc lim k x3_1 x7_1 x8_1 x9_1 H kn))
  (
    k0 x3 H)
theorem N80_3b_x (ρ : Addr → Option Value) (call : CallF) (yc : YieldF) (lim k : Nat) (J : CodeF) (x3 x7 x8 x9 : AV) (H : Heap) (kn : KS) (k0 : KS) (R : List AV → Heap → Res) :
    evX (cx ρ) call yc false 80 lim k J (Code.at [1, 1, 0, 1, 0, 0] c80) (sp 26 [(3, x3), (7, x7), (8, x8), (9, x9)]) H (kk (some [3, 7, 8, 9]) kn [(0, (some [3]), k0)] R [2]) =
  purK (binA Tryz.prog H .lss 3 x9 x8) fun x10_1 =>
  condK x10_1
  (
    purK (indexAddrA Tryz.prog 60 x7 x9) fun x11_1 =>
    purK (loadA (cx ρ) H 3 x11_1) fun x12_1 =>
    J (Code.at [1, 1, 0, 1, 0, 0, 1, 1, 0, 0, 1, 1] c80) (sp 26 [(3, x3), (5, x12_1), (7, x7), (8, x8), (9, x9), (13, (.int .i64 0))]) H (kk (some [3, 7, 8, 9]) (fun s H => J (Code.at [1, 1, 0, 1, 0, 0, 1, 1, 1] c80) s H (kk (some [3, 7, 8, 9]) kn [(0, (some [3]), k0)] R [2])) [(1, (some [3, 7, 8, 9]), (fun s H => J (Code.at [1, 1, 0, 1, 0, 0, 1, 1, 1] c80) s H (kk (some [3, 7, 8, 9]) kn [(0, (some [3]), k0)] R [2]))), (0, (some [3]), k0)] R [2]))
  (
    k0 (sp 26 [(3, x3)]) H) := by
  kernel_rfl
theorem N80_3b_eq (ρ : Addr → Option Value) (call : CallF) (yc : YieldF) (lim k : Nat) (x3 x7 x8 x9 : AV) (H : Heap) (kn : KS) (k0 : KS) (R : List AV → Heap → Res) :
    evL (cx ρ) call yc false 80 lim k (Code.at [1, 1, 0, 1, 0, 0] c80) (sp 26 [(3, x3), (7, x7), (8, x8), (9, x9)]) H (kk (some [3, 7, 8, 9]) kn [(0, (some [3]), k0)] R [2]) = N80_3b ρ call yc lim k x3 x7 x8 x9 H (fun x3 x7 x8 x9 H => kn (sp 26 [(3, x3), (7, x7), (8, x8), (9, x9)]) H) (fun x3 H => k0 (sp 26 [(3, x3)]) H) := by
  rw [evL_X, N80_3b_x]
  simp only [← evL_X, N80_3b, N80_4_eq, N80_5_eq]
noncomputable def N80_3 (ρ : Addr → Option Value) (call : CallF) (yc : YieldF) (lim k : Nat) (x3 x7 x8 x9 : AV) (H : Heap) (k0 : AV → Heap → Res) : Res :=
  loopL (fun (x : AV × AV) H kn => N80_3b ρ call yc lim k x.1 x7 x8 x.2 H (fun x3 _ _ x9 H => kn (x3, x9) H) k0) k (x3, x9) H
theorem N80_3_eq (ρ : Addr → Option Value) (call : CallF) (yc : YieldF) (lim k : Nat) (x3 x7 x8 x9 : AV) (H : Heap) (kn : KS) (k0 : KS) (R : List AV → Heap → Res) :
    evL (cx ρ) call yc false 80 lim k (Code.at [1, 1, 0, 1, 0] c80) (sp 26 [(3, x3), (7, x7), (8, x8), (9, x9)]) H (kk (some [3]) kn [(0, (some [3]), k0)] R [2]) = N80_3 ρ call yc lim k x3 x7 x8 x9 H (fun x3 H => k0 (sp 26 [(3, x3)]) H) := by
  have e : Code.at [1, 1, 0, 1, 0] c80 = .loop (Code.at [1, 1, 0, 1, 0, 0] c80) := by kernel_rfl
  rw [e]
  unfold N80_3
  exact loop_node [3, 7, 8, 9] (fun x : AV × AV => (sp 26 [(3, (x.1)), (7, x7), (8, x8), (9, (x.2))])) (fun (x : AV × AV) H kn => N80_3b ρ call yc lim k x.1 x7 x8 x.2 H (fun x3 _ _ x9 H => kn (x3, x9) H) (fun x3 H => k0 (sp 26 [(3, x3)]) H)) (by kernel_rfl) (fun x => by kernel_rfl) (fun x H kn => N80_3b_eq ρ call yc lim k (x.1) x7 x8 (x.2) H kn k0 R) (x3, x9) (sp 26 [(3, x3), (7, x7), (8, x8), (9, x9)]) H (by kernel_rfl)
noncomputable def N80_2 (ρ : Addr → Option Value) (call : CallF) (yc : YieldF) (lim k : Nat) (x3 x7 x8 x9 : AV) (H : Heap) (kn : AV → Heap → Res) : Res :=
  N80_3 ρ call yc lim k x3 x7 x8 x9 H kn
theorem N80_2_x (ρ : Addr → Option Value) (call : CallF) (yc : YieldF) (lim k : Nat) (J : CodeF) (x3 x7 x8 x9 : AV) (H : Heap) (kn : KS) (R : List AV → Heap → Res) :
    evX (cx ρ) call yc false 80 lim k J (Code.at [1, 1, 0, 1] c80) (sp 26 [(3, x3), (7, x7), (8, x8), (9, x9)]) H (kk (some [3]) kn [] R [2]) =
  J (Code.at [1, 1, 0, 1, 0] c80) (sp 26 [(3, x3), (7, x7), (8, x8), (9, x9)]) H (kk (some [3]) kn [(0, (some [3]), kn)] R [2]) := by
  kernel_rfl
theorem N80_2_eq (ρ : Addr → Option Value) (call : CallF) (yc : YieldF) (lim k : Nat) (x3 x7 x8 x9 : AV) (H : Heap) (kn : KS) (R : List AV → Heap → Res) :
    evL (cx ρ) call yc false 80 lim k (Code.at [1, 1, 0, 1] c80) (sp 26 [(3, x3), (7, x7), (8, x8), (9, x9)]) H (kk (some [3]) kn [] R [2]) = N80_2 ρ call yc lim k x3 x7 x8 x9 H (fun x3 H => kn (sp 26 [(3, x3)]) H) := by
  rw [evL_X, N80_2_x]
  simp only [← evL_X, N80_2, N80_3_eq]
noncomputable def L80 (ρ : Addr → Option Value) (call : CallF) (yc : YieldF) (lim k : Nat) (x0 : AV) (H : Heap) : Res :=
  purK (lenBA (cx ρ) H 60 x0) fun x8 =>
  N80_2 ρ call yc lim k .nils x0 x8 (.int .i64 0) H (fun x3 H =>
    N80_1 ρ call yc lim k x3 H retK)
theorem L80_x (ρ : Addr → Option Value) (call : CallF) (yc : YieldF) (lim k : Nat) (J : CodeF) (x0 : AV) (H : Heap) :
    evX (cx ρ) call yc false 80 lim k J c80 [x0, (.tup []), (.tup []), (.tup []), (.tup []), (.tup []), (.tup []), (.tup []), (.tup []), (.tup []), (.tup []), (.tup []), (.tup []), (.tup []), (.tup []), (.tup []), (.tup []), (.tup []), (.tup []), (.tup []), (.tup []), (.tup []), (.tup []), (.tup []), (.tup []), (.tup [])] H (kk none (fun s H => retK (([2] : List Nat).map fun t => s.getD t (.tup [])) H) [] retK [2]) =
  purK (lenBA (cx ρ) H 60 x0) fun x8 =>
  J (Code.at [1, 1, 0, 1] c80) (sp 26 [(3, .nils), (7, x0), (8, x8), (9, (.int .i64 0))]) H (kk (some [3]) (fun s H => J (Code.at [1, 1, 1] c80) s H (kk none (fun s H => retK (([2] : List Nat).map fun t => s.getD t (.tup [])) H) [] retK [2])) [] retK [2]) := by
  kernel_rfl
theorem G80 (ρ : Addr → Option Value) (call : CallF) (yc : YieldF) (lim k : Nat) (x0 : AV) (H : Heap) :
    evL (cx ρ) call yc false 80 lim k c80 [x0, (.tup []), (.tup []), (.tup []), (.tup []), (.tup []), (.tup []), (.tup []), (.tup []), (.tup []), (.tup []), (.tup []), (.tup []), (.tup []), (.tup []), (.tup []), (.tup []), (.tup []), (.tup []), (.tup []), (.tup []), (.tup []), (.tup []), (.tup []), (.tup []), (.tup [])] H (kk none (fun s H => retK (([2] : List Nat).map fun t => s.getD t (.tup [])) H) [] retK [2]) = L80 ρ call yc lim k x0 H := by
  rw [evL_X, L80_x]
  simp only [← evL_X, L80, N80_1_eq, N80_2_eq]
theorem E80 (ρ : Addr → Option Value) (k lim : Nat) (x0 : AV) (H : Heap) : evCall (cx ρ) (k + 1) lim 80 [x0] H = L80 ρ (evCall (cx ρ) k) (evCY (cx ρ) k).2 lim k x0 H := by
  rw [evCall_body (cx ρ) k lim 80 _ H Tryz.f80 c80 [2] (by kernel_rfl) (by kernel_rfl) (by kernel_rfl) (by kernel_rfl) (by kernel_rfl)]
  exact G80 ρ (evCall (cx ρ) k) (evCY (cx ρ) k).2 lim k x0 H
-- slices.IndexFunc[[]int,int]
noncomputable def c81 : Code := Code.of Tryz.prog 81
noncomputable def N81_1 (ρ : Addr → Option Value) (call : CallF) (yc : YieldF) (lim k : Nat) (H : Heap) (R : List AV → Heap → Res) : Res :=
  R [(.int .i64 (-1))] H
theorem N81_1_eq (ρ : Addr → Option Value) (call : CallF) (yc : YieldF) (lim k : Nat) (H : Heap) (R : List AV → Heap → Res) :
    evL (cx ρ) call yc false 81 lim k (Code.at [1, 1] c81) (sp 19 []) H (kk none (fun s H => R (([4] : List Nat).map fun t => s.getD t (.tup [])) H) [] R [4]) = N81_1 ρ call yc lim k H R := by
  kernel_rfl
noncomputable def N81_3b (ρ : Addr → Option Value) (call : CallF) (yc : YieldF) (lim k : Nat) (x0 x1 x7 x8 : AV) (H : Heap) (kn : AV → AV → AV → AV → Heap → Res) (k0 : Heap → Res) (R : List AV → Heap → Res) : Res :=
  purK (binA Tryz.prog H .lss 3 x8 x7) fun x9_1 =>
  condK x9_1
  (
    purK (indexAddrA Tryz.prog 60 x0 x8) fun x14_1 =>
    purK (loadA (cx ρ) H 3 x14_1) fun x15_1 =>
    valK call yc lim x1 [x15_1] H fun x16_1 H =>
    condK x16_1
    (
      R [x8] H)
    (
      purK (binA Tryz.prog H .add 3 x8 (.int .i64 1)) fun x18_1 =>
      kn x0 x1 x7 x18_1 H))
  (
    k0 H)
theorem N81_3b_eq (ρ : Addr → Option Value) (call : CallF) (yc : YieldF) (lim k : Nat) (x0 x1 x7 x8 : AV) (H : Heap) (kn : KS) (k0 : KS) (R : List AV → Heap → Res) :
    evL (cx ρ) call yc false 81 lim k (Code.at [1, 0, 1, 0, 0] c81) (sp 19 [(0, x0), (1, x1), (7, x7), (8, x8)]) H (kk (some [0, 1, 7, 8]) kn [(0, (some []), k0)] R [4]) = N81_3b ρ call yc lim k x0 x1 x7 x8 H (fun x0 x1 x7 x8 H => kn (sp 19 [(0, x0), (1, x1), (7, x7), (8, x8)]) H) (fun H => k0 (sp 19 []) H) R := by
  kernel_rfl
noncomputable def N81_3 (ρ : Addr → Option Value) (call : CallF) (yc : YieldF) (lim k : Nat) (x0 x1 x7 x8 : AV) (H : Heap) (k0 : Heap → Res) (R : List AV → Heap → Res) : Res :=
  loopL (fun (x : AV) H kn => N81_3b ρ call yc lim k x0 x1 x7 x H (fun _ _ _ x8 H => kn x8 H) k0 R) k x8 H
theorem N81_3_eq (ρ : Addr → Option Value) (call : CallF) (yc : YieldF) (lim k : Nat) (x0 x1 x7 x8 : AV) (H : Heap) (kn : KS) (k0 : KS) (R : List AV → Heap → Res) :
    evL (cx ρ) call yc false 81 lim k (Code.at [1, 0, 1, 0] c81) (sp 19 [(0, x0), (1, x1), (7, x7), (8, x8)]) H (kk (some []) kn [(0, (some []), k0)] R [4]) = N81_3 ρ call yc lim k x0 x1 x7 x8 H (fun H => k0 (sp 19 []) H) R := by
  have e : Code.at [1, 0, 1, 0] c81 = .loop (Code.at [1, 0, 1, 0, 0] c81) := by kernel_rfl
  rw [e]
  unfold N81_3
  exact loop_node [0, 1, 7, 8] (fun x : AV => (sp 19 [(0, x0), (1, x1), (7, x7), (8, (x))])) (fun (x : AV) H kn => N81_3b ρ call yc lim k x0 x1 x7 x H (fun _ _ _ x8 H => kn x8 H) (fun H => k0 (sp 19 []) H) R) (by kernel_rfl) (fun x => by kernel_rfl) (fun x H kn => N81_3b_eq ρ call yc lim k x0 x1 x7 (x) H kn k0 R) x8 (sp 19 [(0, x0), (1, x1), (7, x7), (8, x8)]) H (by kernel_rfl)
noncomputable def N81_2 (ρ : Addr → Option Value) (call : CallF) (yc : YieldF) (lim k : Nat) (x0 x1 x7 x8 : AV) (H : Heap) (kn : Heap → Res) (R : List AV → Heap → Res) : Res :=
  N81_3 ρ call yc lim k x0 x1 x7 x8 H kn R
theorem N81_2_x (ρ : Addr → Option Value) (call : CallF) (yc : YieldF) (lim k : Nat) (J : CodeF) (x0 x1 x7 x8 : AV) (H : Heap) (kn : KS) (R : List AV → Heap → Res) :
    evX (cx ρ) call yc false 81 lim k J (Code.at [1, 0, 1] c81) (sp 19 [(0, x0), (1, x1), (7, x7), (8, x8)]) H (kk (some []) kn [] R [4]) =
  J (Code.at [1, 0, 1, 0] c81) (sp 19 [(0, x0), (1, x1), (7, x7), (8, x8)]) H (kk (some []) kn [(0, (some []), kn)] R [4]) := by
  kernel_rfl
theorem N81_2_eq (ρ : Addr → Option Value) (call : CallF) (yc : YieldF) (lim k : Nat) (x0 x1 x7 x8 : AV) (H : Heap) (kn : KS) (R : List AV → Heap → Res) :
    evL (cx ρ) call yc false 81 lim k (Code.at [1, 0, 1] c81) (sp 19 [(0, x0), (1, x1), (7, x7), (8, x8)]) H (kk (some []) kn [] R [4]) = N81_2 ρ call yc lim k x0 x1 x7 x8 H (fun H => kn (sp 19 []) H) R := by
  rw [evL_X, N81_2_x]
  simp only [← evL_X, N81_2, N81_3_eq]
noncomputable def L81 (ρ : Addr → Option Value) (call : CallF) (yc : YieldF) (lim k : Nat) (x0 x1 : AV) (H : Heap) : Res :=
  purK (lenBA (cx ρ) H 60 x0) fun x7 =>
  N81_2 ρ call yc lim k x0 x1 x7 (.int .i64 0) H (fun H =>
    N81_1 ρ call yc lim k H retK) retK
theorem L81_x (ρ : Addr → Option Value) (call : CallF) (yc : YieldF) (lim k : Nat) (J : CodeF) (x0 x1 : AV) (H : Heap) :
    evX (cx ρ) call yc false 81 lim k J c81 [x0, x1, (.tup []), (.tup []), (.tup []), (.tup []), (.tup []), (.tup []), (.tup []), (.tup []), (.tup []), (.tup []), (.tup []), (.tup []), (.tup []), (.tup []), (.tup []), (.tup []), (.tup [])] H (kk none (fun s H => retK (([4] : List Nat).map fun t => s.getD t (.tup [])) H) [] retK [4]) =
  purK (lenBA (cx ρ) H 60 x0) fun x7 =>
  J (Code.at [1, 0, 1] c81) (sp 19 [(0, x0), (1, x1), (7, x7), (8, (.int .i64 0))]) H (kk (some []) (fun s H => J (Code.at [1, 1] c81) s H (kk none (fun s H => retK (([4] : List Nat).map fun t => s.getD t (.tup [])) H) [] retK [4])) [] retK [4]) := by
  kernel_rfl
theorem G81 (ρ : Addr → Option Value) (call : CallF) (yc : YieldF) (lim k : Nat) (x0 x1 : AV) (H : Heap) :
    evL (cx ρ) call yc false 81 lim k c81 [x0, x1, (.tup []), (.tup []), (.tup []), (.tup []), (.tup []), (.tup []), (.tup []), (.tup []), (.tup []), (.tup []), (.tup []), (.tup []), (.tup []), (.tup []), (.tup []), (.tup []), (.tup [])] H (kk none (fun s H => retK (([4] : List Nat).map fun t => s.getD t (.tup [])) H) [] retK [4]) = L81 ρ call yc lim k x0 x1 H := by
  rw [evL_X, L81_x]
  simp only [← evL_X, L81, N81_1_eq, N81_2_eq]
theorem E81 (ρ : Addr → Option Value) (k lim : Nat) (x0 x1 : AV) (H : Heap) : evCall (cx ρ) (k + 1) lim 81 [x0, x1] H = L81 ρ (evCall (cx ρ) k) (evCY (cx ρ) k).2 lim k x0 x1 H := by
  rw [evCall_body (cx ρ) k lim 81 _ H Tryz.f81 c81 [4] (by kernel_rfl) (by kernel_rfl) (by kernel_rfl) (by kernel_rfl) (by kernel_rfl)]
  exact G81 ρ (evCall (cx ρ) k) (evCY (cx ρ) k).2 lim k x0 x1 H
-- (*haycroft/index.Index).Look$1
noncomputable def c82 : Code := Code.of Tryz.prog 82
noncomputable def L82 (ρ : Addr → Option Value) (call : CallF) (yc : YieldF) (lim k : Nat) (x0 x1 x2 : AV) (H : Heap) : Res :=
  purK (loadA (cx ρ) H 95 x1) fun x5 =>
  purK (nilChkA x5) fun x6 =>
  purK (fieldAddrA Tryz.prog 162 x6 2) fun x7 =>
  purK (loadA (cx ρ) H 160 x7) fun x8 =>
  purK (loadA (cx ρ) H 22 x2) fun x11 =>
  resK (call lim 84 [x8, x0] H) fun x10 H => bif (agn (loadA (cx ρ) H 22 x2) x11 && true) then
    resK (call lim 77 [x11] H) fun x12 H =>
    resK (call lim 83 [x10, x12] H) fun x13 H =>
    retK [x13] H
  else none
theorem G82 (ρ : Addr → Option Value) (call : CallF) (yc : YieldF) (lim k : Nat) (x0 x1 x2 : AV) (H : Heap) :
    evL (cx ρ) call yc false 82 lim k c82 [x0, x1, x2, (.tup []), (.tup []), (.tup []), (.tup []), (.tup []), (.tup []), (.tup []), (.tup []), (.tup []), (.tup []), (.tup [])] H (kk none (fun s H => retK (([4] : List Nat).map fun t => s.getD t (.tup [])) H) [] retK [4]) = L82 ρ call yc lim k x0 x1 x2 H := by
  kernel_rfl
theorem E82 (ρ : Addr → Option Value) (k lim : Nat) (x0 x1 x2 : AV) (H : Heap) : evCall (cx ρ) (k + 1) lim 82 [x0, x1, x2] H = L82 ρ (evCall (cx ρ) k) (evCY (cx ρ) k).2 lim k x0 x1 x2 H := by
  rw [evCall_body (cx ρ) k lim 82 _ H Tryz.f82 c82 [4] (by kernel_rfl) (by kernel_rfl) (by kernel_rfl) (by kernel_rfl) (by kernel_rfl)]
  exact G82 ρ (evCall (cx ρ) k) (evCY (cx ρ) k).2 lim k x0 x1 x2 H
-- haycroft/entry.Has
noncomputable def c83 : Code := Code.of Tryz.prog 83
noncomputable def L83 (ρ : Addr → Option Value) (call : CallF) (yc : YieldF) (lim k : Nat) (x0 x1 : AV) (H : Heap) : Res :=
  resK (call lim 36 [x0] H) fun x9 H =>
  purK (extA 0 x9) fun x10 =>
  purK (extA 1 x9) fun x11 =>
  effK H (allocA (cx ρ) H 90) fun x5 H =>
  effK H ((storeA (cx ρ) lim H 90 x5 x10).map skips) fun _ H =>
  purK (binA Tryz.prog H .eql 28 x11 (.int .i64 0)) fun x13 =>
  purK (gPur (wantV x13 true) (fieldAddrA Tryz.prog 90 x5 1)) fun x15 =>
  purK (gPur (wantV x13 true) (loadA (cx ρ) H 22 x15)) fun x16 =>
  purK (gPur (wantV x13 true) (some x1)) fun x17 =>
  purK (gPur (wantV x13 true) (binA Tryz.prog H .eql 22 x16 x17)) fun x18 =>
  purK (pickA x13 x18 (.bool false)) fun x19 =>
  retK [x19] H
theorem G83 (ρ : Addr → Option Value) (call : CallF) (yc : YieldF) (lim k : Nat) (x0 x1 : AV) (H : Heap) :
    evL (cx ρ) call yc false 83 lim k c83 [x0, x1, (.tup []), (.tup []), (.tup []), (.tup []), (.tup []), (.tup []), (.tup []), (.tup []), (.tup []), (.tup []), (.tup []), (.tup []), (.tup []), (.tup []), (.tup []), (.tup []), (.tup []), (.tup [])] H (kk none (fun s H => retK (([4] : List Nat).map fun t => s.getD t (.tup [])) H) [] retK [4]) = L83 ρ call yc lim k x0 x1 H := by
  kernel_rfl
theorem E83 (ρ : Addr → Option Value) (k lim : Nat) (x0 x1 : AV) (H : Heap) : evCall (cx ρ) (k + 1) lim 83 [x0, x1] H = L83 ρ (evCall (cx ρ) k) (evCY (cx ρ) k).2 lim k x0 x1 H := by
  rw [evCall_body (cx ρ) k lim 83 _ H Tryz.f83 c83 [4] (by kernel_rfl) (by kernel_rfl) (by kernel_rfl) (by kernel_rfl) (by kernel_rfl)]
  exact G83 ρ (evCall (cx ρ) k) (evCY (cx ρ) k).2 lim k x0 x1 H
-- (*haycroft/cell.Row).Load
noncomputable def c84 : Code := Code.of Tryz.prog 84
noncomputable def L84 (ρ : Addr → Option Value) (call : CallF) (yc : YieldF) (lim k : Nat) (x0 x1 : AV) (H : Heap) : Res :=
  resK (call lim 149 [x0, x1] H) fun x7 H =>
  purK (unA .not x7) fun x8 =>
  condK x8
  (
    retK [(.int .u64 0)] H)
  (
    purK (nilChkA x0) fun x10 =>
    purK (fieldAddrA Tryz.prog 232 x10 0) fun x11 =>
    purK (loadA (cx ρ) H 228 x11) fun x12 =>
    purK (indexAddrA Tryz.prog 228 x12 x1) fun x14 =>
    resK (call lim 150 [x14] H) fun x15 H =>
    retK [x15] H)
theorem G84 (ρ : Addr → Option Value) (call : CallF) (yc : YieldF) (lim k : Nat) (x0 x1 : AV) (H : Heap) :
    evL (cx ρ) call yc false 84 lim k c84 [x0, x1, (.tup []), (.tup []), (.tup []), (.tup []), (.tup []), (.tup []), (.tup []), (.tup []), (.tup []), (.tup []), (.tup []), (.tup []), (.tup []), (.tup [])] H (kk none (fun s H => retK (([4] : List Nat).map fun t => s.getD t (.tup [])) H) [] retK [4]) = L84 ρ call yc lim k x0 x1 H := by
  kernel_rfl
theorem E84 (ρ : Addr → Option Value) (k lim : Nat) (x0 x1 : AV) (H : Heap) : evCall (cx ρ) (k + 1) lim 84 [x0, x1] H = L84 ρ (evCall (cx ρ) k) (evCY (cx ρ) k).2 lim k x0 x1 H := by
  rw [evCall_body (cx ρ) k lim 84 _ H Tryz.f84 c84 [4] (by kernel_rfl) (by kernel_rfl) (by kernel_rfl) (by kernel_rfl) (by kernel_rfl)]
  exact G84 ρ (evCall (cx ρ) k) (evCY (cx ρ) k).2 lim k x0 x1 H
-- (*haycroft/index.Index).Look$2
noncomputable def c85 : Code := Code.of Tryz.prog 85
noncomputable def L85 (ρ : Addr → Option Value) (call : CallF) (yc : YieldF) (lim k : Nat) (x0 x1 : AV) (H : Heap) : Res :=
  purK (loadA (cx ρ) H 95 x1) fun x4 =>
  purK (nilChkA x4) fun x5 =>
  purK (fieldAddrA Tryz.prog 162 x5 2) fun x6 =>
  purK (loadA (cx ρ) H 160 x6) fun x7 =>
  resK (call lim 84 [x7, x0] H) fun x9 H =>
  purK (binA Tryz.prog H .eql 22 x9 (.int .u64 0)) fun x10 =>
  retK [x10] H
theorem G85 (ρ : Addr → Option Value) (call : CallF) (yc : YieldF) (lim k : Nat) (x0 x1 : AV) (H : Heap) :
    evL (cx ρ) call yc false 85 lim k c85 [x0, x1, (.tup []), (.tup []), (.tup []), (.tup []), (.tup []), (.tup []), (.tup []), (.tup []), (.tup [])] H (kk none (fun s H => retK (([3] : List Nat).map fun t => s.getD t (.tup [])) H) [] retK [3]) = L85 ρ call yc lim k x0 x1 H := by
  kernel_rfl
theorem E85 (ρ : Addr → Option Value) (k lim : Nat) (x0 x1 : AV) (H : Heap) : evCall (cx ρ) (k + 1) lim 85 [x0, x1] H = L85 ρ (evCall (cx ρ) k) (evCY (cx ρ) k).2 lim k x0 x1 H := by
  rw [evCall_body (cx ρ) k lim 85 _ H Tryz.f85 c85 [3] (by kernel_rfl) (by kernel_rfl) (by kernel_rfl) (by kernel_rfl) (by kernel_rfl)]
  exact G85 ρ (evCall (cx ρ) k) (evCY (cx ρ) k).2 lim k x0 x1 H
-- haycroft/field.Get
noncomputable def c86 : Code := Code.of Tryz.prog 86
noncomputable def L86 (ρ : Addr → Option Value) (call : CallF) (yc : YieldF) (lim k : Nat) (x0 x1 x2 : AV) (H : Heap) : Res :=
  resK (call lim 151 [x1, x2] H) fun x9 H =>
  purK (unA .not x9) fun x10 =>
  condK x10
  (
    retK [(.int .u64 0)] H)
  (
    purK (binA Tryz.prog H .shr 22 x0 x1) fun x13 =>
    resK (call lim 131 [x2] H) fun x15 H => bif (agn (binA Tryz.prog H .shr 22 x0 x1) x13 && true) then
      purK (binA Tryz.prog H .and 22 x13 x15) fun x16 =>
      retK [x16] H
    else none)
theorem G86 (ρ : Addr → Option Value) (call : CallF) (yc : YieldF) (lim k : Nat) (x0 x1 x2 : AV) (H : Heap) :
    evL (cx ρ) call yc false 86 lim k c86 [x0, x1, x2, (.tup []), (.tup []), (.tup []), (.tup []), (.tup []), (.tup []), (.tup []), (.tup []), (.tup []), (.tup []), (.tup []), (.tup []), (.tup []), (.tup [])] H (kk none (fun s H => retK (([6] : List Nat).map fun t => s.getD t (.tup [])) H) [] retK [6]) = L86 ρ call yc lim k x0 x1 x2 H := by
  kernel_rfl
theorem E86 (ρ : Addr → Option Value) (k lim : Nat) (x0 x1 x2 : AV) (H : Heap) : evCall (cx ρ) (k + 1) lim 86 [x0, x1, x2] H = L86 ρ (evCall (cx ρ) k) (evCY (cx ρ) k).2 lim k x0 x1 x2 H := by
  rw [evCall_body (cx ρ) k lim 86 _ H Tryz.f86 c86 [6] (by kernel_rfl) (by kernel_rfl) (by kernel_rfl) (by kernel_rfl) (by kernel_rfl)]
  exact G86 ρ (evCall (cx ρ) k) (evCY (cx ρ) k).2 lim k x0 x1 x2 H
-- haycroft/field.Flag
noncomputable def c87 : Code := Code.of Tryz.prog 87
noncomputable def L87 (ρ : Addr → Option Value) (call : CallF) (yc : YieldF) (lim k : Nat) (x0 x1 : AV) (H : Heap) : Res :=
  resK (call lim 86 [x0, x1, (.int .i64 1)] H) fun x7 H =>
  purK (binA Tryz.prog H .eql 22 x7 (.int .u64 1)) fun x8 =>
  retK [x8] H
theorem G87 (ρ : Addr → Option Value) (call : CallF) (yc : YieldF) (lim k : Nat) (x0 x1 : AV) (H : Heap) :
    evL (cx ρ) call yc false 87 lim k c87 [x0, x1, (.tup []), (.tup []), (.tup []), (.tup []), (.tup []), (.tup []), (.tup [])] H (kk none (fun s H => retK (([4] : List Nat).map fun t => s.getD t (.tup [])) H) [] retK [4]) = L87 ρ call yc lim k x0 x1 H := by
  kernel_rfl
theorem E87 (ρ : Addr → Option Value) (k lim : Nat) (x0 x1 : AV) (H : Heap) : evCall (cx ρ) (k + 1) lim 87 [x0, x1] H = L87 ρ (evCall (cx ρ) k) (evCY (cx ρ) k).2 lim k x0 x1 H := by
  rw [evCall_body (cx ρ) k lim 87 _ H Tryz.f87 c87 [4] (by kernel_rfl) (by kernel_rfl) (by kernel_rfl) (by kernel_rfl) (by kernel_rfl)]
  exact G87 ρ (evCall (cx ρ) k) (evCY (cx ρ) k).2 lim k x0 x1 H
-- haycroft/entry.Right
noncomputable def c88 : Code := Code.of Tryz.prog 88
noncomputable def L88 (ρ : Addr → Option Value) (call : CallF) (yc : YieldF) (lim k : Nat) (x0 : AV) (H : Heap) : Res :=
  effK H (boxA H 90 x0) fun x1 H =>
  purK (fieldAddrA Tryz.prog 90 x1 0) fun x3 =>
  purK (loadA (cx ρ) H 22 x3) fun x4 =>
  purK (binA Tryz.prog H .leq 22 x4 (.int .u64 281474976710655)) fun x5 =>
  boolK (wantV x5 true) fun b1 => purK (bif b1 then fieldAddrA Tryz.prog 90 x1 1 else some (.tup [])) fun x7 =>
  boolK (wantV x5 true) fun b2 => purK (bif b2 then loadA (cx ρ) H 22 x7 else some (.tup [])) fun x8 =>
  boolK (wantV x5 true) fun b3 => resK (gRes (some b3) H (call lim 131 [(.int .i64 14)] H)) fun x9 H => bif !b3 || ((!b2 || agn (loadA (cx ρ) H 22 x7) x8) && true) then
    purK (gPur (wantV x5 true) (binA Tryz.prog H .leq 22 x8 x9)) fun x10 =>
    purK (pickA x5 x10 (.bool false)) fun x11 =>
    purK (gPur (wantV x11 true) (fieldAddrA Tryz.prog 90 x1 2)) fun x13 =>
    purK (gPur (wantV x11 true) (loadA (cx ρ) H 4 x13)) fun x14 =>
    purK (gPur (wantV x11 true) (fieldAddrA Tryz.prog 90 x1 0)) fun x15 =>
    purK (gPur (wantV x11 true) (loadA (cx ρ) H 22 x15)) fun x16 =>
    purK (gPur (wantV x11 true) (binA Tryz.prog H .eql 22 x16 (.int .u64 0))) fun x17 =>
    purK (gPur (wantV x11 true) (binA Tryz.prog H .eql 4 x14 x17)) fun x18 =>
    purK (pickA x11 x18 (.bool false)) fun x19 =>
    retK [x19] H
  else none
theorem G88 (ρ : Addr → Option Value) (call : CallF) (yc : YieldF) (lim k : Nat) (x0 : AV) (H : Heap) :
    evL (cx ρ) call yc false 88 lim k c88 [x0, (.tup []), (.tup []), (.tup []), (.tup []), (.tup []), (.tup []), (.tup []), (.tup []), (.tup []), (.tup []), (.tup []), (.tup []), (.tup []), (.tup []), (.tup []), (.tup []), (.tup []), (.tup []), (.tup [])] H (kk none (fun s H => retK (([2] : List Nat).map fun t => s.getD t (.tup [])) H) [] retK [2]) = L88 ρ call yc lim k x0 H := by
  kernel_rfl
theorem E88 (ρ : Addr → Option Value) (k lim : Nat) (x0 : AV) (H : Heap) : evCall (cx ρ) (k + 1) lim 88 [x0] H = L88 ρ (evCall (cx ρ) k) (evCY (cx ρ) k).2 lim k x0 H := by
  rw [evCall_body (cx ρ) k lim 88 _ H Tryz.f88 c88 [2] (by kernel_rfl) (by kernel_rfl) (by kernel_rfl) (by kernel_rfl) (by kernel_rfl)]
  exact G88 ρ (evCall (cx ρ) k) (evCY (cx ρ) k).2 lim k x0 H
-- haycroft/place.May
noncomputable def c89 : Code := Code.of Tryz.prog 89
noncomputable def L89 (ρ : Addr → Option Value) (call : CallF) (yc : YieldF) (lim k : Nat) (x0 : AV) (H : Heap) : Res :=
  purK (binA Tryz.prog H .geq 3 x0 (.int .i64 5)) fun x4 =>
  purK (gPur (wantV x4 true) (some x0)) fun x6 =>
  purK (gPur (wantV x4 true) (binA Tryz.prog H .leq 3 x6 (.int .i64 9))) fun x7 =>
  purK (pickA x4 x7 (.bool false)) fun x8 =>
  retK [x8] H
theorem G89 (ρ : Addr → Option Value) (call : CallF) (yc : YieldF) (lim k : Nat) (x0 : AV) (H : Heap) :
    evL (cx ρ) call yc false 89 lim k c89 [x0, (.tup []), (.tup []), (.tup []), (.tup []), (.tup []), (.tup []), (.tup []), (.tup [])] H (kk none (fun s H => retK (([2] : List Nat).map fun t => s.getD t (.tup [])) H) [] retK [2]) = L89 ρ call yc lim k x0 H := by
  kernel_rfl
theorem E89 (ρ : Addr → Option Value) (k lim : Nat) (x0 : AV) (H : Heap) : evCall (cx ρ) (k + 1) lim 89 [x0] H = L89 ρ (evCall (cx ρ) k) (evCY (cx ρ) k).2 lim k x0 H := by
  rw [evCall_body (cx ρ) k lim 89 _ H Tryz.f89 c89 [2] (by kernel_rfl) (by kernel_rfl) (by kernel_rfl) (by kernel_rfl) (by kernel_rfl)]
  exact G89 ρ (evCall (cx ρ) k) (evCY (cx ρ) k).2 lim k x0 H
-- haycroft/store.within
noncomputable def c90 : Code := Code.of Tryz.prog 90
noncomputable def L90 (ρ : Addr → Option Value) (call : CallF) (yc : YieldF) (lim k : Nat) (x0 x1 x2 : AV) (H : Heap) : Res :=
  purK (binA Tryz.prog H .geq 3 x0 x1) fun x9 =>
  purK (gPur (wantV x9 true) (some x0)) fun x11 =>
  purK (gPur (wantV x9 true) (some x2)) fun x12 =>
  purK (gPur (wantV x9 true) (binA Tryz.prog H .leq 3 x11 x12)) fun x13 =>
  purK (pickA x9 x13 (.bool false)) fun x14 =>
  retK [x14] H
theorem G90 (ρ : Addr → Option Value) (call : CallF) (yc : YieldF) (lim k : Nat) (x0 x1 x2 : AV) (H : Heap) :
    evL (cx ρ) call yc false 90 lim k c90 [x0, x1, x2, (.tup []), (.tup []), (.tup []), (.tup []), (.tup []), (.tup []), (.tup []), (.tup []), (.tup []), (.tup []), (.tup []), (.tup [])] H (kk none (fun s H => retK (([6] : List Nat).map fun t => s.getD t (.tup [])) H) [] retK [6]) = L90 ρ call yc lim k x0 x1 x2 H := by
  kernel_rfl
theorem E90 (ρ : Addr → Option Value) (k lim : Nat) (x0 x1 x2 : AV) (H : Heap) : evCall (cx ρ) (k + 1) lim 90 [x0, x1, x2] H = L90 ρ (evCall (cx ρ) k) (evCY (cx ρ) k).2 lim k x0 x1 x2 H := by
  rw [evCall_body (cx ρ) k lim 90 _ H Tryz.f90 c90 [6] (by kernel_rfl) (by kernel_rfl) (by kernel_rfl) (by kernel_rfl) (by kernel_rfl)]
  exact G90 ρ (evCall (cx ρ) k) (evCY (cx ρ) k).2 lim k x0 x1 x2 H
-- haycroft/mix.May
noncomputable def c91 : Code := Code.of Tryz.prog 91
noncomputable def L91 (ρ : Addr → Option Value) (call : CallF) (yc : YieldF) (lim k : Nat) (x0 : AV) (H : Heap) : Res :=
  purK (binA Tryz.prog H .geq 3 x0 (.int .i64 1)) fun x4 =>
  purK (gPur (wantV x4 true) (some x0)) fun x6 =>
  purK (gPur (wantV x4 true) (binA Tryz.prog H .leq 3 x6 (.int .i64 1024))) fun x7 =>
  purK (pickA x4 x7 (.bool false)) fun x8 =>
  purK (gPur (wantV x8 true) (some x0)) fun x10 =>
  purK (gPur (wantV x8 true) (some x0)) fun x11 =>
  purK (gPur (wantV x8 true) (binA Tryz.prog H .sub 3 x11 (.int .i64 1))) fun x12 =>
  purK (gPur (wantV x8 true) (binA Tryz.prog H .and 3 x10 x12)) fun x13 =>
  purK (gPur (wantV x8 true) (binA Tryz.prog H .eql 3 x13 (.int .i64 0))) fun x14 =>
  purK (pickA x8 x14 (.bool false)) fun x15 =>
  retK [x15] H
theorem G91 (ρ : Addr → Option Value) (call : CallF) (yc : YieldF) (lim k : Nat) (x0 : AV) (H : Heap) :
    evL (cx ρ) call yc false 91 lim k c91 [x0, (.tup []), (.tup []), (.tup []), (.tup []), (.tup []), (.tup []), (.tup []), (.tup []), (.tup []), (.tup []), (.tup []), (.tup []), (.tup []), (.tup []), (.tup [])] H (kk none (fun s H => retK (([2] : List Nat).map fun t => s.getD t (.tup [])) H) [] retK [2]) = L91 ρ call yc lim k x0 H := by
  kernel_rfl
theorem E91 (ρ : Addr → Option Value) (k lim : Nat) (x0 : AV) (H : Heap) : evCall (cx ρ) (k + 1) lim 91 [x0] H = L91 ρ (evCall (cx ρ) k) (evCY (cx ρ) k).2 lim k x0 H := by
  rw [evCall_body (cx ρ) k lim 91 _ H Tryz.f91 c91 [2] (by kernel_rfl) (by kernel_rfl) (by kernel_rfl) (by kernel_rfl) (by kernel_rfl)]
  exact G91 ρ (evCall (cx ρ) k) (evCY (cx ρ) k).2 lim k x0 H
-- (*haycroft/device.Device).power
noncomputable def c92 : Code := Code.of Tryz.prog 92
noncomputable def L92 (ρ : Addr → Option Value) (call : CallF) (yc : YieldF) (lim k : Nat) (x0 : AV) (H : Heap) : Res :=
  purK (binA Tryz.prog H .eql 54 x0 .nilp) fun x5 =>
  condK x5
  (
    retK [(.int .i64 2)] H)
  (
    purK (nilChkA x0) fun x8 =>
    purK (fieldAddrA Tryz.prog 111 x8 0) fun x9 =>
    purK (loadA (cx ρ) H 4 x9) fun x10 =>
    condK x10
    (
      retK [(.int .i64 6)] H)
    (
      retK [(.int .i64 0)] H))
theorem G92 (ρ : Addr → Option Value) (call : CallF) (yc : YieldF) (lim k : Nat) (x0 : AV) (H : Heap) :
    evL (cx ρ) call yc false 92 lim k c92 [x0, (.tup []), (.tup []), (.tup []), (.tup []), (.tup []), (.tup []), (.tup []), (.tup []), (.tup []), (.tup [])] H (kk none (fun s H => retK (([2] : List Nat).map fun t => s.getD t (.tup [])) H) [] retK [2]) = L92 ρ call yc lim k x0 H := by
  kernel_rfl
theorem E92 (ρ : Addr → Option Value) (k lim : Nat) (x0 : AV) (H : Heap) : evCall (cx ρ) (k + 1) lim 92 [x0] H = L92 ρ (evCall (cx ρ) k) (evCY (cx ρ) k).2 lim k x0 H := by
  rw [evCall_body (cx ρ) k lim 92 _ H Tryz.f92 c92 [2] (by kernel_rfl) (by kernel_rfl) (by kernel_rfl) (by kernel_rfl) (by kernel_rfl)]
  exact G92 ρ (evCall (cx ρ) k) (evCY (cx ρ) k).2 lim k x0 H
-- haycroft/save.Find
noncomputable def c93 : Code := Code.of Tryz.prog 93
noncomputable def N93_2 (ρ : Addr → Option Value) (call : CallF) (yc : YieldF) (lim k : Nat) (x2 : AV) (H : Heap) (R : List AV → Heap → Res) : Res :=
  purK (buildA Tryz.prog 173 []) fun x53_1 =>
  effK H ((storeA (cx ρ) lim H 173 x2 x53_1).map skips) fun _ H =>
  R [x2, (.bool false)] H
theorem N93_2_eq (ρ : Addr → Option Value) (call : CallF) (yc : YieldF) (lim k : Nat) (x2 : AV) (H : Heap) (R : List AV → Heap → Res) :
    evL (cx ρ) call yc false 93 lim k (Code.at [1, 1, 1, 1, 1] c93) (sp 54 [(2, x2)]) H (kk none (fun s H => R (([2, 3] : List Nat).map fun t => s.getD t (.tup [])) H) [] R [2, 3]) = N93_2 ρ call yc lim k x2 H R := by
  kernel_rfl
noncomputable def N93_4b (ρ : Addr → Option Value) (call : CallF) (yc : YieldF) (lim k : Nat) (x0 x2 x38 x39 x40 : AV) (H : Heap) (kn : AV → AV → AV → AV → AV → Heap → Res) (k2 : AV → Heap → Res) (R : List AV → Heap → Res) : Res :=
  purK (binA Tryz.prog H .lss 3 x40 x39) fun x41_1 =>
  condK x41_1
  (
    purK (indexAddrA Tryz.prog 234 x38 x40) fun x42_1 =>
    purK (loadA (cx ρ) H 236 x42_1) fun x43_1 =>
    effK H (allocA (cx ρ) H 236) fun x11_1 H =>
    effK H ((storeA (cx ρ) lim H 236 x11_1 x43_1).map skips) fun _ H =>
    purK (loadA (cx ρ) H 236 x11_1) fun x46_1 =>
    resK (call lim 156 [x0, x46_1] H) fun x47_1 H =>
    purK (extA 0 x47_1) fun x48_1 =>
    purK (extA 1 x47_1) fun x49_1 =>
    effK H (allocA (cx ρ) H 173) fun x12_1 H =>
    effK H ((storeA (cx ρ) lim H 173 x12_1 x48_1).map skips) fun _ H =>
    condK x49_1
    (
      purK (loadA (cx ρ) H 173 x12_1) fun x51_1 =>
      effK H ((storeA (cx ρ) lim H 173 x2 x51_1).map skips) fun _ H =>
      R [x2, (.bool true)] H)
    (
      purK (binA Tryz.prog H .add 3 x40 (.int .i64 1)) fun x52_1 =>
      kn x0 x2 x38 x39 x52_1 H))
  (
    k2 x2 H)
theorem N93_4b_eq (ρ : Addr → Option Value) (call : CallF) (yc : YieldF) (lim k : Nat) (x0 x2 x38 x39 x40 : AV) (H : Heap) (kn : KS) (k2 : KS) (R : List AV → Heap → Res) :
    evL (cx ρ) call yc false 93 lim k (Code.at [1, 1, 1, 1, 0, 1, 0, 0] c93) (sp 54 [(0, x0), (2, x2), (38, x38), (39, x39), (40, x40)]) H (kk (some [0, 2, 38, 39, 40]) kn [(2, (some [2]), k2)] R [2, 3]) = N93_4b ρ call yc lim k x0 x2 x38 x39 x40 H (fun x0 x2 x38 x39 x40 H => kn (sp 54 [(0, x0), (2, x2), (38, x38), (39, x39), (40, x40)]) H) (fun x2 H => k2 (sp 54 [(2, x2)]) H) R := by
  kernel_rfl
noncomputable def N93_4 (ρ : Addr → Option Value) (call : CallF) (yc : YieldF) (lim k : Nat) (x0 x2 x38 x39 x40 : AV) (H : Heap) (k2 : AV → Heap → Res) (R : List AV → Heap → Res) : Res :=
  loopL (fun (x : AV) H kn => N93_4b ρ call yc lim k x0 x2 x38 x39 x H (fun _ _ _ _ x40 H => kn x40 H) k2 R) k x40 H
theorem N93_4_eq (ρ : Addr → Option Value) (call : CallF) (yc : YieldF) (lim k : Nat) (x0 x2 x38 x39 x40 : AV) (H : Heap) (kn : KS) (k2 : KS) (R : List AV → Heap → Res) :
    evL (cx ρ) call yc false 93 lim k (Code.at [1, 1, 1, 1, 0, 1, 0] c93) (sp 54 [(0, x0), (2, x2), (38, x38), (39, x39), (40, x40)]) H (kk (some [2]) kn [(2, (some [2]), k2)] R [2, 3]) = N93_4 ρ call yc lim k x0 x2 x38 x39 x40 H (fun x2 H => k2 (sp 54 [(2, x2)]) H) R := by
  have e : Code.at [1, 1, 1, 1, 0, 1, 0] c93 = .loop (Code.at [1, 1, 1, 1, 0, 1, 0, 0] c93) := by kernel_rfl
  rw [e]
  unfold N93_4
  exact loop_node [0, 2, 38, 39, 40] (fun x : AV => (sp 54 [(0, x0), (2, x2), (38, x38), (39, x39), (40, (x))])) (fun (x : AV) H kn => N93_4b ρ call yc lim k x0 x2 x38 x39 x H (fun _ _ _ _ x40 H => kn x40 H) (fun x2 H => k2 (sp 54 [(2, x2)]) H) R) (by kernel_rfl) (fun x => by kernel_rfl) (fun x H kn => N93_4b_eq ρ call yc lim k x0 x2 x38 x39 (x) H kn k2 R) x40 (sp 54 [(0, x0), (2, x2), (38, x38), (39, x39), (40, x40)]) H (by kernel_rfl)
noncomputable def N93_3 (ρ : Addr → Option Value) (call : CallF) (yc : YieldF) (lim k : Nat) (x0 x2 x38 x39 x40 : AV) (H : Heap) (kn : AV → Heap → Res) (R : List AV → Heap → Res) : Res :=
  N93_4 ρ call yc lim k x0 x2 x38 x39 x40 H kn R
theorem N93_3_x (ρ : Addr → Option Value) (call : CallF) (yc : YieldF) (lim k : Nat) (J : CodeF) (x0 x2 x38 x39 x40 : AV) (H : Heap) (kn : KS) (R : List AV → Heap → Res) :
    evX (cx ρ) call yc false 93 lim k J (Code.at [1, 1, 1, 1, 0, 1] c93) (sp 54 [(0, x0), (2, x2), (38, x38), (39, x39), (40, x40)]) H (kk (some [2]) kn [] R [2, 3]) =
  J (Code.at [1, 1, 1, 1, 0, 1, 0] c93) (sp 54 [(0, x0), (2, x2), (38, x38), (39, x39), (40, x40)]) H (kk (some [2]) kn [(2, (some [2]), kn)] R [2, 3]) := by
  kernel_rfl
theorem N93_3_eq (ρ : Addr → Option Value) (call : CallF) (yc : YieldF) (lim k : Nat) (x0 x2 x38 x39 x40 : AV) (H : Heap) (kn : KS) (R : List AV → Heap → Res) :
    evL (cx ρ) call yc false 93 lim k (Code.at [1, 1, 1, 1, 0, 1] c93) (sp 54 [(0, x0), (2, x2), (38, x38), (39, x39), (40, x40)]) H (kk (some [2]) kn [] R [2, 3]) = N93_3 ρ call yc lim k x0 x2 x38 x39 x40 H (fun x2 H => kn (sp 54 [(2, x2)]) H) R := by
  rw [evL_X, N93_3_x]
  simp only [← evL_X, N93_3, N93_4_eq]
noncomputable def N93_1 (ρ : Addr → Option Value) (call : CallF) (yc : YieldF) (lim k : Nat) (x0 x2 x4 : AV) (H : Heap) (R : List AV → Heap → Res) : Res :=
  resK (call lim 153 [x4, (.fn (.func 154) [] [])] H) fun x37_1 H =>
  purK (lenBA (cx ρ) H 234 x4) fun x39_1 =>
  N93_3 ρ call yc lim k x0 x2 x4 x39_1 (.int .i64 0) H (fun x2_1 H =>
    N93_2 ρ call yc lim k x2_1 H R) R
theorem N93_1_x (ρ : Addr → Option Value) (call : CallF) (yc : YieldF) (lim k : Nat) (J : CodeF) (x0 x2 x4 : AV) (H : Heap) (R : List AV → Heap → Res) :
    evX (cx ρ) call yc false 93 lim k J (Code.at [1, 1, 1] c93) (sp 54 [(0, x0), (2, x2), (4, x4)]) H (kk none (fun s H => R (([2, 3] : List Nat).map fun t => s.getD t (.tup [])) H) [] R [2, 3]) =
  resK (call lim 153 [x4, (.fn (.func 154) [] [])] H) fun x37_1 H =>
  purK (lenBA (cx ρ) H 234 x4) fun x39_1 =>
  J (Code.at [1, 1, 1, 1, 0, 1] c93) (sp 54 [(0, x0), (2, x2), (38, x4), (39, x39_1), (40, (.int .i64 0))]) H (kk (some [2]) (fun s H => J (Code.at [1, 1, 1, 1, 1] c93) s H (kk none (fun s H => R (([2, 3] : List Nat).map fun t => s.getD t (.tup [])) H) [] R [2, 3])) [] R [2, 3]) := by
  kernel_rfl
theorem N93_1_eq (ρ : Addr → Option Value) (call : CallF) (yc : YieldF) (lim k : Nat) (x0 x2 x4 : AV) (H : Heap) (R : List AV → Heap → Res) :
    evL (cx ρ) call yc false 93 lim k (Code.at [1, 1, 1] c93) (sp 54 [(0, x0), (2, x2), (4, x4)]) H (kk none (fun s H => R (([2, 3] : List Nat).map fun t => s.getD t (.tup [])) H) [] R [2, 3]) = N93_1 ρ call yc lim k x0 x2 x4 H R := by
  rw [evL_X, N93_1_x]
  simp only [← evL_X, N93_1, N93_2_eq, N93_3_eq]
noncomputable def N93_7 (ρ : Addr → Option Value) (call : CallF) (yc : YieldF) (lim k : Nat) (x0 x2 x4 x14 : AV) (H : Heap) (kn : AV → AV → AV → AV → Heap → Res) : Res :=
  purK (binA Tryz.prog H .add 3 x14 (.int .i64 1)) fun x35_1 =>
  kn x0 x2 x4 x35_1 H
theorem N93_7_eq (ρ : Addr → Option Value) (call : CallF) (yc : YieldF) (lim k : Nat) (x0 x2 x4 x14 : AV) (H : Heap) (kn : KS) (k0 : KS) (R : List AV → Heap → Res) :
    evL (cx ρ) call yc false 93 lim k (Code.at [1, 1, 0, 1, 0, 0, 1, 1, 1] c93) (sp 54 [(0, x0), (2, x2), (4, x4), (14, x14)]) H (kk (some [0, 2, 4, 14]) kn [(0, (some [0, 2, 4]), k0)] R [2, 3]) = N93_7 ρ call yc lim k x0 x2 x4 x14 H (fun x0 x2 x4 x14 H => kn (sp 54 [(0, x0), (2, x2), (4, x4), (14, x14)]) H) := by
  kernel_rfl
noncomputable def N93_6b (ρ : Addr → Option Value) (call : CallF) (yc : YieldF) (lim k : Nat) (x0 x2 x4 x14 : AV) (H : Heap) (kn : AV → AV → AV → AV → Heap → Res) (k0 : AV → AV → AV → Heap → Res) : Res :=
  purK (binA Tryz.prog H .lss 3 x14 (.int .i64 2)) fun x15_1 =>
  condK x15_1
  (
    purK (buildA Tryz.prog 128 [(0, (.int .i64 2)), (1, x14)]) fun x20_1 =>
    resK (call lim 56 [x0, x20_1] H) fun x21_1 H =>
    purK (extA 0 x21_1) fun x22_1 =>
    purK (extA 1 x21_1) fun x23_1 =>
    resK (call lim 152 [x22_1] H) fun x26_1 H =>
    purK (extA 0 x26_1) fun x27_1 =>
    purK (extA 1 x26_1) fun x28_1 =>
    effK H (allocA (cx ρ) H 236) fun x8_1 H =>
    effK H ((storeA (cx ρ) lim H 236 x8_1 x27_1).map skips) fun _ H =>
    purK (binA Tryz.prog H .eql 28 x28_1 (.int .i64 0)) fun x30_1 =>
    condK x30_1
    (
      purK (loadA (cx ρ) H 236 x8_1) fun x32_1 =>
      effK H (buildSliceA (cx ρ) H 234 1 [(0, x32_1)]) fun x33_1 H =>
      effK H (builtinA (cx ρ) lim H .append #[234, 234] [x4, x33_1]) fun x34_1 H =>
      N93_7 ρ call yc lim k x0 x2 x34_1 x14 H kn)
    (
      N93_7 ρ call yc lim k x0 x2 x4 x14 H kn))
  (
    k0 x0 x2 x4 H)
theorem N93_6b_x (ρ : Addr → Option Value) (call : CallF) (yc : YieldF) (lim k : Nat) (J : CodeF) (x0 x2 x4 x14 : AV) (H : Heap) (kn : KS) (k0 : KS) (R : List AV → Heap → Res) :
    evX (cx ρ) call yc false 93 lim k J (Code.at [1, 1, 0, 1, 0, 0] c93) (sp 54 [(0, x0), (2, x2), (4, x4), (14, x14)]) H (kk (some [0, 2, 4, 14]) kn [(0, (some [0, 2, 4]), k0)] R [2, 3]) =
  purK (binA Tryz.prog H .lss 3 x14 (.int .i64 2)) fun x15_1 =>
  condK x15_1
  (
    purK (buildA Tryz.prog 128 [(0, (.int .i64 2)), (1, x14)]) fun x20_1 =>
    resK (call lim 56 [x0, x20_1] H) fun x21_1 H =>
    purK (extA 0 x21_1) fun x22_1 =>
    purK (extA 1 x21_1) fun x23_1 =>
    resK (call lim 152 [x22_1] H) fun x26_1 H =>
    purK (extA 0 x26_1) fun x27_1 =>
    purK (extA 1 x26_1) fun x28_1 =>
    effK H (allocA (cx ρ) H 236) fun x8_1 H =>
    effK H ((storeA (cx ρ) lim H 236 x8_1 x27_1).map skips) fun _ H =>
    purK (binA Tryz.prog H .eql 28 x28_1 (.int .i64 0)) fun x30_1 =>
    condK x30_1
    (
      purK (loadA (cx ρ) H 236 x8_1) fun x32_1 =>
      effK H (buildSliceA (cx ρ) H 234 1 [(0, x32_1)]) fun x33_1 H =>
      effK H (builtinA (cx ρ) lim H .append #[234, 234] [x4, x33_1]) fun x34_1 H =>
      J (Code.at [1, 1, 0, 1, 0, 0, 1, 1, 1] c93) (sp 54 [(0, x0), (2, x2), (4, x34_1), (14, x14)]) H (kk (some [0, 2, 4, 14]) kn [(0, (some [0, 2, 4]), k0)] R [2, 3]))
    (
      J (Code.at [1, 1, 0, 1, 0, 0, 1, 1, 1] c93) (sp 54 [(0, x0), (2, x2), (4, x4), (14, x14)]) H (kk (some [0, 2, 4, 14]) kn [(0, (some [0, 2, 4]), k0)] R [2, 3])))
  (
    k0 (sp 54 [(0, x0), (2, x2), (4, x4)]) H) := by
  kernel_rfl
theorem N93_6b_eq (ρ : Addr → Option Value) (call : CallF) (yc : YieldF) (lim k : Nat) (x0 x2 x4 x14 : AV) (H : Heap) (kn : KS) (k0 : KS) (R : List AV → Heap → Res) :
    evL (cx ρ) call yc false 93 lim k (Code.at [1, 1, 0, 1, 0, 0] c93) (sp 54 [(0, x0), (2, x2), (4, x4), (14, x14)]) H (kk (some [0, 2, 4, 14]) kn [(0, (some [0, 2, 4]), k0)] R [2, 3]) = N93_6b ρ call yc lim k x0 x2 x4 x14 H (fun x0 x2 x4 x14 H => kn (sp 54 [(0, x0), (2, x2), (4, x4), (14, x14)]) H) (fun x0 x2 x4 H => k0 (sp 54 [(0, x0), (2, x2), (4, x4)]) H) := by
  rw [evL_X, N93_6b_x]
  simp only [← evL_X, N93_6b, N93_7_eq]
noncomputable def N93_6 (ρ : Addr → Option Value) (call : CallF) (yc : YieldF) (lim k : Nat) (x0 x2 x4 x14 : AV) (H : Heap) (k0 : AV → AV → AV → Heap → Res) : Res :=
  loopL (fun (x : AV × AV) H kn => N93_6b ρ call yc lim k x0 x2 x.1 x.2 H (fun _ _ x4 x14 H => kn (x4, x14) H) k0) k (x4, x14) H
theorem N93_6_eq (ρ : Addr → Option Value) (call : CallF) (yc : YieldF) (lim k : Nat) (x0 x2 x4 x14 : AV) (H : Heap) (kn : KS) (k0 : KS) (R : List AV → Heap → Res) :
    evL (cx ρ) call yc false 93 lim k (Code.at [1, 1, 0, 1, 0] c93) (sp 54 [(0, x0), (2, x2), (4, x4), (14, x14)]) H (kk (some [0, 2, 4]) kn [(0, (some [0, 2, 4]), k0)] R [2, 3]) = N93_6 ρ call yc lim k x0 x2 x4 x14 H (fun x0 x2 x4 H => k0 (sp 54 [(0, x0), (2, x2), (4, x4)]) H) := by
  have e : Code.at [1, 1, 0, 1, 0] c93 = .loop (Code.at [1, 1, 0, 1, 0, 0] c93) := by kernel_rfl
  rw [e]
  unfold N93_6
  exact loop_node [0, 2, 4, 14] (fun x : AV × AV => (sp 54 [(0, x0), (2, x2), (4, (x.1)), (14, (x.2))])) (fun (x : AV × AV) H kn => N93_6b ρ call yc lim k x0 x2 x.1 x.2 H (fun _ _ x4 x14 H => kn (x4, x14) H) (fun x0 x2 x4 H => k0 (sp 54 [(0, x0), (2, x2), (4, x4)]) H)) (by kernel_rfl) (fun x => by kernel_rfl) (fun x H kn => N93_6b_eq ρ call yc lim k x0 x2 (x.1) (x.2) H kn k0 R) (x4, x14) (sp 54 [(0, x0), (2, x2), (4, x4), (14, x14)]) H (by kernel_rfl)
noncomputable def N93_5 (ρ : Addr → Option Value) (call : CallF) (yc : YieldF) (lim k : Nat) (x0 x2 x4 x14 : AV) (H : Heap) (kn : AV → AV → AV → Heap → Res) : Res :=
  N93_6 ρ call yc lim k x0 x2 x4 x14 H kn
theorem N93_5_x (ρ : Addr → Option Value) (call : CallF) (yc : YieldF) (lim k : Nat) (J : CodeF) (x0 x2 x4 x14 : AV) (H : Heap) (kn : KS) (R : List AV → Heap → Res) :
    evX (cx ρ) call yc false 93 lim k J (Code.at [1, 1, 0, 1] c93) (sp 54 [(0, x0), (2, x2), (4, x4), (14, x14)]) H (kk (some [0, 2, 4]) kn [] R [2, 3]) =
  J (Code.at [1, 1, 0, 1, 0] c93) (sp 54 [(0, x0), (2, x2), (4, x4), (14, x14)]) H (kk (some [0, 2, 4]) kn [(0, (some [0, 2, 4]), kn)] R [2, 3]) := by
  kernel_rfl
theorem N93_5_eq (ρ : Addr → Option Value) (call : CallF) (yc : YieldF) (lim k : Nat) (x0 x2 x4 x14 : AV) (H : Heap) (kn : KS) (R : List AV → Heap → Res) :
    evL (cx ρ) call yc false 93 lim k (Code.at [1, 1, 0, 1] c93) (sp 54 [(0, x0), (2, x2), (4, x4), (14, x14)]) H (kk (some [0, 2, 4]) kn [] R [2, 3]) = N93_5 ρ call yc lim k x0 x2 x4 x14 H (fun x0 x2 x4 H => kn (sp 54 [(0, x0), (2, x2), (4, x4)]) H) := by
  rw [evL_X, N93_5_x]
  simp only [← evL_X, N93_5, N93_6_eq]
noncomputable def L93 (ρ : Addr → Option Value) (call : CallF) (yc : YieldF) (lim k : Nat) (x0 : AV) (H : Heap) : Res :=
  effK H (allocA (cx ρ) H 173) fun x2 H =>
  N93_5 ρ call yc lim k x0 x2 .nils (.int .i64 0) H (fun x0_1 x2_1 x4 H =>
    N93_1 ρ call yc lim k x0_1 x2_1 x4 H (retC (cx ρ) [some 173, none]))
theorem L93_x (ρ : Addr → Option Value) (call : CallF) (yc : YieldF) (lim k : Nat) (J : CodeF) (x0 : AV) (H : Heap) :
    evX (cx ρ) call yc false 93 lim k J c93 [x0, (.tup []), (.tup []), (.tup []), (.tup []), (.tup []), (.tup []), (.tup []), (.tup []), (.tup []), (.tup []), (.tup []), (.tup []), (.tup []), (.tup []), (.tup []), (.tup []), (.tup []), (.tup []), (.tup []), (.tup []), (.tup []), (.tup []), (.tup []), (.tup []), (.tup []), (.tup []), (.tup []), (.tup []), (.tup []), (.tup []), (.tup []), (.tup []), (.tup []), (.tup []), (.tup []), (.tup []), (.tup []), (.tup []), (.tup []), (.tup []), (.tup []), (.tup []), (.tup []), (.tup []), (.tup []), (.tup []), (.tup []), (.tup []), (.tup []), (.tup []), (.tup []), (.tup []), (.tup [])] H (kk none (fun s H => (retC (cx ρ) [some 173, none]) (([2, 3] : List Nat).map fun t => s.getD t (.tup [])) H) [] (retC (cx ρ) [some 173, none]) [2, 3]) =
  effK H (allocA (cx ρ) H 173) fun x2 H =>
  J (Code.at [1, 1, 0, 1] c93) (sp 54 [(0, x0), (2, x2), (4, .nils), (14, (.int .i64 0))]) H (kk (some [0, 2, 4]) (fun s H => J (Code.at [1, 1, 1] c93) s H (kk none (fun s H => (retC (cx ρ) [some 173, none]) (([2, 3] : List Nat).map fun t => s.getD t (.tup [])) H) [] (retC (cx ρ) [some 173, none]) [2, 3])) [] (retC (cx ρ) [some 173, none]) [2, 3]) := by
  kernel_rfl
theorem G93 (ρ : Addr → Option Value) (call : CallF) (yc : YieldF) (lim k : Nat) (x0 : AV) (H : Heap) :
    evL (cx ρ) call yc false 93 lim k c93 [x0, (.tup []), (.tup []), (.tup []), (.tup []), (.tup []), (.tup []), (.tup []), (.tup []), (.tup []), (.tup []), (.tup []), (.tup []), (.tup []), (.tup []), (.tup []), (.tup []), (.tup []), (.tup []), (.tup []), (.tup []), (.tup []), (.tup []), (.tup []), (.tup []), (.tup []), (.tup []), (.tup []), (.tup []), (.tup []), (.tup []), (.tup []), (.tup []), (.tup []), (.tup []), (.tup []), (.tup []), (.tup []), (.tup []), (.tup []), (.tup []), (.tup []), (.tup []), (.tup []), (.tup []), (.tup []), (.tup []), (.tup []), (.tup []), (.tup []), (.tup []), (.tup []), (.tup []), (.tup [])] H (kk none (fun s H => (retC (cx ρ) [some 173, none]) (([2, 3] : List Nat).map fun t => s.getD t (.tup [])) H) [] (retC (cx ρ) [some 173, none]) [2, 3]) = L93 ρ call yc lim k x0 H := by
  rw [evL_X, L93_x]
  simp only [← evL_X, L93, N93_1_eq, N93_5_eq]
theorem E93 (ρ : Addr → Option Value) (k lim : Nat) (x0 : AV) (H : Heap) : evCall (cx ρ) (k + 1) lim 93 [x0] H = L93 ρ (evCall (cx ρ) k) (evCY (cx ρ) k).2 lim k x0 H := by
  rw [evCall_cells (cx ρ) k lim 93 _ H Tryz.f93 c93 [2, 3] [some 173, none] (by kernel_rfl) (by kernel_rfl) (by kernel_rfl) (by kernel_rfl) (by kernel_rfl) (by kernel_rfl)]
  exact G93 ρ (evCall (cx ρ) k) (evCY (cx ρ) k).2 lim k x0 H
-- haycroft/store.fresh
noncomputable def c95 : Code := Code.of Tryz.prog 95
noncomputable def N95_1 (ρ : Addr → Option Value) (call : CallF) (yc : YieldF) (lim k : Nat) (x9 : AV) (H : Heap) (R : List AV → Heap → Res) : Res :=
  R [x9, (.int .i64 0)] H
theorem N95_1_eq (ρ : Addr → Option Value) (call : CallF) (yc : YieldF) (lim k : Nat) (x9 : AV) (H : Heap) (R : List AV → Heap → Res) :
    evL (cx ρ) call yc false 95 lim k (Code.at [1, 1, 1, 1, 1, 1, 1] c95) (sp 64 [(9, x9)]) H (kk none (fun s H => R (([4, 5] : List Nat).map fun t => s.getD t (.tup [])) H) [] R [4, 5]) = N95_1 ρ call yc lim k x9 H R := by
  kernel_rfl
noncomputable def N95_3b (ρ : Addr → Option Value) (call : CallF) (yc : YieldF) (lim k : Nat) (x6 x8 x9 x38 x39 : AV) (H : Heap) (kn : AV → AV → AV → AV → AV → Heap → Res) (k0 : AV → Heap → Res) (R : List AV → Heap → Res) : Res :=
  purK (binA Tryz.prog H .lss 3 x39 x38) fun x40_1 =>
  condK x40_1
  (
    resK (call lim 161 [x6, x8, x39] H) fun x46_1 H =>
    purK (extA 0 x46_1) fun x47_1 =>
    purK (extA 1 x46_1) fun x48_1 =>
    purK (binA Tryz.prog H .neq 28 x48_1 (.int .i64 0)) fun x50_1 =>
    condK x50_1
    (
      R [.nilp, x48_1] H)
    (
      purK (nilChkA x9) fun x54_1 =>
      purK (fieldAddrA Tryz.prog 117 x54_1 2) fun x55_1 =>
      purK (loadA (cx ρ) H 114 x55_1) fun x56_1 =>
      effK H (buildSliceA (cx ρ) H 114 1 [(0, x47_1)]) fun x58_1 H =>
      effK H (builtinA (cx ρ) lim H .append #[114, 114] [x56_1, x58_1]) fun x59_1 H =>
      purK (nilChkA x9) fun x60_1 =>
      purK (fieldAddrA Tryz.prog 117 x60_1 2) fun x61_1 =>
      effK H ((storeA (cx ρ) lim H 114 x61_1 x59_1).map skips) fun _ H =>
      purK (binA Tryz.prog H .add 3 x39 (.int .i64 1)) fun x62_1 =>
      kn x6 x8 x9 x38 x62_1 H))
  (
    k0 x9 H)
theorem N95_3b_eq (ρ : Addr → Option Value) (call : CallF) (yc : YieldF) (lim k : Nat) (x6 x8 x9 x38 x39 : AV) (H : Heap) (kn : KS) (k0 : KS) (R : List AV → Heap → Res) :
    evL (cx ρ) call yc false 95 lim k (Code.at [1, 1, 1, 1, 1, 1, 0, 1, 0, 0] c95) (sp 64 [(6, x6), (8, x8), (9, x9), (38, x38), (39, x39)]) H (kk (some [6, 8, 9, 38, 39]) kn [(0, (some [9]), k0)] R [4, 5]) = N95_3b ρ call yc lim k x6 x8 x9 x38 x39 H (fun x6 x8 x9 x38 x39 H => kn (sp 64 [(6, x6), (8, x8), (9, x9), (38, x38), (39, x39)]) H) (fun x9 H => k0 (sp 64 [(9, x9)]) H) R := by
  kernel_rfl
noncomputable def N95_3 (ρ : Addr → Option Value) (call : CallF) (yc : YieldF) (lim k : Nat) (x6 x8 x9 x38 x39 : AV) (H : Heap) (k0 : AV → Heap → Res) (R : List AV → Heap → Res) : Res :=
  loopL (fun (x : AV) H kn => N95_3b ρ call yc lim k x6 x8 x9 x38 x H (fun _ _ _ _ x39 H => kn x39 H) k0 R) k x39 H
theorem N95_3_eq (ρ : Addr → Option Value) (call : CallF) (yc : YieldF) (lim k : Nat) (x6 x8 x9 x38 x39 : AV) (H : Heap) (kn : KS) (k0 : KS) (R : List AV → Heap → Res) :
    evL (cx ρ) call yc false 95 lim k (Code.at [1, 1, 1, 1, 1, 1, 0, 1, 0] c95) (sp 64 [(6, x6), (8, x8), (9, x9), (38, x38), (39, x39)]) H (kk (some [9]) kn [(0, (some [9]), k0)] R [4, 5]) = N95_3 ρ call yc lim k x6 x8 x9 x38 x39 H (fun x9 H => k0 (sp 64 [(9, x9)]) H) R := by
  have e : Code.at [1, 1, 1, 1, 1, 1, 0, 1, 0] c95 = .loop (Code.at [1, 1, 1, 1, 1, 1, 0, 1, 0, 0] c95) := by kernel_rfl
  rw [e]
  unfold N95_3
  exact loop_node [6, 8, 9, 38, 39] (fun x : AV => (sp 64 [(6, x6), (8, x8), (9, x9), (38, x38), (39, (x))])) (fun (x : AV) H kn => N95_3b ρ call yc lim k x6 x8 x9 x38 x H (fun _ _ _ _ x39 H => kn x39 H) (fun x9 H => k0 (sp 64 [(9, x9)]) H) R) (by kernel_rfl) (fun x => by kernel_rfl) (fun x H kn => N95_3b_eq ρ call yc lim k x6 x8 x9 x38 (x) H kn k0 R) x39 (sp 64 [(6, x6), (8, x8), (9, x9), (38, x38), (39, x39)]) H (by kernel_rfl)
noncomputable def N95_2 (ρ : Addr → Option Value) (call : CallF) (yc : YieldF) (lim k : Nat) (x6 x8 x9 x38 x39 : AV) (H : Heap) (kn : AV → Heap → Res) (R : List AV → Heap → Res) : Res :=
  N95_3 ρ call yc lim k x6 x8 x9 x38 x39 H kn R
theorem N95_2_x (ρ : Addr → Option Value) (call : CallF) (yc : YieldF) (lim k : Nat) (J : CodeF) (x6 x8 x9 x38 x39 : AV) (H : Heap) (kn : KS) (R : List AV → Heap → Res) :
    evX (cx ρ) call yc false 95 lim k J (Code.at [1, 1, 1, 1, 1, 1, 0, 1] c95) (sp 64 [(6, x6), (8, x8), (9, x9), (38, x38), (39, x39)]) H (kk (some [9]) kn [] R [4, 5]) =
  J (Code.at [1, 1, 1, 1, 1, 1, 0, 1, 0] c95) (sp 64 [(6, x6), (8, x8), (9, x9), (38, x38), (39, x39)]) H (kk (some [9]) kn [(0, (some [9]), kn)] R [4, 5]) := by
  kernel_rfl
theorem N95_2_eq (ρ : Addr → Option Value) (call : CallF) (yc : YieldF) (lim k : Nat) (x6 x8 x9 x38 x39 : AV) (H : Heap) (kn : KS) (R : List AV → Heap → Res) :
    evL (cx ρ) call yc false 95 lim k (Code.at [1, 1, 1, 1, 1, 1, 0, 1] c95) (sp 64 [(6, x6), (8, x8), (9, x9), (38, x38), (39, x39)]) H (kk (some [9]) kn [] R [4, 5]) = N95_2 ρ call yc lim k x6 x8 x9 x38 x39 H (fun x9 H => kn (sp 64 [(9, x9)]) H) R := by
  rw [evL_X, N95_2_x]
  simp only [← evL_X, N95_2, N95_3_eq]
noncomputable def L95 (ρ : Addr → Option Value) (call : CallF) (yc : YieldF) (lim k : Nat) (x0 x1 : AV) (H : Heap) : Res :=
  effK H (boxA H 52 x0) fun x2 H =>
  purK (loadA (cx ρ) H 52 x2) fun x14 =>
  resK (call lim 159 [x14, x1] H) fun x16 H =>
  purK (extA 0 x16) fun x17 =>
  purK (extA 1 x16) fun x18 =>
  purK (binA Tryz.prog H .neq 28 x18 (.int .i64 0)) fun x20 =>
  condK x20
  (
    retK [.nilp, x18] H)
  (
    purK (fieldAddrA Tryz.prog 52 x2 3) fun x23 =>
    purK (loadA (cx ρ) H 3 x23) fun x24 =>
    purK (fieldAddrA Tryz.prog 52 x2 4) fun x25 =>
    purK (loadA (cx ρ) H 3 x25) fun x26 =>
    resK (call lim 160 [x24, x26] H) fun x27 H =>
    purK (extA 0 x27) fun x28 =>
    purK (extA 1 x27) fun x29 =>
    purK (binA Tryz.prog H .neq 28 x29 (.int .i64 0)) fun x31 =>
    condK x31
    (
      retK [.nilp, x29] H)
    (
      purK (buildA Tryz.prog 117 [(0, x17), (1, x28)]) fun x35 =>
      effK H (boxA H 117 x35) fun x36 H =>
      purK (fieldAddrA Tryz.prog 52 x2 5) fun x37 =>
      purK (loadA (cx ρ) H 3 x37) fun x38 =>
      N95_2 ρ call yc lim k x17 x28 x36 x38 (.int .i64 0) H (fun x9 H =>
        N95_1 ρ call yc lim k x9 H retK) retK))
theorem L95_x (ρ : Addr → Option Value) (call : CallF) (yc : YieldF) (lim k : Nat) (J : CodeF) (x0 x1 : AV) (H : Heap) :
    evX (cx ρ) call yc false 95 lim k J c95 [x0, x1, (.tup []), (.tup []), (.tup []), (.tup []), (.tup []), (.tup []), (.tup []), (.tup []), (.tup []), (.tup []), (.tup []), (.tup []), (.tup []), (.tup []), (.tup []), (.tup []), (.tup []), (.tup []), (.tup []), (.tup []), (.tup []), (.tup []), (.tup []), (.tup []), (.tup []), (.tup []), (.tup []), (.tup []), (.tup []), (.tup []), (.tup []), (.tup []), (.tup []), (.tup []), (.tup []), (.tup []), (.tup []), (.tup []), (.tup []), (.tup []), (.tup []), (.tup []), (.tup []), (.tup []), (.tup []), (.tup []), (.tup []), (.tup []), (.tup []), (.tup []), (.tup []), (.tup []), (.tup []), (.tup []), (.tup []), (.tup []), (.tup []), (.tup []), (.tup []), (.tup []), (.tup []), (.tup [])] H (kk none (fun s H => retK (([4, 5] : List Nat).map fun t => s.getD t (.tup [])) H) [] retK [4, 5]) =
  effK H (boxA H 52 x0) fun x2 H =>
  purK (loadA (cx ρ) H 52 x2) fun x14 =>
  resK (call lim 159 [x14, x1] H) fun x16 H =>
  purK (extA 0 x16) fun x17 =>
  purK (extA 1 x16) fun x18 =>
  purK (binA Tryz.prog H .neq 28 x18 (.int .i64 0)) fun x20 =>
  condK x20
  (
    retK [.nilp, x18] H)
  (
    purK (fieldAddrA Tryz.prog 52 x2 3) fun x23 =>
    purK (loadA (cx ρ) H 3 x23) fun x24 =>
    purK (fieldAddrA Tryz.prog 52 x2 4) fun x25 =>
    purK (loadA (cx ρ) H 3 x25) fun x26 =>
    resK (call lim 160 [x24, x26] H) fun x27 H =>
    purK (extA 0 x27) fun x28 =>
    purK (extA 1 x27) fun x29 =>
    purK (binA Tryz.prog H .neq 28 x29 (.int .i64 0)) fun x31 =>
    condK x31
    (
      retK [.nilp, x29] H)
    (
      purK (buildA Tryz.prog 117 [(0, x17), (1, x28)]) fun x35 =>
      effK H (boxA H 117 x35) fun x36 H =>
      purK (fieldAddrA Tryz.prog 52 x2 5) fun x37 =>
      purK (loadA (cx ρ) H 3 x37) fun x38 =>
      J (Code.at [1, 1, 1, 1, 1, 1, 0, 1] c95) (sp 64 [(6, x17), (8, x28), (9, x36), (38, x38), (39, (.int .i64 0))]) H (kk (some [9]) (fun s H => J (Code.at [1, 1, 1, 1, 1, 1, 1] c95) s H (kk none (fun s H => retK (([4, 5] : List Nat).map fun t => s.getD t (.tup [])) H) [] retK [4, 5])) [] retK [4, 5]))) := by
  kernel_rfl
theorem G95 (ρ : Addr → Option Value) (call : CallF) (yc : YieldF) (lim k : Nat) (x0 x1 : AV) (H : Heap) :
    evL (cx ρ) call yc false 95 lim k c95 [x0, x1, (.tup []), (.tup []), (.tup []), (.tup []), (.tup []), (.tup []), (.tup []), (.tup []), (.tup []), (.tup []), (.tup []), (.tup []), (.tup []), (.tup []), (.tup []), (.tup []), (.tup []), (.tup []), (.tup []), (.tup []), (.tup []), (.tup []), (.tup []), (.tup []), (.tup []), (.tup []), (.tup []), (.tup []), (.tup []), (.tup []), (.tup []), (.tup []), (.tup []), (.tup []), (.tup []), (.tup []), (.tup []), (.tup []), (.tup []), (.tup []), (.tup []), (.tup []), (.tup []), (.tup []), (.tup []), (.tup []), (.tup []), (.tup []), (.tup []), (.tup []), (.tup []), (.tup []), (.tup []), (.tup []), (.tup []), (.tup []), (.tup []), (.tup []), (.tup []), (.tup []), (.tup []), (.tup [])] H (kk none (fun s H => retK (([4, 5] : List Nat).map fun t => s.getD t (.tup [])) H) [] retK [4, 5]) = L95 ρ call yc lim k x0 x1 H := by
  rw [evL_X, L95_x]
  simp only [← evL_X, L95, N95_1_eq, N95_2_eq]
theorem E95 (ρ : Addr → Option Value) (k lim : Nat) (x0 x1 : AV) (H : Heap) : evCall (cx ρ) (k + 1) lim 95 [x0, x1] H = L95 ρ (evCall (cx ρ) k) (evCY (cx ρ) k).2 lim k x0 x1 H := by
  rw [evCall_body (cx ρ) k lim 95 _ H Tryz.f95 c95 [4, 5] (by kernel_rfl) (by kernel_rfl) (by kernel_rfl) (by kernel_rfl) (by kernel_rfl)]
  exact G95 ρ (evCall (cx ρ) k) (evCY (cx ρ) k).2 lim k x0 x1 H
-- (*haycroft/session.Session).Ask
noncomputable def c96 : Code := Code.of Tryz.prog 96
noncomputable def L96 (ρ : Addr → Option Value) (call : CallF) (yc : YieldF) (lim k : Nat) (x0 x1 : AV) (H : Heap) : Res :=
  effK H (boxA H 59 x1) fun x3 H =>
  purK (binA Tryz.prog H .eql 113 x0 .nilp) fun x10 =>
  condK x10
  (
    retK [(.int .i64 0), (.int .i64 2)] H)
  (
    purK (nilChkA x0) fun x13 =>
    purK (fieldAddrA Tryz.prog 183 x13 5) fun x14 =>
    purK (loadA (cx ρ) H 179 x14) fun x15 =>
    purK (binA Tryz.prog H .neq 179 x15 .nilp) fun x16 =>
    condK x16
    (
      retK [(.int .i64 0), (.int .i64 10)] H)
    (
      purK (nilChkA x0) fun x19 =>
      purK (fieldAddrA Tryz.prog 183 x19 6) fun x20 =>
      purK (loadA (cx ρ) H 180 x20) fun x21 =>
      purK (lenBA (cx ρ) H 180 x21) fun x22 =>
      purK (binA Tryz.prog H .geq 3 x22 (.int .i64 8)) fun x23 =>
      condK x23
      (
        retK [(.int .i64 0), (.int .i64 9)] H)
      (
        purK (nilChkA x0) fun x26 =>
        purK (fieldAddrA Tryz.prog 183 x26 0) fun x27 =>
        purK (loadA (cx ρ) H 84 x27) fun x28 =>
        purK (nilChkA x0) fun x30 =>
        purK (fieldAddrA Tryz.prog 183 x30 1) fun x31 =>
        purK (loadA (cx ρ) H 95 x31) fun x32 =>
        purK (nilChkA x0) fun x34 =>
        purK (fieldAddrA Tryz.prog 183 x34 2) fun x35 =>
        purK (loadA (cx ρ) H 3 x35) fun x36 =>
        purK (loadA (cx ρ) H 59 x3) fun x37 =>
        purK (nilChkA x0) fun x39 =>
        purK (fieldAddrA Tryz.prog 183 x39 7) fun x40 =>
        purK (loadA (cx ρ) H 3 x40) fun x41 =>
        resK (call lim 162 [x28, x32, x36, x37, x41] H) fun x42 H =>
        purK (extA 0 x42) fun x43 =>
        purK (extA 1 x42) fun x44 =>
        purK (binA Tryz.prog H .neq 28 x44 (.int .i64 0)) fun x47 =>
        condK x47
        (
          retK [(.int .i64 0), x44] H)
        (
          purK (nilChkA x0) fun x51 =>
          purK (fieldAddrA Tryz.prog 183 x51 3) fun x52 =>
          purK (loadA (cx ρ) H 3 x52) fun x53 =>
          purK (binA Tryz.prog H .geq 3 x53 (.int .i64 1073741824)) fun x54 =>
          condK x54
          (
            retK [(.int .i64 0), (.int .i64 13)] H)
          (
            purK (nilChkA x0) fun x56 =>
            purK (fieldAddrA Tryz.prog 183 x56 3) fun x57 =>
            purK (loadA (cx ρ) H 3 x57) fun x58 =>
            purK (binA Tryz.prog H .add 3 x58 (.int .i64 1)) fun x59 =>
            purK (nilChkA x0) fun x60 =>
            purK (fieldAddrA Tryz.prog 183 x60 3) fun x61 =>
            effK H ((storeA (cx ρ) lim H 3 x61 x59).map skips) fun _ H =>
            purK (nilChkA x0) fun x63 =>
            purK (fieldAddrA Tryz.prog 183 x63 4) fun x64 =>
            effK H ((storeA (cx ρ) lim H 4 x64 (.bool true)).map skips) fun _ H =>
            purK (nilChkA x0) fun x68 =>
            purK (fieldAddrA Tryz.prog 183 x68 3) fun x69 =>
            purK (loadA (cx ρ) H 3 x69) fun x70 =>
            purK (buildA Tryz.prog 187 [(0, x70), (1, x43)]) fun x72 =>
            effK H (boxA H 187 x72) fun x73 H =>
            purK (nilChkA x0) fun x74 =>
            purK (fieldAddrA Tryz.prog 183 x74 5) fun x75 =>
            effK H ((storeA (cx ρ) lim H 179 x75 x73).map skips) fun _ H =>
            purK (nilChkA x0) fun x76 =>
            purK (fieldAddrA Tryz.prog 183 x76 7) fun x77 =>
            effK H ((storeA (cx ρ) lim H 3 x77 (.int .i64 0)).map skips) fun _ H =>
            purK (nilChkA x0) fun x79 =>
            purK (fieldAddrA Tryz.prog 183 x79 3) fun x80 =>
            purK (loadA (cx ρ) H 3 x80) fun x81 =>
            retK [x81, (.int .i64 0)] H)))))
theorem G96 (ρ : Addr → Option Value) (call : CallF) (yc : YieldF) (lim k : Nat) (x0 x1 : AV) (H : Heap) :
    evL (cx ρ) call yc false 96 lim k c96 [x0, x1, (.tup []), (.tup []), (.tup []), (.tup []), (.tup []), (.tup []), (.tup []), (.tup []), (.tup []), (.tup []), (.tup []), (.tup []), (.tup []), (.tup []), (.tup []), (.tup []), (.tup []), (.tup []), (.tup []), (.tup []), (.tup []), (.tup []), (.tup []), (.tup []), (.tup []), (.tup []), (.tup []), (.tup []), (.tup []), (.tup []), (.tup []), (.tup []), (.tup []), (.tup []), (.tup []), (.tup []), (.tup []), (.tup []), (.tup []), (.tup []), (.tup []), (.tup []), (.tup []), (.tup []), (.tup []), (.tup []), (.tup []), (.tup []), (.tup []), (.tup []), (.tup []), (.tup []), (.tup []), (.tup []), (.tup []), (.tup []), (.tup []), (.tup []), (.tup []), (.tup []), (.tup []), (.tup []), (.tup []), (.tup []), (.tup []), (.tup []), (.tup []), (.tup []), (.tup []), (.tup []), (.tup []), (.tup []), (.tup []), (.tup []), (.tup []), (.tup []), (.tup []), (.tup []), (.tup []), (.tup [])] H (kk none (fun s H => retK (([4, 5] : List Nat).map fun t => s.getD t (.tup [])) H) [] retK [4, 5]) = L96 ρ call yc lim k x0 x1 H := by
  kernel_rfl
theorem E96 (ρ : Addr → Option Value) (k lim : Nat) (x0 x1 : AV) (H : Heap) : evCall (cx ρ) (k + 1) lim 96 [x0, x1] H = L96 ρ (evCall (cx ρ) k) (evCY (cx ρ) k).2 lim k x0 x1 H := by
  rw [evCall_body (cx ρ) k lim 96 _ H Tryz.f96 c96 [4, 5] (by kernel_rfl) (by kernel_rfl) (by kernel_rfl) (by kernel_rfl) (by kernel_rfl)]
  exact G96 ρ (evCall (cx ρ) k) (evCY (cx ρ) k).2 lim k x0 x1 H
-- (*haycroft/task.Task).Want
noncomputable def c97 : Code := Code.of Tryz.prog 97
noncomputable def L97 (ρ : Addr → Option Value) (call : CallF) (yc : YieldF) (lim k : Nat) (x0 : AV) (H : Heap) : Res :=
  purK (binA Tryz.prog H .eql 185 x0 .nilp) fun x5 =>
  purK (gPur (wantV x5 false) (some x0)) fun x7 =>
  purK (gPur (wantV x5 false) (nilChkA x7)) fun x8 =>
  purK (gPur (wantV x5 false) (fieldAddrA Tryz.prog 258 x8 17)) fun x9 =>
  purK (gPur (wantV x5 false) (loadA (cx ρ) H 4 x9)) fun x10 =>
  purK (pickA x5 (.bool true) x10) fun x11 =>
  purK (gPur (wantV x11 false) (some x0)) fun x13 =>
  purK (gPur (wantV x11 false) (nilChkA x13)) fun x14 =>
  purK (gPur (wantV x11 false) (fieldAddrA Tryz.prog 258 x14 16)) fun x15 =>
  purK (gPur (wantV x11 false) (loadA (cx ρ) H 4 x15)) fun x16 =>
  purK (gPur (wantV x11 false) (unA .not x16)) fun x17 =>
  purK (pickA x11 (.bool true) x17) fun x18 =>
  condK x18
  (
    retK [(.int .u64 0), (.bool false)] H)
  (
    purK (nilChkA x0) fun x20 =>
    purK (fieldAddrA Tryz.prog 258 x20 10) fun x21 =>
    purK (loadA (cx ρ) H 22 x21) fun x22 =>
    retK [x22, (.bool true)] H)
theorem G97 (ρ : Addr → Option Value) (call : CallF) (yc : YieldF) (lim k : Nat) (x0 : AV) (H : Heap) :
    evL (cx ρ) call yc false 97 lim k c97 [x0, (.tup []), (.tup []), (.tup []), (.tup []), (.tup []), (.tup []), (.tup []), (.tup []), (.tup []), (.tup []), (.tup []), (.tup []), (.tup []), (.tup []), (.tup []), (.tup []), (.tup []), (.tup []), (.tup []), (.tup []), (.tup []), (.tup [])] H (kk none (fun s H => retK (([2, 3] : List Nat).map fun t => s.getD t (.tup [])) H) [] retK [2, 3]) = L97 ρ call yc lim k x0 H := by
  kernel_rfl
theorem E97 (ρ : Addr → Option Value) (k lim : Nat) (x0 : AV) (H : Heap) : evCall (cx ρ) (k + 1) lim 97 [x0] H = L97 ρ (evCall (cx ρ) k) (evCY (cx ρ) k).2 lim k x0 H := by
  rw [evCall_body (cx ρ) k lim 97 _ H Tryz.f97 c97 [2, 3] (by kernel_rfl) (by kernel_rfl) (by kernel_rfl) (by kernel_rfl) (by kernel_rfl)]
  exact G97 ρ (evCall (cx ρ) k) (evCY (cx ρ) k).2 lim k x0 H
-- (*haycroft/session.Session).comes
noncomputable def c98 : Code := Code.of Tryz.prog 98
noncomputable def N98_1 (ρ : Addr → Option Value) (call : CallF) (yc : YieldF) (lim k : Nat) (x0 x1 : AV) (H : Heap) (R : List AV → Heap → Res) : Res :=
  purK (nilChkA x0) fun x88_1 =>
  purK (fieldAddrA Tryz.prog 183 x88_1 5) fun x89_1 =>
  effK H ((storeA (cx ρ) lim H 179 x89_1 x1).map skips) fun _ H =>
  R [(.int .i64 1)] H
theorem N98_1_eq (ρ : Addr → Option Value) (call : CallF) (yc : YieldF) (lim k : Nat) (x0 x1 : AV) (H : Heap) (R : List AV → Heap → Res) :
    evL (cx ρ) call yc false 98 lim k (Code.at [1, 1, 1, 1, 1] c98) (sp 90 [(0, x0), (1, x1)]) H (kk none (fun s H => R (([4] : List Nat).map fun t => s.getD t (.tup [])) H) [] R [4]) = N98_1 ρ call yc lim k x0 x1 H R := by
  kernel_rfl
noncomputable def N98_2 (ρ : Addr → Option Value) (call : CallF) (yc : YieldF) (lim k : Nat) (x0 x1 : AV) (H : Heap) (R : List AV → Heap → Res) : Res :=
  purK (nilChkA x0) fun x52_1 =>
  purK (fieldAddrA Tryz.prog 183 x52_1 9) fun x53_1 =>
  purK (loadA (cx ρ) H 3 x53_1) fun x54_1 =>
  purK (nilChkA x1) fun x56_1 =>
  purK (fieldAddrA Tryz.prog 187 x56_1 1) fun x57_1 =>
  purK (loadA (cx ρ) H 185 x57_1) fun x58_1 =>
  resK (call lim 165 [x58_1] H) fun x59_1 H => bif (agn (loadA (cx ρ) H 3 x53_1) x54_1 && true) then
    purK (binA Tryz.prog H .add 3 x54_1 x59_1) fun x60_1 =>
    purK (nilChkA x0) fun x61_1 =>
    purK (fieldAddrA Tryz.prog 183 x61_1 9) fun x62_1 =>
    effK H ((storeA (cx ρ) lim H 3 x62_1 x60_1).map skips) fun _ H =>
    R [(.int .i64 2)] H
  else none
theorem N98_2_eq (ρ : Addr → Option Value) (call : CallF) (yc : YieldF) (lim k : Nat) (x0 x1 : AV) (H : Heap) (kn : KS) (k0 : KS) (R : List AV → Heap → Res) :
    evL (cx ρ) call yc false 98 lim k (Code.at [1, 1, 1, 1, 0, 0, 1, 0, 1, 1] c98) (sp 90 [(0, x0), (1, x1)]) H (kk (some [0, 1]) kn [(0, (some [0, 1]), k0)] R [4]) = N98_2 ρ call yc lim k x0 x1 H R := by
  kernel_rfl
noncomputable def L98 (ρ : Addr → Option Value) (call : CallF) (yc : YieldF) (lim k : Nat) (x0 x1 : AV) (H : Heap) : Res :=
  purK (nilChkA x1) fun x12 =>
  purK (fieldAddrA Tryz.prog 187 x12 1) fun x13 =>
  purK (loadA (cx ρ) H 185 x13) fun x14 =>
  resK (call lim 163 [x14] H) fun x15 H =>
  purK (extA 0 x15) fun x16 =>
  purK (extA 1 x15) fun x17 =>
  effK H (allocA (cx ρ) H 256) fun x5 H =>
  effK H ((storeA (cx ρ) lim H 256 x5 x16).map skips) fun _ H =>
  purK (nilChkA x1) fun x20 =>
  purK (fieldAddrA Tryz.prog 187 x20 1) fun x21 =>
  purK (loadA (cx ρ) H 185 x21) fun x22 =>
  resK (call lim 97 [x22] H) fun x23 H =>
  purK (extA 0 x23) fun x24 =>
  purK (extA 1 x23) fun x25 =>
  purK (nilChkA x0) fun x27 =>
  purK (fieldAddrA Tryz.prog 183 x27 5) fun x28 =>
  effK H ((storeA (cx ρ) lim H 179 x28 .nilp).map skips) fun _ H =>
  condK x17
  (
    purK (nilChkA x0) fun x32 =>
    purK (fieldAddrA Tryz.prog 183 x32 8) fun x33 =>
    purK (loadA (cx ρ) H 181 x33) fun x34 =>
    purK (nilChkA x1) fun x36 =>
    purK (fieldAddrA Tryz.prog 187 x36 0) fun x37 =>
    purK (loadA (cx ρ) H 3 x37) fun x38 =>
    purK (loadA (cx ρ) H 256 x5) fun x39 =>
    effK H ((mapPutA (cx ρ) lim H 181 x34 x38 x39).map skips) fun _ H =>
    purK (nilChkA x1) fun x41 =>
    purK (fieldAddrA Tryz.prog 187 x41 1) fun x42 =>
    purK (loadA (cx ρ) H 185 x42) fun x43 =>
    resK (call lim 164 [x43] H) fun x44 H =>
    purK (binA Tryz.prog H .gtr 3 x44 (.int .i64 0)) fun x46 =>
    condK x46
    (
      purK (nilChkA x0) fun x49 =>
      purK (fieldAddrA Tryz.prog 183 x49 7) fun x50 =>
      effK H ((storeA (cx ρ) lim H 3 x50 x44).map skips) fun _ H =>
      N98_2 ρ call yc lim k x0 x1 H retK)
    (
      N98_2 ρ call yc lim k x0 x1 H retK))
  (
    purK (gPur (wantV x25 true) (some x0)) fun x66 =>
    purK (gPur (wantV x25 true) (some x1)) fun x67 =>
    resK (gRes (wantV x25 true) H (call lim 108 [x66, x67] H)) fun x68 H =>
    purK (pickA x25 x68 (.bool false)) fun x69 =>
    condK x69
    (
      purK (nilChkA x0) fun x72 =>
      purK (fieldAddrA Tryz.prog 183 x72 6) fun x73 =>
      purK (loadA (cx ρ) H 180 x73) fun x74 =>
      effK H (buildSliceA (cx ρ) H 180 1 [(0, x1)]) fun x76 H =>
      effK H (builtinA (cx ρ) lim H .append #[180, 180] [x74, x76]) fun x77 H =>
      purK (nilChkA x0) fun x78 =>
      purK (fieldAddrA Tryz.prog 183 x78 6) fun x79 =>
      effK H ((storeA (cx ρ) lim H 180 x79 x77).map skips) fun _ H =>
      retK [(.int .i64 4)] H)
    (
      condK x25
      (
        purK (nilChkA x0) fun x84 =>
        purK (fieldAddrA Tryz.prog 183 x84 5) fun x85 =>
        effK H ((storeA (cx ρ) lim H 179 x85 x1).map skips) fun _ H =>
        retK [(.int .i64 3)] H)
      (
        N98_1 ρ call yc lim k x0 x1 H retK)))
theorem L98_x (ρ : Addr → Option Value) (call : CallF) (yc : YieldF) (lim k : Nat) (J : CodeF) (x0 x1 : AV) (H : Heap) :
    evX (cx ρ) call yc false 98 lim k J c98 [x0, x1, (.tup []), (.tup []), (.tup []), (.tup []), (.tup []), (.tup []), (.tup []), (.tup []), (.tup []), (.tup []), (.tup []), (.tup []), (.tup []), (.tup []), (.tup []), (.tup []), (.tup []), (.tup []), (.tup []), (.tup []), (.tup []), (.tup []), (.tup []), (.tup []), (.tup []), (.tup []), (.tup []), (.tup []), (.tup []), (.tup []), (.tup []), (.tup []), (.tup []), (.tup []), (.tup []), (.tup []), (.tup []), (.tup []), (.tup []), (.tup []), (.tup []), (.tup []), (.tup []), (.tup []), (.tup []), (.tup []), (.tup []), (.tup []), (.tup []), (.tup []), (.tup []), (.tup []), (.tup []), (.tup []), (.tup []), (.tup []), (.tup []), (.tup []), (.tup []), (.tup []), (.tup []), (.tup []), (.tup []), (.tup []), (.tup []), (.tup []), (.tup []), (.tup []), (.tup []), (.tup []), (.tup []), (.tup []), (.tup []), (.tup []), (.tup []), (.tup []), (.tup []), (.tup []), (.tup []), (.tup []), (.tup []), (.tup []), (.tup []), (.tup []), (.tup []), (.tup []), (.tup []), (.tup [])] H (kk none (fun s H => retK (([4] : List Nat).map fun t => s.getD t (.tup [])) H) [] retK [4]) =
  purK (nilChkA x1) fun x12 =>
  purK (fieldAddrA Tryz.prog 187 x12 1) fun x13 =>
  purK (loadA (cx ρ) H 185 x13) fun x14 =>
  resK (call lim 163 [x14] H) fun x15 H =>
  purK (extA 0 x15) fun x16 =>
  purK (extA 1 x15) fun x17 =>
  effK H (allocA (cx ρ) H 256) fun x5 H =>
  effK H ((storeA (cx ρ) lim H 256 x5 x16).map skips) fun _ H =>
  purK (nilChkA x1) fun x20 =>
  purK (fieldAddrA Tryz.prog 187 x20 1) fun x21 =>
  purK (loadA (cx ρ) H 185 x21) fun x22 =>
  resK (call lim 97 [x22] H) fun x23 H =>
  purK (extA 0 x23) fun x24 =>
  purK (extA 1 x23) fun x25 =>
  purK (nilChkA x0) fun x27 =>
  purK (fieldAddrA Tryz.prog 183 x27 5) fun x28 =>
  effK H ((storeA (cx ρ) lim H 179 x28 .nilp).map skips) fun _ H =>
  condK x17
  (
    purK (nilChkA x0) fun x32 =>
    purK (fieldAddrA Tryz.prog 183 x32 8) fun x33 =>
    purK (loadA (cx ρ) H 181 x33) fun x34 =>
    purK (nilChkA x1) fun x36 =>
    purK (fieldAddrA Tryz.prog 187 x36 0) fun x37 =>
    purK (loadA (cx ρ) H 3 x37) fun x38 =>
    purK (loadA (cx ρ) H 256 x5) fun x39 =>
    effK H ((mapPutA (cx ρ) lim H 181 x34 x38 x39).map skips) fun _ H =>
    purK (nilChkA x1) fun x41 =>
    purK (fieldAddrA Tryz.prog 187 x41 1) fun x42 =>
    purK (loadA (cx ρ) H 185 x42) fun x43 =>
    resK (call lim 164 [x43] H) fun x44 H =>
    purK (binA Tryz.prog H .gtr 3 x44 (.int .i64 0)) fun x46 =>
    condK x46
    (
      purK (nilChkA x0) fun x49 =>
      purK (fieldAddrA Tryz.prog 183 x49 7) fun x50 =>
      effK H ((storeA (cx ρ) lim H 3 x50 x44).map skips) fun _ H =>
      J (Code.at [1, 1, 1, 1, 0, 0, 1, 0, 1, 1] c98) (sp 90 [(0, x0), (1, x1)]) H (kk (some [0, 1]) (fun s H => J (Code.at [1, 1, 1, 1, 1] c98) s H (kk none (fun s H => retK (([4] : List Nat).map fun t => s.getD t (.tup [])) H) [] retK [4])) [(0, (some [0, 1]), (fun s H => J (Code.at [1, 1, 1, 1, 1] c98) s H (kk none (fun s H => retK (([4] : List Nat).map fun t => s.getD t (.tup [])) H) [] retK [4])))] retK [4]))
    (
      J (Code.at [1, 1, 1, 1, 0, 0, 1, 0, 1, 1] c98) (sp 90 [(0, x0), (1, x1)]) H (kk (some [0, 1]) (fun s H => J (Code.at [1, 1, 1, 1, 1] c98) s H (kk none (fun s H => retK (([4] : List Nat).map fun t => s.getD t (.tup [])) H) [] retK [4])) [(0, (some [0, 1]), (fun s H => J (Code.at [1, 1, 1, 1, 1] c98) s H (kk none (fun s H => retK (([4] : List Nat).map fun t => s.getD t (.tup [])) H) [] retK [4])))] retK [4])))
  (
    purK (gPur (wantV x25 true) (some x0)) fun x66 =>
    purK (gPur (wantV x25 true) (some x1)) fun x67 =>
    resK (gRes (wantV x25 true) H (call lim 108 [x66, x67] H)) fun x68 H =>
    purK (pickA x25 x68 (.bool false)) fun x69 =>
    condK x69
    (
      purK (nilChkA x0) fun x72 =>
      purK (fieldAddrA Tryz.prog 183 x72 6) fun x73 =>
      purK (loadA (cx ρ) H 180 x73) fun x74 =>
      effK H (buildSliceA (cx ρ) H 180 1 [(0, x1)]) fun x76 H =>
      effK H (builtinA (cx ρ) lim H .append #[180, 180] [x74, x76]) fun x77 H =>
      purK (nilChkA x0) fun x78 =>
      purK (fieldAddrA Tryz.prog 183 x78 6) fun x79 =>
      effK H ((storeA (cx ρ) lim H 180 x79 x77).map skips) fun _ H =>
      retK [(.int .i64 4)] H)
    (
      condK x25
      (
        purK (nilChkA x0) fun x84 =>
        purK (fieldAddrA Tryz.prog 183 x84 5) fun x85 =>
        effK H ((storeA (cx ρ) lim H 179 x85 x1).map skips) fun _ H =>
        retK [(.int .i64 3)] H)
      (
        J (Code.at [1, 1, 1, 1, 1] c98) (sp 90 [(0, x0), (1, x1)]) H (kk none (fun s H => retK (([4] : List Nat).map fun t => s.getD t (.tup [])) H) [] retK [4])))) := by
  kernel_rfl
theorem G98 (ρ : Addr → Option Value) (call : CallF) (yc : YieldF) (lim k : Nat) (x0 x1 : AV) (H : Heap) :
    evL (cx ρ) call yc false 98 lim k c98 [x0, x1, (.tup []), (.tup []), (.tup []), (.tup []), (.tup []), (.tup []), (.tup []), (.tup []), (.tup []), (.tup []), (.tup []), (.tup []), (.tup []), (.tup []), (.tup []), (.tup []), (.tup []), (.tup []), (.tup []), (.tup []), (.tup []), (.tup []), (.tup []), (.tup []), (.tup []), (.tup []), (.tup []), (.tup []), (.tup []), (.tup []), (.tup []), (.tup []), (.tup []), (.tup []), (.tup []), (.tup []), (.tup []), (.tup []), (.tup []), (.tup []), (.tup []), (.tup []), (.tup []), (.tup []), (.tup []), (.tup []), (.tup []), (.tup []), (.tup []), (.tup []), (.tup []), (.tup []), (.tup []), (.tup []), (.tup []), (.tup []), (.tup []), (.tup []), (.tup []), (.tup []), (.tup []), (.tup []), (.tup []), (.tup []), (.tup []), (.tup []), (.tup []), (.tup []), (.tup []), (.tup []), (.tup []), (.tup []), (.tup []), (.tup []), (.tup []), (.tup []), (.tup []), (.tup []), (.tup []), (.tup []), (.tup []), (.tup []), (.tup []), (.tup []), (.tup []), (.tup []), (.tup []), (.tup [])] H (kk none (fun s H => retK (([4] : List Nat).map fun t => s.getD t (.tup [])) H) [] retK [4]) = L98 ρ call yc lim k x0 x1 H := by
  rw [evL_X, L98_x]
  simp only [← evL_X, L98, N98_1_eq, N98_2_eq]
theorem E98 (ρ : Addr → Option Value) (k lim : Nat) (x0 x1 : AV) (H : Heap) : evCall (cx ρ) (k + 1) lim 98 [x0, x1] H = L98 ρ (evCall (cx ρ) k) (evCY (cx ρ) k).2 lim k x0 x1 H := by
  rw [evCall_body (cx ρ) k lim 98 _ H Tryz.f98 c98 [4] (by kernel_rfl) (by kernel_rfl) (by kernel_rfl) (by kernel_rfl) (by kernel_rfl)]
  exact G98 ρ (evCall (cx ρ) k) (evCY (cx ρ) k).2 lim k x0 x1 H
-- (*haycroft/hlog.Log).Epoch
noncomputable def c99 : Code := Code.of Tryz.prog 99
noncomputable def L99 (ρ : Addr → Option Value) (call : CallF) (yc : YieldF) (lim k : Nat) (x0 : AV) (H : Heap) : Res :=
  purK (binA Tryz.prog H .eql 84 x0 .nilp) fun x4 =>
  condK x4
  (
    retK [.nilp] H)
  (
    purK (nilChkA x0) fun x6 =>
    purK (fieldAddrA Tryz.prog 153 x6 3) fun x7 =>
    purK (loadA (cx ρ) H 149 x7) fun x8 =>
    retK [x8] H)
theorem G99 (ρ : Addr → Option Value) (call : CallF) (yc : YieldF) (lim k : Nat) (x0 : AV) (H : Heap) :
    evL (cx ρ) call yc false 99 lim k c99 [x0, (.tup []), (.tup []), (.tup []), (.tup []), (.tup []), (.tup []), (.tup []), (.tup [])] H (kk none (fun s H => retK (([2] : List Nat).map fun t => s.getD t (.tup [])) H) [] retK [2]) = L99 ρ call yc lim k x0 H := by
  kernel_rfl
theorem E99 (ρ : Addr → Option Value) (k lim : Nat) (x0 : AV) (H : Heap) : evCall (cx ρ) (k + 1) lim 99 [x0] H = L99 ρ (evCall (cx ρ) k) (evCY (cx ρ) k).2 lim k x0 H := by
  rw [evCall_body (cx ρ) k lim 99 _ H Tryz.f99 c99 [2] (by kernel_rfl) (by kernel_rfl) (by kernel_rfl) (by kernel_rfl) (by kernel_rfl)]
  exact G99 ρ (evCall (cx ρ) k) (evCY (cx ρ) k).2 lim k x0 H
-- (*haycroft/epoch.Table).Seen
noncomputable def c100 : Code := Code.of Tryz.prog 100
noncomputable def L100 (ρ : Addr → Option Value) (call : CallF) (yc : YieldF) (lim k : Nat) (x0 x1 : AV) (H : Heap) : Res :=
  resK (call lim 166 [x0, x1] H) fun x7 H =>
  purK (unA .not x7) fun x8 =>
  condK x8
  (
    retK [(.int .u64 0)] H)
  (
    purK (nilChkA x0) fun x10 =>
    purK (fieldAddrA Tryz.prog 262 x10 0) fun x11 =>
    purK (loadA (cx ρ) H 160 x11) fun x12 =>
    purK (binA Tryz.prog H .add 3 (.int .i64 1) x1) fun x14 =>
    resK (call lim 84 [x12, x14] H) fun x15 H =>
    retK [x15] H)
theorem G100 (ρ : Addr → Option Value) (call : CallF) (yc : YieldF) (lim k : Nat) (x0 x1 : AV) (H : Heap) :
    evL (cx ρ) call yc false 100 lim k c100 [x0, x1, (.tup []), (.tup []), (.tup []), (.tup []), (.tup []), (.tup []), (.tup []), (.tup []), (.tup []), (.tup []), (.tup []), (.tup []), (.tup []), (.tup [])] H (kk none (fun s H => retK (([4] : List Nat).map fun t => s.getD t (.tup [])) H) [] retK [4]) = L100 ρ call yc lim k x0 x1 H := by
  kernel_rfl
theorem E100 (ρ : Addr → Option Value) (k lim : Nat) (x0 x1 : AV) (H : Heap) : evCall (cx ρ) (k + 1) lim 100 [x0, x1] H = L100 ρ (evCall (cx ρ) k) (evCY (cx ρ) k).2 lim k x0 x1 H := by
  rw [evCall_body (cx ρ) k lim 100 _ H Tryz.f100 c100 [4] (by kernel_rfl) (by kernel_rfl) (by kernel_rfl) (by kernel_rfl) (by kernel_rfl)]
  exact G100 ρ (evCall (cx ρ) k) (evCY (cx ρ) k).2 lim k x0 x1 H
-- (*haycroft/epoch.Table).Enter
noncomputable def c101 : Code := Code.of Tryz.prog 101
noncomputable def L101 (ρ : Addr → Option Value) (call : CallF) (yc : YieldF) (lim k : Nat) (x0 x1 : AV) (H : Heap) : Res :=
  resK (call lim 168 [x0] H) fun x8 H =>
  resK (call lim 167 [x0, x1, (.bool false), x8, (.int .i64 8)] H) fun x9 H =>
  retK [x9] H
theorem G101 (ρ : Addr → Option Value) (call : CallF) (yc : YieldF) (lim k : Nat) (x0 x1 : AV) (H : Heap) :
    evL (cx ρ) call yc false 101 lim k c101 [x0, x1, (.tup []), (.tup []), (.tup []), (.tup []), (.tup []), (.tup []), (.tup []), (.tup [])] H (kk none (fun s H => retK (([4] : List Nat).map fun t => s.getD t (.tup [])) H) [] retK [4]) = L101 ρ call yc lim k x0 x1 H := by
  kernel_rfl
theorem E101 (ρ : Addr → Option Value) (k lim : Nat) (x0 x1 : AV) (H : Heap) : evCall (cx ρ) (k + 1) lim 101 [x0, x1] H = L101 ρ (evCall (cx ρ) k) (evCY (cx ρ) k).2 lim k x0 x1 H := by
  rw [evCall_body (cx ρ) k lim 101 _ H Tryz.f101 c101 [4] (by kernel_rfl) (by kernel_rfl) (by kernel_rfl) (by kernel_rfl) (by kernel_rfl)]
  exact G101 ρ (evCall (cx ρ) k) (evCY (cx ρ) k).2 lim k x0 x1 H
-- (*haycroft/task.Task).Move
noncomputable def c102 : Code := Code.of Tryz.prog 102
noncomputable def L102 (ρ : Addr → Option Value) (call : CallF) (yc : YieldF) (lim k : Nat) (x0 : AV) (H : Heap) : Res :=
  purK (binA Tryz.prog H .eql 185 x0 .nilp) fun x6 =>
  condK x6
  (
    resK (call lim 169 [(.int .i64 2)] H) fun x7 H =>
    purK (extA 0 x7) fun x8 =>
    purK (extA 1 x7) fun x9 =>
    retK [x8, x9] H)
  (
    purK (nilChkA x0) fun x12 =>
    purK (fieldAddrA Tryz.prog 258 x12 17) fun x13 =>
    purK (loadA (cx ρ) H 4 x13) fun x14 =>
    condK x14
    (
      retK [(.int .i64 2), (.int .i64 0)] H)
    (
      purK (nilChkA x0) fun x17 =>
      purK (fieldAddrA Tryz.prog 258 x17 0) fun x18 =>
      purK (loadA (cx ρ) H 84 x18) fun x19 =>
      purK (nilChkA x0) fun x22 =>
      purK (fieldAddrA Tryz.prog 258 x22 2) fun x23 =>
      purK (loadA (cx ρ) H 3 x23) fun x24 =>
      resK (call lim 99 [x19] H) fun x20 H => bif (agn (loadA (cx ρ) H 3 x23) x24 && true) then
        resK (call lim 100 [x20, x24] H) fun x25 H =>
        purK (binA Tryz.prog H .eql 22 x25 (.int .u64 0)) fun x26 =>
        condK x26
        (
          resK (call lim 169 [(.int .i64 7)] H) fun x27 H =>
          purK (extA 0 x27) fun x28 =>
          purK (extA 1 x27) fun x29 =>
          retK [x28, x29] H)
        (
          purK (nilChkA x0) fun x31 =>
          purK (fieldAddrA Tryz.prog 258 x31 5) fun x32 =>
          purK (loadA (cx ρ) H 252 x32) fun x33 =>
          valK call yc lim x33 [x0] H fun x35 H =>
          purK (extA 0 x35) fun x36 =>
          purK (extA 1 x35) fun x37 =>
          retK [x36, x37] H)
      else none))
theorem G102 (ρ : Addr → Option Value) (call : CallF) (yc : YieldF) (lim k : Nat) (x0 : AV) (H : Heap) :
    evL (cx ρ) call yc false 102 lim k c102 [x0, (.tup []), (.tup []), (.tup []), (.tup []), (.tup []), (.tup []), (.tup []), (.tup []), (.tup []), (.tup []), (.tup []), (.tup []), (.tup []), (.tup []), (.tup []), (.tup []), (.tup []), (.tup []), (.tup []), (.tup []), (.tup []), (.tup []), (.tup []), (.tup []), (.tup []), (.tup []), (.tup []), (.tup []), (.tup []), (.tup []), (.tup []), (.tup []), (.tup []), (.tup []), (.tup []), (.tup []), (.tup [])] H (kk none (fun s H => retK (([2, 3] : List Nat).map fun t => s.getD t (.tup [])) H) [] retK [2, 3]) = L102 ρ call yc lim k x0 H := by
  kernel_rfl
theorem E102 (ρ : Addr → Option Value) (k lim : Nat) (x0 : AV) (H : Heap) : evCall (cx ρ) (k + 1) lim 102 [x0] H = L102 ρ (evCall (cx ρ) k) (evCY (cx ρ) k).2 lim k x0 H := by
  rw [evCall_body (cx ρ) k lim 102 _ H Tryz.f102 c102 [2, 3] (by kernel_rfl) (by kernel_rfl) (by kernel_rfl) (by kernel_rfl) (by kernel_rfl)]
  exact G102 ρ (evCall (cx ρ) k) (evCY (cx ρ) k).2 lim k x0 H
-- (*haycroft/epoch.Table).Leave
noncomputable def c103 : Code := Code.of Tryz.prog 103
noncomputable def L103 (ρ : Addr → Option Value) (call : CallF) (yc : YieldF) (lim k : Nat) (x0 x1 : AV) (H : Heap) : Res :=
  resK (call lim 167 [x0, x1, (.bool true), (.int .u64 0), (.int .i64 7)] H) fun x7 H =>
  retK [x7] H
theorem G103 (ρ : Addr → Option Value) (call : CallF) (yc : YieldF) (lim k : Nat) (x0 x1 : AV) (H : Heap) :
    evL (cx ρ) call yc false 103 lim k c103 [x0, x1, (.tup []), (.tup []), (.tup []), (.tup []), (.tup []), (.tup [])] H (kk none (fun s H => retK (([4] : List Nat).map fun t => s.getD t (.tup [])) H) [] retK [4]) = L103 ρ call yc lim k x0 x1 H := by
  kernel_rfl
theorem E103 (ρ : Addr → Option Value) (k lim : Nat) (x0 x1 : AV) (H : Heap) : evCall (cx ρ) (k + 1) lim 103 [x0, x1] H = L103 ρ (evCall (cx ρ) k) (evCY (cx ρ) k).2 lim k x0 x1 H := by
  rw [evCall_body (cx ρ) k lim 103 _ H Tryz.f103 c103 [4] (by kernel_rfl) (by kernel_rfl) (by kernel_rfl) (by kernel_rfl) (by kernel_rfl)]
  exact G103 ρ (evCall (cx ρ) k) (evCY (cx ρ) k).2 lim k x0 x1 H
-- (*haycroft/hlog.Log).Settle
noncomputable def c104 : Code := Code.of Tryz.prog 104
noncomputable def N104_1 (ρ : Addr → Option Value) (call : CallF) (yc : YieldF) (lim k : Nat) (x3 : AV) (H : Heap) (R : List AV → Heap → Res) : Res :=
  purK (lenBA (cx ρ) H 265 x3) fun x53_1 =>
  R [x53_1] H
theorem N104_1_eq (ρ : Addr → Option Value) (call : CallF) (yc : YieldF) (lim k : Nat) (x3 : AV) (H : Heap) (R : List AV → Heap → Res) :
    evL (cx ρ) call yc false 104 lim k (Code.at [1, 1, 1, 1] c104) (sp 54 [(3, x3)]) H (kk none (fun s H => R (([2] : List Nat).map fun t => s.getD t (.tup [])) H) [] R [2]) = N104_1 ρ call yc lim k x3 H R := by
  kernel_rfl
noncomputable def N104_4 (ρ : Addr → Option Value) (call : CallF) (yc : YieldF) (lim k : Nat) (x0 x3 x18 x19 x20 : AV) (H : Heap) (kn : AV → AV → AV → AV → AV → Heap → Res) : Res :=
  purK (binA Tryz.prog H .add 3 x20 (.int .i64 1)) fun x51_1 =>
  kn x0 x3 x18 x19 x51_1 H
theorem N104_4_eq (ρ : Addr → Option Value) (call : CallF) (yc : YieldF) (lim k : Nat) (x0 x3 x18 x19 x20 : AV) (H : Heap) (kn : KS) (k0 : KS) (R : List AV → Heap → Res) :
    evL (cx ρ) call yc false 104 lim k (Code.at [1, 1, 1, 0, 1, 0, 0, 1, 1, 1] c104) (sp 54 [(0, x0), (3, x3), (18, x18), (19, x19), (20, x20)]) H (kk (some [0, 3, 18, 19, 20]) kn [(0, (some [3]), k0)] R [2]) = N104_4 ρ call yc lim k x0 x3 x18 x19 x20 H (fun x0 x3 x18 x19 x20 H => kn (sp 54 [(0, x0), (3, x3), (18, x18), (19, x19), (20, x20)]) H) := by
  kernel_rfl
noncomputable def N104_3b (ρ : Addr → Option Value) (call : CallF) (yc : YieldF) (lim k : Nat) (x0 x3 x18 x19 x20 : AV) (H : Heap) (kn : AV → AV → AV → AV → AV → Heap → Res) (k0 : AV → Heap → Res) : Res :=
  purK (binA Tryz.prog H .lss 3 x20 x19) fun x21_1 =>
  condK x21_1
  (
    purK (indexAddrA Tryz.prog 265 x18 x20) fun x22_1 =>
    purK (loadA (cx ρ) H 268 x22_1) fun x23_1 =>
    effK H (allocA (cx ρ) H 268) fun x5_1 H =>
    effK H ((storeA (cx ρ) lim H 268 x5_1 x23_1).map skips) fun _ H =>
    purK (fieldAddrA Tryz.prog 268 x5_1 1) fun x24_1 =>
    purK (loadA (cx ρ) H 3 x24_1) fun x25_1 =>
    purK (binA Tryz.prog H .eql 3 x25_1 (.int .i64 1)) fun x26_1 =>
    condK x26_1
    (
      purK (nilChkA x0) fun x28_1 =>
      purK (fieldAddrA Tryz.prog 153 x28_1 2) fun x29_1 =>
      purK (loadA (cx ρ) H 148 x29_1) fun x30_1 =>
      purK (fieldAddrA Tryz.prog 268 x5_1 2) fun x31_1 =>
      purK (loadA (cx ρ) H 3 x31_1) fun x32_1 =>
      purK (nilChkA x0) fun x34_1 =>
      purK (fieldAddrA Tryz.prog 153 x34_1 0) fun x35_1 =>
      purK (loadA (cx ρ) H 147 x35_1) fun x36_1 =>
      resK (call lim 73 [x36_1] H) fun x37_1 H => bif (agn (loadA (cx ρ) H 3 x31_1) x32_1 && (agn (loadA (cx ρ) H 148 x29_1) x30_1 && true)) then
        resK (call lim 172 [x30_1, (.int .i64 1), x32_1, x37_1] H) fun x38_1 H =>
        N104_4 ρ call yc lim k x0 x3 x18 x19 x20 H kn
      else none)
    (
      purK (nilChkA x0) fun x40_1 =>
      purK (fieldAddrA Tryz.prog 153 x40_1 2) fun x41_1 =>
      purK (loadA (cx ρ) H 148 x41_1) fun x42_1 =>
      purK (fieldAddrA Tryz.prog 268 x5_1 2) fun x43_1 =>
      purK (loadA (cx ρ) H 3 x43_1) fun x44_1 =>
      purK (nilChkA x0) fun x46_1 =>
      purK (fieldAddrA Tryz.prog 153 x46_1 0) fun x47_1 =>
      purK (loadA (cx ρ) H 147 x47_1) fun x48_1 =>
      resK (call lim 73 [x48_1] H) fun x49_1 H => bif (agn (loadA (cx ρ) H 3 x43_1) x44_1 && (agn (loadA (cx ρ) H 148 x41_1) x42_1 && true)) then
        resK (call lim 172 [x42_1, (.int .i64 4), x44_1, x49_1] H) fun x50_1 H =>
        N104_4 ρ call yc lim k x0 x3 x18 x19 x20 H kn
      else none))
  (
    k0 x3 H)
theorem N104_3b_x (ρ : Addr → Option Value) (call : CallF) (yc : YieldF) (lim k : Nat) (J : CodeF) (x0 x3 x18 x19 x20 : AV) (H : Heap) (kn : KS) (k0 : KS) (R : List AV → Heap → Res) :
    evX (cx ρ) call yc false 104 lim k J (Code.at [1, 1, 1, 0, 1, 0, 0] c104) (sp 54 [(0, x0), (3, x3), (18, x18), (19, x19), (20, x20)]) H (kk (some [0, 3, 18, 19, 20]) kn [(0, (some [3]), k0)] R [2]) =
  purK (binA Tryz.prog H .lss 3 x20 x19) fun x21_1 =>
  condK x21_1
  (
    purK (indexAddrA Tryz.prog 265 x18 x20) fun x22_1 =>
    purK (loadA (cx ρ) H 268 x22_1) fun x23_1 =>
    effK H (allocA (cx ρ) H 268) fun x5_1 H =>
    effK H ((storeA (cx ρ) lim H 268 x5_1 x23_1).map skips) fun _ H =>
    purK (fieldAddrA Tryz.prog 268 x5_1 1) fun x24_1 =>
    purK (loadA (cx ρ) H 3 x24_1) fun x25_1 =>
    purK (binA Tryz.prog H .eql 3 x25_1 (.int .i64 1)) fun x26_1 =>
    condK x26_1
    (
      purK (nilChkA x0) fun x28_1 =>
      purK (fieldAddrA Tryz.prog 153 x28_1 2) fun x29_1 =>
      purK (loadA (cx ρ) H 148 x29_1) fun x30_1 =>
      purK (fieldAddrA Tryz.prog 268 x5_1 2) fun x31_1 =>
      purK (loadA (cx ρ) H 3 x31_1) fun x32_1 =>
      purK (nilChkA x0) fun x34_1 =>
      purK (fieldAddrA Tryz.prog 153 x34_1 0) fun x35_1 =>
      purK (loadA (cx ρ) H 147 x35_1) fun x36_1 =>
      resK (call lim 73 [x36_1] H) fun x37_1 H => bif (agn (loadA (cx ρ) H 3 x31_1) x32_1 && (agn (loadA (cx ρ) H 148 x29_1) x30_1 && true)) then
        resK (call lim 172 [x30_1, (.int .i64 1), x32_1, x37_1] H) fun x38_1 H =>
        J (Code.at [1, 1, 1, 0, 1, 0, 0, 1, 1, 1] c104) (sp 54 [(0, x0), (3, x3), (18, x18), (19, x19), (20, x20)]) H (kk (some [0, 3, 18, 19, 20]) kn [(0, (some [3]), k0)] R [2])
      else none)
    (
      purK (nilChkA x0) fun x40_1 =>
      purK (fieldAddrA Tryz.prog 153 x40_1 2) fun x41_1 =>
      purK (loadA (cx ρ) H 148 x41_1) fun x42_1 =>
      purK (fieldAddrA Tryz.prog 268 x5_1 2) fun x43_1 =>
      purK (loadA (cx ρ) H 3 x43_1) fun x44_1 =>
      purK (nilChkA x0) fun x46_1 =>
      purK (fieldAddrA Tryz.prog 153 x46_1 0) fun x47_1 =>
      purK (loadA (cx ρ) H 147 x47_1) fun x48_1 =>
      resK (call lim 73 [x48_1] H) fun x49_1 H => bif (agn (loadA (cx ρ) H 3 x43_1) x44_1 && (agn (loadA (cx ρ) H 148 x41_1) x42_1 && true)) then
        resK (call lim 172 [x42_1, (.int .i64 4), x44_1, x49_1] H) fun x50_1 H =>
        J (Code.at [1, 1, 1, 0, 1, 0, 0, 1, 1, 1] c104) (sp 54 [(0, x0), (3, x3), (18, x18), (19, x19), (20, x20)]) H (kk (some [0, 3, 18, 19, 20]) kn [(0, (some [3]), k0)] R [2])
      else none))
  (
    k0 (sp 54 [(3, x3)]) H) := by
  kernel_rfl
theorem N104_3b_eq (ρ : Addr → Option Value) (call : CallF) (yc : YieldF) (lim k : Nat) (x0 x3 x18 x19 x20 : AV) (H : Heap) (kn : KS) (k0 : KS) (R : List AV → Heap → Res) :
    evL (cx ρ) call yc false 104 lim k (Code.at [1, 1, 1, 0, 1, 0, 0] c104) (sp 54 [(0, x0), (3, x3), (18, x18), (19, x19), (20, x20)]) H (kk (some [0, 3, 18, 19, 20]) kn [(0, (some [3]), k0)] R [2]) = N104_3b ρ call yc lim k x0 x3 x18 x19 x20 H (fun x0 x3 x18 x19 x20 H => kn (sp 54 [(0, x0), (3, x3), (18, x18), (19, x19), (20, x20)]) H) (fun x3 H => k0 (sp 54 [(3, x3)]) H) := by
  rw [evL_X, N104_3b_x]
  simp only [← evL_X, N104_3b, N104_4_eq]
noncomputable def N104_3 (ρ : Addr → Option Value) (call : CallF) (yc : YieldF) (lim k : Nat) (x0 x3 x18 x19 x20 : AV) (H : Heap) (k0 : AV → Heap → Res) : Res :=
  loopL (fun (x : AV) H kn => N104_3b ρ call yc lim k x0 x3 x18 x19 x H (fun _ _ _ _ x20 H => kn x20 H) k0) k x20 H
theorem N104_3_eq (ρ : Addr → Option Value) (call : CallF) (yc : YieldF) (lim k : Nat) (x0 x3 x18 x19 x20 : AV) (H : Heap) (kn : KS) (k0 : KS) (R : List AV → Heap → Res) :
    evL (cx ρ) call yc false 104 lim k (Code.at [1, 1, 1, 0, 1, 0] c104) (sp 54 [(0, x0), (3, x3), (18, x18), (19, x19), (20, x20)]) H (kk (some [3]) kn [(0, (some [3]), k0)] R [2]) = N104_3 ρ call yc lim k x0 x3 x18 x19 x20 H (fun x3 H => k0 (sp 54 [(3, x3)]) H) := by
  have e : Code.at [1, 1, 1, 0, 1, 0] c104 = .loop (Code.at [1, 1, 1, 0, 1, 0, 0] c104) := by kernel_rfl
  rw [e]
  unfold N104_3
  exact loop_node [0, 3, 18, 19, 20] (fun x : AV => (sp 54 [(0, x0), (3, x3), (18, x18), (19, x19), (20, (x))])) (fun (x : AV) H kn => N104_3b ρ call yc lim k x0 x3 x18 x19 x H (fun _ _ _ _ x20 H => kn x20 H) (fun x3 H => k0 (sp 54 [(3, x3)]) H)) (by kernel_rfl) (fun x => by kernel_rfl) (fun x H kn => N104_3b_eq ρ call yc lim k x0 x3 x18 x19 (x) H kn k0 R) x20 (sp 54 [(0, x0), (3, x3), (18, x18), (19, x19), (20, x20)]) H (by kernel_rfl)
noncomputable def N104_2 (ρ : Addr → Option Value) (call : CallF) (yc : YieldF) (lim k : Nat) (x0 x3 x18 x19 x20 : AV) (H : Heap) (kn : AV → Heap → Res) : Res :=
  N104_3 ρ call yc lim k x0 x3 x18 x19 x20 H kn
theorem N104_2_x (ρ : Addr → Option Value) (call : CallF) (yc : YieldF) (lim k : Nat) (J : CodeF) (x0 x3 x18 x19 x20 : AV) (H : Heap) (kn : KS) (R : List AV → Heap → Res) :
    evX (cx ρ) call yc false 104 lim k J (Code.at [1, 1, 1, 0, 1] c104) (sp 54 [(0, x0), (3, x3), (18, x18), (19, x19), (20, x20)]) H (kk (some [3]) kn [] R [2]) =
  J (Code.at [1, 1, 1, 0, 1, 0] c104) (sp 54 [(0, x0), (3, x3), (18, x18), (19, x19), (20, x20)]) H (kk (some [3]) kn [(0, (some [3]), kn)] R [2]) := by
  kernel_rfl
theorem N104_2_eq (ρ : Addr → Option Value) (call : CallF) (yc : YieldF) (lim k : Nat) (x0 x3 x18 x19 x20 : AV) (H : Heap) (kn : KS) (R : List AV → Heap → Res) :
    evL (cx ρ) call yc false 104 lim k (Code.at [1, 1, 1, 0, 1] c104) (sp 54 [(0, x0), (3, x3), (18, x18), (19, x19), (20, x20)]) H (kk (some [3]) kn [] R [2]) = N104_2 ρ call yc lim k x0 x3 x18 x19 x20 H (fun x3 H => kn (sp 54 [(3, x3)]) H) := by
  rw [evL_X, N104_2_x]
  simp only [← evL_X, N104_2, N104_3_eq]
noncomputable def L104 (ρ : Addr → Option Value) (call : CallF) (yc : YieldF) (lim k : Nat) (x0 : AV) (H : Heap) : Res :=
  purK (binA Tryz.prog H .eql 84 x0 .nilp) fun x7 =>
  condK x7
  (
    retK [(.int .i64 0)] H)
  (
    purK (nilChkA x0) fun x9 =>
    purK (fieldAddrA Tryz.prog 153 x9 4) fun x10 =>
    purK (loadA (cx ρ) H 150 x10) fun x11 =>
    purK (nilChkA x0) fun x13 =>
    purK (fieldAddrA Tryz.prog 153 x13 3) fun x14 =>
    purK (loadA (cx ρ) H 149 x14) fun x15 =>
    resK (call lim 171 [x15] H) fun x16 H => bif (agn (loadA (cx ρ) H 150 x10) x11 && true) then
      resK (call lim 170 [x11, x16] H) fun x17 H =>
      purK (lenBA (cx ρ) H 265 x17) fun x19 =>
      N104_2 ρ call yc lim k x0 x17 x17 x19 (.int .i64 0) H (fun x3_1 H =>
        N104_1 ρ call yc lim k x3_1 H retK)
    else none)
theorem L104_x (ρ : Addr → Option Value) (call : CallF) (yc : YieldF) (lim k : Nat) (J : CodeF) (x0 : AV) (H : Heap) :
    evX (cx ρ) call yc false 104 lim k J c104 [x0, (.tup []), (.tup []), (.tup []), (.tup []), (.tup []), (.tup []), (.tup []), (.tup []), (.tup []), (.tup []), (.tup []), (.tup []), (.tup []), (.tup []), (.tup []), (.tup []), (.tup []), (.tup []), (.tup []), (.tup []), (.tup []), (.tup []), (.tup []), (.tup []), (.tup []), (.tup []), (.tup []), (.tup []), (.tup []), (.tup []), (.tup []), (.tup []), (.tup []), (.tup []), (.tup []), (.tup []), (.tup []), (.tup []), (.tup []), (.tup []), (.tup []), (.tup []), (.tup []), (.tup []), (.tup []), (.tup []), (.tup []), (.tup []), (.tup []), (.tup []), (.tup []), (.tup []), (.tup [])] H (kk none (fun s H => retK (([2] : List Nat).map fun t => s.getD t (.tup [])) H) [] retK [2]) =
  purK (binA Tryz.prog H .eql 84 x0 .nilp) fun x7 =>
  condK x7
  (
    retK [(.int .i64 0)] H)
  (
    purK (nilChkA x0) fun x9 =>
    purK (fieldAddrA Tryz.prog 153 x9 4) fun x10 =>
    purK (loadA (cx ρ) H 150 x10) fun x11 =>
    purK (nilChkA x0) fun x13 =>
    purK (fieldAddrA Tryz.prog 153 x13 3) fun x14 =>
    purK (loadA (cx ρ) H 149 x14) fun x15 =>
    resK (call lim 171 [x15] H) fun x16 H => bif (agn (loadA (cx ρ) H 150 x10) x11 && true) then
      resK (call lim 170 [x11, x16] H) fun x17 H =>
      purK (lenBA (cx ρ) H 265 x17) fun x19 =>
      J (Code.at [1, 1, 1, 0, 1] c104) (sp 54 [(0, x0), (3, x17), (18, x17), (19, x19), (20, (.int .i64 0))]) H (kk (some [3]) (fun s H => J (Code.at [1, 1, 1, 1] c104) s H (kk none (fun s H => retK (([2] : List Nat).map fun t => s.getD t (.tup [])) H) [] retK [2])) [] retK [2])
    else none) := by
  kernel_rfl
theorem G104 (ρ : Addr → Option Value) (call : CallF) (yc : YieldF) (lim k : Nat) (x0 : AV) (H : Heap) :
    evL (cx ρ) call yc false 104 lim k c104 [x0, (.tup []), (.tup []), (.tup []), (.tup []), (.tup []), (.tup []), (.tup []), (.tup []), (.tup []), (.tup []), (.tup []), (.tup []), (.tup []), (.tup []), (.tup []), (.tup []), (.tup []), (.tup []), (.tup []), (.tup []), (.tup []), (.tup []), (.tup []), (.tup []), (.tup []), (.tup []), (.tup []), (.tup []), (.tup []), (.tup []), (.tup []), (.tup []), (.tup []), (.tup []), (.tup []), (.tup []), (.tup []), (.tup []), (.tup []), (.tup []), (.tup []), (.tup []), (.tup []), (.tup []), (.tup []), (.tup []), (.tup []), (.tup []), (.tup []), (.tup []), (.tup []), (.tup []), (.tup [])] H (kk none (fun s H => retK (([2] : List Nat).map fun t => s.getD t (.tup [])) H) [] retK [2]) = L104 ρ call yc lim k x0 H := by
  rw [evL_X, L104_x]
  simp only [← evL_X, L104, N104_1_eq, N104_2_eq]
theorem E104 (ρ : Addr → Option Value) (k lim : Nat) (x0 : AV) (H : Heap) : evCall (cx ρ) (k + 1) lim 104 [x0] H = L104 ρ (evCall (cx ρ) k) (evCY (cx ρ) k).2 lim k x0 H := by
  rw [evCall_body (cx ρ) k lim 104 _ H Tryz.f104 c104 [2] (by kernel_rfl) (by kernel_rfl) (by kernel_rfl) (by kernel_rfl) (by kernel_rfl)]
  exact G104 ρ (evCall (cx ρ) k) (evCY (cx ρ) k).2 lim k x0 H
-- (*haycroft/marks.Set).At
noncomputable def c112 : Code := Code.of Tryz.prog 112
noncomputable def L112 (ρ : Addr → Option Value) (call : CallF) (yc : YieldF) (lim k : Nat) (x0 x1 : AV) (H : Heap) : Res :=
  purK (binA Tryz.prog H .eql 148 x0 .nilp) fun x6 =>
  purK (gPur (wantV x6 false) (some x1)) fun x8 =>
  resK (gRes (wantV x6 false) H (call lim 181 [x8] H)) fun x9 H =>
  purK (gPur (wantV x6 false) (unA .not x9)) fun x10 =>
  purK (pickA x6 (.bool true) x10) fun x11 =>
  condK x11
  (
    retK [(.int .i64 0)] H)
  (
    purK (nilChkA x0) fun x13 =>
    purK (fieldAddrA Tryz.prog 285 x13 0) fun x14 =>
    purK (loadA (cx ρ) H 160 x14) fun x15 =>
    resK (call lim 84 [x15, x1] H) fun x17 H =>
    purK (convXA (cx ρ) H 22 3 x17) fun x18 =>
    retK [x18] H)
theorem G112 (ρ : Addr → Option Value) (call : CallF) (yc : YieldF) (lim k : Nat) (x0 x1 : AV) (H : Heap) :
    evL (cx ρ) call yc false 112 lim k c112 [x0, x1, (.tup []), (.tup []), (.tup []), (.tup []), (.tup []), (.tup []), (.tup []), (.tup []), (.tup []), (.tup []), (.tup []), (.tup []), (.tup []), (.tup []), (.tup []), (.tup []), (.tup [])] H (kk none (fun s H => retK (([4] : List Nat).map fun t => s.getD t (.tup [])) H) [] retK [4]) = L112 ρ call yc lim k x0 x1 H := by
  kernel_rfl
theorem E112 (ρ : Addr → Option Value) (k lim : Nat) (x0 x1 : AV) (H : Heap) : evCall (cx ρ) (k + 1) lim 112 [x0, x1] H = L112 ρ (evCall (cx ρ) k) (evCY (cx ρ) k).2 lim k x0 x1 H := by
  rw [evCall_body (cx ρ) k lim 112 _ H Tryz.f112 c112 [4] (by kernel_rfl) (by kernel_rfl) (by kernel_rfl) (by kernel_rfl) (by kernel_rfl)]
  exact G112 ρ (evCall (cx ρ) k) (evCY (cx ρ) k).2 lim k x0 x1 H
-- (*haycroft/pages.Buffer).Has
noncomputable def c122 : Code := Code.of Tryz.prog 122
noncomputable def L122 (ρ : Addr → Option Value) (call : CallF) (yc : YieldF) (lim k : Nat) (x0 x1 : AV) (H : Heap) : Res :=
  purK (binA Tryz.prog H .neq 122 x0 .nilp) fun x6 =>
  boolK (wantV x6 true) fun b1 => purK (bif b1 then some x1 else some (.tup [])) fun x8 =>
  boolK (wantV x6 true) fun b2 => purK (bif b2 then binA Tryz.prog H .geq 3 x8 (.int .i64 0) else some (.tup [])) fun x9 =>
  purK (pickA x6 x9 (.bool false)) fun x10 =>
  boolK (wantV x10 true) fun b3 => purK (bif b3 then some x0 else some (.tup [])) fun x12 =>
  boolK (wantV x10 true) fun b4 => purK (bif b4 then nilChkA x12 else some (.tup [])) fun x13 =>
  boolK (wantV x10 true) fun b5 => purK (bif b5 then fieldAddrA Tryz.prog 199 x13 2 else some (.tup [])) fun x14 =>
  boolK (wantV x10 true) fun b6 => purK (bif b6 then loadA (cx ρ) H 160 x14 else some (.tup [])) fun x15 =>
  boolK (wantV x10 true) fun b7 => purK (bif b7 then some x0 else some (.tup [])) fun x16 =>
  boolK (wantV x10 true) fun b8 => purK (bif b8 then some x1 else some (.tup [])) fun x17 =>
  boolK (wantV x10 true) fun b9 => purK (bif b9 then some x1 else some (.tup [])) fun x20 =>
  boolK (wantV x10 true) fun b10 => resK (gRes (some b10) H (call lim 124 [x16, x17] H)) fun x18 H => bif !b10 || ((!b6 || agn (loadA (cx ρ) H 160 x14) x15) && ((!b2 || true) && true)) then
    boolK (wantV x10 true) fun b11 => resK (gRes (some b11) H (call lim 84 [x15, x18] H)) fun x19 H => bif !b11 || ((!b6 || true) && ((!b2 || true) && true)) then
      boolK (wantV x10 true) fun b12 => resK (gRes (some b12) H (call lim 200 [x20] H)) fun x21 H => bif !b12 || ((!b6 || true) && ((!b2 || true) && true)) then
        purK (gPur (wantV x10 true) (binA Tryz.prog H .eql 22 x19 x21)) fun x22 =>
        purK (pickA x10 x22 (.bool false)) fun x23 =>
        retK [x23] H
      else none
    else none
  else none
theorem G122 (ρ : Addr → Option Value) (call : CallF) (yc : YieldF) (lim k : Nat) (x0 x1 : AV) (H : Heap) :
    evL (cx ρ) call yc false 122 lim k c122 [x0, x1, (.tup []), (.tup []), (.tup []), (.tup []), (.tup []), (.tup []), (.tup []), (.tup []), (.tup []), (.tup []), (.tup []), (.tup []), (.tup []), (.tup []), (.tup []), (.tup []), (.tup []), (.tup []), (.tup []), (.tup []), (.tup []), (.tup [])] H (kk none (fun s H => retK (([4] : List Nat).map fun t => s.getD t (.tup [])) H) [] retK [4]) = L122 ρ call yc lim k x0 x1 H := by
  kernel_rfl
theorem E122 (ρ : Addr → Option Value) (k lim : Nat) (x0 x1 : AV) (H : Heap) : evCall (cx ρ) (k + 1) lim 122 [x0, x1] H = L122 ρ (evCall (cx ρ) k) (evCY (cx ρ) k).2 lim k x0 x1 H := by
  rw [evCall_body (cx ρ) k lim 122 _ H Tryz.f122 c122 [4] (by kernel_rfl) (by kernel_rfl) (by kernel_rfl) (by kernel_rfl) (by kernel_rfl)]
  exact G122 ρ (evCall (cx ρ) k) (evCY (cx ρ) k).2 lim k x0 x1 H
-- (*haycroft/cell.Row).Words
noncomputable def c123 : Code := Code.of Tryz.prog 123
noncomputable def N123_1 (ρ : Addr → Option Value) (call : CallF) (yc : YieldF) (lim k : Nat) (x9 : AV) (H : Heap) (R : List AV → Heap → Res) : Res :=
  R [x9, (.int .i64 0)] H
theorem N123_1_eq (ρ : Addr → Option Value) (call : CallF) (yc : YieldF) (lim k : Nat) (x9 : AV) (H : Heap) (R : List AV → Heap → Res) :
    evL (cx ρ) call yc false 123 lim k (Code.at [1, 1, 1, 1] c123) (sp 39 [(9, x9)]) H (kk none (fun s H => R (([6, 7] : List Nat).map fun t => s.getD t (.tup [])) H) [] R [6, 7]) = N123_1 ρ call yc lim k x9 H R := by
  kernel_rfl
noncomputable def N123_3b (ρ : Addr → Option Value) (call : CallF) (yc : YieldF) (lim k : Nat) (x0 x1 x9 x21 x22 : AV) (H : Heap) (kn : AV → AV → AV → AV → AV → Heap → Res) (k0 : AV → Heap → Res) : Res :=
  purK (binA Tryz.prog H .lss 3 x22 x21) fun x23_1 =>
  condK x23_1
  (
    purK (nilChkA x0) fun x28_1 =>
    purK (fieldAddrA Tryz.prog 232 x28_1 0) fun x29_1 =>
    purK (loadA (cx ρ) H 228 x29_1) fun x30_1 =>
    purK (binA Tryz.prog H .add 3 x1 x22) fun x33_1 =>
    purK (indexAddrA Tryz.prog 228 x30_1 x33_1) fun x34_1 =>
    resK (call lim 150 [x34_1] H) fun x35_1 H =>
    purK (indexAddrA Tryz.prog 31 x9 x22) fun x36_1 =>
    effK H ((storeA (cx ρ) lim H 22 x36_1 x35_1).map skips) fun _ H =>
    purK (binA Tryz.prog H .add 3 x22 (.int .i64 1)) fun x37_1 =>
    kn x0 x1 x9 x21 x37_1 H)
  (
    k0 x9 H)
theorem N123_3b_eq (ρ : Addr → Option Value) (call : CallF) (yc : YieldF) (lim k : Nat) (x0 x1 x9 x21 x22 : AV) (H : Heap) (kn : KS) (k0 : KS) (R : List AV → Heap → Res) :
    evL (cx ρ) call yc false 123 lim k (Code.at [1, 1, 1, 0, 1, 0, 0] c123) (sp 39 [(0, x0), (1, x1), (9, x9), (21, x21), (22, x22)]) H (kk (some [0, 1, 9, 21, 22]) kn [(0, (some [9]), k0)] R [6, 7]) = N123_3b ρ call yc lim k x0 x1 x9 x21 x22 H (fun x0 x1 x9 x21 x22 H => kn (sp 39 [(0, x0), (1, x1), (9, x9), (21, x21), (22, x22)]) H) (fun x9 H => k0 (sp 39 [(9, x9)]) H) := by
  kernel_rfl
noncomputable def N123_3 (ρ : Addr → Option Value) (call : CallF) (yc : YieldF) (lim k : Nat) (x0 x1 x9 x21 x22 : AV) (H : Heap) (k0 : AV → Heap → Res) : Res :=
  loopL (fun (x : AV) H kn => N123_3b ρ call yc lim k x0 x1 x9 x21 x H (fun _ _ _ _ x22 H => kn x22 H) k0) k x22 H
theorem N123_3_eq (ρ : Addr → Option Value) (call : CallF) (yc : YieldF) (lim k : Nat) (x0 x1 x9 x21 x22 : AV) (H : Heap) (kn : KS) (k0 : KS) (R : List AV → Heap → Res) :
    evL (cx ρ) call yc false 123 lim k (Code.at [1, 1, 1, 0, 1, 0] c123) (sp 39 [(0, x0), (1, x1), (9, x9), (21, x21), (22, x22)]) H (kk (some [9]) kn [(0, (some [9]), k0)] R [6, 7]) = N123_3 ρ call yc lim k x0 x1 x9 x21 x22 H (fun x9 H => k0 (sp 39 [(9, x9)]) H) := by
  have e : Code.at [1, 1, 1, 0, 1, 0] c123 = .loop (Code.at [1, 1, 1, 0, 1, 0, 0] c123) := by kernel_rfl
  rw [e]
  unfold N123_3
  exact loop_node [0, 1, 9, 21, 22] (fun x : AV => (sp 39 [(0, x0), (1, x1), (9, x9), (21, x21), (22, (x))])) (fun (x : AV) H kn => N123_3b ρ call yc lim k x0 x1 x9 x21 x H (fun _ _ _ _ x22 H => kn x22 H) (fun x9 H => k0 (sp 39 [(9, x9)]) H)) (by kernel_rfl) (fun x => by kernel_rfl) (fun x H kn => N123_3b_eq ρ call yc lim k x0 x1 x9 x21 (x) H kn k0 R) x22 (sp 39 [(0, x0), (1, x1), (9, x9), (21, x21), (22, x22)]) H (by kernel_rfl)
noncomputable def N123_2 (ρ : Addr → Option Value) (call : CallF) (yc : YieldF) (lim k : Nat) (x0 x1 x9 x21 x22 : AV) (H : Heap) (kn : AV → Heap → Res) : Res :=
  N123_3 ρ call yc lim k x0 x1 x9 x21 x22 H kn
theorem N123_2_x (ρ : Addr → Option Value) (call : CallF) (yc : YieldF) (lim k : Nat) (J : CodeF) (x0 x1 x9 x21 x22 : AV) (H : Heap) (kn : KS) (R : List AV → Heap → Res) :
    evX (cx ρ) call yc false 123 lim k J (Code.at [1, 1, 1, 0, 1] c123) (sp 39 [(0, x0), (1, x1), (9, x9), (21, x21), (22, x22)]) H (kk (some [9]) kn [] R [6, 7]) =
  J (Code.at [1, 1, 1, 0, 1, 0] c123) (sp 39 [(0, x0), (1, x1), (9, x9), (21, x21), (22, x22)]) H (kk (some [9]) kn [(0, (some [9]), kn)] R [6, 7]) := by
  kernel_rfl
theorem N123_2_eq (ρ : Addr → Option Value) (call : CallF) (yc : YieldF) (lim k : Nat) (x0 x1 x9 x21 x22 : AV) (H : Heap) (kn : KS) (R : List AV → Heap → Res) :
    evL (cx ρ) call yc false 123 lim k (Code.at [1, 1, 1, 0, 1] c123) (sp 39 [(0, x0), (1, x1), (9, x9), (21, x21), (22, x22)]) H (kk (some [9]) kn [] R [6, 7]) = N123_2 ρ call yc lim k x0 x1 x9 x21 x22 H (fun x9 H => kn (sp 39 [(9, x9)]) H) := by
  rw [evL_X, N123_2_x]
  simp only [← evL_X, N123_2, N123_3_eq]
noncomputable def L123 (ρ : Addr → Option Value) (call : CallF) (yc : YieldF) (lim k : Nat) (x0 x1 x2 : AV) (H : Heap) : Res :=
  resK (call lim 201 [x0, x1, x2] H) fun x14 H =>
  purK (binA Tryz.prog H .neq 28 x14 (.int .i64 0)) fun x16 =>
  condK x16
  (
    retK [.nils, x14] H)
  (
    effK H (makeSliceA (cx ρ) H 31 x2 x2) fun x19 H =>
    purK (lenBA (cx ρ) H 31 x19) fun x21 =>
    N123_2 ρ call yc lim k x0 x1 x19 x21 (.int .i64 0) H (fun x9 H =>
      N123_1 ρ call yc lim k x9 H retK))
theorem L123_x (ρ : Addr → Option Value) (call : CallF) (yc : YieldF) (lim k : Nat) (J : CodeF) (x0 x1 x2 : AV) (H : Heap) :
    evX (cx ρ) call yc false 123 lim k J c123 [x0, x1, x2, (.tup []), (.tup []), (.tup []), (.tup []), (.tup []), (.tup []), (.tup []), (.tup []), (.tup []), (.tup []), (.tup []), (.tup []), (.tup []), (.tup []), (.tup []), (.tup []), (.tup []), (.tup []), (.tup []), (.tup []), (.tup []), (.tup []), (.tup []), (.tup []), (.tup []), (.tup []), (.tup []), (.tup []), (.tup []), (.tup []), (.tup []), (.tup []), (.tup []), (.tup []), (.tup []), (.tup [])] H (kk none (fun s H => retK (([6, 7] : List Nat).map fun t => s.getD t (.tup [])) H) [] retK [6, 7]) =
  resK (call lim 201 [x0, x1, x2] H) fun x14 H =>
  purK (binA Tryz.prog H .neq 28 x14 (.int .i64 0)) fun x16 =>
  condK x16
  (
    retK [.nils, x14] H)
  (
    effK H (makeSliceA (cx ρ) H 31 x2 x2) fun x19 H =>
    purK (lenBA (cx ρ) H 31 x19) fun x21 =>
    J (Code.at [1, 1, 1, 0, 1] c123) (sp 39 [(0, x0), (1, x1), (9, x19), (21, x21), (22, (.int .i64 0))]) H (kk (some [9]) (fun s H => J (Code.at [1, 1, 1, 1] c123) s H (kk none (fun s H => retK (([6, 7] : List Nat).map fun t => s.getD t (.tup [])) H) [] retK [6, 7])) [] retK [6, 7])) := by
  kernel_rfl
theorem G123 (ρ : Addr → Option Value) (call : CallF) (yc : YieldF) (lim k : Nat) (x0 x1 x2 : AV) (H : Heap) :
    evL (cx ρ) call yc false 123 lim k c123 [x0, x1, x2, (.tup []), (.tup []), (.tup []), (.tup []), (.tup []), (.tup []), (.tup []), (.tup []), (.tup []), (.tup []), (.tup []), (.tup []), (.tup []), (.tup []), (.tup []), (.tup []), (.tup []), (.tup []), (.tup []), (.tup []), (.tup []), (.tup []), (.tup []), (.tup []), (.tup []), (.tup []), (.tup []), (.tup []), (.tup []), (.tup []), (.tup []), (.tup []), (.tup []), (.tup []), (.tup []), (.tup [])] H (kk none (fun s H => retK (([6, 7] : List Nat).map fun t => s.getD t (.tup [])) H) [] retK [6, 7]) = L123 ρ call yc lim k x0 x1 x2 H := by
  rw [evL_X, L123_x]
  simp only [← evL_X, L123, N123_1_eq, N123_2_eq]
theorem E123 (ρ : Addr → Option Value) (k lim : Nat) (x0 x1 x2 : AV) (H : Heap) : evCall (cx ρ) (k + 1) lim 123 [x0, x1, x2] H = L123 ρ (evCall (cx ρ) k) (evCY (cx ρ) k).2 lim k x0 x1 x2 H := by
  rw [evCall_body (cx ρ) k lim 123 _ H Tryz.f123 c123 [6, 7] (by kernel_rfl) (by kernel_rfl) (by kernel_rfl) (by kernel_rfl) (by kernel_rfl)]
  exact G123 ρ (evCall (cx ρ) k) (evCY (cx ρ) k).2 lim k x0 x1 x2 H
-- (*haycroft/pages.Buffer).frame
noncomputable def c124 : Code := Code.of Tryz.prog 124
noncomputable def L124 (ρ : Addr → Option Value) (call : CallF) (yc : YieldF) (lim k : Nat) (x0 x1 : AV) (H : Heap) : Res :=
  purK (nilChkA x0) fun x7 =>
  purK (fieldAddrA Tryz.prog 199 x7 2) fun x8 =>
  purK (loadA (cx ρ) H 160 x8) fun x9 =>
  resK (call lim 202 [x9] H) fun x10 H =>
  purK (binA Tryz.prog H .rem 3 x1 x10) fun x11 =>
  retK [x11] H
theorem G124 (ρ : Addr → Option Value) (call : CallF) (yc : YieldF) (lim k : Nat) (x0 x1 : AV) (H : Heap) :
    evL (cx ρ) call yc false 124 lim k c124 [x0, x1, (.tup []), (.tup []), (.tup []), (.tup []), (.tup []), (.tup []), (.tup []), (.tup []), (.tup []), (.tup [])] H (kk none (fun s H => retK (([4] : List Nat).map fun t => s.getD t (.tup [])) H) [] retK [4]) = L124 ρ call yc lim k x0 x1 H := by
  kernel_rfl
theorem E124 (ρ : Addr → Option Value) (k lim : Nat) (x0 x1 : AV) (H : Heap) : evCall (cx ρ) (k + 1) lim 124 [x0, x1] H = L124 ρ (evCall (cx ρ) k) (evCY (cx ρ) k).2 lim k x0 x1 H := by
  rw [evCall_body (cx ρ) k lim 124 _ H Tryz.f124 c124 [4] (by kernel_rfl) (by kernel_rfl) (by kernel_rfl) (by kernel_rfl) (by kernel_rfl)]
  exact G124 ρ (evCall (cx ρ) k) (evCY (cx ρ) k).2 lim k x0 x1 H
-- haycroft/field.Words
noncomputable def c126 : Code := Code.of Tryz.prog 126
noncomputable def N126_1 (ρ : Addr → Option Value) (call : CallF) (yc : YieldF) (lim k : Nat) (x3 : AV) (H : Heap) (R : List AV → Heap → Res) : Res :=
  R [x3] H
theorem N126_1_eq (ρ : Addr → Option Value) (call : CallF) (yc : YieldF) (lim k : Nat) (x3 : AV) (H : Heap) (R : List AV → Heap → Res) :
    evL (cx ρ) call yc false 126 lim k (Code.at [1, 1, 1] c126) (sp 33 [(3, x3)]) H (kk none (fun s H => R (([2] : List Nat).map fun t => s.getD t (.tup [])) H) [] R [2]) = N126_1 ρ call yc lim k x3 H R := by
  kernel_rfl
noncomputable def N126_3b (ρ : Addr → Option Value) (call : CallF) (yc : YieldF) (lim k : Nat) (x0 x3 x12 x13 : AV) (H : Heap) (kn : AV → AV → AV → AV → Heap → Res) (k0 : AV → Heap → Res) : Res :=
  purK (binA Tryz.prog H .lss 3 x13 x12) fun x14_1 =>
  condK x14_1
  (
    purK (binA Tryz.prog H .quo 3 x13 (.int .i64 8)) fun x18_1 =>
    purK (indexAddrA Tryz.prog 31 x3 x18_1) fun x19_1 =>
    purK (loadA (cx ρ) H 22 x19_1) fun x20_1 =>
    purK (indexA Tryz.prog 9 x0 x13) fun x23_1 =>
    purK (convXA (cx ρ) H 5 22 x23_1) fun x24_1 =>
    purK (binA Tryz.prog H .rem 3 x13 (.int .i64 8)) fun x26_1 =>
    purK (binA Tryz.prog H .mul 3 x26_1 (.int .i64 8)) fun x27_1 =>
    purK (binA Tryz.prog H .shl 22 x24_1 x27_1) fun x28_1 =>
    purK (binA Tryz.prog H .or 22 x20_1 x28_1) fun x29_1 =>
    purK (indexAddrA Tryz.prog 31 x3 x18_1) fun x30_1 =>
    effK H ((storeA (cx ρ) lim H 22 x30_1 x29_1).map skips) fun _ H =>
    purK (binA Tryz.prog H .add 3 x13 (.int .i64 1)) fun x31_1 =>
    kn x0 x3 x12 x31_1 H)
  (
    k0 x3 H)
theorem N126_3b_eq (ρ : Addr → Option Value) (call : CallF) (yc : YieldF) (lim k : Nat) (x0 x3 x12 x13 : AV) (H : Heap) (kn : KS) (k0 : KS) (R : List AV → Heap → Res) :
    evL (cx ρ) call yc false 126 lim k (Code.at [1, 1, 0, 1, 0, 0] c126) (sp 33 [(0, x0), (3, x3), (12, x12), (13, x13)]) H (kk (some [0, 3, 12, 13]) kn [(0, (some [3]), k0)] R [2]) = N126_3b ρ call yc lim k x0 x3 x12 x13 H (fun x0 x3 x12 x13 H => kn (sp 33 [(0, x0), (3, x3), (12, x12), (13, x13)]) H) (fun x3 H => k0 (sp 33 [(3, x3)]) H) := by
  kernel_rfl
noncomputable def N126_3 (ρ : Addr → Option Value) (call : CallF) (yc : YieldF) (lim k : Nat) (x0 x3 x12 x13 : AV) (H : Heap) (k0 : AV → Heap → Res) : Res :=
  loopL (fun (x : AV) H kn => N126_3b ρ call yc lim k x0 x3 x12 x H (fun _ _ _ x13 H => kn x13 H) k0) k x13 H
theorem N126_3_eq (ρ : Addr → Option Value) (call : CallF) (yc : YieldF) (lim k : Nat) (x0 x3 x12 x13 : AV) (H : Heap) (kn : KS) (k0 : KS) (R : List AV → Heap → Res) :
    evL (cx ρ) call yc false 126 lim k (Code.at [1, 1, 0, 1, 0] c126) (sp 33 [(0, x0), (3, x3), (12, x12), (13, x13)]) H (kk (some [3]) kn [(0, (some [3]), k0)] R [2]) = N126_3 ρ call yc lim k x0 x3 x12 x13 H (fun x3 H => k0 (sp 33 [(3, x3)]) H) := by
  have e : Code.at [1, 1, 0, 1, 0] c126 = .loop (Code.at [1, 1, 0, 1, 0, 0] c126) := by kernel_rfl
  rw [e]
  unfold N126_3
  exact loop_node [0, 3, 12, 13] (fun x : AV => (sp 33 [(0, x0), (3, x3), (12, x12), (13, (x))])) (fun (x : AV) H kn => N126_3b ρ call yc lim k x0 x3 x12 x H (fun _ _ _ x13 H => kn x13 H) (fun x3 H => k0 (sp 33 [(3, x3)]) H)) (by kernel_rfl) (fun x => by kernel_rfl) (fun x H kn => N126_3b_eq ρ call yc lim k x0 x3 x12 (x) H kn k0 R) x13 (sp 33 [(0, x0), (3, x3), (12, x12), (13, x13)]) H (by kernel_rfl)
noncomputable def N126_2 (ρ : Addr → Option Value) (call : CallF) (yc : YieldF) (lim k : Nat) (x0 x3 x12 x13 : AV) (H : Heap) (kn : AV → Heap → Res) : Res :=
  N126_3 ρ call yc lim k x0 x3 x12 x13 H kn
theorem N126_2_x (ρ : Addr → Option Value) (call : CallF) (yc : YieldF) (lim k : Nat) (J : CodeF) (x0 x3 x12 x13 : AV) (H : Heap) (kn : KS) (R : List AV → Heap → Res) :
    evX (cx ρ) call yc false 126 lim k J (Code.at [1, 1, 0, 1] c126) (sp 33 [(0, x0), (3, x3), (12, x12), (13, x13)]) H (kk (some [3]) kn [] R [2]) =
  J (Code.at [1, 1, 0, 1, 0] c126) (sp 33 [(0, x0), (3, x3), (12, x12), (13, x13)]) H (kk (some [3]) kn [(0, (some [3]), kn)] R [2]) := by
  kernel_rfl
theorem N126_2_eq (ρ : Addr → Option Value) (call : CallF) (yc : YieldF) (lim k : Nat) (x0 x3 x12 x13 : AV) (H : Heap) (kn : KS) (R : List AV → Heap → Res) :
    evL (cx ρ) call yc false 126 lim k (Code.at [1, 1, 0, 1] c126) (sp 33 [(0, x0), (3, x3), (12, x12), (13, x13)]) H (kk (some [3]) kn [] R [2]) = N126_2 ρ call yc lim k x0 x3 x12 x13 H (fun x3 H => kn (sp 33 [(3, x3)]) H) := by
  rw [evL_X, N126_2_x]
  simp only [← evL_X, N126_2, N126_3_eq]
noncomputable def L126 (ρ : Addr → Option Value) (call : CallF) (yc : YieldF) (lim k : Nat) (x0 : AV) (H : Heap) : Res :=
  purK (lenBA (cx ρ) H 9 x0) fun x6 =>
  purK (binA Tryz.prog H .add 3 x6 (.int .i64 8)) fun x7 =>
  purK (binA Tryz.prog H .sub 3 x7 (.int .i64 1)) fun x8 =>
  purK (binA Tryz.prog H .quo 3 x8 (.int .i64 8)) fun x9 =>
  effK H (makeSliceA (cx ρ) H 31 x9 x9) fun x10 H =>
  purK (lenBA (cx ρ) H 9 x0) fun x12 =>
  N126_2 ρ call yc lim k x0 x10 x12 (.int .i64 0) H (fun x3 H =>
    N126_1 ρ call yc lim k x3 H retK)
theorem L126_x (ρ : Addr → Option Value) (call : CallF) (yc : YieldF) (lim k : Nat) (J : CodeF) (x0 : AV) (H : Heap) :
    evX (cx ρ) call yc false 126 lim k J c126 [x0, (.tup []), (.tup []), (.tup []), (.tup []), (.tup []), (.tup []), (.tup []), (.tup []), (.tup []), (.tup []), (.tup []), (.tup []), (.tup []), (.tup []), (.tup []), (.tup []), (.tup []), (.tup []), (.tup []), (.tup []), (.tup []), (.tup []), (.tup []), (.tup []), (.tup []), (.tup []), (.tup []), (.tup []), (.tup []), (.tup []), (.tup []), (.tup [])] H (kk none (fun s H => retK (([2] : List Nat).map fun t => s.getD t (.tup [])) H) [] retK [2]) =
  purK (lenBA (cx ρ) H 9 x0) fun x6 =>
  purK (binA Tryz.prog H .add 3 x6 (.int .i64 8)) fun x7 =>
  purK (binA Tryz.prog H .sub 3 x7 (.int .i64 1)) fun x8 =>
  purK (binA Tryz.prog H .quo 3 x8 (.int .i64 8)) fun x9 =>
  effK H (makeSliceA (cx ρ) H 31 x9 x9) fun x10 H =>
  purK (lenBA (cx ρ) H 9 x0) fun x12 =>
  J (Code.at [1, 1, 0, 1] c126) (sp 33 [(0, x0), (3, x10), (12, x12), (13, (.int .i64 0))]) H (kk (some [3]) (fun s H => J (Code.at [1, 1, 1] c126) s H (kk none (fun s H => retK (([2] : List Nat).map fun t => s.getD t (.tup [])) H) [] retK [2])) [] retK [2]) := by
  kernel_rfl
theorem G126 (ρ : Addr → Option Value) (call : CallF) (yc : YieldF) (lim k : Nat) (x0 : AV) (H : Heap) :
    evL (cx ρ) call yc false 126 lim k c126 [x0, (.tup []), (.tup []), (.tup []), (.tup []), (.tup []), (.tup []), (.tup []), (.tup []), (.tup []), (.tup []), (.tup []), (.tup []), (.tup []), (.tup []), (.tup []), (.tup []), (.tup []), (.tup []), (.tup []), (.tup []), (.tup []), (.tup []), (.tup []), (.tup []), (.tup []), (.tup []), (.tup []), (.tup []), (.tup []), (.tup []), (.tup []), (.tup [])] H (kk none (fun s H => retK (([2] : List Nat).map fun t => s.getD t (.tup [])) H) [] retK [2]) = L126 ρ call yc lim k x0 H := by
  rw [evL_X, L126_x]
  simp only [← evL_X, L126, N126_1_eq, N126_2_eq]
theorem E126 (ρ : Addr → Option Value) (k lim : Nat) (x0 : AV) (H : Heap) : evCall (cx ρ) (k + 1) lim 126 [x0] H = L126 ρ (evCall (cx ρ) k) (evCY (cx ρ) k).2 lim k x0 H := by
  rw [evCall_body (cx ρ) k lim 126 _ H Tryz.f126 c126 [2] (by kernel_rfl) (by kernel_rfl) (by kernel_rfl) (by kernel_rfl) (by kernel_rfl)]
  exact G126 ρ (evCall (cx ρ) k) (evCY (cx ρ) k).2 lim k x0 H
-- haycroft/header.Told
noncomputable def c128 : Code := Code.of Tryz.prog 128
noncomputable def L128 (ρ : Addr → Option Value) (call : CallF) (yc : YieldF) (lim k : Nat) (x0 : AV) (H : Heap) : Res :=
  effK H (buildSliceA (cx ρ) H 60 4 [(0, (.int .i64 16)), (1, (.int .i64 16)), (2, (.int .i64 16)), (3, (.int .i64 16))]) fun x9 H =>
  resK (call lim 205 [x0, x9] H) fun x10 H =>
  purK (extA 0 x10) fun x11 =>
  purK (extA 1 x10) fun x12 =>
  purK (indexAddrA Tryz.prog 31 x11 (.int .i64 0)) fun x14 =>
  purK (loadA (cx ρ) H 22 x14) fun x15 =>
  purK (binA Tryz.prog H .gtr 22 x15 (.int .u64 64)) fun x16 =>
  purK (gPur (wantV x16 false) (some x11)) fun x18 =>
  purK (gPur (wantV x16 false) (indexAddrA Tryz.prog 31 x18 (.int .i64 1))) fun x19 =>
  purK (gPur (wantV x16 false) (loadA (cx ρ) H 22 x19)) fun x20 =>
  purK (gPur (wantV x16 false) (binA Tryz.prog H .gtr 22 x20 (.int .u64 128))) fun x21 =>
  purK (pickA x16 (.bool true) x21) fun x22 =>
  purK (gPur (wantV x22 false) (some x11)) fun x24 =>
  purK (gPur (wantV x22 false) (indexAddrA Tryz.prog 31 x24 (.int .i64 2))) fun x25 =>
  purK (gPur (wantV x22 false) (loadA (cx ρ) H 22 x25)) fun x26 =>
  purK (gPur (wantV x22 false) (binA Tryz.prog H .neq 22 x26 (.int .u64 44203))) fun x27 =>
  purK (pickA x22 (.bool true) x27) fun x28 =>
  purK (gPur (wantV x28 false) (some x11)) fun x30 =>
  purK (gPur (wantV x28 false) (indexAddrA Tryz.prog 31 x30 (.int .i64 3))) fun x31 =>
  purK (gPur (wantV x28 false) (loadA (cx ρ) H 22 x31)) fun x32 =>
  purK (gPur (wantV x28 false) (binA Tryz.prog H .neq 22 x32 (.int .u64 0))) fun x33 =>
  purK (pickA x28 (.bool true) x33) fun x34 =>
  condK x34
  (
    retK [(.int .i64 0), (.int .i64 0), (.int .i64 4)] H)
  (
    purK (indexAddrA Tryz.prog 31 x11 (.int .i64 0)) fun x36 =>
    purK (loadA (cx ρ) H 22 x36) fun x37 =>
    purK (convXA (cx ρ) H 22 3 x37) fun x38 =>
    purK (indexAddrA Tryz.prog 31 x11 (.int .i64 1)) fun x40 =>
    purK (loadA (cx ρ) H 22 x40) fun x41 =>
    purK (convXA (cx ρ) H 22 3 x41) fun x42 =>
    retK [x38, x42, (.int .i64 0)] H)
theorem G128 (ρ : Addr → Option Value) (call : CallF) (yc : YieldF) (lim k : Nat) (x0 : AV) (H : Heap) :
    evL (cx ρ) call yc false 128 lim k c128 [x0, (.tup []), (.tup []), (.tup []), (.tup []), (.tup []), (.tup []), (.tup []), (.tup []), (.tup []), (.tup []), (.tup []), (.tup []), (.tup []), (.tup []), (.tup []), (.tup []), (.tup []), (.tup []), (.tup []), (.tup []), (.tup []), (.tup []), (.tup []), (.tup []), (.tup []), (.tup []), (.tup []), (.tup []), (.tup []), (.tup []), (.tup []), (.tup []), (.tup []), (.tup []), (.tup []), (.tup []), (.tup []), (.tup []), (.tup []), (.tup []), (.tup []), (.tup [])] H (kk none (fun s H => retK (([2, 3, 4] : List Nat).map fun t => s.getD t (.tup [])) H) [] retK [2, 3, 4]) = L128 ρ call yc lim k x0 H := by
  kernel_rfl
theorem E128 (ρ : Addr → Option Value) (k lim : Nat) (x0 : AV) (H : Heap) : evCall (cx ρ) (k + 1) lim 128 [x0] H = L128 ρ (evCall (cx ρ) k) (evCY (cx ρ) k).2 lim k x0 H := by
  rw [evCall_body (cx ρ) k lim 128 _ H Tryz.f128 c128 [2, 3, 4] (by kernel_rfl) (by kernel_rfl) (by kernel_rfl) (by kernel_rfl) (by kernel_rfl)]
  exact G128 ρ (evCall (cx ρ) k) (evCY (cx ρ) k).2 lim k x0 H
-- haycroft/header.Lengths
noncomputable def c129 : Code := Code.of Tryz.prog 129
noncomputable def L129 (ρ : Addr → Option Value) (call : CallF) (yc : YieldF) (lim k : Nat) (x0 x1 : AV) (H : Heap) : Res :=
  purK (binA Tryz.prog H .lss 3 x0 (.int .i64 0)) fun x8 =>
  purK (gPur (wantV x8 false) (some x1)) fun x10 =>
  purK (gPur (wantV x8 false) (binA Tryz.prog H .lss 3 x10 (.int .i64 0))) fun x11 =>
  purK (pickA x8 (.bool true) x11) fun x12 =>
  condK x12
  (
    retK [(.int .u64 0), (.int .i64 1)] H)
  (
    purK (binA Tryz.prog H .gtr 3 x0 (.int .i64 64)) fun x15 =>
    purK (gPur (wantV x15 false) (some x1)) fun x17 =>
    purK (gPur (wantV x15 false) (binA Tryz.prog H .gtr 3 x17 (.int .i64 128))) fun x18 =>
    purK (pickA x15 (.bool true) x18) fun x19 =>
    condK x19
    (
      retK [(.int .u64 0), (.int .i64 5)] H)
    (
      purK (convXA (cx ρ) H 3 22 x0) fun x21 =>
      purK (convXA (cx ρ) H 3 22 x1) fun x23 =>
      effK H (buildSliceA (cx ρ) H 31 3 [(0, x21), (1, x23), (2, (.int .u64 44203))]) fun x24 H =>
      effK H (buildSliceA (cx ρ) H 60 3 [(0, (.int .i64 16)), (1, (.int .i64 16)), (2, (.int .i64 16))]) fun x25 H =>
      resK (call lim 206 [x24, x25] H) fun x26 H =>
      purK (extA 0 x26) fun x27 =>
      purK (extA 1 x26) fun x28 =>
      retK [x27, x28] H))
theorem G129 (ρ : Addr → Option Value) (call : CallF) (yc : YieldF) (lim k : Nat) (x0 x1 : AV) (H : Heap) :
    evL (cx ρ) call yc false 129 lim k c129 [x0, x1, (.tup []), (.tup []), (.tup []), (.tup []), (.tup []), (.tup []), (.tup []), (.tup []), (.tup []), (.tup []), (.tup []), (.tup []), (.tup []), (.tup []), (.tup []), (.tup []), (.tup []), (.tup []), (.tup []), (.tup []), (.tup []), (.tup []), (.tup []), (.tup []), (.tup []), (.tup []), (.tup [])] H (kk none (fun s H => retK (([4, 5] : List Nat).map fun t => s.getD t (.tup [])) H) [] retK [4, 5]) = L129 ρ call yc lim k x0 x1 H := by
  kernel_rfl
theorem E129 (ρ : Addr → Option Value) (k lim : Nat) (x0 x1 : AV) (H : Heap) : evCall (cx ρ) (k + 1) lim 129 [x0, x1] H = L129 ρ (evCall (cx ρ) k) (evCY (cx ρ) k).2 lim k x0 x1 H := by
  rw [evCall_body (cx ρ) k lim 129 _ H Tryz.f129 c129 [4, 5] (by kernel_rfl) (by kernel_rfl) (by kernel_rfl) (by kernel_rfl) (by kernel_rfl)]
  exact G129 ρ (evCall (cx ρ) k) (evCY (cx ρ) k).2 lim k x0 x1 H
-- haycroft/record.words
noncomputable def c130 : Code := Code.of Tryz.prog 130
noncomputable def L130 (ρ : Addr → Option Value) (call : CallF) (yc : YieldF) (lim k : Nat) (x0 : AV) (H : Heap) : Res :=
  purK (binA Tryz.prog H .add 3 x0 (.int .i64 8)) fun x4 =>
  purK (binA Tryz.prog H .sub 3 x4 (.int .i64 1)) fun x5 =>
  purK (binA Tryz.prog H .quo 3 x5 (.int .i64 8)) fun x6 =>
  retK [x6] H
theorem G130 (ρ : Addr → Option Value) (call : CallF) (yc : YieldF) (lim k : Nat) (x0 : AV) (H : Heap) :
    evL (cx ρ) call yc false 130 lim k c130 [x0, (.tup []), (.tup []), (.tup []), (.tup []), (.tup []), (.tup [])] H (kk none (fun s H => retK (([2] : List Nat).map fun t => s.getD t (.tup [])) H) [] retK [2]) = L130 ρ call yc lim k x0 H := by
  kernel_rfl
theorem E130 (ρ : Addr → Option Value) (k lim : Nat) (x0 : AV) (H : Heap) : evCall (cx ρ) (k + 1) lim 130 [x0] H = L130 ρ (evCall (cx ρ) k) (evCY (cx ρ) k).2 lim k x0 H := by
  rw [evCall_body (cx ρ) k lim 130 _ H Tryz.f130 c130 [2] (by kernel_rfl) (by kernel_rfl) (by kernel_rfl) (by kernel_rfl) (by kernel_rfl)]
  exact G130 ρ (evCall (cx ρ) k) (evCY (cx ρ) k).2 lim k x0 H
-- haycroft/field.Most
noncomputable def c131 : Code := Code.of Tryz.prog 131
noncomputable def L131 (ρ : Addr → Option Value) (call : CallF) (yc : YieldF) (lim k : Nat) (x0 : AV) (H : Heap) : Res :=
  purK (binA Tryz.prog H .lss 3 x0 (.int .i64 1)) fun x5 =>
  condK x5
  (
    retK [(.int .u64 0)] H)
  (
    purK (binA Tryz.prog H .geq 3 x0 (.int .i64 64)) fun x8 =>
    condK x8
    (
      retK [(.int .u64 18446744073709551615)] H)
    (
      purK (binA Tryz.prog H .shl 22 (.int .u64 1) x0) fun x10 =>
      purK (binA Tryz.prog H .sub 22 x10 (.int .u64 1)) fun x11 =>
      retK [x11] H))
theorem G131 (ρ : Addr → Option Value) (call : CallF) (yc : YieldF) (lim k : Nat) (x0 : AV) (H : Heap) :
    evL (cx ρ) call yc false 131 lim k c131 [x0, (.tup []), (.tup []), (.tup []), (.tup []), (.tup []), (.tup []), (.tup []), (.tup []), (.tup []), (.tup []), (.tup [])] H (kk none (fun s H => retK (([2] : List Nat).map fun t => s.getD t (.tup [])) H) [] retK [2]) = L131 ρ call yc lim k x0 H := by
  kernel_rfl
theorem E131 (ρ : Addr → Option Value) (k lim : Nat) (x0 : AV) (H : Heap) : evCall (cx ρ) (k + 1) lim 131 [x0] H = L131 ρ (evCall (cx ρ) k) (evCY (cx ρ) k).2 lim k x0 H := by
  rw [evCall_body (cx ρ) k lim 131 _ H Tryz.f131 c131 [2] (by kernel_rfl) (by kernel_rfl) (by kernel_rfl) (by kernel_rfl) (by kernel_rfl)]
  exact G131 ρ (evCall (cx ρ) k) (evCY (cx ρ) k).2 lim k x0 H
-- haycroft/header.Pack
noncomputable def c132 : Code := Code.of Tryz.prog 132
noncomputable def L132 (ρ : Addr → Option Value) (call : CallF) (yc : YieldF) (lim k : Nat) (x0 : AV) (H : Heap) : Res :=
  effK H (boxA H 25 x0) fun x1 H =>
  purK (fieldAddrA Tryz.prog 25 x1 0) fun x4 =>
  purK (loadA (cx ρ) H 22 x4) fun x5 =>
  purK (binA Tryz.prog H .gtr 22 x5 (.int .u64 281474976710655)) fun x6 =>
  condK x6
  (
    retK [(.int .u64 0), (.int .i64 1)] H)
  (
    mkK H (buildSliceA (cx ρ) H 60 3 [(0, (.int .i64 48)), (1, (.int .i64 1)), (2, (.int .i64 1))]) true fun x16 H =>
    purK (fieldAddrA Tryz.prog 25 x1 0) fun x7 =>
    purK (loadA (cx ρ) H 22 x7) fun x8 =>
    purK (fieldAddrA Tryz.prog 25 x1 1) fun x9 =>
    purK (loadA (cx ρ) H 4 x9) fun x10 =>
    purK (fieldAddrA Tryz.prog 25 x1 2) fun x12 =>
    purK (loadA (cx ρ) H 4 x12) fun x13 =>
    resK (call lim 207 [x10] H) fun x11 H => bif (agn (loadA (cx ρ) H 4 x12) x13 && (agn (loadA (cx ρ) H 22 x7) x8 && true)) then
      resK (call lim 207 [x13] H) fun x14 H => bif (agn (loadA (cx ρ) H 22 x7) x8 && true) then
        mkK H (buildSliceA (cx ρ) H 31 3 [(0, x8), (1, x11), (2, x14)]) true fun x15 H => bif (agn (loadA (cx ρ) H 4 x12) x13 && (agn (loadA (cx ρ) H 4 x9) x10 && (agn (loadA (cx ρ) H 22 x7) x8 && true))) then
          resK (call lim 206 [x15, x16] H) fun x17 H =>
          purK (extA 0 x17) fun x18 =>
          purK (extA 1 x17) fun x19 =>
          retK [x18, x19] H
        else none
      else none
    else none)
theorem G132 (ρ : Addr → Option Value) (call : CallF) (yc : YieldF) (lim k : Nat) (x0 : AV) (H : Heap) :
    evL (cx ρ) call yc false 132 lim k c132 [x0, (.tup []), (.tup []), (.tup []), (.tup []), (.tup []), (.tup []), (.tup []), (.tup []), (.tup []), (.tup []), (.tup []), (.tup []), (.tup []), (.tup []), (.tup []), (.tup []), (.tup []), (.tup []), (.tup [])] H (kk none (fun s H => retK (([2, 3] : List Nat).map fun t => s.getD t (.tup [])) H) [] retK [2, 3]) = L132 ρ call yc lim k x0 H := by
  kernel_rfl
theorem E132 (ρ : Addr → Option Value) (k lim : Nat) (x0 : AV) (H : Heap) : evCall (cx ρ) (k + 1) lim 132 [x0] H = L132 ρ (evCall (cx ρ) k) (evCY (cx ρ) k).2 lim k x0 H := by
  rw [evCall_body (cx ρ) k lim 132 _ H Tryz.f132 c132 [2, 3] (by kernel_rfl) (by kernel_rfl) (by kernel_rfl) (by kernel_rfl) (by kernel_rfl)]
  exact G132 ρ (evCall (cx ρ) k) (evCY (cx ρ) k).2 lim k x0 H
-- slices.insertionSortCmpFunc[haycroft/api.Pair]
noncomputable def c133 : Code := Code.of Tryz.prog 133
noncomputable def N133_3 (ρ : Addr → Option Value) (call : CallF) (yc : YieldF) (lim k : Nat) (x0 x1 x2 x3 x8 : AV) (H : Heap) (kn : AV → AV → AV → AV → AV → Heap → Res) : Res :=
  purK (binA Tryz.prog H .add 3 x8 (.int .i64 1)) fun x16_1 =>
  kn x0 x1 x2 x3 x16_1 H
theorem N133_3_eq (ρ : Addr → Option Value) (call : CallF) (yc : YieldF) (lim k : Nat) (x0 x1 x2 x3 x8 : AV) (H : Heap) (kn : KS) (R : List AV → Heap → Res) :
    evL (cx ρ) call yc false 133 lim k (Code.at [1, 0, 0, 1, 1] c133) (sp 53 [(0, x0), (1, x1), (2, x2), (3, x3), (8, x8)]) H (kk (some [0, 1, 2, 3, 8]) kn [(0, none, (fun s H => R (([] : List Nat).map fun t => s.getD t (.tup [])) H))] R []) = N133_3 ρ call yc lim k x0 x1 x2 x3 x8 H (fun x0 x1 x2 x3 x8 H => kn (sp 53 [(0, x0), (1, x1), (2, x2), (3, x3), (8, x8)]) H) := by
  kernel_rfl
noncomputable def N133_5b (ρ : Addr → Option Value) (call : CallF) (yc : YieldF) (lim k : Nat) (x0 x1 x2 x3 x8 x9 : AV) (H : Heap) (kn : AV → AV → AV → AV → AV → AV → Heap → Res) (k2 : AV → AV → AV → AV → AV → Heap → Res) : Res :=
  purK (binA Tryz.prog H .gtr 3 x9 x1) fun x20_1 =>
  boolK (wantV x20_1 true) fun b1 => purK (bif b1 then some x3 else some (.tup [])) fun x22_1 =>
  boolK (wantV x20_1 true) fun b2 => purK (bif b2 then some x0 else some (.tup [])) fun x23_1 =>
  boolK (wantV x20_1 true) fun b3 => purK (bif b3 then some x9 else some (.tup [])) fun x24_1 =>
  boolK (wantV x20_1 true) fun b4 => purK (bif b4 then indexAddrA Tryz.prog 34 x23_1 x24_1 else some (.tup [])) fun x25_1 =>
  boolK (wantV x20_1 true) fun b5 => purK (bif b5 then loadA (cx ρ) H 80 x25_1 else some (.tup [])) fun x26_1 =>
  boolK (wantV x20_1 true) fun b6 => purK (bif b6 then some x0 else some (.tup [])) fun x27_1 =>
  boolK (wantV x20_1 true) fun b7 => purK (bif b7 then some x9 else some (.tup [])) fun x28_1 =>
  boolK (wantV x20_1 true) fun b8 => purK (bif b8 then binA Tryz.prog H .sub 3 x28_1 (.int .i64 1) else some (.tup [])) fun x29_1 =>
  boolK (wantV x20_1 true) fun b9 => purK (bif b9 then indexAddrA Tryz.prog 34 x27_1 x29_1 else some (.tup [])) fun x30_1 =>
  boolK (wantV x20_1 true) fun b10 => purK (bif b10 then loadA (cx ρ) H 80 x30_1 else some (.tup [])) fun x31_1 =>
  boolK (wantV x20_1 true) fun b11 => resK (gRes (some b11) H (valR call noY lim x22_1 [x26_1, x31_1] H)) fun x32_1 H => bif !b11 || ((!b10 || true) && ((!b8 || true) && ((!b5 || true) && true))) then
    purK (gPur (wantV x20_1 true) (binA Tryz.prog H .lss 3 x32_1 (.int .i64 0))) fun x33_1 =>
    purK (pickA x20_1 x33_1 (.bool false)) fun x34_1 =>
    condK x34_1
    (
      purK (binA Tryz.prog H .sub 3 x9 (.int .i64 1)) fun x41_1 =>
      purK (binA Tryz.prog H .sub 3 x9 (.int .i64 1)) fun x44_1 =>
      purK (indexAddrA Tryz.prog 34 x0 x44_1) fun x45_1 =>
      purK (loadA (cx ρ) H 80 x45_1) fun x46_1 =>
      purK (indexAddrA Tryz.prog 34 x0 x9) fun x49_1 =>
      purK (loadA (cx ρ) H 80 x49_1) fun x50_1 =>
      purK (indexAddrA Tryz.prog 34 x0 x9) fun x51_1 =>
      effK H ((storeA (cx ρ) lim H 80 x51_1 x46_1).map skips) fun _ H => bif (agn (binA Tryz.prog H .sub 3 x9 (.int .i64 1)) x41_1 && true) then
        purK (indexAddrA Tryz.prog 34 x0 x41_1) fun x52_1 =>
        effK H ((storeA (cx ρ) lim H 80 x52_1 x50_1).map skips) fun _ H =>
        purK (binA Tryz.prog H .sub 3 x9 (.int .i64 1)) fun x36_1 =>
        kn x0 x1 x2 x3 x8 x36_1 H
      else none)
    (
      k2 x0 x1 x2 x3 x8 H)
  else none
theorem N133_5b_eq (ρ : Addr → Option Value) (call : CallF) (yc : YieldF) (lim k : Nat) (x0 x1 x2 x3 x8 x9 : AV) (H : Heap) (kn : KS) (k2 : KS) (k1 : KS) (R : List AV → Heap → Res) :
    evL (cx ρ) call yc false 133 lim k (Code.at [1, 0, 0, 1, 0, 0, 1, 0, 0] c133) (sp 53 [(0, x0), (1, x1), (2, x2), (3, x3), (8, x8), (9, x9)]) H (kk (some [0, 1, 2, 3, 8, 9]) kn [(2, (some [0, 1, 2, 3, 8]), k2), (1, (some [0, 1, 2, 3, 8]), k1), (0, none, (fun s H => R (([] : List Nat).map fun t => s.getD t (.tup [])) H))] R []) = N133_5b ρ call yc lim k x0 x1 x2 x3 x8 x9 H (fun x0 x1 x2 x3 x8 x9 H => kn (sp 53 [(0, x0), (1, x1), (2, x2), (3, x3), (8, x8), (9, x9)]) H) (fun x0 x1 x2 x3 x8 H => k2 (sp 53 [(0, x0), (1, x1), (2, x2), (3, x3), (8, x8)]) H) := by
  kernel_rfl
noncomputable def N133_5 (ρ : Addr → Option Value) (call : CallF) (yc : YieldF) (lim k : Nat) (x0 x1 x2 x3 x8 x9 : AV) (H : Heap) (k2 : AV → AV → AV → AV → AV → Heap → Res) : Res :=
  loopL (fun (x : AV) H kn => N133_5b ρ call yc lim k x0 x1 x2 x3 x8 x H (fun _ _ _ _ _ x9 H => kn x9 H) k2) k x9 H
theorem N133_5_eq (ρ : Addr → Option Value) (call : CallF) (yc : YieldF) (lim k : Nat) (x0 x1 x2 x3 x8 x9 : AV) (H : Heap) (kn : KS) (k2 : KS) (k1 : KS) (R : List AV → Heap → Res) :
    evL (cx ρ) call yc false 133 lim k (Code.at [1, 0, 0, 1, 0, 0, 1, 0] c133) (sp 53 [(0, x0), (1, x1), (2, x2), (3, x3), (8, x8), (9, x9)]) H (kk (some [0, 1, 2, 3, 8]) kn [(2, (some [0, 1, 2, 3, 8]), k2), (1, (some [0, 1, 2, 3, 8]), k1), (0, none, (fun s H => R (([] : List Nat).map fun t => s.getD t (.tup [])) H))] R []) = N133_5 ρ call yc lim k x0 x1 x2 x3 x8 x9 H (fun x0 x1 x2 x3 x8 H => k2 (sp 53 [(0, x0), (1, x1), (2, x2), (3, x3), (8, x8)]) H) := by
  have e : Code.at [1, 0, 0, 1, 0, 0, 1, 0] c133 = .loop (Code.at [1, 0, 0, 1, 0, 0, 1, 0, 0] c133) := by kernel_rfl
  rw [e]
  unfold N133_5
  exact loop_node [0, 1, 2, 3, 8, 9] (fun x : AV => (sp 53 [(0, x0), (1, x1), (2, x2), (3, x3), (8, x8), (9, (x))])) (fun (x : AV) H kn => N133_5b ρ call yc lim k x0 x1 x2 x3 x8 x H (fun _ _ _ _ _ x9 H => kn x9 H) (fun x0 x1 x2 x3 x8 H => k2 (sp 53 [(0, x0), (1, x1), (2, x2), (3, x3), (8, x8)]) H)) (by kernel_rfl) (fun x => by kernel_rfl) (fun x H kn => N133_5b_eq ρ call yc lim k x0 x1 x2 x3 x8 (x) H kn k2 k1 R) x9 (sp 53 [(0, x0), (1, x1), (2, x2), (3, x3), (8, x8), (9, x9)]) H (by kernel_rfl)
noncomputable def N133_4 (ρ : Addr → Option Value) (call : CallF) (yc : YieldF) (lim k : Nat) (x0 x1 x2 x3 x8 x9 : AV) (H : Heap) (kn : AV → AV → AV → AV → AV → Heap → Res) : Res :=
  N133_5 ρ call yc lim k x0 x1 x2 x3 x8 x9 H kn
theorem N133_4_x (ρ : Addr → Option Value) (call : CallF) (yc : YieldF) (lim k : Nat) (J : CodeF) (x0 x1 x2 x3 x8 x9 : AV) (H : Heap) (kn : KS) (k1 : KS) (R : List AV → Heap → Res) :
    evX (cx ρ) call yc false 133 lim k J (Code.at [1, 0, 0, 1, 0, 0, 1] c133) (sp 53 [(0, x0), (1, x1), (2, x2), (3, x3), (8, x8), (9, x9)]) H (kk (some [0, 1, 2, 3, 8]) kn [(1, (some [0, 1, 2, 3, 8]), k1), (0, none, (fun s H => R (([] : List Nat).map fun t => s.getD t (.tup [])) H))] R []) =
  J (Code.at [1, 0, 0, 1, 0, 0, 1, 0] c133) (sp 53 [(0, x0), (1, x1), (2, x2), (3, x3), (8, x8), (9, x9)]) H (kk (some [0, 1, 2, 3, 8]) kn [(2, (some [0, 1, 2, 3, 8]), kn), (1, (some [0, 1, 2, 3, 8]), k1), (0, none, (fun s H => R (([] : List Nat).map fun t => s.getD t (.tup [])) H))] R []) := by
  kernel_rfl
theorem N133_4_eq (ρ : Addr → Option Value) (call : CallF) (yc : YieldF) (lim k : Nat) (x0 x1 x2 x3 x8 x9 : AV) (H : Heap) (kn : KS) (k1 : KS) (R : List AV → Heap → Res) :
    evL (cx ρ) call yc false 133 lim k (Code.at [1, 0, 0, 1, 0, 0, 1] c133) (sp 53 [(0, x0), (1, x1), (2, x2), (3, x3), (8, x8), (9, x9)]) H (kk (some [0, 1, 2, 3, 8]) kn [(1, (some [0, 1, 2, 3, 8]), k1), (0, none, (fun s H => R (([] : List Nat).map fun t => s.getD t (.tup [])) H))] R []) = N133_4 ρ call yc lim k x0 x1 x2 x3 x8 x9 H (fun x0 x1 x2 x3 x8 H => kn (sp 53 [(0, x0), (1, x1), (2, x2), (3, x3), (8, x8)]) H) := by
  rw [evL_X, N133_4_x]
  simp only [← evL_X, N133_4, N133_5_eq]
noncomputable def N133_2b (ρ : Addr → Option Value) (call : CallF) (yc : YieldF) (lim k : Nat) (x0 x1 x2 x3 x8 : AV) (H : Heap) (kn : AV → AV → AV → AV → AV → Heap → Res) (R : List AV → Heap → Res) : Res :=
  purK (binA Tryz.prog H .lss 3 x8 x2) fun x14_1 =>
  condK x14_1
  (
    N133_4 ρ call yc lim k x0 x1 x2 x3 x8 x8 H (fun x0_1 x1_1 x2_1 x3_1 x8_1 H =>
      N133_3 ρ call yc lim k x0_1 x1_1 x2_1 x3_1 x8_1 H kn))
  (
    R [] H)
theorem N133_2b_x (ρ : Addr → Option Value) (call : CallF) (yc : YieldF) (lim k : Nat) (J : CodeF) (x0 x1 x2 x3 x8 : AV) (H : Heap) (kn : KS) (R : List AV → Heap → Res) :
    evX (cx ρ) call yc false 133 lim k J (Code.at [1, 0, 0] c133) (sp 53 [(0, x0), (1, x1), (2, x2), (3, x3), (8, x8)]) H (kk (some [0, 1, 2, 3, 8]) kn [(0, none, (fun s H => R (([] : List Nat).map fun t => s.getD t (.tup [])) H))] R []) =
  purK (binA Tryz.prog H .lss 3 x8 x2) fun x14_1 =>
  condK x14_1
  (
    J (Code.at [1, 0, 0, 1, 0, 0, 1] c133) (sp 53 [(0, x0), (1, x1), (2, x2), (3, x3), (8, x8), (9, x8)]) H (kk (some [0, 1, 2, 3, 8]) (fun s H => J (Code.at [1, 0, 0, 1, 1] c133) s H (kk (some [0, 1, 2, 3, 8]) kn [(0, none, (fun s H => R (([] : List Nat).map fun t => s.getD t (.tup [])) H))] R [])) [(1, (some [0, 1, 2, 3, 8]), (fun s H => J (Code.at [1, 0, 0, 1, 1] c133) s H (kk (some [0, 1, 2, 3, 8]) kn [(0, none, (fun s H => R (([] : List Nat).map fun t => s.getD t (.tup [])) H))] R []))), (0, none, (fun s H => R (([] : List Nat).map fun t => s.getD t (.tup [])) H))] R []))
  (
    R [] H) := by
  kernel_rfl
theorem N133_2b_eq (ρ : Addr → Option Value) (call : CallF) (yc : YieldF) (lim k : Nat) (x0 x1 x2 x3 x8 : AV) (H : Heap) (kn : KS) (R : List AV → Heap → Res) :
    evL (cx ρ) call yc false 133 lim k (Code.at [1, 0, 0] c133) (sp 53 [(0, x0), (1, x1), (2, x2), (3, x3), (8, x8)]) H (kk (some [0, 1, 2, 3, 8]) kn [(0, none, (fun s H => R (([] : List Nat).map fun t => s.getD t (.tup [])) H))] R []) = N133_2b ρ call yc lim k x0 x1 x2 x3 x8 H (fun x0 x1 x2 x3 x8 H => kn (sp 53 [(0, x0), (1, x1), (2, x2), (3, x3), (8, x8)]) H) R := by
  rw [evL_X, N133_2b_x]
  simp only [← evL_X, N133_2b, N133_3_eq, N133_4_eq]
noncomputable def N133_2 (ρ : Addr → Option Value) (call : CallF) (yc : YieldF) (lim k : Nat) (x0 x1 x2 x3 x8 : AV) (H : Heap) (R : List AV → Heap → Res) : Res :=
  loopL (fun (x : AV) H kn => N133_2b ρ call yc lim k x0 x1 x2 x3 x H (fun _ _ _ _ x8 H => kn x8 H) R) k x8 H
theorem N133_2_eq (ρ : Addr → Option Value) (call : CallF) (yc : YieldF) (lim k : Nat) (x0 x1 x2 x3 x8 : AV) (H : Heap) (R : List AV → Heap → Res) :
    evL (cx ρ) call yc false 133 lim k (Code.at [1, 0] c133) (sp 53 [(0, x0), (1, x1), (2, x2), (3, x3), (8, x8)]) H (kk none (fun s H => R (([] : List Nat).map fun t => s.getD t (.tup [])) H) [(0, none, (fun s H => R (([] : List Nat).map fun t => s.getD t (.tup [])) H))] R []) = N133_2 ρ call yc lim k x0 x1 x2 x3 x8 H R := by
  have e : Code.at [1, 0] c133 = .loop (Code.at [1, 0, 0] c133) := by kernel_rfl
  rw [e]
  unfold N133_2
  exact loop_node [0, 1, 2, 3, 8] (fun x : AV => (sp 53 [(0, x0), (1, x1), (2, x2), (3, x3), (8, (x))])) (fun (x : AV) H kn => N133_2b ρ call yc lim k x0 x1 x2 x3 x H (fun _ _ _ _ x8 H => kn x8 H) R) (by kernel_rfl) (fun x => by kernel_rfl) (fun x H kn => N133_2b_eq ρ call yc lim k x0 x1 x2 x3 (x) H kn R) x8 (sp 53 [(0, x0), (1, x1), (2, x2), (3, x3), (8, x8)]) H (by kernel_rfl)
noncomputable def N133_1 (ρ : Addr → Option Value) (call : CallF) (yc : YieldF) (lim k : Nat) (x0 x1 x2 x3 x8 : AV) (H : Heap) (R : List AV → Heap → Res) : Res :=
  N133_2 ρ call yc lim k x0 x1 x2 x3 x8 H R
theorem N133_1_x (ρ : Addr → Option Value) (call : CallF) (yc : YieldF) (lim k : Nat) (J : CodeF) (x0 x1 x2 x3 x8 : AV) (H : Heap) (R : List AV → Heap → Res) :
    evX (cx ρ) call yc false 133 lim k J (Code.at [1] c133) (sp 53 [(0, x0), (1, x1), (2, x2), (3, x3), (8, x8)]) H (kk none (fun s H => R (([] : List Nat).map fun t => s.getD t (.tup [])) H) [] R []) =
  J (Code.at [1, 0] c133) (sp 53 [(0, x0), (1, x1), (2, x2), (3, x3), (8, x8)]) H (kk none (fun s H => R (([] : List Nat).map fun t => s.getD t (.tup [])) H) [(0, none, (fun s H => R (([] : List Nat).map fun t => s.getD t (.tup [])) H))] R []) := by
  kernel_rfl
theorem N133_1_eq (ρ : Addr → Option Value) (call : CallF) (yc : YieldF) (lim k : Nat) (x0 x1 x2 x3 x8 : AV) (H : Heap) (R : List AV → Heap → Res) :
    evL (cx ρ) call yc false 133 lim k (Code.at [1] c133) (sp 53 [(0, x0), (1, x1), (2, x2), (3, x3), (8, x8)]) H (kk none (fun s H => R (([] : List Nat).map fun t => s.getD t (.tup [])) H) [] R []) = N133_1 ρ call yc lim k x0 x1 x2 x3 x8 H R := by
  rw [evL_X, N133_1_x]
  simp only [← evL_X, N133_1, N133_2_eq]
noncomputable def L133 (ρ : Addr → Option Value) (call : CallF) (yc : YieldF) (lim k : Nat) (x0 x1 x2 x3 : AV) (H : Heap) : Res :=
  purK (binA Tryz.prog H .add 3 x1 (.int .i64 1)) fun x11 =>
  N133_1 ρ call yc lim k x0 x1 x2 x3 x11 H retK
theorem L133_x (ρ : Addr → Option Value) (call : CallF) (yc : YieldF) (lim k : Nat) (J : CodeF) (x0 x1 x2 x3 : AV) (H : Heap) :
    evX (cx ρ) call yc false 133 lim k J c133 [x0, x1, x2, x3, (.tup []), (.tup []), (.tup []), (.tup []), (.tup []), (.tup []), (.tup []), (.tup []), (.tup []), (.tup []), (.tup []), (.tup []), (.tup []), (.tup []), (.tup []), (.tup []), (.tup []), (.tup []), (.tup []), (.tup []), (.tup []), (.tup []), (.tup []), (.tup []), (.tup []), (.tup []), (.tup []), (.tup []), (.tup []), (.tup []), (.tup []), (.tup []), (.tup []), (.tup []), (.tup []), (.tup []), (.tup []), (.tup []), (.tup []), (.tup []), (.tup []), (.tup []), (.tup []), (.tup []), (.tup []), (.tup []), (.tup []), (.tup []), (.tup [])] H (kk none (fun s H => retK (([] : List Nat).map fun t => s.getD t (.tup [])) H) [] retK []) =
  purK (binA Tryz.prog H .add 3 x1 (.int .i64 1)) fun x11 =>
  J (Code.at [1] c133) (sp 53 [(0, x0), (1, x1), (2, x2), (3, x3), (8, x11)]) H (kk none (fun s H => retK (([] : List Nat).map fun t => s.getD t (.tup [])) H) [] retK []) := by
  kernel_rfl
theorem G133 (ρ : Addr → Option Value) (call : CallF) (yc : YieldF) (lim k : Nat) (x0 x1 x2 x3 : AV) (H : Heap) :
    evL (cx ρ) call yc false 133 lim k c133 [x0, x1, x2, x3, (.tup []), (.tup []), (.tup []), (.tup []), (.tup []), (.tup []), (.tup []), (.tup []), (.tup []), (.tup []), (.tup []), (.tup []), (.tup []), (.tup []), (.tup []), (.tup []), (.tup []), (.tup []), (.tup []), (.tup []), (.tup []), (.tup []), (.tup []), (.tup []), (.tup []), (.tup []), (.tup []), (.tup []), (.tup []), (.tup []), (.tup []), (.tup []), (.tup []), (.tup []), (.tup []), (.tup []), (.tup []), (.tup []), (.tup []), (.tup []), (.tup []), (.tup []), (.tup []), (.tup []), (.tup []), (.tup []), (.tup []), (.tup []), (.tup [])] H (kk none (fun s H => retK (([] : List Nat).map fun t => s.getD t (.tup [])) H) [] retK []) = L133 ρ call yc lim k x0 x1 x2 x3 H := by
  rw [evL_X, L133_x]
  simp only [← evL_X, L133, N133_1_eq]
theorem E133 (ρ : Addr → Option Value) (k lim : Nat) (x0 x1 x2 x3 : AV) (H : Heap) : evCall (cx ρ) (k + 1) lim 133 [x0, x1, x2, x3] H = L133 ρ (evCall (cx ρ) k) (evCY (cx ρ) k).2 lim k x0 x1 x2 x3 H := by
  rw [evCall_body (cx ρ) k lim 133 _ H Tryz.f133 c133 [] (by kernel_rfl) (by kernel_rfl) (by kernel_rfl) (by kernel_rfl) (by kernel_rfl)]
  exact G133 ρ (evCall (cx ρ) k) (evCY (cx ρ) k).2 lim k x0 x1 x2 x3 H
-- math/bits.Len64
noncomputable def c142 : Code := Code.of Tryz.prog 142
noncomputable def N142_3 (ρ : Addr → Option Value) (call : CallF) (yc : YieldF) (lim k : Nat) (x0 x2 : AV) (H : Heap) (R : List AV → Heap → Res) : Res :=
  purK (convXA (cx ρ) H 22 5 x0) fun x21_1 =>
  purK (indexA Tryz.prog 9 (.str (ByteArray.mk #[0, 1, 2, 2, 3, 3, 3, 3, 4, 4, 4, 4, 4, 4, 4, 4, 5, 5, 5, 5, 5, 5, 5, 5, 5, 5, 5, 5, 5, 5, 5, 5, 6, 6, 6, 6, 6, 6, 6, 6, 6, 6, 6, 6, 6, 6, 6, 6, 6, 6, 6, 6, 6, 6, 6, 6, 6, 6, 6, 6, 6, 6, 6, 6, 7, 7, 7, 7, 7, 7, 7, 7, 7, 7, 7, 7, 7, 7, 7, 7, 7, 7, 7, 7, 7, 7, 7, 7, 7, 7, 7, 7, 7, 7, 7, 7, 7, 7, 7, 7, 7, 7, 7, 7, 7, 7, 7, 7, 7, 7, 7, 7, 7, 7, 7, 7, 7, 7, 7, 7, 7, 7, 7, 7, 7, 7, 7, 7, 8, 8, 8, 8, 8, 8, 8, 8, 8, 8, 8, 8, 8, 8, 8, 8, 8, 8, 8, 8, 8, 8, 8, 8, 8, 8, 8, 8, 8, 8, 8, 8, 8, 8, 8, 8, 8, 8, 8, 8, 8, 8, 8, 8, 8, 8, 8, 8, 8, 8, 8, 8, 8, 8, 8, 8, 8, 8, 8, 8, 8, 8, 8, 8, 8, 8, 8, 8, 8, 8, 8, 8, 8, 8, 8, 8, 8, 8, 8, 8, 8, 8, 8, 8, 8, 8, 8, 8, 8, 8, 8, 8, 8, 8, 8, 8, 8, 8, 8, 8, 8, 8, 8, 8, 8, 8, 8, 8, 8, 8, 8, 8, 8, 8, 8, 8, 8, 8, 8, 8, 8, 8, 8, 8, 8, 8, 8, 8])) x21_1) fun x22_1 =>
  purK (convXA (cx ρ) H 5 3 x22_1) fun x23_1 =>
  purK (binA Tryz.prog H .add 3 x2 x23_1) fun x24_1 =>
  R [x24_1] H
theorem N142_3_eq (ρ : Addr → Option Value) (call : CallF) (yc : YieldF) (lim k : Nat) (x0 x2 : AV) (H : Heap) (R : List AV → Heap → Res) :
    evL (cx ρ) call yc false 142 lim k (Code.at [1, 1, 1, 1] c142) (sp 25 [(0, x0), (2, x2)]) H (kk none (fun s H => R (([2] : List Nat).map fun t => s.getD t (.tup [])) H) [] R [2]) = N142_3 ρ call yc lim k x0 x2 H R := by
  kernel_rfl
noncomputable def N142_2 (ρ : Addr → Option Value) (call : CallF) (yc : YieldF) (lim k : Nat) (x0 x2 : AV) (H : Heap) (R : List AV → Heap → Res) : Res :=
  purK (binA Tryz.prog H .geq 22 x0 (.int .u64 256)) fun x14_1 =>
  condK x14_1
  (
    purK (binA Tryz.prog H .shr 22 x0 (.int .u64 8)) fun x16_1 =>
    purK (binA Tryz.prog H .add 3 x2 (.int .i64 8)) fun x18_1 =>
    N142_3 ρ call yc lim k x16_1 x18_1 H R)
  (
    N142_3 ρ call yc lim k x0 x2 H R)
theorem N142_2_x (ρ : Addr → Option Value) (call : CallF) (yc : YieldF) (lim k : Nat) (J : CodeF) (x0 x2 : AV) (H : Heap) (R : List AV → Heap → Res) :
    evX (cx ρ) call yc false 142 lim k J (Code.at [1, 1, 1] c142) (sp 25 [(0, x0), (2, x2)]) H (kk none (fun s H => R (([2] : List Nat).map fun t => s.getD t (.tup [])) H) [] R [2]) =
  purK (binA Tryz.prog H .geq 22 x0 (.int .u64 256)) fun x14_1 =>
  condK x14_1
  (
    purK (binA Tryz.prog H .shr 22 x0 (.int .u64 8)) fun x16_1 =>
    purK (binA Tryz.prog H .add 3 x2 (.int .i64 8)) fun x18_1 =>
    J (Code.at [1, 1, 1, 1] c142) (sp 25 [(0, x16_1), (2, x18_1)]) H (kk none (fun s H => R (([2] : List Nat).map fun t => s.getD t (.tup [])) H) [] R [2]))
  (
    J (Code.at [1, 1, 1, 1] c142) (sp 25 [(0, x0), (2, x2)]) H (kk none (fun s H => R (([2] : List Nat).map fun t => s.getD t (.tup [])) H) [] R [2])) := by
  kernel_rfl
theorem N142_2_eq (ρ : Addr → Option Value) (call : CallF) (yc : YieldF) (lim k : Nat) (x0 x2 : AV) (H : Heap) (R : List AV → Heap → Res) :
    evL (cx ρ) call yc false 142 lim k (Code.at [1, 1, 1] c142) (sp 25 [(0, x0), (2, x2)]) H (kk none (fun s H => R (([2] : List Nat).map fun t => s.getD t (.tup [])) H) [] R [2]) = N142_2 ρ call yc lim k x0 x2 H R := by
  rw [evL_X, N142_2_x]
  simp only [← evL_X, N142_2, N142_3_eq]
noncomputable def N142_1 (ρ : Addr → Option Value) (call : CallF) (yc : YieldF) (lim k : Nat) (x0 x2 : AV) (H : Heap) (R : List AV → Heap → Res) : Res :=
  purK (binA Tryz.prog H .geq 22 x0 (.int .u64 65536)) fun x8_1 =>
  condK x8_1
  (
    purK (binA Tryz.prog H .shr 22 x0 (.int .u64 16)) fun x10_1 =>
    purK (binA Tryz.prog H .add 3 x2 (.int .i64 16)) fun x12_1 =>
    N142_2 ρ call yc lim k x10_1 x12_1 H R)
  (
    N142_2 ρ call yc lim k x0 x2 H R)
theorem N142_1_x (ρ : Addr → Option Value) (call : CallF) (yc : YieldF) (lim k : Nat) (J : CodeF) (x0 x2 : AV) (H : Heap) (R : List AV → Heap → Res) :
    evX (cx ρ) call yc false 142 lim k J (Code.at [1, 1] c142) (sp 25 [(0, x0), (2, x2)]) H (kk none (fun s H => R (([2] : List Nat).map fun t => s.getD t (.tup [])) H) [] R [2]) =
  purK (binA Tryz.prog H .geq 22 x0 (.int .u64 65536)) fun x8_1 =>
  condK x8_1
  (
    purK (binA Tryz.prog H .shr 22 x0 (.int .u64 16)) fun x10_1 =>
    purK (binA Tryz.prog H .add 3 x2 (.int .i64 16)) fun x12_1 =>
    J (Code.at [1, 1, 1] c142) (sp 25 [(0, x10_1), (2, x12_1)]) H (kk none (fun s H => R (([2] : List Nat).map fun t => s.getD t (.tup [])) H) [] R [2]))
  (
    J (Code.at [1, 1, 1] c142) (sp 25 [(0, x0), (2, x2)]) H (kk none (fun s H => R (([2] : List Nat).map fun t => s.getD t (.tup [])) H) [] R [2])) := by
  kernel_rfl
theorem N142_1_eq (ρ : Addr → Option Value) (call : CallF) (yc : YieldF) (lim k : Nat) (x0 x2 : AV) (H : Heap) (R : List AV → Heap → Res) :
    evL (cx ρ) call yc false 142 lim k (Code.at [1, 1] c142) (sp 25 [(0, x0), (2, x2)]) H (kk none (fun s H => R (([2] : List Nat).map fun t => s.getD t (.tup [])) H) [] R [2]) = N142_1 ρ call yc lim k x0 x2 H R := by
  rw [evL_X, N142_1_x]
  simp only [← evL_X, N142_1, N142_2_eq]
noncomputable def L142 (ρ : Addr → Option Value) (call : CallF) (yc : YieldF) (lim k : Nat) (x0 : AV) (H : Heap) : Res :=
  purK (binA Tryz.prog H .geq 22 x0 (.int .u64 4294967296)) fun x4 =>
  condK x4
  (
    purK (binA Tryz.prog H .shr 22 x0 (.int .u64 32)) fun x6 =>
    N142_1 ρ call yc lim k x6 (.int .i64 32) H retK)
  (
    N142_1 ρ call yc lim k x0 (.int .i64 0) H retK)
theorem L142_x (ρ : Addr → Option Value) (call : CallF) (yc : YieldF) (lim k : Nat) (J : CodeF) (x0 : AV) (H : Heap) :
    evX (cx ρ) call yc false 142 lim k J c142 [x0, (.tup []), (.tup []), (.tup []), (.tup []), (.tup []), (.tup []), (.tup []), (.tup []), (.tup []), (.tup []), (.tup []), (.tup []), (.tup []), (.tup []), (.tup []), (.tup []), (.tup []), (.tup []), (.tup []), (.tup []), (.tup []), (.tup []), (.tup []), (.tup [])] H (kk none (fun s H => retK (([2] : List Nat).map fun t => s.getD t (.tup [])) H) [] retK [2]) =
  purK (binA Tryz.prog H .geq 22 x0 (.int .u64 4294967296)) fun x4 =>
  condK x4
  (
    purK (binA Tryz.prog H .shr 22 x0 (.int .u64 32)) fun x6 =>
    J (Code.at [1, 1] c142) (sp 25 [(0, x6), (2, (.int .i64 32))]) H (kk none (fun s H => retK (([2] : List Nat).map fun t => s.getD t (.tup [])) H) [] retK [2]))
  (
    J (Code.at [1, 1] c142) (sp 25 [(0, x0), (2, (.int .i64 0))]) H (kk none (fun s H => retK (([2] : List Nat).map fun t => s.getD t (.tup [])) H) [] retK [2])) := by
  kernel_rfl
theorem G142 (ρ : Addr → Option Value) (call : CallF) (yc : YieldF) (lim k : Nat) (x0 : AV) (H : Heap) :
    evL (cx ρ) call yc false 142 lim k c142 [x0, (.tup []), (.tup []), (.tup []), (.tup []), (.tup []), (.tup []), (.tup []), (.tup []), (.tup []), (.tup []), (.tup []), (.tup []), (.tup []), (.tup []), (.tup []), (.tup []), (.tup []), (.tup []), (.tup []), (.tup []), (.tup []), (.tup []), (.tup []), (.tup [])] H (kk none (fun s H => retK (([2] : List Nat).map fun t => s.getD t (.tup [])) H) [] retK [2]) = L142 ρ call yc lim k x0 H := by
  rw [evL_X, L142_x]
  simp only [← evL_X, L142, N142_1_eq]
theorem E142 (ρ : Addr → Option Value) (k lim : Nat) (x0 : AV) (H : Heap) : evCall (cx ρ) (k + 1) lim 142 [x0] H = L142 ρ (evCall (cx ρ) k) (evCY (cx ρ) k).2 lim k x0 H := by
  rw [evCall_body (cx ρ) k lim 142 _ H Tryz.f142 c142 [2] (by kernel_rfl) (by kernel_rfl) (by kernel_rfl) (by kernel_rfl) (by kernel_rfl)]
  exact G142 ρ (evCall (cx ρ) k) (evCY (cx ρ) k).2 lim k x0 H
-- (*haycroft/tail.Tail).now
noncomputable def c144 : Code := Code.of Tryz.prog 144
noncomputable def L144 (ρ : Addr → Option Value) (call : CallF) (yc : YieldF) (lim k : Nat) (x0 : AV) (H : Heap) : Res :=
  purK (nilChkA x0) fun x6 =>
  purK (fieldAddrA Tryz.prog 307 x6 2) fun x7 =>
  purK (loadA (cx ρ) H 160 x7) fun x8 =>
  resK (call lim 84 [x8, (.int .i64 0)] H) fun x9 H =>
  purK (binA Tryz.prog H .shr 22 x9 (.int .u64 32)) fun x11 =>
  purK (convXA (cx ρ) H 22 3 x11) fun x12 =>
  resK (call lim 131 [(.int .i64 32)] H) fun x14 H =>
  purK (binA Tryz.prog H .and 22 x9 x14) fun x15 =>
  purK (convXA (cx ρ) H 22 3 x15) fun x16 =>
  retK [x12, x16] H
theorem G144 (ρ : Addr → Option Value) (call : CallF) (yc : YieldF) (lim k : Nat) (x0 : AV) (H : Heap) :
    evL (cx ρ) call yc false 144 lim k c144 [x0, (.tup []), (.tup []), (.tup []), (.tup []), (.tup []), (.tup []), (.tup []), (.tup []), (.tup []), (.tup []), (.tup []), (.tup []), (.tup []), (.tup []), (.tup []), (.tup [])] H (kk none (fun s H => retK (([2, 3] : List Nat).map fun t => s.getD t (.tup [])) H) [] retK [2, 3]) = L144 ρ call yc lim k x0 H := by
  kernel_rfl
theorem E144 (ρ : Addr → Option Value) (k lim : Nat) (x0 : AV) (H : Heap) : evCall (cx ρ) (k + 1) lim 144 [x0] H = L144 ρ (evCall (cx ρ) k) (evCY (cx ρ) k).2 lim k x0 H := by
  rw [evCall_body (cx ρ) k lim 144 _ H Tryz.f144 c144 [2, 3] (by kernel_rfl) (by kernel_rfl) (by kernel_rfl) (by kernel_rfl) (by kernel_rfl)]
  exact G144 ρ (evCall (cx ρ) k) (evCY (cx ρ) k).2 lim k x0 H
-- (*haycroft/index.Index).all
noncomputable def c145 : Code := Code.of Tryz.prog 145
noncomputable def L145 (ρ : Addr → Option Value) (call : CallF) (yc : YieldF) (lim k : Nat) (x0 : AV) (H : Heap) : Res :=
  purK (binA Tryz.prog H .eql 95 x0 .nilp) fun x4 =>
  condK x4
  (
    retK [(.int .i64 0)] H)
  (
    purK (nilChkA x0) fun x6 =>
    purK (fieldAddrA Tryz.prog 162 x6 0) fun x7 =>
    purK (loadA (cx ρ) H 3 x7) fun x8 =>
    purK (nilChkA x0) fun x10 =>
    purK (fieldAddrA Tryz.prog 162 x10 1) fun x11 =>
    purK (loadA (cx ρ) H 3 x11) fun x12 =>
    purK (binA Tryz.prog H .add 3 x8 x12) fun x13 =>
    retK [x13] H)
theorem G145 (ρ : Addr → Option Value) (call : CallF) (yc : YieldF) (lim k : Nat) (x0 : AV) (H : Heap) :
    evL (cx ρ) call yc false 145 lim k c145 [x0, (.tup []), (.tup []), (.tup []), (.tup []), (.tup []), (.tup []), (.tup []), (.tup []), (.tup []), (.tup []), (.tup []), (.tup []), (.tup [])] H (kk none (fun s H => retK (([2] : List Nat).map fun t => s.getD t (.tup [])) H) [] retK [2]) = L145 ρ call yc lim k x0 H := by
  kernel_rfl
theorem E145 (ρ : Addr → Option Value) (k lim : Nat) (x0 : AV) (H : Heap) : evCall (cx ρ) (k + 1) lim 145 [x0] H = L145 ρ (evCall (cx ρ) k) (evCY (cx ρ) k).2 lim k x0 H := by
  rw [evCall_body (cx ρ) k lim 145 _ H Tryz.f145 c145 [2] (by kernel_rfl) (by kernel_rfl) (by kernel_rfl) (by kernel_rfl) (by kernel_rfl)]
  exact G145 ρ (evCall (cx ρ) k) (evCY (cx ρ) k).2 lim k x0 H
-- (*haycroft/index.Index).link
noncomputable def c146 : Code := Code.of Tryz.prog 146
noncomputable def L146 (ρ : Addr → Option Value) (call : CallF) (yc : YieldF) (lim k : Nat) (x0 x1 : AV) (H : Heap) : Res :=
  purK (nilChkA x0) fun x8 =>
  purK (fieldAddrA Tryz.prog 162 x8 2) fun x9 =>
  purK (loadA (cx ρ) H 160 x9) fun x10 =>
  purK (binA Tryz.prog H .mul 3 x1 (.int .i64 8)) fun x12 =>
  purK (binA Tryz.prog H .add 3 x12 (.int .i64 7)) fun x13 =>
  resK (call lim 84 [x10, x13] H) fun x14 H =>
  purK (convXA (cx ρ) H 22 3 x14) fun x16 =>
  purK (binA Tryz.prog H .sub 3 x16 (.int .i64 1)) fun x17 =>
  purK (binA Tryz.prog H .gtr 22 x14 (.int .u64 0)) fun x19 =>
  retK [x17, x19] H
theorem G146 (ρ : Addr → Option Value) (call : CallF) (yc : YieldF) (lim k : Nat) (x0 x1 : AV) (H : Heap) :
    evL (cx ρ) call yc false 146 lim k c146 [x0, x1, (.tup []), (.tup []), (.tup []), (.tup []), (.tup []), (.tup []), (.tup []), (.tup []), (.tup []), (.tup []), (.tup []), (.tup []), (.tup []), (.tup []), (.tup []), (.tup []), (.tup []), (.tup [])] H (kk none (fun s H => retK (([4, 5] : List Nat).map fun t => s.getD t (.tup [])) H) [] retK [4, 5]) = L146 ρ call yc lim k x0 x1 H := by
  kernel_rfl
theorem E146 (ρ : Addr → Option Value) (k lim : Nat) (x0 x1 : AV) (H : Heap) : evCall (cx ρ) (k + 1) lim 146 [x0, x1] H = L146 ρ (evCall (cx ρ) k) (evCY (cx ρ) k).2 lim k x0 x1 H := by
  rw [evCall_body (cx ρ) k lim 146 _ H Tryz.f146 c146 [4, 5] (by kernel_rfl) (by kernel_rfl) (by kernel_rfl) (by kernel_rfl) (by kernel_rfl)]
  exact G146 ρ (evCall (cx ρ) k) (evCY (cx ρ) k).2 lim k x0 x1 H
-- (*haycroft/index.Index).slot
noncomputable def c147 : Code := Code.of Tryz.prog 147
noncomputable def L147 (ρ : Addr → Option Value) (call : CallF) (yc : YieldF) (lim k : Nat) (x0 x1 : AV) (H : Heap) : Res :=
  purK (binA Tryz.prog H .neq 95 x0 .nilp) fun x6 =>
  purK (gPur (wantV x6 true) (some x1)) fun x8 =>
  purK (gPur (wantV x6 true) (binA Tryz.prog H .geq 3 x8 (.int .i64 0))) fun x9 =>
  purK (pickA x6 x9 (.bool false)) fun x10 =>
  purK (gPur (wantV x10 true) (some x1)) fun x12 =>
  purK (gPur (wantV x10 true) (some x0)) fun x13 =>
  purK (gPur (wantV x10 true) (nilChkA x13)) fun x14 =>
  purK (gPur (wantV x10 true) (fieldAddrA Tryz.prog 162 x14 2)) fun x15 =>
  purK (gPur (wantV x10 true) (loadA (cx ρ) H 160 x15)) fun x16 =>
  resK (gRes (wantV x10 true) H (call lim 202 [x16] H)) fun x17 H =>
  purK (gPur (wantV x10 true) (binA Tryz.prog H .lss 3 x12 x17)) fun x18 =>
  purK (pickA x10 x18 (.bool false)) fun x19 =>
  purK (gPur (wantV x19 true) (some x1)) fun x21 =>
  purK (gPur (wantV x19 true) (binA Tryz.prog H .rem 3 x21 (.int .i64 8))) fun x22 =>
  purK (gPur (wantV x19 true) (binA Tryz.prog H .neq 3 x22 (.int .i64 7))) fun x23 =>
  purK (pickA x19 x23 (.bool false)) fun x24 =>
  retK [x24] H
theorem G147 (ρ : Addr → Option Value) (call : CallF) (yc : YieldF) (lim k : Nat) (x0 x1 : AV) (H : Heap) :
    evL (cx ρ) call yc false 147 lim k c147 [x0, x1, (.tup []), (.tup []), (.tup []), (.tup []), (.tup []), (.tup []), (.tup []), (.tup []), (.tup []), (.tup []), (.tup []), (.tup []), (.tup []), (.tup []), (.tup []), (.tup []), (.tup []), (.tup []), (.tup []), (.tup []), (.tup []), (.tup []), (.tup [])] H (kk none (fun s H => retK (([4] : List Nat).map fun t => s.getD t (.tup [])) H) [] retK [4]) = L147 ρ call yc lim k x0 x1 H := by
  kernel_rfl
theorem E147 (ρ : Addr → Option Value) (k lim : Nat) (x0 x1 : AV) (H : Heap) : evCall (cx ρ) (k + 1) lim 147 [x0, x1] H = L147 ρ (evCall (cx ρ) k) (evCY (cx ρ) k).2 lim k x0 x1 H := by
  rw [evCall_body (cx ρ) k lim 147 _ H Tryz.f147 c147 [4] (by kernel_rfl) (by kernel_rfl) (by kernel_rfl) (by kernel_rfl) (by kernel_rfl)]
  exact G147 ρ (evCall (cx ρ) k) (evCY (cx ρ) k).2 lim k x0 x1 H
-- (*haycroft/cell.Row).there
noncomputable def c149 : Code := Code.of Tryz.prog 149
noncomputable def L149 (ρ : Addr → Option Value) (call : CallF) (yc : YieldF) (lim k : Nat) (x0 x1 : AV) (H : Heap) : Res :=
  purK (binA Tryz.prog H .geq 3 x1 (.int .i64 0)) fun x6 =>
  purK (gPur (wantV x6 true) (some x1)) fun x8 =>
  purK (gPur (wantV x6 true) (some x0)) fun x9 =>
  resK (gRes (wantV x6 true) H (call lim 202 [x9] H)) fun x10 H =>
  purK (gPur (wantV x6 true) (binA Tryz.prog H .lss 3 x8 x10)) fun x11 =>
  purK (pickA x6 x11 (.bool false)) fun x12 =>
  retK [x12] H
theorem G149 (ρ : Addr → Option Value) (call : CallF) (yc : YieldF) (lim k : Nat) (x0 x1 : AV) (H : Heap) :
    evL (cx ρ) call yc false 149 lim k c149 [x0, x1, (.tup []), (.tup []), (.tup []), (.tup []), (.tup []), (.tup []), (.tup []), (.tup []), (.tup []), (.tup []), (.tup [])] H (kk none (fun s H => retK (([4] : List Nat).map fun t => s.getD t (.tup [])) H) [] retK [4]) = L149 ρ call yc lim k x0 x1 H := by
  kernel_rfl
theorem E149 (ρ : Addr → Option Value) (k lim : Nat) (x0 x1 : AV) (H : Heap) : evCall (cx ρ) (k + 1) lim 149 [x0, x1] H = L149 ρ (evCall (cx ρ) k) (evCY (cx ρ) k).2 lim k x0 x1 H := by
  rw [evCall_body (cx ρ) k lim 149 _ H Tryz.f149 c149 [4] (by kernel_rfl) (by kernel_rfl) (by kernel_rfl) (by kernel_rfl) (by kernel_rfl)]
  exact G149 ρ (evCall (cx ρ) k) (evCY (cx ρ) k).2 lim k x0 x1 H
end Go.Proofs.YtbnhlcgbigeceaaGreat
