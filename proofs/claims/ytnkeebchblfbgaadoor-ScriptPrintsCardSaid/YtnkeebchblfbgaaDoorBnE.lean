/- Part 5: Sc5 Sc6 Sc7 Sc8 Sc9 Sc10 Sc. -/
import Derived.Test.YtnkeebchblfbgaaDoorBnD
-- part Sc5
/- Functions, lifted. Printed by a program of this repo. -/
set_option linter.unusedVariables false
set_option linter.unusedSimpArgs false
set_option maxRecDepth 100000
set_option maxHeartbeats 4000000
namespace Go.Proofs.YtnkeebchblfbgaaDoor
open Go.Ev Go.RowKit
-- internal/stringslite.CutPrefix
noncomputable def c46 : Code := Code.of Tryd.prog 46
noncomputable def L46 (ρ : RO) (call : CallF) (yc : YieldF) (lim k : Nat) (x0 x1 : AV) (H : Heap) : Res :=
  resK (call lim 57 [x0, x1] H) fun x8 H =>
  purK (unA .not x8) fun x9 =>
  condK x9
  (
  retK [x0, (.bool false)] H)
  (
  purK (lenT x1) fun x13 =>
  purK (slT x0 (some x13) none) fun x14 =>
  retK [x14, (.bool true)] H)
theorem G46 (ρ : RO) (call : CallF) (yc : YieldF) (lim k : Nat) (x0 x1 : AV) (H : Heap) :
  evL (cx ρ) call yc false 46 lim k c46 [x0, x1, (.tup []), (.tup []), (.tup []), (.tup []), (.tup []), (.tup []), (.tup []), (.tup []), (.tup []), (.tup []), (.tup []), (.tup []), (.tup [])] H (kk none (fun s H => retK (([4, 5] : List Nat).map fun t => s.getD t (.tup [])) H) [] retK [4, 5]) = L46 ρ call yc lim k x0 x1 H := by
  kernel_rfl
theorem E46 (ρ : RO) (k lim : Nat) (x0 x1 : AV) (H : Heap) : evCall (cx ρ) (k + 1) lim 46 [x0, x1] H = L46 ρ (evCall (cx ρ) k) (evCY (cx ρ) k).2 lim k x0 x1 H := by
  rw [evCall_body (cx ρ) k lim 46 _ H Tryd.f46 c46 [4, 5] (by kernel_rfl) (by kernel_rfl) (by kernel_rfl) (by kernel_rfl) (by kernel_rfl)]
  exact G46 ρ (evCall (cx ρ) k) (evCY (cx ρ) k).2 lim k x0 x1 H
-- internal/stringslite.IndexByte
noncomputable def c47 : Code := Code.of Tryd.prog 47
noncomputable def L47 (ρ : RO) (call : CallF) (yc : YieldF) (lim k : Nat) (x0 x1 : AV) (H : Heap) : Res :=
  resK (call lim 58 [x0, x1] H) fun x7 H =>
  retK [x7] H
theorem G47 (ρ : RO) (call : CallF) (yc : YieldF) (lim k : Nat) (x0 x1 : AV) (H : Heap) :
  evL (cx ρ) call yc false 47 lim k c47 [x0, x1, (.tup []), (.tup []), (.tup []), (.tup []), (.tup []), (.tup [])] H (kk none (fun s H => retK (([4] : List Nat).map fun t => s.getD t (.tup [])) H) [] retK [4]) = L47 ρ call yc lim k x0 x1 H := by
  kernel_rfl
theorem E47 (ρ : RO) (k lim : Nat) (x0 x1 : AV) (H : Heap) : evCall (cx ρ) (k + 1) lim 47 [x0, x1] H = L47 ρ (evCall (cx ρ) k) (evCY (cx ρ) k).2 lim k x0 x1 H := by
  rw [evCall_body (cx ρ) k lim 47 _ H Tryd.f47 c47 [4] (by kernel_rfl) (by kernel_rfl) (by kernel_rfl) (by kernel_rfl) (by kernel_rfl)]
  exact G47 ρ (evCall (cx ρ) k) (evCY (cx ρ) k).2 lim k x0 x1 H
-- strconv.Itoa
noncomputable def c48 : Code := Code.of Tryd.prog 48
noncomputable def L48 (ρ : RO) (call : CallF) (yc : YieldF) (lim k : Nat) (x0 : AV) (H : Heap) : Res :=
  resK (call lim 59 [x0] H) fun x4 H =>
  retK [x4] H
theorem G48 (ρ : RO) (call : CallF) (yc : YieldF) (lim k : Nat) (x0 : AV) (H : Heap) :
  evL (cx ρ) call yc false 48 lim k c48 [x0, (.tup []), (.tup []), (.tup []), (.tup [])] H (kk none (fun s H => retK (([2] : List Nat).map fun t => s.getD t (.tup [])) H) [] retK [2]) = L48 ρ call yc lim k x0 H := by
  kernel_rfl
theorem E48 (ρ : RO) (k lim : Nat) (x0 : AV) (H : Heap) : evCall (cx ρ) (k + 1) lim 48 [x0] H = L48 ρ (evCall (cx ρ) k) (evCY (cx ρ) k).2 lim k x0 H := by
  rw [evCall_body (cx ρ) k lim 48 _ H Tryd.f48 c48 [2] (by kernel_rfl) (by kernel_rfl) (by kernel_rfl) (by kernel_rfl) (by kernel_rfl)]
  exact G48 ρ (evCall (cx ρ) k) (evCY (cx ρ) k).2 lim k x0 H
-- strconv.FormatUint
noncomputable def c49 : Code := Code.of Tryd.prog 49
noncomputable def L49 (ρ : RO) (call : CallF) (yc : YieldF) (lim k : Nat) (x0 x1 : AV) (H : Heap) : Res :=
  resK (call lim 60 [x0, x1] H) fun x7 H =>
  retK [x7] H
theorem G49 (ρ : RO) (call : CallF) (yc : YieldF) (lim k : Nat) (x0 x1 : AV) (H : Heap) :
  evL (cx ρ) call yc false 49 lim k c49 [x0, x1, (.tup []), (.tup []), (.tup []), (.tup []), (.tup []), (.tup [])] H (kk none (fun s H => retK (([4] : List Nat).map fun t => s.getD t (.tup [])) H) [] retK [4]) = L49 ρ call yc lim k x0 x1 H := by
  kernel_rfl
theorem E49 (ρ : RO) (k lim : Nat) (x0 x1 : AV) (H : Heap) : evCall (cx ρ) (k + 1) lim 49 [x0, x1] H = L49 ρ (evCall (cx ρ) k) (evCY (cx ρ) k).2 lim k x0 x1 H := by
  rw [evCall_body (cx ρ) k lim 49 _ H Tryd.f49 c49 [4] (by kernel_rfl) (by kernel_rfl) (by kernel_rfl) (by kernel_rfl) (by kernel_rfl)]
  exact G49 ρ (evCall (cx ρ) k) (evCY (cx ρ) k).2 lim k x0 x1 H
-- strings.Join
noncomputable def c50 : Code := Code.of Tryd.prog 50
noncomputable def N50_3 (ρ : RO) (call : CallF) (yc : YieldF) (lim k : Nat) (x8 : AV) (H : Heap) (R : KR) : Res :=
  resK (call lim 25 [x8] H) fun x74_1 H =>
  R [x74_1] H
theorem N50_3_eq (ρ : RO) (call : CallF) (yc : YieldF) (lim k : Nat) (x8 : AV) (H : Heap) (R : KR) :
  evL (cx ρ) call yc false 50 lim k (Code.at [1, 1, 1, 1, 1, 1, 1, 1, 1] c50) (sp 75 [(8, x8)]) H (kk none (fun s H => R (([4] : List Nat).map fun t => s.getD t (.tup [])) H) [] R [4]) = N50_3 ρ call yc lim k x8 H R := by
  kernel_rfl
noncomputable def N50_5b (ρ : RO) (call : CallF) (yc : YieldF) (lim k : Nat) (x1 x8 x63 x64 x65 : AV) (H : Heap) (kn : AV → Heap → Res) (k3 : AV → Heap → Res) : Res :=
  purK (binA Tryd.prog H .lss 3 x65 x64) fun x66_1 =>
  condK x66_1
  (
  purK (ixS 1 x63 x65) fun x67_1 =>
  purK (ld1 ρ H x67_1) fun x68_1 =>
  resK (call lim 24 [x8, x1] H) fun x70_1 H =>
  resK (call lim 24 [x8, x68_1] H) fun x72_1 H =>
  purK (binA Tryd.prog H .add 3 x65 (.int .i64 1)) fun x73_1 =>
  kn x73_1 H)
  (
  k3 x8 H)
theorem N50_5b_eq (ρ : RO) (call : CallF) (yc : YieldF) (lim k : Nat) (x1 x8 x63 x64 x65 : AV) (H : Heap) (kn : KS) (k3 : KS) (R : KR) :
  evL (cx ρ) call yc false 50 lim k (Code.at [1, 1, 1, 1, 1, 1, 1, 1, 0, 1, 0, 0] c50) (sp 75 [(1, x1), (8, x8), (63, x63), (64, x64), (65, x65)]) H (kk (some [1, 8, 63, 64, 65]) kn [(3, (some [8]), k3)] R [4]) = N50_5b ρ call yc lim k x1 x8 x63 x64 x65 H (fun x65 H => kn (sp 75 [(1, x1), (8, x8), (63, x63), (64, x64), (65, x65)]) H) (fun x8 H => k3 (sp 75 [(8, x8)]) H) := by
  kernel_rfl
noncomputable def N50_5 (ρ : RO) (call : CallF) (yc : YieldF) (lim k : Nat) (x1 x8 x63 x64 x65 : AV) (H : Heap) (k3 : AV → Heap → Res) : Res :=
  loopL (fun (x : AV) H kn => N50_5b ρ call yc lim k x1 x8 x63 x64 x H (fun x65 H => kn x65 H) k3) k x65 H
theorem N50_5_eq (ρ : RO) (call : CallF) (yc : YieldF) (lim k : Nat) (x1 x8 x63 x64 x65 : AV) (H : Heap) (kn : KS) (k3 : KS) (R : KR) :
  evL (cx ρ) call yc false 50 lim k (Code.at [1, 1, 1, 1, 1, 1, 1, 1, 0, 1, 0] c50) (sp 75 [(1, x1), (8, x8), (63, x63), (64, x64), (65, x65)]) H (kk (some [8]) kn [(3, (some [8]), k3)] R [4]) = N50_5 ρ call yc lim k x1 x8 x63 x64 x65 H (fun x8 H => k3 (sp 75 [(8, x8)]) H) := by
  have e : Code.at [1, 1, 1, 1, 1, 1, 1, 1, 0, 1, 0] c50 = .loop (Code.at [1, 1, 1, 1, 1, 1, 1, 1, 0, 1, 0, 0] c50) := by kernel_rfl
  rw [e]
  unfold N50_5
  exact loop_node [1, 8, 63, 64, 65] (fun x : AV => (sp 75 [(1, x1), (8, x8), (63, x63), (64, x64), (65, (x))])) (fun (x : AV) H kn => N50_5b ρ call yc lim k x1 x8 x63 x64 x H (fun x65 H => kn x65 H) (fun x8 H => k3 (sp 75 [(8, x8)]) H)) (by kernel_rfl) (fun x => by kernel_rfl) (fun x H kn => N50_5b_eq ρ call yc lim k x1 x8 x63 x64 (x) H kn k3 R) x65 (sp 75 [(1, x1), (8, x8), (63, x63), (64, x64), (65, x65)]) H (by kernel_rfl)
noncomputable def N50_4 (ρ : RO) (call : CallF) (yc : YieldF) (lim k : Nat) (x1 x8 x63 x64 x65 : AV) (H : Heap) (kn : AV → Heap → Res) : Res :=
  N50_5 ρ call yc lim k x1 x8 x63 x64 x65 H kn
theorem N50_4_x (ρ : RO) (call : CallF) (yc : YieldF) (lim k : Nat) (J : CodeF) (x1 x8 x63 x64 x65 : AV) (H : Heap) (kn : KS) (R : KR) :
  evX (cx ρ) call yc false 50 lim k J (Code.at [1, 1, 1, 1, 1, 1, 1, 1, 0, 1] c50) (sp 75 [(1, x1), (8, x8), (63, x63), (64, x64), (65, x65)]) H (kk (some [8]) kn [] R [4]) =
  J (Code.at [1, 1, 1, 1, 1, 1, 1, 1, 0, 1, 0] c50) (sp 75 [(1, x1), (8, x8), (63, x63), (64, x64), (65, x65)]) H (kk (some [8]) kn [(3, (some [8]), kn)] R [4]) := by
  kernel_rfl
theorem N50_4_eq (ρ : RO) (call : CallF) (yc : YieldF) (lim k : Nat) (x1 x8 x63 x64 x65 : AV) (H : Heap) (kn : KS) (R : KR) :
  evL (cx ρ) call yc false 50 lim k (Code.at [1, 1, 1, 1, 1, 1, 1, 1, 0, 1] c50) (sp 75 [(1, x1), (8, x8), (63, x63), (64, x64), (65, x65)]) H (kk (some [8]) kn [] R [4]) = N50_4 ρ call yc lim k x1 x8 x63 x64 x65 H (fun x8 H => kn (sp 75 [(8, x8)]) H) := by
  rw [evL_X, N50_4_x]
  simp only [← evL_X, N50_4, N50_5_eq]
noncomputable def N50_2 (ρ : RO) (call : CallF) (yc : YieldF) (lim k : Nat) (x0 x1 x5 : AV) (H : Heap) (R : KR) : Res :=
  effK H (some (.ptr H.sz 0 0, .new (newCells 54 false [.nilp, .nils]))) fun x8_1 H =>
  resK (call lim 61 [x8_1, x5] H) fun x57_1 H =>
  purK (ixS 1 x0 (.int .i64 0)) fun x59_1 =>
  purK (ld1 ρ H x59_1) fun x60_1 =>
  resK (call lim 24 [x8_1, x60_1] H) fun x61_1 H =>
  purK (slS 1 x0 (some (.int .i64 1)) none none) fun x63_1 =>
  purK (lenS x63_1) fun x64_1 =>
  N50_4 ρ call yc lim k x1 x8_1 x63_1 x64_1 (.int .i64 0) H (fun x8_2 H =>
  N50_3 ρ call yc lim k x8_2 H R)
theorem N50_2_x (ρ : RO) (call : CallF) (yc : YieldF) (lim k : Nat) (J : CodeF) (x0 x1 x5 : AV) (H : Heap) (R : KR) :
  evX (cx ρ) call yc false 50 lim k J (Code.at [1, 1, 1, 1, 1] c50) (sp 75 [(0, x0), (1, x1), (5, x5)]) H (kk none (fun s H => R (([4] : List Nat).map fun t => s.getD t (.tup [])) H) [] R [4]) =
  effK H (some (.ptr H.sz 0 0, .new (newCells 54 false [.nilp, .nils]))) fun x8_1 H =>
  resK (call lim 61 [x8_1, x5] H) fun x57_1 H =>
  purK (ixS 1 x0 (.int .i64 0)) fun x59_1 =>
  purK (ld1 ρ H x59_1) fun x60_1 =>
  resK (call lim 24 [x8_1, x60_1] H) fun x61_1 H =>
  purK (slS 1 x0 (some (.int .i64 1)) none none) fun x63_1 =>
  purK (lenS x63_1) fun x64_1 =>
  J (Code.at [1, 1, 1, 1, 1, 1, 1, 1, 0, 1] c50) (sp 75 [(1, x1), (8, x8_1), (63, x63_1), (64, x64_1), (65, (.int .i64 0))]) H (kk (some [8]) (fun s H => J (Code.at [1, 1, 1, 1, 1, 1, 1, 1, 1] c50) s H (kk none (fun s H => R (([4] : List Nat).map fun t => s.getD t (.tup [])) H) [] R [4])) [] R [4]) := by
  kernel_rfl
theorem N50_2_eq (ρ : RO) (call : CallF) (yc : YieldF) (lim k : Nat) (x0 x1 x5 : AV) (H : Heap) (R : KR) :
  evL (cx ρ) call yc false 50 lim k (Code.at [1, 1, 1, 1, 1] c50) (sp 75 [(0, x0), (1, x1), (5, x5)]) H (kk none (fun s H => R (([4] : List Nat).map fun t => s.getD t (.tup [])) H) [] R [4]) = N50_2 ρ call yc lim k x0 x1 x5 H R := by
  rw [evL_X, N50_2_x]
  simp only [← evL_X, N50_2, N50_3_eq, N50_4_eq]
noncomputable def N50_8 (ρ : RO) (call : CallF) (yc : YieldF) (lim k : Nat) (x0 x1 x5 x39 x40 x41 : AV) (H : Heap) (kn : AV → AV → Heap → Res) : Res :=
  purK (binA Tryd.prog H .add 3 x41 (.int .i64 1)) fun x55_1 =>
  kn x5 x55_1 H
theorem N50_8_eq (ρ : RO) (call : CallF) (yc : YieldF) (lim k : Nat) (x0 x1 x5 x39 x40 x41 : AV) (H : Heap) (kn : KS) (k1 : KS) (R : KR) :
  evL (cx ρ) call yc false 50 lim k (Code.at [1, 1, 1, 1, 0, 1, 0, 0, 1, 1, 1] c50) (sp 75 [(0, x0), (1, x1), (5, x5), (39, x39), (40, x40), (41, x41)]) H (kk (some [0, 1, 5, 39, 40, 41]) kn [(1, (some [0, 1, 5]), k1)] R [4]) = N50_8 ρ call yc lim k x0 x1 x5 x39 x40 x41 H (fun x5 x41 H => kn (sp 75 [(0, x0), (1, x1), (5, x5), (39, x39), (40, x40), (41, x41)]) H) := by
  kernel_rfl
noncomputable def N50_9 (ρ : RO) (call : CallF) (yc : YieldF) (lim k : Nat) (x0 x1 x5 x7 x39 x40 x41 : AV) (H : Heap) (kn : AV → AV → Heap → Res) : Res :=
  purK (lenT x7) fun x53_1 =>
  purK (binA Tryd.prog H .add 3 x5 x53_1) fun x54_1 =>
  kn x54_1 x41 H
theorem N50_9_eq (ρ : RO) (call : CallF) (yc : YieldF) (lim k : Nat) (x0 x1 x5 x7 x39 x40 x41 : AV) (H : Heap) (kn : KS) (k2 : KS) (k1 : KS) (R : KR) :
  evL (cx ρ) call yc false 50 lim k (Code.at [1, 1, 1, 1, 0, 1, 0, 0, 1, 1, 0, 0, 1, 1] c50) (sp 75 [(0, x0), (1, x1), (5, x5), (7, x7), (39, x39), (40, x40), (41, x41)]) H (kk (some [0, 1, 5, 39, 40, 41]) kn [(2, (some [0, 1, 5, 39, 40, 41]), k2), (1, (some [0, 1, 5]), k1)] R [4]) = N50_9 ρ call yc lim k x0 x1 x5 x7 x39 x40 x41 H (fun x5 x41 H => kn (sp 75 [(0, x0), (1, x1), (5, x5), (39, x39), (40, x40), (41, x41)]) H) := by
  kernel_rfl
noncomputable def N50_7b (ρ : RO) (call : CallF) (yc : YieldF) (lim k : Nat) (x0 x1 x5 x39 x40 x41 : AV) (H : Heap) (kn : AV → AV → Heap → Res) (k1 : AV → AV → AV → Heap → Res) : Res :=
  purK (binA Tryd.prog H .lss 3 x41 x40) fun x42_1 =>
  condK x42_1
  (
  purK (ixS 1 x39 x41) fun x43_1 =>
  purK (ld1 ρ H x43_1) fun x44_1 =>
  purK (lenT x44_1) fun x46_1 =>
  purK (binA Tryd.prog H .sub 3 (.int .i64 9223372036854775807) x5) fun x48_1 =>
  purK (binA Tryd.prog H .gtr 3 x46_1 x48_1) fun x49_1 =>
  condK x49_1
  (
  effK H (none) fun _ H =>
  N50_9 ρ call yc lim k x0 x1 x5 x44_1 x39 x40 x41 H (fun x5_1 x41_1 H =>
  N50_8 ρ call yc lim k x0 x1 x5_1 x39 x40 x41_1 H kn))
  (
  N50_9 ρ call yc lim k x0 x1 x5 x44_1 x39 x40 x41 H (fun x5_2 x41_2 H =>
  N50_8 ρ call yc lim k x0 x1 x5_2 x39 x40 x41_2 H kn)))
  (
  k1 x0 x1 x5 H)
theorem N50_7b_x (ρ : RO) (call : CallF) (yc : YieldF) (lim k : Nat) (J : CodeF) (x0 x1 x5 x39 x40 x41 : AV) (H : Heap) (kn : KS) (k1 : KS) (R : KR) :
  evX (cx ρ) call yc false 50 lim k J (Code.at [1, 1, 1, 1, 0, 1, 0, 0] c50) (sp 75 [(0, x0), (1, x1), (5, x5), (39, x39), (40, x40), (41, x41)]) H (kk (some [0, 1, 5, 39, 40, 41]) kn [(1, (some [0, 1, 5]), k1)] R [4]) =
  purK (binA Tryd.prog H .lss 3 x41 x40) fun x42_1 =>
  condK x42_1
  (
  purK (ixS 1 x39 x41) fun x43_1 =>
  purK (ld1 ρ H x43_1) fun x44_1 =>
  purK (lenT x44_1) fun x46_1 =>
  purK (binA Tryd.prog H .sub 3 (.int .i64 9223372036854775807) x5) fun x48_1 =>
  purK (binA Tryd.prog H .gtr 3 x46_1 x48_1) fun x49_1 =>
  condK x49_1
  (
  effK H (none) fun _ H =>
  J (Code.at [1, 1, 1, 1, 0, 1, 0, 0, 1, 1, 0, 0, 1, 1] c50) (sp 75 [(0, x0), (1, x1), (5, x5), (7, x44_1), (39, x39), (40, x40), (41, x41)]) H (kk (some [0, 1, 5, 39, 40, 41]) (fun s H => J (Code.at [1, 1, 1, 1, 0, 1, 0, 0, 1, 1, 1] c50) s H (kk (some [0, 1, 5, 39, 40, 41]) kn [(1, (some [0, 1, 5]), k1)] R [4])) [(2, (some [0, 1, 5, 39, 40, 41]), (fun s H => J (Code.at [1, 1, 1, 1, 0, 1, 0, 0, 1, 1, 1] c50) s H (kk (some [0, 1, 5, 39, 40, 41]) kn [(1, (some [0, 1, 5]), k1)] R [4]))), (1, (some [0, 1, 5]), k1)] R [4]))
  (
  J (Code.at [1, 1, 1, 1, 0, 1, 0, 0, 1, 1, 0, 0, 1, 1] c50) (sp 75 [(0, x0), (1, x1), (5, x5), (7, x44_1), (39, x39), (40, x40), (41, x41)]) H (kk (some [0, 1, 5, 39, 40, 41]) (fun s H => J (Code.at [1, 1, 1, 1, 0, 1, 0, 0, 1, 1, 1] c50) s H (kk (some [0, 1, 5, 39, 40, 41]) kn [(1, (some [0, 1, 5]), k1)] R [4])) [(2, (some [0, 1, 5, 39, 40, 41]), (fun s H => J (Code.at [1, 1, 1, 1, 0, 1, 0, 0, 1, 1, 1] c50) s H (kk (some [0, 1, 5, 39, 40, 41]) kn [(1, (some [0, 1, 5]), k1)] R [4]))), (1, (some [0, 1, 5]), k1)] R [4])))
  (
  k1 (sp 75 [(0, x0), (1, x1), (5, x5)]) H) := by
  kernel_rfl
theorem N50_7b_eq (ρ : RO) (call : CallF) (yc : YieldF) (lim k : Nat) (x0 x1 x5 x39 x40 x41 : AV) (H : Heap) (kn : KS) (k1 : KS) (R : KR) :
  evL (cx ρ) call yc false 50 lim k (Code.at [1, 1, 1, 1, 0, 1, 0, 0] c50) (sp 75 [(0, x0), (1, x1), (5, x5), (39, x39), (40, x40), (41, x41)]) H (kk (some [0, 1, 5, 39, 40, 41]) kn [(1, (some [0, 1, 5]), k1)] R [4]) = N50_7b ρ call yc lim k x0 x1 x5 x39 x40 x41 H (fun x5 x41 H => kn (sp 75 [(0, x0), (1, x1), (5, x5), (39, x39), (40, x40), (41, x41)]) H) (fun x0 x1 x5 H => k1 (sp 75 [(0, x0), (1, x1), (5, x5)]) H) := by
  rw [evL_X, N50_7b_x]
  simp only [← evL_X, N50_7b, N50_8_eq, N50_9_eq]
noncomputable def N50_7 (ρ : RO) (call : CallF) (yc : YieldF) (lim k : Nat) (x0 x1 x5 x39 x40 x41 : AV) (H : Heap) (k1 : AV → AV → AV → Heap → Res) : Res :=
  loopL (fun (x : AV × AV) H kn => N50_7b ρ call yc lim k x0 x1 x.1 x39 x40 x.2 H (fun x5 x41 H => kn (x5, x41) H) k1) k (x5, x41) H
theorem N50_7_eq (ρ : RO) (call : CallF) (yc : YieldF) (lim k : Nat) (x0 x1 x5 x39 x40 x41 : AV) (H : Heap) (kn : KS) (k1 : KS) (R : KR) :
  evL (cx ρ) call yc false 50 lim k (Code.at [1, 1, 1, 1, 0, 1, 0] c50) (sp 75 [(0, x0), (1, x1), (5, x5), (39, x39), (40, x40), (41, x41)]) H (kk (some [0, 1, 5]) kn [(1, (some [0, 1, 5]), k1)] R [4]) = N50_7 ρ call yc lim k x0 x1 x5 x39 x40 x41 H (fun x0 x1 x5 H => k1 (sp 75 [(0, x0), (1, x1), (5, x5)]) H) := by
  have e : Code.at [1, 1, 1, 1, 0, 1, 0] c50 = .loop (Code.at [1, 1, 1, 1, 0, 1, 0, 0] c50) := by kernel_rfl
  rw [e]
  unfold N50_7
  exact loop_node [0, 1, 5, 39, 40, 41] (fun x : AV × AV => (sp 75 [(0, x0), (1, x1), (5, (x.1)), (39, x39), (40, x40), (41, (x.2))])) (fun (x : AV × AV) H kn => N50_7b ρ call yc lim k x0 x1 x.1 x39 x40 x.2 H (fun x5 x41 H => kn (x5, x41) H) (fun x0 x1 x5 H => k1 (sp 75 [(0, x0), (1, x1), (5, x5)]) H)) (by kernel_rfl) (fun x => by kernel_rfl) (fun x H kn => N50_7b_eq ρ call yc lim k x0 x1 (x.1) x39 x40 (x.2) H kn k1 R) (x5, x41) (sp 75 [(0, x0), (1, x1), (5, x5), (39, x39), (40, x40), (41, x41)]) H (by kernel_rfl)
noncomputable def N50_6 (ρ : RO) (call : CallF) (yc : YieldF) (lim k : Nat) (x0 x1 x5 x39 x40 x41 : AV) (H : Heap) (kn : AV → AV → AV → Heap → Res) : Res :=
  N50_7 ρ call yc lim k x0 x1 x5 x39 x40 x41 H kn
theorem N50_6_x (ρ : RO) (call : CallF) (yc : YieldF) (lim k : Nat) (J : CodeF) (x0 x1 x5 x39 x40 x41 : AV) (H : Heap) (kn : KS) (R : KR) :
  evX (cx ρ) call yc false 50 lim k J (Code.at [1, 1, 1, 1, 0, 1] c50) (sp 75 [(0, x0), (1, x1), (5, x5), (39, x39), (40, x40), (41, x41)]) H (kk (some [0, 1, 5]) kn [] R [4]) =
  J (Code.at [1, 1, 1, 1, 0, 1, 0] c50) (sp 75 [(0, x0), (1, x1), (5, x5), (39, x39), (40, x40), (41, x41)]) H (kk (some [0, 1, 5]) kn [(1, (some [0, 1, 5]), kn)] R [4]) := by
  kernel_rfl
theorem N50_6_eq (ρ : RO) (call : CallF) (yc : YieldF) (lim k : Nat) (x0 x1 x5 x39 x40 x41 : AV) (H : Heap) (kn : KS) (R : KR) :
  evL (cx ρ) call yc false 50 lim k (Code.at [1, 1, 1, 1, 0, 1] c50) (sp 75 [(0, x0), (1, x1), (5, x5), (39, x39), (40, x40), (41, x41)]) H (kk (some [0, 1, 5]) kn [] R [4]) = N50_6 ρ call yc lim k x0 x1 x5 x39 x40 x41 H (fun x0 x1 x5 H => kn (sp 75 [(0, x0), (1, x1), (5, x5)]) H) := by
  rw [evL_X, N50_6_x]
  simp only [← evL_X, N50_6, N50_7_eq]
noncomputable def N50_1 (ρ : RO) (call : CallF) (yc : YieldF) (lim k : Nat) (x0 x1 x5 : AV) (H : Heap) (R : KR) : Res :=
  purK (lenS x0) fun x40_1 =>
  N50_6 ρ call yc lim k x0 x1 x5 x0 x40_1 (.int .i64 0) H (fun x0_1 x1_1 x5_1 H =>
  N50_2 ρ call yc lim k x0_1 x1_1 x5_1 H R)
theorem N50_1_x (ρ : RO) (call : CallF) (yc : YieldF) (lim k : Nat) (J : CodeF) (x0 x1 x5 : AV) (H : Heap) (R : KR) :
  evX (cx ρ) call yc false 50 lim k J (Code.at [1, 1, 1, 1] c50) (sp 75 [(0, x0), (1, x1), (5, x5)]) H (kk none (fun s H => R (([4] : List Nat).map fun t => s.getD t (.tup [])) H) [] R [4]) =
  purK (lenS x0) fun x40_1 =>
  J (Code.at [1, 1, 1, 1, 0, 1] c50) (sp 75 [(0, x0), (1, x1), (5, x5), (39, x0), (40, x40_1), (41, (.int .i64 0))]) H (kk (some [0, 1, 5]) (fun s H => J (Code.at [1, 1, 1, 1, 1] c50) s H (kk none (fun s H => R (([4] : List Nat).map fun t => s.getD t (.tup [])) H) [] R [4])) [] R [4]) := by
  kernel_rfl
theorem N50_1_eq (ρ : RO) (call : CallF) (yc : YieldF) (lim k : Nat) (x0 x1 x5 : AV) (H : Heap) (R : KR) :
  evL (cx ρ) call yc false 50 lim k (Code.at [1, 1, 1, 1] c50) (sp 75 [(0, x0), (1, x1), (5, x5)]) H (kk none (fun s H => R (([4] : List Nat).map fun t => s.getD t (.tup [])) H) [] R [4]) = N50_1 ρ call yc lim k x0 x1 x5 H R := by
  rw [evL_X, N50_1_x]
  simp only [← evL_X, N50_1, N50_2_eq, N50_6_eq]
noncomputable def N50_10 (ρ : RO) (call : CallF) (yc : YieldF) (lim k : Nat) (x0 x1 x5 : AV) (H : Heap) (kn : AV → AV → AV → Heap → Res) : Res :=
  purK (lenT x1) fun x33_1 =>
  purK (lenS x0) fun x35_1 =>
  purK (binA Tryd.prog H .sub 3 x35_1 (.int .i64 1)) fun x36_1 =>
  purK (binA Tryd.prog H .mul 3 x33_1 x36_1) fun x37_1 =>
  purK (binA Tryd.prog H .add 3 x5 x37_1) fun x38_1 =>
  kn x0 x1 x38_1 H
theorem N50_10_eq (ρ : RO) (call : CallF) (yc : YieldF) (lim k : Nat) (x0 x1 x5 : AV) (H : Heap) (kn : KS) (R : KR) :
  evL (cx ρ) call yc false 50 lim k (Code.at [1, 1, 1, 0, 1, 0, 1] c50) (sp 75 [(0, x0), (1, x1), (5, x5)]) H (kk (some [0, 1, 5]) kn [] R [4]) = N50_10 ρ call yc lim k x0 x1 x5 H (fun x0 x1 x5 H => kn (sp 75 [(0, x0), (1, x1), (5, x5)]) H) := by
  kernel_rfl
noncomputable def L50 (ρ : RO) (call : CallF) (yc : YieldF) (lim k : Nat) (x0 x1 : AV) (H : Heap) : Res :=
  purK (lenS x0) fun x12 =>
  purK (binA Tryd.prog H .eql 3 x12 (.int .i64 0)) fun x14 =>
  condK x14
  (
  retK [(.str (ByteArray.mk #[]))] H)
  (
  purK (binA Tryd.prog H .eql 3 x12 (.int .i64 1)) fun x16 =>
  condK x16
  (
  purK (ixS 1 x0 (.int .i64 0)) fun x18 =>
  purK (ld1 ρ H x18) fun x19 =>
  retK [x19] H)
  (
  purK (lenT x1) fun x21 =>
  purK (binA Tryd.prog H .gtr 3 x21 (.int .i64 0)) fun x22 =>
  condK x22
  (
  purK (lenT x1) fun x24 =>
  purK (lenS x0) fun x26 =>
  purK (binA Tryd.prog H .sub 3 x26 (.int .i64 1)) fun x27 =>
  purK (binA Tryd.prog H .quo 3 (.int .i64 9223372036854775807) x27) fun x28 =>
  purK (binA Tryd.prog H .geq 3 x24 x28) fun x29 =>
  condK x29
  (
  effK H (none) fun _ H =>
  N50_10 ρ call yc lim k x0 x1 (.int .i64 0) H (fun x0_1 x1_1 x5 H =>
  N50_1 ρ call yc lim k x0_1 x1_1 x5 H retK))
  (
  N50_10 ρ call yc lim k x0 x1 (.int .i64 0) H (fun x0_2 x1_2 x5_1 H =>
  N50_1 ρ call yc lim k x0_2 x1_2 x5_1 H retK)))
  (
  N50_1 ρ call yc lim k x0 x1 (.int .i64 0) H retK)))
theorem L50_x (ρ : RO) (call : CallF) (yc : YieldF) (lim k : Nat) (J : CodeF) (x0 x1 : AV) (H : Heap) :
  evX (cx ρ) call yc false 50 lim k J c50 [x0, x1, (.tup []), (.tup []), (.tup []), (.tup []), (.tup []), (.tup []), (.tup []), (.tup []), (.tup []), (.tup []), (.tup []), (.tup []), (.tup []), (.tup []), (.tup []), (.tup []), (.tup []), (.tup []), (.tup []), (.tup []), (.tup []), (.tup []), (.tup []), (.tup []), (.tup []), (.tup []), (.tup []), (.tup []), (.tup []), (.tup []), (.tup []), (.tup []), (.tup []), (.tup []), (.tup []), (.tup []), (.tup []), (.tup []), (.tup []), (.tup []), (.tup []), (.tup []), (.tup []), (.tup []), (.tup []), (.tup []), (.tup []), (.tup []), (.tup []), (.tup []), (.tup []), (.tup []), (.tup []), (.tup []), (.tup []), (.tup []), (.tup []), (.tup []), (.tup []), (.tup []), (.tup []), (.tup []), (.tup []), (.tup []), (.tup []), (.tup []), (.tup []), (.tup []), (.tup []), (.tup []), (.tup []), (.tup []), (.tup [])] H (kk none (fun s H => retK (([4] : List Nat).map fun t => s.getD t (.tup [])) H) [] retK [4]) =
  purK (lenS x0) fun x12 =>
  purK (binA Tryd.prog H .eql 3 x12 (.int .i64 0)) fun x14 =>
  condK x14
  (
  retK [(.str (ByteArray.mk #[]))] H)
  (
  purK (binA Tryd.prog H .eql 3 x12 (.int .i64 1)) fun x16 =>
  condK x16
  (
  purK (ixS 1 x0 (.int .i64 0)) fun x18 =>
  purK (ld1 ρ H x18) fun x19 =>
  retK [x19] H)
  (
  purK (lenT x1) fun x21 =>
  purK (binA Tryd.prog H .gtr 3 x21 (.int .i64 0)) fun x22 =>
  condK x22
  (
  purK (lenT x1) fun x24 =>
  purK (lenS x0) fun x26 =>
  purK (binA Tryd.prog H .sub 3 x26 (.int .i64 1)) fun x27 =>
  purK (binA Tryd.prog H .quo 3 (.int .i64 9223372036854775807) x27) fun x28 =>
  purK (binA Tryd.prog H .geq 3 x24 x28) fun x29 =>
  condK x29
  (
  effK H (none) fun _ H =>
  J (Code.at [1, 1, 1, 0, 1, 0, 1] c50) (sp 75 [(0, x0), (1, x1), (5, (.int .i64 0))]) H (kk (some [0, 1, 5]) (fun s H => J (Code.at [1, 1, 1, 1] c50) s H (kk none (fun s H => retK (([4] : List Nat).map fun t => s.getD t (.tup [])) H) [] retK [4])) [] retK [4]))
  (
  J (Code.at [1, 1, 1, 0, 1, 0, 1] c50) (sp 75 [(0, x0), (1, x1), (5, (.int .i64 0))]) H (kk (some [0, 1, 5]) (fun s H => J (Code.at [1, 1, 1, 1] c50) s H (kk none (fun s H => retK (([4] : List Nat).map fun t => s.getD t (.tup [])) H) [] retK [4])) [] retK [4])))
  (
  J (Code.at [1, 1, 1, 1] c50) (sp 75 [(0, x0), (1, x1), (5, (.int .i64 0))]) H (kk none (fun s H => retK (([4] : List Nat).map fun t => s.getD t (.tup [])) H) [] retK [4])))) := by
  kernel_rfl
theorem G50 (ρ : RO) (call : CallF) (yc : YieldF) (lim k : Nat) (x0 x1 : AV) (H : Heap) :
  evL (cx ρ) call yc false 50 lim k c50 [x0, x1, (.tup []), (.tup []), (.tup []), (.tup []), (.tup []), (.tup []), (.tup []), (.tup []), (.tup []), (.tup []), (.tup []), (.tup []), (.tup []), (.tup []), (.tup []), (.tup []), (.tup []), (.tup []), (.tup []), (.tup []), (.tup []), (.tup []), (.tup []), (.tup []), (.tup []), (.tup []), (.tup []), (.tup []), (.tup []), (.tup []), (.tup []), (.tup []), (.tup []), (.tup []), (.tup []), (.tup []), (.tup []), (.tup []), (.tup []), (.tup []), (.tup []), (.tup []), (.tup []), (.tup []), (.tup []), (.tup []), (.tup []), (.tup []), (.tup []), (.tup []), (.tup []), (.tup []), (.tup []), (.tup []), (.tup []), (.tup []), (.tup []), (.tup []), (.tup []), (.tup []), (.tup []), (.tup []), (.tup []), (.tup []), (.tup []), (.tup []), (.tup []), (.tup []), (.tup []), (.tup []), (.tup []), (.tup []), (.tup [])] H (kk none (fun s H => retK (([4] : List Nat).map fun t => s.getD t (.tup [])) H) [] retK [4]) = L50 ρ call yc lim k x0 x1 H := by
  rw [evL_X, L50_x]
  simp only [← evL_X, L50, N50_10_eq, N50_1_eq]
theorem E50 (ρ : RO) (k lim : Nat) (x0 x1 : AV) (H : Heap) : evCall (cx ρ) (k + 1) lim 50 [x0, x1] H = L50 ρ (evCall (cx ρ) k) (evCY (cx ρ) k).2 lim k x0 x1 H := by
  rw [evCall_body (cx ρ) k lim 50 _ H Tryd.f50 c50 [4] (by kernel_rfl) (by kernel_rfl) (by kernel_rfl) (by kernel_rfl) (by kernel_rfl)]
  exact G50 ρ (evCall (cx ρ) k) (evCY (cx ρ) k).2 lim k x0 x1 H
-- slices.Equal[[]int,int]
noncomputable def c51 : Code := Code.of Tryd.prog 51
noncomputable def N51_1 (ρ : RO) (call : CallF) (yc : YieldF) (lim k : Nat) (H : Heap) (R : KR) : Res :=
  R [(.bool true)] H
theorem N51_1_eq (ρ : RO) (call : CallF) (yc : YieldF) (lim k : Nat) (H : Heap) (R : KR) :
  evL (cx ρ) call yc false 51 lim k (Code.at [1, 1, 1] c51) (sp 26 []) H (kk none (fun s H => R (([4] : List Nat).map fun t => s.getD t (.tup [])) H) [] R [4]) = N51_1 ρ call yc lim k H R := by
  kernel_rfl
noncomputable def N51_3b (ρ : RO) (call : CallF) (yc : YieldF) (lim k : Nat) (x0 x1 x12 x13 : AV) (H : Heap) (kn : AV → Heap → Res) (k0 : Heap → Res) (R : KR) : Res :=
  purK (binA Tryd.prog H .lss 3 x13 x12) fun x14_1 =>
  condK x14_1
  (
  purK (ixS 1 x0 x13) fun x18_1 =>
  purK (ld1 ρ H x18_1) fun x19_1 =>
  purK (ixS 1 x1 x13) fun x22_1 =>
  purK (ld1 ρ H x22_1) fun x23_1 =>
  purK (binA Tryd.prog H .neq 3 x19_1 x23_1) fun x24_1 =>
  condK x24_1
  (
  R [(.bool false)] H)
  (
  purK (binA Tryd.prog H .add 3 x13 (.int .i64 1)) fun x25_1 =>
  kn x25_1 H))
  (
  k0 H)
theorem N51_3b_eq (ρ : RO) (call : CallF) (yc : YieldF) (lim k : Nat) (x0 x1 x12 x13 : AV) (H : Heap) (kn : KS) (k0 : KS) (R : KR) :
  evL (cx ρ) call yc false 51 lim k (Code.at [1, 1, 0, 1, 0, 0] c51) (sp 26 [(0, x0), (1, x1), (12, x12), (13, x13)]) H (kk (some [0, 1, 12, 13]) kn [(0, (some []), k0)] R [4]) = N51_3b ρ call yc lim k x0 x1 x12 x13 H (fun x13 H => kn (sp 26 [(0, x0), (1, x1), (12, x12), (13, x13)]) H) (fun H => k0 (sp 26 []) H) R := by
  kernel_rfl
noncomputable def N51_3 (ρ : RO) (call : CallF) (yc : YieldF) (lim k : Nat) (x0 x1 x12 x13 : AV) (H : Heap) (k0 : Heap → Res) (R : KR) : Res :=
  loopL (fun (x : AV) H kn => N51_3b ρ call yc lim k x0 x1 x12 x H (fun x13 H => kn x13 H) k0 R) k x13 H
theorem N51_3_eq (ρ : RO) (call : CallF) (yc : YieldF) (lim k : Nat) (x0 x1 x12 x13 : AV) (H : Heap) (kn : KS) (k0 : KS) (R : KR) :
  evL (cx ρ) call yc false 51 lim k (Code.at [1, 1, 0, 1, 0] c51) (sp 26 [(0, x0), (1, x1), (12, x12), (13, x13)]) H (kk (some []) kn [(0, (some []), k0)] R [4]) = N51_3 ρ call yc lim k x0 x1 x12 x13 H (fun H => k0 (sp 26 []) H) R := by
  have e : Code.at [1, 1, 0, 1, 0] c51 = .loop (Code.at [1, 1, 0, 1, 0, 0] c51) := by kernel_rfl
  rw [e]
  unfold N51_3
  exact loop_node [0, 1, 12, 13] (fun x : AV => (sp 26 [(0, x0), (1, x1), (12, x12), (13, (x))])) (fun (x : AV) H kn => N51_3b ρ call yc lim k x0 x1 x12 x H (fun x13 H => kn x13 H) (fun H => k0 (sp 26 []) H) R) (by kernel_rfl) (fun x => by kernel_rfl) (fun x H kn => N51_3b_eq ρ call yc lim k x0 x1 x12 (x) H kn k0 R) x13 (sp 26 [(0, x0), (1, x1), (12, x12), (13, x13)]) H (by kernel_rfl)
noncomputable def N51_2 (ρ : RO) (call : CallF) (yc : YieldF) (lim k : Nat) (x0 x1 x12 x13 : AV) (H : Heap) (kn : Heap → Res) (R : KR) : Res :=
  N51_3 ρ call yc lim k x0 x1 x12 x13 H kn R
theorem N51_2_x (ρ : RO) (call : CallF) (yc : YieldF) (lim k : Nat) (J : CodeF) (x0 x1 x12 x13 : AV) (H : Heap) (kn : KS) (R : KR) :
  evX (cx ρ) call yc false 51 lim k J (Code.at [1, 1, 0, 1] c51) (sp 26 [(0, x0), (1, x1), (12, x12), (13, x13)]) H (kk (some []) kn [] R [4]) =
  J (Code.at [1, 1, 0, 1, 0] c51) (sp 26 [(0, x0), (1, x1), (12, x12), (13, x13)]) H (kk (some []) kn [(0, (some []), kn)] R [4]) := by
  kernel_rfl
theorem N51_2_eq (ρ : RO) (call : CallF) (yc : YieldF) (lim k : Nat) (x0 x1 x12 x13 : AV) (H : Heap) (kn : KS) (R : KR) :
  evL (cx ρ) call yc false 51 lim k (Code.at [1, 1, 0, 1] c51) (sp 26 [(0, x0), (1, x1), (12, x12), (13, x13)]) H (kk (some []) kn [] R [4]) = N51_2 ρ call yc lim k x0 x1 x12 x13 H (fun H => kn (sp 26 []) H) R := by
  rw [evL_X, N51_2_x]
  simp only [← evL_X, N51_2, N51_3_eq]
noncomputable def L51 (ρ : RO) (call : CallF) (yc : YieldF) (lim k : Nat) (x0 x1 : AV) (H : Heap) : Res :=
  purK (lenS x0) fun x7 =>
  purK (lenS x1) fun x9 =>
  purK (binA Tryd.prog H .neq 3 x7 x9) fun x10 =>
  condK x10
  (
  retK [(.bool false)] H)
  (
  purK (lenS x0) fun x12 =>
  N51_2 ρ call yc lim k x0 x1 x12 (.int .i64 0) H (fun H =>
  N51_1 ρ call yc lim k H retK) retK)
theorem L51_x (ρ : RO) (call : CallF) (yc : YieldF) (lim k : Nat) (J : CodeF) (x0 x1 : AV) (H : Heap) :
  evX (cx ρ) call yc false 51 lim k J c51 [x0, x1, (.tup []), (.tup []), (.tup []), (.tup []), (.tup []), (.tup []), (.tup []), (.tup []), (.tup []), (.tup []), (.tup []), (.tup []), (.tup []), (.tup []), (.tup []), (.tup []), (.tup []), (.tup []), (.tup []), (.tup []), (.tup []), (.tup []), (.tup []), (.tup [])] H (kk none (fun s H => retK (([4] : List Nat).map fun t => s.getD t (.tup [])) H) [] retK [4]) =
  purK (lenS x0) fun x7 =>
  purK (lenS x1) fun x9 =>
  purK (binA Tryd.prog H .neq 3 x7 x9) fun x10 =>
  condK x10
  (
  retK [(.bool false)] H)
  (
  purK (lenS x0) fun x12 =>
  J (Code.at [1, 1, 0, 1] c51) (sp 26 [(0, x0), (1, x1), (12, x12), (13, (.int .i64 0))]) H (kk (some []) (fun s H => J (Code.at [1, 1, 1] c51) s H (kk none (fun s H => retK (([4] : List Nat).map fun t => s.getD t (.tup [])) H) [] retK [4])) [] retK [4])) := by
  kernel_rfl
theorem G51 (ρ : RO) (call : CallF) (yc : YieldF) (lim k : Nat) (x0 x1 : AV) (H : Heap) :
  evL (cx ρ) call yc false 51 lim k c51 [x0, x1, (.tup []), (.tup []), (.tup []), (.tup []), (.tup []), (.tup []), (.tup []), (.tup []), (.tup []), (.tup []), (.tup []), (.tup []), (.tup []), (.tup []), (.tup []), (.tup []), (.tup []), (.tup []), (.tup []), (.tup []), (.tup []), (.tup []), (.tup []), (.tup [])] H (kk none (fun s H => retK (([4] : List Nat).map fun t => s.getD t (.tup [])) H) [] retK [4]) = L51 ρ call yc lim k x0 x1 H := by
  rw [evL_X, L51_x]
  simp only [← evL_X, L51, N51_1_eq, N51_2_eq]
theorem E51 (ρ : RO) (k lim : Nat) (x0 x1 : AV) (H : Heap) : evCall (cx ρ) (k + 1) lim 51 [x0, x1] H = L51 ρ (evCall (cx ρ) k) (evCY (cx ρ) k).2 lim k x0 x1 H := by
  rw [evCall_body (cx ρ) k lim 51 _ H Tryd.f51 c51 [4] (by kernel_rfl) (by kernel_rfl) (by kernel_rfl) (by kernel_rfl) (by kernel_rfl)]
  exact G51 ρ (evCall (cx ρ) k) (evCY (cx ρ) k).2 lim k x0 x1 H
end Go.Proofs.YtnkeebchblfbgaaDoor

-- part Sc6
/- Functions, lifted. Printed by a program of this repo. -/
set_option linter.unusedVariables false
set_option linter.unusedSimpArgs false
set_option maxRecDepth 100000
set_option maxHeartbeats 4000000
namespace Go.Proofs.YtnkeebchblfbgaaDoor
open Go.Ev Go.RowKit
-- internal/stringslite.Index
noncomputable def c52 : Code := Code.of Tryd.prog 52
noncomputable def N52_4 (ρ : RO) (call : CallF) (yc : YieldF) (lim k : Nat) (H : Heap) (R : KR) : Res :=
  R [(.int .i64 (-1))] H
theorem N52_4_eq (ρ : RO) (call : CallF) (yc : YieldF) (lim k : Nat) (H : Heap) (R : KR) :
  evL (cx ρ) call yc false 52 lim k (Code.at [1, 1, 1, 1, 1, 1, 1, 1, 1] c52) (sp 143 []) H (kk none (fun s H => R (([4] : List Nat).map fun t => s.getD t (.tup [])) H) [] R [4]) = N52_4 ρ call yc lim k H R := by
  kernel_rfl
noncomputable def N52_8 (ρ : RO) (call : CallF) (yc : YieldF) (lim k : Nat) (H : Heap) (R : KR) : Res :=
  R [(.int .i64 (-1))] H
theorem N52_8_eq (ρ : RO) (call : CallF) (yc : YieldF) (lim k : Nat) (H : Heap) (kn : KS) (k2 : KS) (k1 : KS) (R : KR) :
  evL (cx ρ) call yc false 52 lim k (Code.at [1, 1, 1, 1, 1, 1, 1, 1, 0, 0, 0, 1, 0, 1, 1, 1, 1, 1, 0, 1, 1] c52) (sp 143 []) H (kk (some [0, 1, 5, 6, 7, 8, 9, 10]) kn [(2, (some [0, 1, 5, 6, 7, 8, 9, 10]), k2), (1, (some []), k1)] R [4]) = N52_8 ρ call yc lim k H R := by
  kernel_rfl
noncomputable def N52_9 (ρ : RO) (call : CallF) (yc : YieldF) (lim k : Nat) (x8 x12 x114 : AV) (H : Heap) (kn : Heap → Res) (R : KR) : Res :=
  condK x114
  (
  purK (binA Tryd.prog H .add 3 x12 x8) fun x117_1 =>
  R [x117_1] H)
  (
  kn H)
theorem N52_9_eq (ρ : RO) (call : CallF) (yc : YieldF) (lim k : Nat) (x8 x12 x114 : AV) (H : Heap) (kn : KS) (k2 : KS) (k1 : KS) (R : KR) :
  evL (cx ρ) call yc false 52 lim k (Code.at [1, 1, 1, 1, 1, 1, 1, 1, 0, 0, 0, 1, 0, 1, 1, 1, 1, 1, 0, 1, 0, 1] c52) (sp 143 [(8, x8), (12, x12), (114, x114)]) H (kk (some []) kn [(2, (some [0, 1, 5, 6, 7, 8, 9, 10]), k2), (1, (some []), k1)] R [4]) = N52_9 ρ call yc lim k x8 x12 x114 H (fun H => kn (sp 143 []) H) R := by
  kernel_rfl
noncomputable def N52_10 (ρ : RO) (call : CallF) (yc : YieldF) (lim k : Nat) (x0 x1 x5 x6 x7 x8 x9 x10 x132 : AV) (H : Heap) (kn : AV → AV → Heap → Res) (R : KR) : Res :=
  condK x132
  (
  purK (slT x0 (some x8) none) fun x135_1 =>
  resK (call lim 64 [x135_1, x1] H) fun x137_1 H =>
  purK (binA Tryd.prog H .lss 3 x137_1 (.int .i64 0)) fun x139_1 =>
  condK x139_1
  (
  R [(.int .i64 (-1))] H)
  (
  purK (binA Tryd.prog H .add 3 x8 x137_1) fun x142_1 =>
  R [x142_1] H))
  (
  kn x8 x10 H)
theorem N52_10_eq (ρ : RO) (call : CallF) (yc : YieldF) (lim k : Nat) (x0 x1 x5 x6 x7 x8 x9 x10 x132 : AV) (H : Heap) (kn : KS) (k2 : KS) (k1 : KS) (R : KR) :
  evL (cx ρ) call yc false 52 lim k (Code.at [1, 1, 1, 1, 1, 1, 1, 1, 0, 0, 0, 1, 0, 1, 1, 1, 1, 1, 1, 1] c52) (sp 143 [(0, x0), (1, x1), (5, x5), (6, x6), (7, x7), (8, x8), (9, x9), (10, x10), (132, x132)]) H (kk (some [0, 1, 5, 6, 7, 8, 9, 10]) kn [(2, (some [0, 1, 5, 6, 7, 8, 9, 10]), k2), (1, (some []), k1)] R [4]) = N52_10 ρ call yc lim k x0 x1 x5 x6 x7 x8 x9 x10 x132 H (fun x8 x10 H => kn (sp 143 [(0, x0), (1, x1), (5, x5), (6, x6), (7, x7), (8, x8), (9, x9), (10, x10)]) H) R := by
  kernel_rfl
noncomputable def N52_7 (ρ : RO) (call : CallF) (yc : YieldF) (lim k : Nat) (x0 x1 x5 x6 x7 x8 x9 x10 : AV) (H : Heap) (kn : AV → AV → Heap → Res) (R : KR) : Res :=
  purK (binA Tryd.prog H .add 3 x8 (.int .i64 1)) fun x96_1 =>
  purK (binA Tryd.prog H .add 3 x10 (.int .i64 1)) fun x98_1 =>
  purK (ld1 ρ H (.xp ⟨2, 0, none⟩)) fun x100_1 =>
  purK (binA Tryd.prog H .leq 3 x5 x100_1) fun x101_1 =>
  purK (gPur (wantV x101_1 true) (some x98_1)) fun x103_1 =>
  purK (gPur (wantV x101_1 true) (some x96_1)) fun x104_1 =>
  resK (gRes (wantV x101_1 true) H (call lim 63 [x104_1] H)) fun x105_1 H =>
  purK (gPur (wantV x101_1 true) (binA Tryd.prog H .gtr 3 x103_1 x105_1)) fun x106_1 =>
  purK (pickA x101_1 x106_1 (.bool false)) fun x107_1 =>
  condK x107_1
  (
  purK (slT x0 (some x96_1) none) fun x110_1 =>
  resK (call lim 62 [x110_1, x1] H) fun x112_1 H =>
  purK (binA Tryd.prog H .geq 3 x112_1 (.int .i64 0)) fun x114_1 =>
  N52_9 ρ call yc lim k x96_1 x112_1 x114_1 H (fun H =>
  N52_8 ρ call yc lim k H R) R)
  (
  purK (ld1 ρ H (.xp ⟨2, 0, none⟩)) fun x119_1 =>
  purK (binA Tryd.prog H .gtr 3 x5 x119_1) fun x120_1 =>
  purK (gPur (wantV x120_1 true) (some x98_1)) fun x122_1 =>
  purK (gPur (wantV x120_1 true) (some x96_1)) fun x123_1 =>
  purK (gPur (wantV x120_1 true) (binA Tryd.prog H .shr 3 x123_1 (.int .u64 4))) fun x124_1 =>
  purK (gPur (wantV x120_1 true) (binA Tryd.prog H .add 3 (.int .i64 4) x124_1)) fun x125_1 =>
  purK (gPur (wantV x120_1 true) (binA Tryd.prog H .geq 3 x122_1 x125_1)) fun x126_1 =>
  purK (pickA x120_1 x126_1 (.bool false)) fun x127_1 =>
  purK (gPur (wantV x127_1 true) (some x96_1)) fun x129_1 =>
  purK (gPur (wantV x127_1 true) (some x9)) fun x130_1 =>
  purK (gPur (wantV x127_1 true) (binA Tryd.prog H .lss 3 x129_1 x130_1)) fun x131_1 =>
  purK (pickA x127_1 x131_1 (.bool false)) fun x132_1 =>
  N52_10 ρ call yc lim k x0 x1 x5 x6 x7 x96_1 x9 x98_1 x132_1 H kn R)
theorem N52_7_x (ρ : RO) (call : CallF) (yc : YieldF) (lim k : Nat) (J : CodeF) (x0 x1 x5 x6 x7 x8 x9 x10 : AV) (H : Heap) (kn : KS) (k2 : KS) (k1 : KS) (R : KR) :
  evX (cx ρ) call yc false 52 lim k J (Code.at [1, 1, 1, 1, 1, 1, 1, 1, 0, 0, 0, 1, 0, 1, 1] c52) (sp 143 [(0, x0), (1, x1), (5, x5), (6, x6), (7, x7), (8, x8), (9, x9), (10, x10)]) H (kk (some [0, 1, 5, 6, 7, 8, 9, 10]) kn [(2, (some [0, 1, 5, 6, 7, 8, 9, 10]), k2), (1, (some []), k1)] R [4]) =
  purK (binA Tryd.prog H .add 3 x8 (.int .i64 1)) fun x96_1 =>
  purK (binA Tryd.prog H .add 3 x10 (.int .i64 1)) fun x98_1 =>
  purK (ld1 ρ H (.xp ⟨2, 0, none⟩)) fun x100_1 =>
  purK (binA Tryd.prog H .leq 3 x5 x100_1) fun x101_1 =>
  purK (gPur (wantV x101_1 true) (some x98_1)) fun x103_1 =>
  purK (gPur (wantV x101_1 true) (some x96_1)) fun x104_1 =>
  resK (gRes (wantV x101_1 true) H (call lim 63 [x104_1] H)) fun x105_1 H =>
  purK (gPur (wantV x101_1 true) (binA Tryd.prog H .gtr 3 x103_1 x105_1)) fun x106_1 =>
  purK (pickA x101_1 x106_1 (.bool false)) fun x107_1 =>
  condK x107_1
  (
  purK (slT x0 (some x96_1) none) fun x110_1 =>
  resK (call lim 62 [x110_1, x1] H) fun x112_1 H =>
  purK (binA Tryd.prog H .geq 3 x112_1 (.int .i64 0)) fun x114_1 =>
  J (Code.at [1, 1, 1, 1, 1, 1, 1, 1, 0, 0, 0, 1, 0, 1, 1, 1, 1, 1, 0, 1, 0, 1] c52) (sp 143 [(8, x96_1), (12, x112_1), (114, x114_1)]) H (kk (some []) (fun s H => J (Code.at [1, 1, 1, 1, 1, 1, 1, 1, 0, 0, 0, 1, 0, 1, 1, 1, 1, 1, 0, 1, 1] c52) s H (kk (some [0, 1, 5, 6, 7, 8, 9, 10]) kn [(2, (some [0, 1, 5, 6, 7, 8, 9, 10]), k2), (1, (some []), k1)] R [4])) [(2, (some [0, 1, 5, 6, 7, 8, 9, 10]), k2), (1, (some []), k1)] R [4]))
  (
  purK (ld1 ρ H (.xp ⟨2, 0, none⟩)) fun x119_1 =>
  purK (binA Tryd.prog H .gtr 3 x5 x119_1) fun x120_1 =>
  purK (gPur (wantV x120_1 true) (some x98_1)) fun x122_1 =>
  purK (gPur (wantV x120_1 true) (some x96_1)) fun x123_1 =>
  purK (gPur (wantV x120_1 true) (binA Tryd.prog H .shr 3 x123_1 (.int .u64 4))) fun x124_1 =>
  purK (gPur (wantV x120_1 true) (binA Tryd.prog H .add 3 (.int .i64 4) x124_1)) fun x125_1 =>
  purK (gPur (wantV x120_1 true) (binA Tryd.prog H .geq 3 x122_1 x125_1)) fun x126_1 =>
  purK (pickA x120_1 x126_1 (.bool false)) fun x127_1 =>
  purK (gPur (wantV x127_1 true) (some x96_1)) fun x129_1 =>
  purK (gPur (wantV x127_1 true) (some x9)) fun x130_1 =>
  purK (gPur (wantV x127_1 true) (binA Tryd.prog H .lss 3 x129_1 x130_1)) fun x131_1 =>
  purK (pickA x127_1 x131_1 (.bool false)) fun x132_1 =>
  J (Code.at [1, 1, 1, 1, 1, 1, 1, 1, 0, 0, 0, 1, 0, 1, 1, 1, 1, 1, 1, 1] c52) (sp 143 [(0, x0), (1, x1), (5, x5), (6, x6), (7, x7), (8, x96_1), (9, x9), (10, x98_1), (132, x132_1)]) H (kk (some [0, 1, 5, 6, 7, 8, 9, 10]) kn [(2, (some [0, 1, 5, 6, 7, 8, 9, 10]), k2), (1, (some []), k1)] R [4])) := by
  kernel_rfl
theorem N52_7_eq (ρ : RO) (call : CallF) (yc : YieldF) (lim k : Nat) (x0 x1 x5 x6 x7 x8 x9 x10 : AV) (H : Heap) (kn : KS) (k2 : KS) (k1 : KS) (R : KR) :
  evL (cx ρ) call yc false 52 lim k (Code.at [1, 1, 1, 1, 1, 1, 1, 1, 0, 0, 0, 1, 0, 1, 1] c52) (sp 143 [(0, x0), (1, x1), (5, x5), (6, x6), (7, x7), (8, x8), (9, x9), (10, x10)]) H (kk (some [0, 1, 5, 6, 7, 8, 9, 10]) kn [(2, (some [0, 1, 5, 6, 7, 8, 9, 10]), k2), (1, (some []), k1)] R [4]) = N52_7 ρ call yc lim k x0 x1 x5 x6 x7 x8 x9 x10 H (fun x8 x10 H => kn (sp 143 [(0, x0), (1, x1), (5, x5), (6, x6), (7, x7), (8, x8), (9, x9), (10, x10)]) H) R := by
  rw [evL_X, N52_7_x]
  simp only [← evL_X, N52_7, N52_10_eq, N52_8_eq, N52_9_eq]
noncomputable def N52_11 (ρ : RO) (call : CallF) (yc : YieldF) (lim k : Nat) (x0 x1 x5 x6 x7 x8 x9 x10 x93 : AV) (H : Heap) (kn : AV → AV → Heap → Res) (R : KR) : Res :=
  condK x93
  (
  R [x8] H)
  (
  kn x8 x10 H)
theorem N52_11_eq (ρ : RO) (call : CallF) (yc : YieldF) (lim k : Nat) (x0 x1 x5 x6 x7 x8 x9 x10 x93 : AV) (H : Heap) (kn : KS) (k2 : KS) (k1 : KS) (R : KR) :
  evL (cx ρ) call yc false 52 lim k (Code.at [1, 1, 1, 1, 1, 1, 1, 1, 0, 0, 0, 1, 0, 1, 0, 1] c52) (sp 143 [(0, x0), (1, x1), (5, x5), (6, x6), (7, x7), (8, x8), (9, x9), (10, x10), (93, x93)]) H (kk (some [0, 1, 5, 6, 7, 8, 9, 10]) kn [(2, (some [0, 1, 5, 6, 7, 8, 9, 10]), k2), (1, (some []), k1)] R [4]) = N52_11 ρ call yc lim k x0 x1 x5 x6 x7 x8 x9 x10 x93 H (fun x8 x10 H => kn (sp 143 [(0, x0), (1, x1), (5, x5), (6, x6), (7, x7), (8, x8), (9, x9), (10, x10)]) H) R := by
  kernel_rfl
noncomputable def N52_6 (ρ : RO) (call : CallF) (yc : YieldF) (lim k : Nat) (x0 x1 x5 x6 x7 x8 x9 x10 : AV) (H : Heap) (kn : AV → AV → Heap → Res) (R : KR) : Res :=
  purK (binA Tryd.prog H .add 3 x8 (.int .i64 1)) fun x80_1 =>
  purK (ixT x0 x80_1) fun x81_1 =>
  purK (binA Tryd.prog H .eql 5 x81_1 x7) fun x83_1 =>
  purK (gPur (wantV x83_1 true) (some x0)) fun x85_1 =>
  purK (gPur (wantV x83_1 true) (some x8)) fun x86_1 =>
  purK (gPur (wantV x83_1 true) (some x8)) fun x87_1 =>
  purK (gPur (wantV x83_1 true) (some x5)) fun x88_1 =>
  purK (gPur (wantV x83_1 true) (binA Tryd.prog H .add 3 x87_1 x88_1)) fun x89_1 =>
  purK (gPur (wantV x83_1 true) (slT x85_1 (some x86_1) (some x89_1))) fun x90_1 =>
  purK (gPur (wantV x83_1 true) (some x1)) fun x91_1 =>
  purK (gPur (wantV x83_1 true) (binA Tryd.prog H .eql 9 x90_1 x91_1)) fun x92_1 =>
  purK (pickA x83_1 x92_1 (.bool false)) fun x93_1 =>
  N52_11 ρ call yc lim k x0 x1 x5 x6 x7 x8 x9 x10 x93_1 H (fun x8_1 x10_1 H =>
  N52_7 ρ call yc lim k x0 x1 x5 x6 x7 x8_1 x9 x10_1 H kn R) R
theorem N52_6_x (ρ : RO) (call : CallF) (yc : YieldF) (lim k : Nat) (J : CodeF) (x0 x1 x5 x6 x7 x8 x9 x10 : AV) (H : Heap) (kn : KS) (k2 : KS) (k1 : KS) (R : KR) :
  evX (cx ρ) call yc false 52 lim k J (Code.at [1, 1, 1, 1, 1, 1, 1, 1, 0, 0, 0, 1, 0, 1] c52) (sp 143 [(0, x0), (1, x1), (5, x5), (6, x6), (7, x7), (8, x8), (9, x9), (10, x10)]) H (kk (some [0, 1, 5, 6, 7, 8, 9, 10]) kn [(2, (some [0, 1, 5, 6, 7, 8, 9, 10]), k2), (1, (some []), k1)] R [4]) =
  purK (binA Tryd.prog H .add 3 x8 (.int .i64 1)) fun x80_1 =>
  purK (ixT x0 x80_1) fun x81_1 =>
  purK (binA Tryd.prog H .eql 5 x81_1 x7) fun x83_1 =>
  purK (gPur (wantV x83_1 true) (some x0)) fun x85_1 =>
  purK (gPur (wantV x83_1 true) (some x8)) fun x86_1 =>
  purK (gPur (wantV x83_1 true) (some x8)) fun x87_1 =>
  purK (gPur (wantV x83_1 true) (some x5)) fun x88_1 =>
  purK (gPur (wantV x83_1 true) (binA Tryd.prog H .add 3 x87_1 x88_1)) fun x89_1 =>
  purK (gPur (wantV x83_1 true) (slT x85_1 (some x86_1) (some x89_1))) fun x90_1 =>
  purK (gPur (wantV x83_1 true) (some x1)) fun x91_1 =>
  purK (gPur (wantV x83_1 true) (binA Tryd.prog H .eql 9 x90_1 x91_1)) fun x92_1 =>
  purK (pickA x83_1 x92_1 (.bool false)) fun x93_1 =>
  J (Code.at [1, 1, 1, 1, 1, 1, 1, 1, 0, 0, 0, 1, 0, 1, 0, 1] c52) (sp 143 [(0, x0), (1, x1), (5, x5), (6, x6), (7, x7), (8, x8), (9, x9), (10, x10), (93, x93_1)]) H (kk (some [0, 1, 5, 6, 7, 8, 9, 10]) (fun s H => J (Code.at [1, 1, 1, 1, 1, 1, 1, 1, 0, 0, 0, 1, 0, 1, 1] c52) s H (kk (some [0, 1, 5, 6, 7, 8, 9, 10]) kn [(2, (some [0, 1, 5, 6, 7, 8, 9, 10]), k2), (1, (some []), k1)] R [4])) [(2, (some [0, 1, 5, 6, 7, 8, 9, 10]), k2), (1, (some []), k1)] R [4]) := by
  kernel_rfl
theorem N52_6_eq (ρ : RO) (call : CallF) (yc : YieldF) (lim k : Nat) (x0 x1 x5 x6 x7 x8 x9 x10 : AV) (H : Heap) (kn : KS) (k2 : KS) (k1 : KS) (R : KR) :
  evL (cx ρ) call yc false 52 lim k (Code.at [1, 1, 1, 1, 1, 1, 1, 1, 0, 0, 0, 1, 0, 1] c52) (sp 143 [(0, x0), (1, x1), (5, x5), (6, x6), (7, x7), (8, x8), (9, x9), (10, x10)]) H (kk (some [0, 1, 5, 6, 7, 8, 9, 10]) kn [(2, (some [0, 1, 5, 6, 7, 8, 9, 10]), k2), (1, (some []), k1)] R [4]) = N52_6 ρ call yc lim k x0 x1 x5 x6 x7 x8 x9 x10 H (fun x8 x10 H => kn (sp 143 [(0, x0), (1, x1), (5, x5), (6, x6), (7, x7), (8, x8), (9, x9), (10, x10)]) H) R := by
  rw [evL_X, N52_6_x]
  simp only [← evL_X, N52_6, N52_11_eq, N52_7_eq]
noncomputable def N52_5b (ρ : RO) (call : CallF) (yc : YieldF) (lim k : Nat) (x0 x1 x5 x6 x7 x8 x9 x10 : AV) (H : Heap) (kn : AV → AV → Heap → Res) (k1 : Heap → Res) (R : KR) : Res :=
  purK (binA Tryd.prog H .lss 3 x8 x9) fun x59_1 =>
  condK x59_1
  (
  purK (ixT x0 x8) fun x62_1 =>
  purK (binA Tryd.prog H .neq 5 x62_1 x6) fun x64_1 =>
  condK x64_1
  (
  purK (binA Tryd.prog H .add 3 x8 (.int .i64 1)) fun x67_1 =>
  purK (slT x0 (some x67_1) (some x9)) fun x69_1 =>
  resK (call lim 47 [x69_1, x6] H) fun x71_1 H =>
  purK (binA Tryd.prog H .lss 3 x71_1 (.int .i64 0)) fun x73_1 =>
  condK x73_1
  (
  R [(.int .i64 (-1))] H)
  (
  purK (binA Tryd.prog H .add 3 x71_1 (.int .i64 1)) fun x76_1 =>
  purK (binA Tryd.prog H .add 3 x8 x76_1) fun x77_1 =>
  N52_6 ρ call yc lim k x0 x1 x5 x6 x7 x77_1 x9 x10 H kn R))
  (
  N52_6 ρ call yc lim k x0 x1 x5 x6 x7 x8 x9 x10 H kn R))
  (
  k1 H)
theorem N52_5b_x (ρ : RO) (call : CallF) (yc : YieldF) (lim k : Nat) (J : CodeF) (x0 x1 x5 x6 x7 x8 x9 x10 : AV) (H : Heap) (kn : KS) (k1 : KS) (R : KR) :
  evX (cx ρ) call yc false 52 lim k J (Code.at [1, 1, 1, 1, 1, 1, 1, 1, 0, 0, 0] c52) (sp 143 [(0, x0), (1, x1), (5, x5), (6, x6), (7, x7), (8, x8), (9, x9), (10, x10)]) H (kk (some [0, 1, 5, 6, 7, 8, 9, 10]) kn [(1, (some []), k1)] R [4]) =
  purK (binA Tryd.prog H .lss 3 x8 x9) fun x59_1 =>
  condK x59_1
  (
  purK (ixT x0 x8) fun x62_1 =>
  purK (binA Tryd.prog H .neq 5 x62_1 x6) fun x64_1 =>
  condK x64_1
  (
  purK (binA Tryd.prog H .add 3 x8 (.int .i64 1)) fun x67_1 =>
  purK (slT x0 (some x67_1) (some x9)) fun x69_1 =>
  resK (call lim 47 [x69_1, x6] H) fun x71_1 H =>
  purK (binA Tryd.prog H .lss 3 x71_1 (.int .i64 0)) fun x73_1 =>
  condK x73_1
  (
  R [(.int .i64 (-1))] H)
  (
  purK (binA Tryd.prog H .add 3 x71_1 (.int .i64 1)) fun x76_1 =>
  purK (binA Tryd.prog H .add 3 x8 x76_1) fun x77_1 =>
  J (Code.at [1, 1, 1, 1, 1, 1, 1, 1, 0, 0, 0, 1, 0, 1] c52) (sp 143 [(0, x0), (1, x1), (5, x5), (6, x6), (7, x7), (8, x77_1), (9, x9), (10, x10)]) H (kk (some [0, 1, 5, 6, 7, 8, 9, 10]) kn [(2, (some [0, 1, 5, 6, 7, 8, 9, 10]), kn), (1, (some []), k1)] R [4])))
  (
  J (Code.at [1, 1, 1, 1, 1, 1, 1, 1, 0, 0, 0, 1, 0, 1] c52) (sp 143 [(0, x0), (1, x1), (5, x5), (6, x6), (7, x7), (8, x8), (9, x9), (10, x10)]) H (kk (some [0, 1, 5, 6, 7, 8, 9, 10]) kn [(2, (some [0, 1, 5, 6, 7, 8, 9, 10]), kn), (1, (some []), k1)] R [4])))
  (
  k1 (sp 143 []) H) := by
  kernel_rfl
theorem N52_5b_eq (ρ : RO) (call : CallF) (yc : YieldF) (lim k : Nat) (x0 x1 x5 x6 x7 x8 x9 x10 : AV) (H : Heap) (kn : KS) (k1 : KS) (R : KR) :
  evL (cx ρ) call yc false 52 lim k (Code.at [1, 1, 1, 1, 1, 1, 1, 1, 0, 0, 0] c52) (sp 143 [(0, x0), (1, x1), (5, x5), (6, x6), (7, x7), (8, x8), (9, x9), (10, x10)]) H (kk (some [0, 1, 5, 6, 7, 8, 9, 10]) kn [(1, (some []), k1)] R [4]) = N52_5b ρ call yc lim k x0 x1 x5 x6 x7 x8 x9 x10 H (fun x8 x10 H => kn (sp 143 [(0, x0), (1, x1), (5, x5), (6, x6), (7, x7), (8, x8), (9, x9), (10, x10)]) H) (fun H => k1 (sp 143 []) H) R := by
  rw [evL_X, N52_5b_x]
  simp only [← evL_X, N52_5b, N52_6_eq]
noncomputable def N52_5 (ρ : RO) (call : CallF) (yc : YieldF) (lim k : Nat) (x0 x1 x5 x6 x7 x8 x9 x10 : AV) (H : Heap) (k1 : Heap → Res) (R : KR) : Res :=
  loopL (fun (x : AV × AV) H kn => N52_5b ρ call yc lim k x0 x1 x5 x6 x7 x.1 x9 x.2 H (fun x8 x10 H => kn (x8, x10) H) k1 R) k (x8, x10) H
theorem N52_5_eq (ρ : RO) (call : CallF) (yc : YieldF) (lim k : Nat) (x0 x1 x5 x6 x7 x8 x9 x10 : AV) (H : Heap) (kn : KS) (k1 : KS) (R : KR) :
  evL (cx ρ) call yc false 52 lim k (Code.at [1, 1, 1, 1, 1, 1, 1, 1, 0, 0] c52) (sp 143 [(0, x0), (1, x1), (5, x5), (6, x6), (7, x7), (8, x8), (9, x9), (10, x10)]) H (kk (some []) kn [(1, (some []), k1)] R [4]) = N52_5 ρ call yc lim k x0 x1 x5 x6 x7 x8 x9 x10 H (fun H => k1 (sp 143 []) H) R := by
  have e : Code.at [1, 1, 1, 1, 1, 1, 1, 1, 0, 0] c52 = .loop (Code.at [1, 1, 1, 1, 1, 1, 1, 1, 0, 0, 0] c52) := by kernel_rfl
  rw [e]
  unfold N52_5
  exact loop_node [0, 1, 5, 6, 7, 8, 9, 10] (fun x : AV × AV => (sp 143 [(0, x0), (1, x1), (5, x5), (6, x6), (7, x7), (8, (x.1)), (9, x9), (10, (x.2))])) (fun (x : AV × AV) H kn => N52_5b ρ call yc lim k x0 x1 x5 x6 x7 x.1 x9 x.2 H (fun x8 x10 H => kn (x8, x10) H) (fun H => k1 (sp 143 []) H) R) (by kernel_rfl) (fun x => by kernel_rfl) (fun x H kn => N52_5b_eq ρ call yc lim k x0 x1 x5 x6 x7 (x.1) x9 (x.2) H kn k1 R) (x8, x10) (sp 143 [(0, x0), (1, x1), (5, x5), (6, x6), (7, x7), (8, x8), (9, x9), (10, x10)]) H (by kernel_rfl)
noncomputable def N52_3 (ρ : RO) (call : CallF) (yc : YieldF) (lim k : Nat) (x0 x1 x5 x6 x7 x8 x9 x10 : AV) (H : Heap) (R : KR) : Res :=
  N52_5 ρ call yc lim k x0 x1 x5 x6 x7 x8 x9 x10 H (fun H =>
  N52_4 ρ call yc lim k H R) R
theorem N52_3_x (ρ : RO) (call : CallF) (yc : YieldF) (lim k : Nat) (J : CodeF) (x0 x1 x5 x6 x7 x8 x9 x10 : AV) (H : Heap) (R : KR) :
  evX (cx ρ) call yc false 52 lim k J (Code.at [1, 1, 1, 1, 1, 1, 1, 1] c52) (sp 143 [(0, x0), (1, x1), (5, x5), (6, x6), (7, x7), (8, x8), (9, x9), (10, x10)]) H (kk none (fun s H => R (([4] : List Nat).map fun t => s.getD t (.tup [])) H) [] R [4]) =
  J (Code.at [1, 1, 1, 1, 1, 1, 1, 1, 0, 0] c52) (sp 143 [(0, x0), (1, x1), (5, x5), (6, x6), (7, x7), (8, x8), (9, x9), (10, x10)]) H (kk (some []) (fun s H => J (Code.at [1, 1, 1, 1, 1, 1, 1, 1, 1] c52) s H (kk none (fun s H => R (([4] : List Nat).map fun t => s.getD t (.tup [])) H) [] R [4])) [(1, (some []), (fun s H => J (Code.at [1, 1, 1, 1, 1, 1, 1, 1, 1] c52) s H (kk none (fun s H => R (([4] : List Nat).map fun t => s.getD t (.tup [])) H) [] R [4])))] R [4]) := by
  kernel_rfl
theorem N52_3_eq (ρ : RO) (call : CallF) (yc : YieldF) (lim k : Nat) (x0 x1 x5 x6 x7 x8 x9 x10 : AV) (H : Heap) (R : KR) :
  evL (cx ρ) call yc false 52 lim k (Code.at [1, 1, 1, 1, 1, 1, 1, 1] c52) (sp 143 [(0, x0), (1, x1), (5, x5), (6, x6), (7, x7), (8, x8), (9, x9), (10, x10)]) H (kk none (fun s H => R (([4] : List Nat).map fun t => s.getD t (.tup [])) H) [] R [4]) = N52_3 ρ call yc lim k x0 x1 x5 x6 x7 x8 x9 x10 H R := by
  rw [evL_X, N52_3_x]
  simp only [← evL_X, N52_3, N52_4_eq, N52_5_eq]
noncomputable def N52_2 (ρ : RO) (call : CallF) (yc : YieldF) (lim k : Nat) (x0 x1 x5 x6 x7 : AV) (H : Heap) (R : KR) : Res :=
  purK (lenT x0) fun x53_1 =>
  purK (binA Tryd.prog H .sub 3 x53_1 x5) fun x55_1 =>
  purK (binA Tryd.prog H .add 3 x55_1 (.int .i64 1)) fun x56_1 =>
  N52_3 ρ call yc lim k x0 x1 x5 x6 x7 (.int .i64 0) x56_1 (.int .i64 0) H R
theorem N52_2_x (ρ : RO) (call : CallF) (yc : YieldF) (lim k : Nat) (J : CodeF) (x0 x1 x5 x6 x7 : AV) (H : Heap) (R : KR) :
  evX (cx ρ) call yc false 52 lim k J (Code.at [1, 1, 1, 1, 1] c52) (sp 143 [(0, x0), (1, x1), (5, x5), (6, x6), (7, x7)]) H (kk none (fun s H => R (([4] : List Nat).map fun t => s.getD t (.tup [])) H) [] R [4]) =
  purK (lenT x0) fun x53_1 =>
  purK (binA Tryd.prog H .sub 3 x53_1 x5) fun x55_1 =>
  purK (binA Tryd.prog H .add 3 x55_1 (.int .i64 1)) fun x56_1 =>
  J (Code.at [1, 1, 1, 1, 1, 1, 1, 1] c52) (sp 143 [(0, x0), (1, x1), (5, x5), (6, x6), (7, x7), (8, (.int .i64 0)), (9, x56_1), (10, (.int .i64 0))]) H (kk none (fun s H => R (([4] : List Nat).map fun t => s.getD t (.tup [])) H) [] R [4]) := by
  kernel_rfl
theorem N52_2_eq (ρ : RO) (call : CallF) (yc : YieldF) (lim k : Nat) (x0 x1 x5 x6 x7 : AV) (H : Heap) (R : KR) :
  evL (cx ρ) call yc false 52 lim k (Code.at [1, 1, 1, 1, 1] c52) (sp 143 [(0, x0), (1, x1), (5, x5), (6, x6), (7, x7)]) H (kk none (fun s H => R (([4] : List Nat).map fun t => s.getD t (.tup [])) H) [] R [4]) = N52_2 ρ call yc lim k x0 x1 x5 x6 x7 H R := by
  rw [evL_X, N52_2_x]
  simp only [← evL_X, N52_2, N52_3_eq]
noncomputable def N52_1 (ρ : RO) (call : CallF) (yc : YieldF) (lim k : Nat) (x0 x1 x5 : AV) (H : Heap) (R : KR) : Res :=
  purK (ixT x1 (.int .i64 0)) fun x49_1 =>
  purK (ixT x1 (.int .i64 1)) fun x51_1 =>
  N52_2 ρ call yc lim k x0 x1 x5 x49_1 x51_1 H R
theorem N52_1_x (ρ : RO) (call : CallF) (yc : YieldF) (lim k : Nat) (J : CodeF) (x0 x1 x5 : AV) (H : Heap) (R : KR) :
  evX (cx ρ) call yc false 52 lim k J (Code.at [1, 1, 1] c52) (sp 143 [(0, x0), (1, x1), (5, x5)]) H (kk none (fun s H => R (([4] : List Nat).map fun t => s.getD t (.tup [])) H) [] R [4]) =
  purK (ixT x1 (.int .i64 0)) fun x49_1 =>
  purK (ixT x1 (.int .i64 1)) fun x51_1 =>
  J (Code.at [1, 1, 1, 1, 1] c52) (sp 143 [(0, x0), (1, x1), (5, x5), (6, x49_1), (7, x51_1)]) H (kk none (fun s H => R (([4] : List Nat).map fun t => s.getD t (.tup [])) H) [] R [4]) := by
  kernel_rfl
theorem N52_1_eq (ρ : RO) (call : CallF) (yc : YieldF) (lim k : Nat) (x0 x1 x5 : AV) (H : Heap) (R : KR) :
  evL (cx ρ) call yc false 52 lim k (Code.at [1, 1, 1] c52) (sp 143 [(0, x0), (1, x1), (5, x5)]) H (kk none (fun s H => R (([4] : List Nat).map fun t => s.getD t (.tup [])) H) [] R [4]) = N52_1 ρ call yc lim k x0 x1 x5 H R := by
  rw [evL_X, N52_1_x]
  simp only [← evL_X, N52_1, N52_2_eq]
noncomputable def N52_12 (ρ : RO) (call : CallF) (yc : YieldF) (lim k : Nat) (x0 x1 x5 x36 : AV) (H : Heap) (kn : AV → AV → AV → Heap → Res) (R : KR) : Res :=
  condK x36
  (
  resK (call lim 62 [x0, x1] H) fun x47_1 H =>
  R [x47_1] H)
  (
  kn x0 x1 x5 H)
theorem N52_12_eq (ρ : RO) (call : CallF) (yc : YieldF) (lim k : Nat) (x0 x1 x5 x36 : AV) (H : Heap) (kn : KS) (k0 : KS) (R : KR) :
  evL (cx ρ) call yc false 52 lim k (Code.at [1, 1, 0, 0, 1, 1, 1, 1, 1, 1, 1] c52) (sp 143 [(0, x0), (1, x1), (5, x5), (36, x36)]) H (kk (some [0, 1, 5]) kn [(0, (some [0, 1, 5]), k0)] R [4]) = N52_12 ρ call yc lim k x0 x1 x5 x36 H (fun x0 x1 x5 H => kn (sp 143 [(0, x0), (1, x1), (5, x5)]) H) R := by
  kernel_rfl
noncomputable def L52 (ρ : RO) (call : CallF) (yc : YieldF) (lim k : Nat) (x0 x1 : AV) (H : Heap) : Res :=
  purK (lenT x1) fun x15 =>
  purK (binA Tryd.prog H .eql 3 x15 (.int .i64 0)) fun x18 =>
  purK (gPur (wantV x18 false) (some x1)) fun x20 =>
  purK (gPur (wantV x18 false) (some x0)) fun x21 =>
  purK (gPur (wantV x18 false) (binA Tryd.prog H .eql 9 x20 x21)) fun x22 =>
  purK (pickA x18 (.bool true) x22) fun x23 =>
  condK x23
  (
  retK [(.int .i64 0)] H)
  (
  purK (binA Tryd.prog H .eql 3 x15 (.int .i64 1)) fun x26 =>
  condK x26
  (
  purK (ixT x1 (.int .i64 0)) fun x29 =>
  resK (call lim 47 [x0, x29] H) fun x30 H =>
  retK [x30] H)
  (
  purK (lenT x0) fun x34 =>
  purK (binA Tryd.prog H .geq 3 x15 x34) fun x35 =>
  condK x35
  (
  retK [(.int .i64 (-1))] H)
  (
  purK (ld1 ρ H (.xp ⟨2, 0, none⟩)) fun x38 =>
  purK (binA Tryd.prog H .leq 3 x15 x38) fun x39 =>
  purK (gPur (wantV x39 true) (some x0)) fun x41 =>
  purK (gPur (wantV x39 true) (lenT x41)) fun x42 =>
  purK (gPur (wantV x39 true) (binA Tryd.prog H .leq 3 x42 (.int .i64 64))) fun x43 =>
  purK (pickA x39 x43 (.bool false)) fun x44 =>
  N52_12 ρ call yc lim k x0 x1 x15 x44 H (fun x0_1 x1_1 x5 H =>
  N52_1 ρ call yc lim k x0_1 x1_1 x5 H retK) retK)))
theorem L52_x (ρ : RO) (call : CallF) (yc : YieldF) (lim k : Nat) (J : CodeF) (x0 x1 : AV) (H : Heap) :
  evX (cx ρ) call yc false 52 lim k J c52 [x0, x1, (.tup []), (.tup []), (.tup []), (.tup []), (.tup []), (.tup []), (.tup []), (.tup []), (.tup []), (.tup []), (.tup []), (.tup []), (.tup []), (.tup []), (.tup []), (.tup []), (.tup []), (.tup []), (.tup []), (.tup []), (.tup []), (.tup []), (.tup []), (.tup []), (.tup []), (.tup []), (.tup []), (.tup []), (.tup []), (.tup []), (.tup []), (.tup []), (.tup []), (.tup []), (.tup []), (.tup []), (.tup []), (.tup []), (.tup []), (.tup []), (.tup []), (.tup []), (.tup []), (.tup []), (.tup []), (.tup []), (.tup []), (.tup []), (.tup []), (.tup []), (.tup []), (.tup []), (.tup []), (.tup []), (.tup []), (.tup []), (.tup []), (.tup []), (.tup []), (.tup []), (.tup []), (.tup []), (.tup []), (.tup []), (.tup []), (.tup []), (.tup []), (.tup []), (.tup []), (.tup []), (.tup []), (.tup []), (.tup []), (.tup []), (.tup []), (.tup []), (.tup []), (.tup []), (.tup []), (.tup []), (.tup []), (.tup []), (.tup []), (.tup []), (.tup []), (.tup []), (.tup []), (.tup []), (.tup []), (.tup []), (.tup []), (.tup []), (.tup []), (.tup []), (.tup []), (.tup []), (.tup []), (.tup []), (.tup []), (.tup []), (.tup []), (.tup []), (.tup []), (.tup []), (.tup []), (.tup []), (.tup []), (.tup []), (.tup []), (.tup []), (.tup []), (.tup []), (.tup []), (.tup []), (.tup []), (.tup []), (.tup []), (.tup []), (.tup []), (.tup []), (.tup []), (.tup []), (.tup []), (.tup []), (.tup []), (.tup []), (.tup []), (.tup []), (.tup []), (.tup []), (.tup []), (.tup []), (.tup []), (.tup []), (.tup []), (.tup []), (.tup []), (.tup []), (.tup []), (.tup []), (.tup [])] H (kk none (fun s H => retK (([4] : List Nat).map fun t => s.getD t (.tup [])) H) [] retK [4]) =
  purK (lenT x1) fun x15 =>
  purK (binA Tryd.prog H .eql 3 x15 (.int .i64 0)) fun x18 =>
  purK (gPur (wantV x18 false) (some x1)) fun x20 =>
  purK (gPur (wantV x18 false) (some x0)) fun x21 =>
  purK (gPur (wantV x18 false) (binA Tryd.prog H .eql 9 x20 x21)) fun x22 =>
  purK (pickA x18 (.bool true) x22) fun x23 =>
  condK x23
  (
  retK [(.int .i64 0)] H)
  (
  purK (binA Tryd.prog H .eql 3 x15 (.int .i64 1)) fun x26 =>
  condK x26
  (
  purK (ixT x1 (.int .i64 0)) fun x29 =>
  resK (call lim 47 [x0, x29] H) fun x30 H =>
  retK [x30] H)
  (
  purK (lenT x0) fun x34 =>
  purK (binA Tryd.prog H .geq 3 x15 x34) fun x35 =>
  condK x35
  (
  retK [(.int .i64 (-1))] H)
  (
  purK (ld1 ρ H (.xp ⟨2, 0, none⟩)) fun x38 =>
  purK (binA Tryd.prog H .leq 3 x15 x38) fun x39 =>
  purK (gPur (wantV x39 true) (some x0)) fun x41 =>
  purK (gPur (wantV x39 true) (lenT x41)) fun x42 =>
  purK (gPur (wantV x39 true) (binA Tryd.prog H .leq 3 x42 (.int .i64 64))) fun x43 =>
  purK (pickA x39 x43 (.bool false)) fun x44 =>
  J (Code.at [1, 1, 0, 0, 1, 1, 1, 1, 1, 1, 1] c52) (sp 143 [(0, x0), (1, x1), (5, x15), (36, x44)]) H (kk (some [0, 1, 5]) (fun s H => J (Code.at [1, 1, 1] c52) s H (kk none (fun s H => retK (([4] : List Nat).map fun t => s.getD t (.tup [])) H) [] retK [4])) [(0, (some [0, 1, 5]), (fun s H => J (Code.at [1, 1, 1] c52) s H (kk none (fun s H => retK (([4] : List Nat).map fun t => s.getD t (.tup [])) H) [] retK [4])))] retK [4])))) := by
  kernel_rfl
theorem G52 (ρ : RO) (call : CallF) (yc : YieldF) (lim k : Nat) (x0 x1 : AV) (H : Heap) :
  evL (cx ρ) call yc false 52 lim k c52 [x0, x1, (.tup []), (.tup []), (.tup []), (.tup []), (.tup []), (.tup []), (.tup []), (.tup []), (.tup []), (.tup []), (.tup []), (.tup []), (.tup []), (.tup []), (.tup []), (.tup []), (.tup []), (.tup []), (.tup []), (.tup []), (.tup []), (.tup []), (.tup []), (.tup []), (.tup []), (.tup []), (.tup []), (.tup []), (.tup []), (.tup []), (.tup []), (.tup []), (.tup []), (.tup []), (.tup []), (.tup []), (.tup []), (.tup []), (.tup []), (.tup []), (.tup []), (.tup []), (.tup []), (.tup []), (.tup []), (.tup []), (.tup []), (.tup []), (.tup []), (.tup []), (.tup []), (.tup []), (.tup []), (.tup []), (.tup []), (.tup []), (.tup []), (.tup []), (.tup []), (.tup []), (.tup []), (.tup []), (.tup []), (.tup []), (.tup []), (.tup []), (.tup []), (.tup []), (.tup []), (.tup []), (.tup []), (.tup []), (.tup []), (.tup []), (.tup []), (.tup []), (.tup []), (.tup []), (.tup []), (.tup []), (.tup []), (.tup []), (.tup []), (.tup []), (.tup []), (.tup []), (.tup []), (.tup []), (.tup []), (.tup []), (.tup []), (.tup []), (.tup []), (.tup []), (.tup []), (.tup []), (.tup []), (.tup []), (.tup []), (.tup []), (.tup []), (.tup []), (.tup []), (.tup []), (.tup []), (.tup []), (.tup []), (.tup []), (.tup []), (.tup []), (.tup []), (.tup []), (.tup []), (.tup []), (.tup []), (.tup []), (.tup []), (.tup []), (.tup []), (.tup []), (.tup []), (.tup []), (.tup []), (.tup []), (.tup []), (.tup []), (.tup []), (.tup []), (.tup []), (.tup []), (.tup []), (.tup []), (.tup []), (.tup []), (.tup []), (.tup []), (.tup []), (.tup []), (.tup []), (.tup []), (.tup [])] H (kk none (fun s H => retK (([4] : List Nat).map fun t => s.getD t (.tup [])) H) [] retK [4]) = L52 ρ call yc lim k x0 x1 H := by
  rw [evL_X, L52_x]
  simp only [← evL_X, L52, N52_12_eq, N52_1_eq]
theorem E52 (ρ : RO) (k lim : Nat) (x0 x1 : AV) (H : Heap) : evCall (cx ρ) (k + 1) lim 52 [x0, x1] H = L52 ρ (evCall (cx ρ) k) (evCY (cx ρ) k).2 lim k x0 x1 H := by
  rw [evCall_body (cx ρ) k lim 52 _ H Tryd.f52 c52 [4] (by kernel_rfl) (by kernel_rfl) (by kernel_rfl) (by kernel_rfl) (by kernel_rfl)]
  exact G52 ρ (evCall (cx ρ) k) (evCY (cx ρ) k).2 lim k x0 x1 H
-- strings.genSplit
noncomputable def c53 : Code := Code.of Tryd.prog 53
noncomputable def N53_4 (ρ : RO) (call : CallF) (yc : YieldF) (lim k : Nat) (x0 x9 x10 : AV) (H : Heap) (R : KR) : Res :=
  purK (ixS 1 x9 x10) fun x61_1 =>
  effK H (stA lim H 1 x61_1 x0) fun _ H =>
  purK (binA Tryd.prog H .add 3 x10 (.int .i64 1)) fun x64_1 =>
  purK (slS 1 x9 none (some x64_1) none) fun x65_1 =>
  R [x65_1] H
theorem N53_4_eq (ρ : RO) (call : CallF) (yc : YieldF) (lim k : Nat) (x0 x9 x10 : AV) (H : Heap) (R : KR) :
  evL (cx ρ) call yc false 53 lim k (Code.at [1, 1, 1, 1, 1, 1, 1, 1, 1] c53) (sp 66 [(0, x0), (9, x9), (10, x10)]) H (kk none (fun s H => R (([8] : List Nat).map fun t => s.getD t (.tup [])) H) [] R [8]) = N53_4 ρ call yc lim k x0 x9 x10 H R := by
  kernel_rfl
noncomputable def N53_6 (ρ : RO) (call : CallF) (yc : YieldF) (lim k : Nat) (x0 x1 x2 x3 x9 x10 : AV) (H : Heap) (kn : AV → AV → Heap → Res) : Res :=
  purK (binA Tryd.prog H .add 3 x10 (.int .i64 1)) fun x57_1 =>
  kn x0 x57_1 H
theorem N53_6_eq (ρ : RO) (call : CallF) (yc : YieldF) (lim k : Nat) (x0 x1 x2 x3 x9 x10 : AV) (H : Heap) (kn : KS) (k1 : KS) (k0 : KS) (R : KR) :
  evL (cx ρ) call yc false 53 lim k (Code.at [1, 1, 1, 1, 1, 1, 1, 1, 0, 0, 0, 1, 0, 1, 1, 1, 1] c53) (sp 66 [(0, x0), (1, x1), (2, x2), (3, x3), (9, x9), (10, x10)]) H (kk (some [0, 1, 2, 3, 9, 10]) kn [(1, (some [0, 1, 2, 3, 9, 10]), k1), (0, (some [0, 9, 10]), k0)] R [8]) = N53_6 ρ call yc lim k x0 x1 x2 x3 x9 x10 H (fun x0 x10 H => kn (sp 66 [(0, x0), (1, x1), (2, x2), (3, x3), (9, x9), (10, x10)]) H) := by
  kernel_rfl
noncomputable def N53_5b (ρ : RO) (call : CallF) (yc : YieldF) (lim k : Nat) (x0 x1 x2 x3 x9 x10 : AV) (H : Heap) (kn : AV → AV → Heap → Res) (k0 : AV → AV → AV → Heap → Res) : Res :=
  purK (binA Tryd.prog H .lss 3 x10 x3) fun x36_1 =>
  condK x36_1
  (
  resK (call lim 67 [x0, x1] H) fun x39_1 H =>
  purK (binA Tryd.prog H .lss 3 x39_1 (.int .i64 0)) fun x41_1 =>
  condK x41_1
  (
  k0 x0 x9 x10 H)
  (
  purK (binA Tryd.prog H .add 3 x39_1 x2) fun x47_1 =>
  purK (slT x0 none (some x47_1)) fun x48_1 =>
  purK (ixS 1 x9 x10) fun x49_1 =>
  effK H (stA lim H 1 x49_1 x48_1) fun _ H =>
  purK (lenT x1) fun x53_1 =>
  purK (binA Tryd.prog H .add 3 x39_1 x53_1) fun x54_1 =>
  purK (slT x0 (some x54_1) none) fun x55_1 =>
  N53_6 ρ call yc lim k x55_1 x1 x2 x3 x9 x10 H kn))
  (
  k0 x0 x9 x10 H)
theorem N53_5b_x (ρ : RO) (call : CallF) (yc : YieldF) (lim k : Nat) (J : CodeF) (x0 x1 x2 x3 x9 x10 : AV) (H : Heap) (kn : KS) (k0 : KS) (R : KR) :
  evX (cx ρ) call yc false 53 lim k J (Code.at [1, 1, 1, 1, 1, 1, 1, 1, 0, 0, 0] c53) (sp 66 [(0, x0), (1, x1), (2, x2), (3, x3), (9, x9), (10, x10)]) H (kk (some [0, 1, 2, 3, 9, 10]) kn [(0, (some [0, 9, 10]), k0)] R [8]) =
  purK (binA Tryd.prog H .lss 3 x10 x3) fun x36_1 =>
  condK x36_1
  (
  resK (call lim 67 [x0, x1] H) fun x39_1 H =>
  purK (binA Tryd.prog H .lss 3 x39_1 (.int .i64 0)) fun x41_1 =>
  condK x41_1
  (
  k0 (sp 66 [(0, x0), (9, x9), (10, x10)]) H)
  (
  purK (binA Tryd.prog H .add 3 x39_1 x2) fun x47_1 =>
  purK (slT x0 none (some x47_1)) fun x48_1 =>
  purK (ixS 1 x9 x10) fun x49_1 =>
  effK H (stA lim H 1 x49_1 x48_1) fun _ H =>
  purK (lenT x1) fun x53_1 =>
  purK (binA Tryd.prog H .add 3 x39_1 x53_1) fun x54_1 =>
  purK (slT x0 (some x54_1) none) fun x55_1 =>
  J (Code.at [1, 1, 1, 1, 1, 1, 1, 1, 0, 0, 0, 1, 0, 1, 1, 1, 1] c53) (sp 66 [(0, x55_1), (1, x1), (2, x2), (3, x3), (9, x9), (10, x10)]) H (kk (some [0, 1, 2, 3, 9, 10]) kn [(1, (some [0, 1, 2, 3, 9, 10]), kn), (0, (some [0, 9, 10]), k0)] R [8])))
  (
  k0 (sp 66 [(0, x0), (9, x9), (10, x10)]) H) := by
  kernel_rfl
theorem N53_5b_eq (ρ : RO) (call : CallF) (yc : YieldF) (lim k : Nat) (x0 x1 x2 x3 x9 x10 : AV) (H : Heap) (kn : KS) (k0 : KS) (R : KR) :
  evL (cx ρ) call yc false 53 lim k (Code.at [1, 1, 1, 1, 1, 1, 1, 1, 0, 0, 0] c53) (sp 66 [(0, x0), (1, x1), (2, x2), (3, x3), (9, x9), (10, x10)]) H (kk (some [0, 1, 2, 3, 9, 10]) kn [(0, (some [0, 9, 10]), k0)] R [8]) = N53_5b ρ call yc lim k x0 x1 x2 x3 x9 x10 H (fun x0 x10 H => kn (sp 66 [(0, x0), (1, x1), (2, x2), (3, x3), (9, x9), (10, x10)]) H) (fun x0 x9 x10 H => k0 (sp 66 [(0, x0), (9, x9), (10, x10)]) H) := by
  rw [evL_X, N53_5b_x]
  simp only [← evL_X, N53_5b, N53_6_eq]
noncomputable def N53_5 (ρ : RO) (call : CallF) (yc : YieldF) (lim k : Nat) (x0 x1 x2 x3 x9 x10 : AV) (H : Heap) (k0 : AV → AV → AV → Heap → Res) : Res :=
  loopL (fun (x : AV × AV) H kn => N53_5b ρ call yc lim k x.1 x1 x2 x3 x9 x.2 H (fun x0 x10 H => kn (x0, x10) H) k0) k (x0, x10) H
theorem N53_5_eq (ρ : RO) (call : CallF) (yc : YieldF) (lim k : Nat) (x0 x1 x2 x3 x9 x10 : AV) (H : Heap) (kn : KS) (k0 : KS) (R : KR) :
  evL (cx ρ) call yc false 53 lim k (Code.at [1, 1, 1, 1, 1, 1, 1, 1, 0, 0] c53) (sp 66 [(0, x0), (1, x1), (2, x2), (3, x3), (9, x9), (10, x10)]) H (kk (some [0, 9, 10]) kn [(0, (some [0, 9, 10]), k0)] R [8]) = N53_5 ρ call yc lim k x0 x1 x2 x3 x9 x10 H (fun x0 x9 x10 H => k0 (sp 66 [(0, x0), (9, x9), (10, x10)]) H) := by
  have e : Code.at [1, 1, 1, 1, 1, 1, 1, 1, 0, 0] c53 = .loop (Code.at [1, 1, 1, 1, 1, 1, 1, 1, 0, 0, 0] c53) := by kernel_rfl
  rw [e]
  unfold N53_5
  exact loop_node [0, 1, 2, 3, 9, 10] (fun x : AV × AV => (sp 66 [(0, (x.1)), (1, x1), (2, x2), (3, x3), (9, x9), (10, (x.2))])) (fun (x : AV × AV) H kn => N53_5b ρ call yc lim k x.1 x1 x2 x3 x9 x.2 H (fun x0 x10 H => kn (x0, x10) H) (fun x0 x9 x10 H => k0 (sp 66 [(0, x0), (9, x9), (10, x10)]) H)) (by kernel_rfl) (fun x => by kernel_rfl) (fun x H kn => N53_5b_eq ρ call yc lim k (x.1) x1 x2 x3 x9 (x.2) H kn k0 R) (x0, x10) (sp 66 [(0, x0), (1, x1), (2, x2), (3, x3), (9, x9), (10, x10)]) H (by kernel_rfl)
noncomputable def N53_3 (ρ : RO) (call : CallF) (yc : YieldF) (lim k : Nat) (x0 x1 x2 x3 x9 x10 : AV) (H : Heap) (R : KR) : Res :=
  N53_5 ρ call yc lim k x0 x1 x2 x3 x9 x10 H (fun x0_1 x9_1 x10_1 H =>
  N53_4 ρ call yc lim k x0_1 x9_1 x10_1 H R)
theorem N53_3_x (ρ : RO) (call : CallF) (yc : YieldF) (lim k : Nat) (J : CodeF) (x0 x1 x2 x3 x9 x10 : AV) (H : Heap) (R : KR) :
  evX (cx ρ) call yc false 53 lim k J (Code.at [1, 1, 1, 1, 1, 1, 1, 1] c53) (sp 66 [(0, x0), (1, x1), (2, x2), (3, x3), (9, x9), (10, x10)]) H (kk none (fun s H => R (([8] : List Nat).map fun t => s.getD t (.tup [])) H) [] R [8]) =
  J (Code.at [1, 1, 1, 1, 1, 1, 1, 1, 0, 0] c53) (sp 66 [(0, x0), (1, x1), (2, x2), (3, x3), (9, x9), (10, x10)]) H (kk (some [0, 9, 10]) (fun s H => J (Code.at [1, 1, 1, 1, 1, 1, 1, 1, 1] c53) s H (kk none (fun s H => R (([8] : List Nat).map fun t => s.getD t (.tup [])) H) [] R [8])) [(0, (some [0, 9, 10]), (fun s H => J (Code.at [1, 1, 1, 1, 1, 1, 1, 1, 1] c53) s H (kk none (fun s H => R (([8] : List Nat).map fun t => s.getD t (.tup [])) H) [] R [8])))] R [8]) := by
  kernel_rfl
theorem N53_3_eq (ρ : RO) (call : CallF) (yc : YieldF) (lim k : Nat) (x0 x1 x2 x3 x9 x10 : AV) (H : Heap) (R : KR) :
  evL (cx ρ) call yc false 53 lim k (Code.at [1, 1, 1, 1, 1, 1, 1, 1] c53) (sp 66 [(0, x0), (1, x1), (2, x2), (3, x3), (9, x9), (10, x10)]) H (kk none (fun s H => R (([8] : List Nat).map fun t => s.getD t (.tup [])) H) [] R [8]) = N53_3 ρ call yc lim k x0 x1 x2 x3 x9 x10 H R := by
  rw [evL_X, N53_3_x]
  simp only [← evL_X, N53_3, N53_4_eq, N53_5_eq]
noncomputable def N53_2 (ρ : RO) (call : CallF) (yc : YieldF) (lim k : Nat) (x0 x1 x2 x3 x9 : AV) (H : Heap) (R : KR) : Res :=
  purK (binA Tryd.prog H .sub 3 x3 (.int .i64 1)) fun x33_1 =>
  N53_3 ρ call yc lim k x0 x1 x2 x33_1 x9 (.int .i64 0) H R
theorem N53_2_x (ρ : RO) (call : CallF) (yc : YieldF) (lim k : Nat) (J : CodeF) (x0 x1 x2 x3 x9 : AV) (H : Heap) (R : KR) :
  evX (cx ρ) call yc false 53 lim k J (Code.at [1, 1, 1, 1, 1, 1] c53) (sp 66 [(0, x0), (1, x1), (2, x2), (3, x3), (9, x9)]) H (kk none (fun s H => R (([8] : List Nat).map fun t => s.getD t (.tup [])) H) [] R [8]) =
  purK (binA Tryd.prog H .sub 3 x3 (.int .i64 1)) fun x33_1 =>
  J (Code.at [1, 1, 1, 1, 1, 1, 1, 1] c53) (sp 66 [(0, x0), (1, x1), (2, x2), (3, x33_1), (9, x9), (10, (.int .i64 0))]) H (kk none (fun s H => R (([8] : List Nat).map fun t => s.getD t (.tup [])) H) [] R [8]) := by
  kernel_rfl
theorem N53_2_eq (ρ : RO) (call : CallF) (yc : YieldF) (lim k : Nat) (x0 x1 x2 x3 x9 : AV) (H : Heap) (R : KR) :
  evL (cx ρ) call yc false 53 lim k (Code.at [1, 1, 1, 1, 1, 1] c53) (sp 66 [(0, x0), (1, x1), (2, x2), (3, x3), (9, x9)]) H (kk none (fun s H => R (([8] : List Nat).map fun t => s.getD t (.tup [])) H) [] R [8]) = N53_2 ρ call yc lim k x0 x1 x2 x3 x9 H R := by
  rw [evL_X, N53_2_x]
  simp only [← evL_X, N53_2, N53_3_eq]
noncomputable def N53_1 (ρ : RO) (call : CallF) (yc : YieldF) (lim k : Nat) (x0 x1 x2 x3 : AV) (H : Heap) (R : KR) : Res :=
  purK (lenT x0) fun x27_1 =>
  purK (binA Tryd.prog H .add 3 x27_1 (.int .i64 1)) fun x28_1 =>
  purK (foldsA minA [x3, x28_1]) fun x29_1 =>
  effK H (mkS H 9 1 16 [.str ByteArray.empty] x29_1 x29_1) fun x31_1 H =>
  N53_2 ρ call yc lim k x0 x1 x2 x29_1 x31_1 H R
theorem N53_1_x (ρ : RO) (call : CallF) (yc : YieldF) (lim k : Nat) (J : CodeF) (x0 x1 x2 x3 : AV) (H : Heap) (R : KR) :
  evX (cx ρ) call yc false 53 lim k J (Code.at [1, 1, 1, 1] c53) (sp 66 [(0, x0), (1, x1), (2, x2), (3, x3)]) H (kk none (fun s H => R (([8] : List Nat).map fun t => s.getD t (.tup [])) H) [] R [8]) =
  purK (lenT x0) fun x27_1 =>
  purK (binA Tryd.prog H .add 3 x27_1 (.int .i64 1)) fun x28_1 =>
  purK (foldsA minA [x3, x28_1]) fun x29_1 =>
  effK H (mkS H 9 1 16 [.str ByteArray.empty] x29_1 x29_1) fun x31_1 H =>
  J (Code.at [1, 1, 1, 1, 1, 1] c53) (sp 66 [(0, x0), (1, x1), (2, x2), (3, x29_1), (9, x31_1)]) H (kk none (fun s H => R (([8] : List Nat).map fun t => s.getD t (.tup [])) H) [] R [8]) := by
  kernel_rfl
theorem N53_1_eq (ρ : RO) (call : CallF) (yc : YieldF) (lim k : Nat) (x0 x1 x2 x3 : AV) (H : Heap) (R : KR) :
  evL (cx ρ) call yc false 53 lim k (Code.at [1, 1, 1, 1] c53) (sp 66 [(0, x0), (1, x1), (2, x2), (3, x3)]) H (kk none (fun s H => R (([8] : List Nat).map fun t => s.getD t (.tup [])) H) [] R [8]) = N53_1 ρ call yc lim k x0 x1 x2 x3 H R := by
  rw [evL_X, N53_1_x]
  simp only [← evL_X, N53_1, N53_2_eq]
noncomputable def L53 (ρ : RO) (call : CallF) (yc : YieldF) (lim k : Nat) (x0 x1 x2 x3 : AV) (H : Heap) : Res :=
  purK (binA Tryd.prog H .eql 3 x3 (.int .i64 0)) fun x13 =>
  condK x13
  (
  retK [.nils] H)
  (
  purK (binA Tryd.prog H .eql 9 x1 (.str (ByteArray.mk #[]))) fun x15 =>
  condK x15
  (
  resK (call lim 65 [x0, x3] H) fun x18 H =>
  retK [x18] H)
  (
  purK (binA Tryd.prog H .lss 3 x3 (.int .i64 0)) fun x20 =>
  condK x20
  (
  resK (call lim 66 [x0, x1] H) fun x23 H =>
  purK (binA Tryd.prog H .add 3 x23 (.int .i64 1)) fun x24 =>
  N53_1 ρ call yc lim k x0 x1 x2 x24 H retK)
  (
  N53_1 ρ call yc lim k x0 x1 x2 x3 H retK)))
theorem L53_x (ρ : RO) (call : CallF) (yc : YieldF) (lim k : Nat) (J : CodeF) (x0 x1 x2 x3 : AV) (H : Heap) :
  evX (cx ρ) call yc false 53 lim k J c53 [x0, x1, x2, x3, (.tup []), (.tup []), (.tup []), (.tup []), (.tup []), (.tup []), (.tup []), (.tup []), (.tup []), (.tup []), (.tup []), (.tup []), (.tup []), (.tup []), (.tup []), (.tup []), (.tup []), (.tup []), (.tup []), (.tup []), (.tup []), (.tup []), (.tup []), (.tup []), (.tup []), (.tup []), (.tup []), (.tup []), (.tup []), (.tup []), (.tup []), (.tup []), (.tup []), (.tup []), (.tup []), (.tup []), (.tup []), (.tup []), (.tup []), (.tup []), (.tup []), (.tup []), (.tup []), (.tup []), (.tup []), (.tup []), (.tup []), (.tup []), (.tup []), (.tup []), (.tup []), (.tup []), (.tup []), (.tup []), (.tup []), (.tup []), (.tup []), (.tup []), (.tup []), (.tup []), (.tup []), (.tup [])] H (kk none (fun s H => retK (([8] : List Nat).map fun t => s.getD t (.tup [])) H) [] retK [8]) =
  purK (binA Tryd.prog H .eql 3 x3 (.int .i64 0)) fun x13 =>
  condK x13
  (
  retK [.nils] H)
  (
  purK (binA Tryd.prog H .eql 9 x1 (.str (ByteArray.mk #[]))) fun x15 =>
  condK x15
  (
  resK (call lim 65 [x0, x3] H) fun x18 H =>
  retK [x18] H)
  (
  purK (binA Tryd.prog H .lss 3 x3 (.int .i64 0)) fun x20 =>
  condK x20
  (
  resK (call lim 66 [x0, x1] H) fun x23 H =>
  purK (binA Tryd.prog H .add 3 x23 (.int .i64 1)) fun x24 =>
  J (Code.at [1, 1, 1, 1] c53) (sp 66 [(0, x0), (1, x1), (2, x2), (3, x24)]) H (kk none (fun s H => retK (([8] : List Nat).map fun t => s.getD t (.tup [])) H) [] retK [8]))
  (
  J (Code.at [1, 1, 1, 1] c53) (sp 66 [(0, x0), (1, x1), (2, x2), (3, x3)]) H (kk none (fun s H => retK (([8] : List Nat).map fun t => s.getD t (.tup [])) H) [] retK [8])))) := by
  kernel_rfl
theorem G53 (ρ : RO) (call : CallF) (yc : YieldF) (lim k : Nat) (x0 x1 x2 x3 : AV) (H : Heap) :
  evL (cx ρ) call yc false 53 lim k c53 [x0, x1, x2, x3, (.tup []), (.tup []), (.tup []), (.tup []), (.tup []), (.tup []), (.tup []), (.tup []), (.tup []), (.tup []), (.tup []), (.tup []), (.tup []), (.tup []), (.tup []), (.tup []), (.tup []), (.tup []), (.tup []), (.tup []), (.tup []), (.tup []), (.tup []), (.tup []), (.tup []), (.tup []), (.tup []), (.tup []), (.tup []), (.tup []), (.tup []), (.tup []), (.tup []), (.tup []), (.tup []), (.tup []), (.tup []), (.tup []), (.tup []), (.tup []), (.tup []), (.tup []), (.tup []), (.tup []), (.tup []), (.tup []), (.tup []), (.tup []), (.tup []), (.tup []), (.tup []), (.tup []), (.tup []), (.tup []), (.tup []), (.tup []), (.tup []), (.tup []), (.tup []), (.tup []), (.tup []), (.tup [])] H (kk none (fun s H => retK (([8] : List Nat).map fun t => s.getD t (.tup [])) H) [] retK [8]) = L53 ρ call yc lim k x0 x1 x2 x3 H := by
  rw [evL_X, L53_x]
  simp only [← evL_X, L53, N53_1_eq]
theorem E53 (ρ : RO) (k lim : Nat) (x0 x1 x2 x3 : AV) (H : Heap) : evCall (cx ρ) (k + 1) lim 53 [x0, x1, x2, x3] H = L53 ρ (evCall (cx ρ) k) (evCY (cx ρ) k).2 lim k x0 x1 x2 x3 H := by
  rw [evCall_body (cx ρ) k lim 53 _ H Tryd.f53 c53 [8] (by kernel_rfl) (by kernel_rfl) (by kernel_rfl) (by kernel_rfl) (by kernel_rfl)]
  exact G53 ρ (evCall (cx ρ) k) (evCY (cx ρ) k).2 lim k x0 x1 x2 x3 H
-- haycroft/script.number
noncomputable def c54 : Code := Code.of Tryd.prog 54
noncomputable def L54 (ρ : RO) (call : CallF) (yc : YieldF) (lim k : Nat) (x0 x1 : AV) (H : Heap) : Res :=
  resK (call lim 68 [x0, (.int .i64 10), (.int .i64 64)] H) fun x10 H =>
  purK (extA 0 x10) fun x11 =>
  purK (extA 1 x10) fun x12 =>
  purK (eqI Tryd.prog .eql true x12 .nili) fun x15 =>
  purK (gPur (wantV x15 true) (some x11)) fun x17 =>
  purK (gPur (wantV x15 true) (some x1)) fun x18 =>
  purK (gPur (wantV x15 true) (binA Tryd.prog H .leq 38 x17 x18)) fun x19 =>
  purK (pickA x15 x19 (.bool false)) fun x20 =>
  purK (gPur (wantV x20 true) (some x11)) fun x22 =>
  resK (gRes (wantV x20 true) H (call lim 49 [x22, (.int .i64 10)] H)) fun x23 H =>
  purK (gPur (wantV x20 true) (some x0)) fun x24 =>
  purK (gPur (wantV x20 true) (binA Tryd.prog H .eql 9 x23 x24)) fun x25 =>
  purK (pickA x20 x25 (.bool false)) fun x26 =>
  retK [x11, x26] H
theorem G54 (ρ : RO) (call : CallF) (yc : YieldF) (lim k : Nat) (x0 x1 : AV) (H : Heap) :
  evL (cx ρ) call yc false 54 lim k c54 [x0, x1, (.tup []), (.tup []), (.tup []), (.tup []), (.tup []), (.tup []), (.tup []), (.tup []), (.tup []), (.tup []), (.tup []), (.tup []), (.tup []), (.tup []), (.tup []), (.tup []), (.tup []), (.tup []), (.tup []), (.tup []), (.tup []), (.tup []), (.tup []), (.tup []), (.tup [])] H (kk none (fun s H => retK (([4, 5] : List Nat).map fun t => s.getD t (.tup [])) H) [] retK [4, 5]) = L54 ρ call yc lim k x0 x1 H := by
  kernel_rfl
theorem E54 (ρ : RO) (k lim : Nat) (x0 x1 : AV) (H : Heap) : evCall (cx ρ) (k + 1) lim 54 [x0, x1] H = L54 ρ (evCall (cx ρ) k) (evCY (cx ρ) k).2 lim k x0 x1 H := by
  rw [evCall_body (cx ρ) k lim 54 _ H Tryd.f54 c54 [4, 5] (by kernel_rfl) (by kernel_rfl) (by kernel_rfl) (by kernel_rfl) (by kernel_rfl)]
  exact G54 ρ (evCall (cx ρ) k) (evCY (cx ρ) k).2 lim k x0 x1 H
-- (*haycroft/script.reader).text
noncomputable def c55 : Code := Code.of Tryd.prog 55
noncomputable def L55 (ρ : RO) (call : CallF) (yc : YieldF) (lim k : Nat) (x0 : AV) (H : Heap) : Res :=
  resK (call lim 39 [x0] H) fun x7 H =>
  resK (call lim 11 [x7] H) fun x8 H =>
  purK (extA 0 x8) fun x9 =>
  purK (extA 1 x8) fun x10 =>
  purK (nilChkA x0) fun x13 =>
  purK (addA 1 x13) fun x14 =>
  purK (ld1 ρ H x14) fun x15 =>
  purK (gPur (wantV x15 false) (some x10)) fun x17 =>
  purK (gPur (wantV x15 false) (binA Tryd.prog H .neq 24 x17 (.int .i64 0))) fun x18 =>
  purK (pickA x15 (.bool true) x18) fun x19 =>
  purK (nilChkA x0) fun x20 =>
  purK (addA 1 x20) fun x21 =>
  effK H (stA lim H 1 x21 x19) fun _ H =>
  retK [x9] H
theorem G55 (ρ : RO) (call : CallF) (yc : YieldF) (lim k : Nat) (x0 : AV) (H : Heap) :
  evL (cx ρ) call yc false 55 lim k c55 [x0, (.tup []), (.tup []), (.tup []), (.tup []), (.tup []), (.tup []), (.tup []), (.tup []), (.tup []), (.tup []), (.tup []), (.tup []), (.tup []), (.tup []), (.tup []), (.tup []), (.tup []), (.tup []), (.tup []), (.tup []), (.tup []), (.tup [])] H (kk none (fun s H => retK (([2] : List Nat).map fun t => s.getD t (.tup [])) H) [] retK [2]) = L55 ρ call yc lim k x0 H := by
  kernel_rfl
theorem E55 (ρ : RO) (k lim : Nat) (x0 : AV) (H : Heap) : evCall (cx ρ) (k + 1) lim 55 [x0] H = L55 ρ (evCall (cx ρ) k) (evCY (cx ρ) k).2 lim k x0 H := by
  rw [evCall_body (cx ρ) k lim 55 _ H Tryd.f55 c55 [2] (by kernel_rfl) (by kernel_rfl) (by kernel_rfl) (by kernel_rfl) (by kernel_rfl)]
  exact G55 ρ (evCall (cx ρ) k) (evCY (cx ρ) k).2 lim k x0 H
-- internal/stringslite.HasPrefix
noncomputable def c57 : Code := Code.of Tryd.prog 57
noncomputable def L57 (ρ : RO) (call : CallF) (yc : YieldF) (lim k : Nat) (x0 x1 : AV) (H : Heap) : Res :=
  purK (lenT x0) fun x6 =>
  purK (lenT x1) fun x8 =>
  purK (binA Tryd.prog H .geq 3 x6 x8) fun x9 =>
  purK (gPur (wantV x9 true) (some x0)) fun x11 =>
  purK (gPur (wantV x9 true) (some x1)) fun x12 =>
  purK (gPur (wantV x9 true) (lenT x12)) fun x13 =>
  purK (gPur (wantV x9 true) (slT x11 none (some x13))) fun x14 =>
  purK (gPur (wantV x9 true) (some x1)) fun x15 =>
  purK (gPur (wantV x9 true) (binA Tryd.prog H .eql 9 x14 x15)) fun x16 =>
  purK (pickA x9 x16 (.bool false)) fun x17 =>
  retK [x17] H
theorem G57 (ρ : RO) (call : CallF) (yc : YieldF) (lim k : Nat) (x0 x1 : AV) (H : Heap) :
  evL (cx ρ) call yc false 57 lim k c57 [x0, x1, (.tup []), (.tup []), (.tup []), (.tup []), (.tup []), (.tup []), (.tup []), (.tup []), (.tup []), (.tup []), (.tup []), (.tup []), (.tup []), (.tup []), (.tup []), (.tup [])] H (kk none (fun s H => retK (([4] : List Nat).map fun t => s.getD t (.tup [])) H) [] retK [4]) = L57 ρ call yc lim k x0 x1 H := by
  kernel_rfl
theorem E57 (ρ : RO) (k lim : Nat) (x0 x1 : AV) (H : Heap) : evCall (cx ρ) (k + 1) lim 57 [x0, x1] H = L57 ρ (evCall (cx ρ) k) (evCY (cx ρ) k).2 lim k x0 x1 H := by
  rw [evCall_body (cx ρ) k lim 57 _ H Tryd.f57 c57 [4] (by kernel_rfl) (by kernel_rfl) (by kernel_rfl) (by kernel_rfl) (by kernel_rfl)]
  exact G57 ρ (evCall (cx ρ) k) (evCY (cx ρ) k).2 lim k x0 x1 H
-- internal/strconv.Itoa
noncomputable def c59 : Code := Code.of Tryd.prog 59
noncomputable def L59 (ρ : RO) (call : CallF) (yc : YieldF) (lim k : Nat) (x0 : AV) (H : Heap) : Res :=
  resK (call lim 69 [x0, (.int .i64 10)] H) fun x4 H =>
  retK [x4] H
theorem G59 (ρ : RO) (call : CallF) (yc : YieldF) (lim k : Nat) (x0 : AV) (H : Heap) :
  evL (cx ρ) call yc false 59 lim k c59 [x0, (.tup []), (.tup []), (.tup []), (.tup [])] H (kk none (fun s H => retK (([2] : List Nat).map fun t => s.getD t (.tup [])) H) [] retK [2]) = L59 ρ call yc lim k x0 H := by
  kernel_rfl
theorem E59 (ρ : RO) (k lim : Nat) (x0 : AV) (H : Heap) : evCall (cx ρ) (k + 1) lim 59 [x0] H = L59 ρ (evCall (cx ρ) k) (evCY (cx ρ) k).2 lim k x0 H := by
  rw [evCall_body (cx ρ) k lim 59 _ H Tryd.f59 c59 [2] (by kernel_rfl) (by kernel_rfl) (by kernel_rfl) (by kernel_rfl) (by kernel_rfl)]
  exact G59 ρ (evCall (cx ρ) k) (evCY (cx ρ) k).2 lim k x0 H
-- internal/strconv.FormatUint
noncomputable def c60 : Code := Code.of Tryd.prog 60
noncomputable def N60_1 (ρ : RO) (call : CallF) (yc : YieldF) (lim k : Nat) (x8 : AV) (H : Heap) (R : KR) : Res :=
  R [x8] H
theorem N60_1_eq (ρ : RO) (call : CallF) (yc : YieldF) (lim k : Nat) (x8 : AV) (H : Heap) (R : KR) :
  evL (cx ρ) call yc false 60 lim k (Code.at [1, 1, 1] c60) (sp 32 [(8, x8)]) H (kk none (fun s H => R (([4] : List Nat).map fun t => s.getD t (.tup [])) H) [] R [4]) = N60_1 ρ call yc lim k x8 H R := by
  kernel_rfl
noncomputable def L60 (ρ : RO) (call : CallF) (yc : YieldF) (lim k : Nat) (x0 x1 : AV) (H : Heap) : Res :=
  purK (binA Tryd.prog H .eql 3 x1 (.int .i64 10)) fun x10 =>
  condK x10
  (
  purK (binA Tryd.prog H .lss 38 x0 (.int .u64 100)) fun x12 =>
  condK x12
  (
  purK (cvI .i64 x0) fun x14 =>
  resK (call lim 70 [x14] H) fun x15 H =>
  retK [x15] H)
  (
  effK H (some (.ptr H.sz 0 0, .new (newCells 99 false [.int .u8 0, .int .u8 0, .int .u8 0, .int .u8 0, .int .u8 0, .int .u8 0, .int .u8 0, .int .u8 0, .int .u8 0, .int .u8 0, .int .u8 0, .int .u8 0, .int .u8 0, .int .u8 0, .int .u8 0, .int .u8 0, .int .u8 0, .int .u8 0, .int .u8 0, .int .u8 0, .int .u8 0, .int .u8 0, .int .u8 0, .int .u8 0]))) fun x5 H =>
  resK (call lim 71 [x0] H) fun x17 H =>
  purK (slR 1 24 x5 none (some x17) none) fun x19 =>
  resK (call lim 72 [x19, x0] H) fun x21 H =>
  purK (slR 1 24 x5 none (some x17) none) fun x23 =>
  purK (b2s ρ H x23) fun x24 =>
  retK [x24] H))
  (
  resK (call lim 73 [.nils, x0, x1, (.bool false), (.bool false)] H) fun x28 H =>
  purK (extA 0 x28) fun x29 =>
  purK (extA 1 x28) fun x30 =>
  N60_1 ρ call yc lim k x30 H retK)
theorem L60_x (ρ : RO) (call : CallF) (yc : YieldF) (lim k : Nat) (J : CodeF) (x0 x1 : AV) (H : Heap) :
  evX (cx ρ) call yc false 60 lim k J c60 [x0, x1, (.tup []), (.tup []), (.tup []), (.tup []), (.tup []), (.tup []), (.tup []), (.tup []), (.tup []), (.tup []), (.tup []), (.tup []), (.tup []), (.tup []), (.tup []), (.tup []), (.tup []), (.tup []), (.tup []), (.tup []), (.tup []), (.tup []), (.tup []), (.tup []), (.tup []), (.tup []), (.tup []), (.tup []), (.tup []), (.tup [])] H (kk none (fun s H => retK (([4] : List Nat).map fun t => s.getD t (.tup [])) H) [] retK [4]) =
  purK (binA Tryd.prog H .eql 3 x1 (.int .i64 10)) fun x10 =>
  condK x10
  (
  purK (binA Tryd.prog H .lss 38 x0 (.int .u64 100)) fun x12 =>
  condK x12
  (
  purK (cvI .i64 x0) fun x14 =>
  resK (call lim 70 [x14] H) fun x15 H =>
  retK [x15] H)
  (
  effK H (some (.ptr H.sz 0 0, .new (newCells 99 false [.int .u8 0, .int .u8 0, .int .u8 0, .int .u8 0, .int .u8 0, .int .u8 0, .int .u8 0, .int .u8 0, .int .u8 0, .int .u8 0, .int .u8 0, .int .u8 0, .int .u8 0, .int .u8 0, .int .u8 0, .int .u8 0, .int .u8 0, .int .u8 0, .int .u8 0, .int .u8 0, .int .u8 0, .int .u8 0, .int .u8 0, .int .u8 0]))) fun x5 H =>
  resK (call lim 71 [x0] H) fun x17 H =>
  purK (slR 1 24 x5 none (some x17) none) fun x19 =>
  resK (call lim 72 [x19, x0] H) fun x21 H =>
  purK (slR 1 24 x5 none (some x17) none) fun x23 =>
  purK (b2s ρ H x23) fun x24 =>
  retK [x24] H))
  (
  resK (call lim 73 [.nils, x0, x1, (.bool false), (.bool false)] H) fun x28 H =>
  purK (extA 0 x28) fun x29 =>
  purK (extA 1 x28) fun x30 =>
  J (Code.at [1, 1, 1] c60) (sp 32 [(8, x30)]) H (kk none (fun s H => retK (([4] : List Nat).map fun t => s.getD t (.tup [])) H) [] retK [4])) := by
  kernel_rfl
theorem G60 (ρ : RO) (call : CallF) (yc : YieldF) (lim k : Nat) (x0 x1 : AV) (H : Heap) :
  evL (cx ρ) call yc false 60 lim k c60 [x0, x1, (.tup []), (.tup []), (.tup []), (.tup []), (.tup []), (.tup []), (.tup []), (.tup []), (.tup []), (.tup []), (.tup []), (.tup []), (.tup []), (.tup []), (.tup []), (.tup []), (.tup []), (.tup []), (.tup []), (.tup []), (.tup []), (.tup []), (.tup []), (.tup []), (.tup []), (.tup []), (.tup []), (.tup []), (.tup []), (.tup [])] H (kk none (fun s H => retK (([4] : List Nat).map fun t => s.getD t (.tup [])) H) [] retK [4]) = L60 ρ call yc lim k x0 x1 H := by
  rw [evL_X, L60_x]
  simp only [← evL_X, L60, N60_1_eq]
theorem E60 (ρ : RO) (k lim : Nat) (x0 x1 : AV) (H : Heap) : evCall (cx ρ) (k + 1) lim 60 [x0, x1] H = L60 ρ (evCall (cx ρ) k) (evCY (cx ρ) k).2 lim k x0 x1 H := by
  rw [evCall_body (cx ρ) k lim 60 _ H Tryd.f60 c60 [4] (by kernel_rfl) (by kernel_rfl) (by kernel_rfl) (by kernel_rfl) (by kernel_rfl)]
  exact G60 ρ (evCall (cx ρ) k) (evCY (cx ρ) k).2 lim k x0 x1 H
end Go.Proofs.YtnkeebchblfbgaaDoor

-- part Sc7
/- Functions, lifted. Printed by a program of this repo. -/
set_option linter.unusedVariables false
set_option linter.unusedSimpArgs false
set_option maxRecDepth 100000
set_option maxHeartbeats 4000000
namespace Go.Proofs.YtnkeebchblfbgaaDoor
open Go.Ev Go.RowKit
-- (*strings.Builder).Grow
noncomputable def c61 : Code := Code.of Tryd.prog 61
noncomputable def N61_1 (ρ : RO) (call : CallF) (yc : YieldF) (lim k : Nat) (x0 x1 : AV) (H : Heap) (R : KR) : Res :=
  purK (nilChkA x0) fun x10_1 =>
  purK (addA 1 x10_1) fun x11_1 =>
  purK (ld1 ρ H x11_1) fun x12_1 =>
  purK (capS x12_1) fun x13_1 =>
  purK (nilChkA x0) fun x15_1 =>
  purK (addA 1 x15_1) fun x16_1 =>
  purK (ld1 ρ H x16_1) fun x17_1 =>
  purK (lenS x17_1) fun x18_1 =>
  purK (binA Tryd.prog H .sub 3 x13_1 x18_1) fun x19_1 =>
  purK (binA Tryd.prog H .lss 3 x19_1 x1) fun x21_1 =>
  condK x21_1
  (
  resK (call lim 74 [x0, x1] H) fun x24_1 H =>
  R [] H)
  (
  R [] H)
theorem N61_1_eq (ρ : RO) (call : CallF) (yc : YieldF) (lim k : Nat) (x0 x1 : AV) (H : Heap) (R : KR) :
  evL (cx ρ) call yc false 61 lim k (Code.at [1, 1] c61) (sp 25 [(0, x0), (1, x1)]) H (kk none (fun s H => R (([] : List Nat).map fun t => s.getD t (.tup [])) H) [] R []) = N61_1 ρ call yc lim k x0 x1 H R := by
  kernel_rfl
noncomputable def L61 (ρ : RO) (call : CallF) (yc : YieldF) (lim k : Nat) (x0 x1 : AV) (H : Heap) : Res :=
  resK (call lim 45 [x0] H) fun x5 H =>
  purK (binA Tryd.prog H .lss 3 x1 (.int .i64 0)) fun x7 =>
  condK x7
  (
  effK H (none) fun _ H =>
  N61_1 ρ call yc lim k x0 x1 H retK)
  (
  N61_1 ρ call yc lim k x0 x1 H retK)
theorem L61_x (ρ : RO) (call : CallF) (yc : YieldF) (lim k : Nat) (J : CodeF) (x0 x1 : AV) (H : Heap) :
  evX (cx ρ) call yc false 61 lim k J c61 [x0, x1, (.tup []), (.tup []), (.tup []), (.tup []), (.tup []), (.tup []), (.tup []), (.tup []), (.tup []), (.tup []), (.tup []), (.tup []), (.tup []), (.tup []), (.tup []), (.tup []), (.tup []), (.tup []), (.tup []), (.tup []), (.tup []), (.tup []), (.tup [])] H (kk none (fun s H => retK (([] : List Nat).map fun t => s.getD t (.tup [])) H) [] retK []) =
  resK (call lim 45 [x0] H) fun x5 H =>
  purK (binA Tryd.prog H .lss 3 x1 (.int .i64 0)) fun x7 =>
  condK x7
  (
  effK H (none) fun _ H =>
  J (Code.at [1, 1] c61) (sp 25 [(0, x0), (1, x1)]) H (kk none (fun s H => retK (([] : List Nat).map fun t => s.getD t (.tup [])) H) [] retK []))
  (
  J (Code.at [1, 1] c61) (sp 25 [(0, x0), (1, x1)]) H (kk none (fun s H => retK (([] : List Nat).map fun t => s.getD t (.tup [])) H) [] retK [])) := by
  kernel_rfl
theorem G61 (ρ : RO) (call : CallF) (yc : YieldF) (lim k : Nat) (x0 x1 : AV) (H : Heap) :
  evL (cx ρ) call yc false 61 lim k c61 [x0, x1, (.tup []), (.tup []), (.tup []), (.tup []), (.tup []), (.tup []), (.tup []), (.tup []), (.tup []), (.tup []), (.tup []), (.tup []), (.tup []), (.tup []), (.tup []), (.tup []), (.tup []), (.tup []), (.tup []), (.tup []), (.tup []), (.tup []), (.tup [])] H (kk none (fun s H => retK (([] : List Nat).map fun t => s.getD t (.tup [])) H) [] retK []) = L61 ρ call yc lim k x0 x1 H := by
  rw [evL_X, L61_x]
  simp only [← evL_X, L61, N61_1_eq]
theorem E61 (ρ : RO) (k lim : Nat) (x0 x1 : AV) (H : Heap) : evCall (cx ρ) (k + 1) lim 61 [x0, x1] H = L61 ρ (evCall (cx ρ) k) (evCY (cx ρ) k).2 lim k x0 x1 H := by
  rw [evCall_body (cx ρ) k lim 61 _ H Tryd.f61 c61 [] (by kernel_rfl) (by kernel_rfl) (by kernel_rfl) (by kernel_rfl) (by kernel_rfl)]
  exact G61 ρ (evCall (cx ρ) k) (evCY (cx ρ) k).2 lim k x0 x1 H
-- strings.Count
noncomputable def c66 : Code := Code.of Tryd.prog 66
noncomputable def N66_2b (ρ : RO) (call : CallF) (yc : YieldF) (lim k : Nat) (x0 x1 x5 : AV) (H : Heap) (kn : AV → AV → Heap → Res) (R : KR) : Res :=
  resK (call lim 67 [x0, x1] H) fun x22_1 H =>
  purK (binA Tryd.prog H .eql 3 x22_1 (.int .i64 (-1))) fun x24_1 =>
  condK x24_1
  (
  R [x5] H)
  (
  purK (binA Tryd.prog H .add 3 x5 (.int .i64 1)) fun x27_1 =>
  purK (lenT x1) fun x31_1 =>
  purK (binA Tryd.prog H .add 3 x22_1 x31_1) fun x32_1 =>
  purK (slT x0 (some x32_1) none) fun x33_1 =>
  kn x33_1 x27_1 H)
theorem N66_2b_eq (ρ : RO) (call : CallF) (yc : YieldF) (lim k : Nat) (x0 x1 x5 : AV) (H : Heap) (kn : KS) (R : KR) :
  evL (cx ρ) call yc false 66 lim k (Code.at [1, 1, 1, 1, 0, 0] c66) (sp 34 [(0, x0), (1, x1), (5, x5)]) H (kk (some [0, 1, 5]) kn [(0, none, (fun s H => R (([4] : List Nat).map fun t => s.getD t (.tup [])) H))] R [4]) = N66_2b ρ call yc lim k x0 x1 x5 H (fun x0 x5 H => kn (sp 34 [(0, x0), (1, x1), (5, x5)]) H) R := by
  kernel_rfl
noncomputable def N66_2 (ρ : RO) (call : CallF) (yc : YieldF) (lim k : Nat) (x0 x1 x5 : AV) (H : Heap) (R : KR) : Res :=
  loopL (fun (x : AV × AV) H kn => N66_2b ρ call yc lim k x.1 x1 x.2 H (fun x0 x5 H => kn (x0, x5) H) R) k (x0, x5) H
theorem N66_2_eq (ρ : RO) (call : CallF) (yc : YieldF) (lim k : Nat) (x0 x1 x5 : AV) (H : Heap) (R : KR) :
  evL (cx ρ) call yc false 66 lim k (Code.at [1, 1, 1, 1, 0] c66) (sp 34 [(0, x0), (1, x1), (5, x5)]) H (kk none (fun s H => R (([4] : List Nat).map fun t => s.getD t (.tup [])) H) [(0, none, (fun s H => R (([4] : List Nat).map fun t => s.getD t (.tup [])) H))] R [4]) = N66_2 ρ call yc lim k x0 x1 x5 H R := by
  have e : Code.at [1, 1, 1, 1, 0] c66 = .loop (Code.at [1, 1, 1, 1, 0, 0] c66) := by kernel_rfl
  rw [e]
  unfold N66_2
  exact loop_node [0, 1, 5] (fun x : AV × AV => (sp 34 [(0, (x.1)), (1, x1), (5, (x.2))])) (fun (x : AV × AV) H kn => N66_2b ρ call yc lim k x.1 x1 x.2 H (fun x0 x5 H => kn (x0, x5) H) R) (by kernel_rfl) (fun x => by kernel_rfl) (fun x H kn => N66_2b_eq ρ call yc lim k (x.1) x1 (x.2) H kn R) (x0, x5) (sp 34 [(0, x0), (1, x1), (5, x5)]) H (by kernel_rfl)
noncomputable def N66_1 (ρ : RO) (call : CallF) (yc : YieldF) (lim k : Nat) (x0 x1 x5 : AV) (H : Heap) (R : KR) : Res :=
  N66_2 ρ call yc lim k x0 x1 x5 H R
theorem N66_1_x (ρ : RO) (call : CallF) (yc : YieldF) (lim k : Nat) (J : CodeF) (x0 x1 x5 : AV) (H : Heap) (R : KR) :
  evX (cx ρ) call yc false 66 lim k J (Code.at [1, 1, 1, 1] c66) (sp 34 [(0, x0), (1, x1), (5, x5)]) H (kk none (fun s H => R (([4] : List Nat).map fun t => s.getD t (.tup [])) H) [] R [4]) =
  J (Code.at [1, 1, 1, 1, 0] c66) (sp 34 [(0, x0), (1, x1), (5, x5)]) H (kk none (fun s H => R (([4] : List Nat).map fun t => s.getD t (.tup [])) H) [(0, none, (fun s H => R (([4] : List Nat).map fun t => s.getD t (.tup [])) H))] R [4]) := by
  kernel_rfl
theorem N66_1_eq (ρ : RO) (call : CallF) (yc : YieldF) (lim k : Nat) (x0 x1 x5 : AV) (H : Heap) (R : KR) :
  evL (cx ρ) call yc false 66 lim k (Code.at [1, 1, 1, 1] c66) (sp 34 [(0, x0), (1, x1), (5, x5)]) H (kk none (fun s H => R (([4] : List Nat).map fun t => s.getD t (.tup [])) H) [] R [4]) = N66_1 ρ call yc lim k x0 x1 x5 H R := by
  rw [evL_X, N66_1_x]
  simp only [← evL_X, N66_1, N66_2_eq]
noncomputable def L66 (ρ : RO) (call : CallF) (yc : YieldF) (lim k : Nat) (x0 x1 : AV) (H : Heap) : Res :=
  purK (lenT x1) fun x8 =>
  purK (binA Tryd.prog H .eql 3 x8 (.int .i64 0)) fun x9 =>
  condK x9
  (
  resK (call lim 76 [x0] H) fun x11 H =>
  purK (binA Tryd.prog H .add 3 x11 (.int .i64 1)) fun x12 =>
  retK [x12] H)
  (
  purK (lenT x1) fun x14 =>
  purK (binA Tryd.prog H .eql 3 x14 (.int .i64 1)) fun x15 =>
  condK x15
  (
  purK (ixT x1 (.int .i64 0)) fun x18 =>
  resK (call lim 78 [x0, x18] H) fun x19 H =>
  retK [x19] H)
  (
  N66_1 ρ call yc lim k x0 x1 (.int .i64 0) H retK))
theorem L66_x (ρ : RO) (call : CallF) (yc : YieldF) (lim k : Nat) (J : CodeF) (x0 x1 : AV) (H : Heap) :
  evX (cx ρ) call yc false 66 lim k J c66 [x0, x1, (.tup []), (.tup []), (.tup []), (.tup []), (.tup []), (.tup []), (.tup []), (.tup []), (.tup []), (.tup []), (.tup []), (.tup []), (.tup []), (.tup []), (.tup []), (.tup []), (.tup []), (.tup []), (.tup []), (.tup []), (.tup []), (.tup []), (.tup []), (.tup []), (.tup []), (.tup []), (.tup []), (.tup []), (.tup []), (.tup []), (.tup []), (.tup [])] H (kk none (fun s H => retK (([4] : List Nat).map fun t => s.getD t (.tup [])) H) [] retK [4]) =
  purK (lenT x1) fun x8 =>
  purK (binA Tryd.prog H .eql 3 x8 (.int .i64 0)) fun x9 =>
  condK x9
  (
  resK (call lim 76 [x0] H) fun x11 H =>
  purK (binA Tryd.prog H .add 3 x11 (.int .i64 1)) fun x12 =>
  retK [x12] H)
  (
  purK (lenT x1) fun x14 =>
  purK (binA Tryd.prog H .eql 3 x14 (.int .i64 1)) fun x15 =>
  condK x15
  (
  purK (ixT x1 (.int .i64 0)) fun x18 =>
  resK (call lim 78 [x0, x18] H) fun x19 H =>
  retK [x19] H)
  (
  J (Code.at [1, 1, 1, 1] c66) (sp 34 [(0, x0), (1, x1), (5, (.int .i64 0))]) H (kk none (fun s H => retK (([4] : List Nat).map fun t => s.getD t (.tup [])) H) [] retK [4]))) := by
  kernel_rfl
theorem G66 (ρ : RO) (call : CallF) (yc : YieldF) (lim k : Nat) (x0 x1 : AV) (H : Heap) :
  evL (cx ρ) call yc false 66 lim k c66 [x0, x1, (.tup []), (.tup []), (.tup []), (.tup []), (.tup []), (.tup []), (.tup []), (.tup []), (.tup []), (.tup []), (.tup []), (.tup []), (.tup []), (.tup []), (.tup []), (.tup []), (.tup []), (.tup []), (.tup []), (.tup []), (.tup []), (.tup []), (.tup []), (.tup []), (.tup []), (.tup []), (.tup []), (.tup []), (.tup []), (.tup []), (.tup []), (.tup [])] H (kk none (fun s H => retK (([4] : List Nat).map fun t => s.getD t (.tup [])) H) [] retK [4]) = L66 ρ call yc lim k x0 x1 H := by
  rw [evL_X, L66_x]
  simp only [← evL_X, L66, N66_1_eq]
theorem E66 (ρ : RO) (k lim : Nat) (x0 x1 : AV) (H : Heap) : evCall (cx ρ) (k + 1) lim 66 [x0, x1] H = L66 ρ (evCall (cx ρ) k) (evCY (cx ρ) k).2 lim k x0 x1 H := by
  rw [evCall_body (cx ρ) k lim 66 _ H Tryd.f66 c66 [4] (by kernel_rfl) (by kernel_rfl) (by kernel_rfl) (by kernel_rfl) (by kernel_rfl)]
  exact G66 ρ (evCall (cx ρ) k) (evCY (cx ρ) k).2 lim k x0 x1 H
-- strings.Index
noncomputable def c67 : Code := Code.of Tryd.prog 67
noncomputable def L67 (ρ : RO) (call : CallF) (yc : YieldF) (lim k : Nat) (x0 x1 : AV) (H : Heap) : Res :=
  resK (call lim 52 [x0, x1] H) fun x7 H =>
  retK [x7] H
theorem G67 (ρ : RO) (call : CallF) (yc : YieldF) (lim k : Nat) (x0 x1 : AV) (H : Heap) :
  evL (cx ρ) call yc false 67 lim k c67 [x0, x1, (.tup []), (.tup []), (.tup []), (.tup []), (.tup []), (.tup [])] H (kk none (fun s H => retK (([4] : List Nat).map fun t => s.getD t (.tup [])) H) [] retK [4]) = L67 ρ call yc lim k x0 x1 H := by
  kernel_rfl
theorem E67 (ρ : RO) (k lim : Nat) (x0 x1 : AV) (H : Heap) : evCall (cx ρ) (k + 1) lim 67 [x0, x1] H = L67 ρ (evCall (cx ρ) k) (evCY (cx ρ) k).2 lim k x0 x1 H := by
  rw [evCall_body (cx ρ) k lim 67 _ H Tryd.f67 c67 [4] (by kernel_rfl) (by kernel_rfl) (by kernel_rfl) (by kernel_rfl) (by kernel_rfl)]
  exact G67 ρ (evCall (cx ρ) k) (evCY (cx ρ) k).2 lim k x0 x1 H
-- strconv.ParseUint
noncomputable def c68 : Code := Code.of Tryd.prog 68
noncomputable def L68 (ρ : RO) (call : CallF) (yc : YieldF) (lim k : Nat) (x0 x1 x2 : AV) (H : Heap) : Res :=
  resK (call lim 79 [x0, x1, x2] H) fun x14 H =>
  purK (extA 0 x14) fun x15 =>
  purK (extA 1 x14) fun x16 =>
  purK (eqI Tryd.prog .neq true x16 .nili) fun x18 =>
  condK x18
  (
  resK (call lim 80 [(.str (ByteArray.mk #[80, 97, 114, 115, 101, 85, 105, 110, 116])), x0, x1, x2, x16] H) fun x24 H =>
  retK [x15, x24] H)
  (
  retK [x15, .nili] H)
theorem G68 (ρ : RO) (call : CallF) (yc : YieldF) (lim k : Nat) (x0 x1 x2 : AV) (H : Heap) :
  evL (cx ρ) call yc false 68 lim k c68 [x0, x1, x2, (.tup []), (.tup []), (.tup []), (.tup []), (.tup []), (.tup []), (.tup []), (.tup []), (.tup []), (.tup []), (.tup []), (.tup []), (.tup []), (.tup []), (.tup []), (.tup []), (.tup []), (.tup []), (.tup []), (.tup []), (.tup []), (.tup []), (.tup [])] H (kk none (fun s H => retK (([6, 7] : List Nat).map fun t => s.getD t (.tup [])) H) [] retK [6, 7]) = L68 ρ call yc lim k x0 x1 x2 H := by
  kernel_rfl
theorem E68 (ρ : RO) (k lim : Nat) (x0 x1 x2 : AV) (H : Heap) : evCall (cx ρ) (k + 1) lim 68 [x0, x1, x2] H = L68 ρ (evCall (cx ρ) k) (evCY (cx ρ) k).2 lim k x0 x1 x2 H := by
  rw [evCall_body (cx ρ) k lim 68 _ H Tryd.f68 c68 [6, 7] (by kernel_rfl) (by kernel_rfl) (by kernel_rfl) (by kernel_rfl) (by kernel_rfl)]
  exact G68 ρ (evCall (cx ρ) k) (evCY (cx ρ) k).2 lim k x0 x1 x2 H
-- internal/strconv.FormatInt
noncomputable def c69 : Code := Code.of Tryd.prog 69
noncomputable def N69_2 (ρ : RO) (call : CallF) (yc : YieldF) (lim k : Nat) (x9 : AV) (H : Heap) (R : KR) : Res :=
  R [x9] H
theorem N69_2_eq (ρ : RO) (call : CallF) (yc : YieldF) (lim k : Nat) (x9 : AV) (H : Heap) (R : KR) :
  evL (cx ρ) call yc false 69 lim k (Code.at [1, 1, 1] c69) (sp 54 [(9, x9)]) H (kk none (fun s H => R (([4] : List Nat).map fun t => s.getD t (.tup [])) H) [] R [4]) = N69_2 ρ call yc lim k x9 H R := by
  kernel_rfl
noncomputable def N69_1 (ρ : RO) (call : CallF) (yc : YieldF) (lim k : Nat) (x0 x1 : AV) (H : Heap) (R : KR) : Res :=
  purK (cvI .u64 x0) fun x46_1 =>
  purK (binA Tryd.prog H .lss 2 x0 (.int .i64 0)) fun x49_1 =>
  resK (call lim 73 [.nils, x46_1, x1, x49_1, (.bool false)] H) fun x50_1 H =>
  purK (extA 0 x50_1) fun x51_1 =>
  purK (extA 1 x50_1) fun x52_1 =>
  N69_2 ρ call yc lim k x52_1 H R
theorem N69_1_x (ρ : RO) (call : CallF) (yc : YieldF) (lim k : Nat) (J : CodeF) (x0 x1 : AV) (H : Heap) (R : KR) :
  evX (cx ρ) call yc false 69 lim k J (Code.at [1, 1] c69) (sp 54 [(0, x0), (1, x1)]) H (kk none (fun s H => R (([4] : List Nat).map fun t => s.getD t (.tup [])) H) [] R [4]) =
  purK (cvI .u64 x0) fun x46_1 =>
  purK (binA Tryd.prog H .lss 2 x0 (.int .i64 0)) fun x49_1 =>
  resK (call lim 73 [.nils, x46_1, x1, x49_1, (.bool false)] H) fun x50_1 H =>
  purK (extA 0 x50_1) fun x51_1 =>
  purK (extA 1 x50_1) fun x52_1 =>
  J (Code.at [1, 1, 1] c69) (sp 54 [(9, x52_1)]) H (kk none (fun s H => R (([4] : List Nat).map fun t => s.getD t (.tup [])) H) [] R [4]) := by
  kernel_rfl
theorem N69_1_eq (ρ : RO) (call : CallF) (yc : YieldF) (lim k : Nat) (x0 x1 : AV) (H : Heap) (R : KR) :
  evL (cx ρ) call yc false 69 lim k (Code.at [1, 1] c69) (sp 54 [(0, x0), (1, x1)]) H (kk none (fun s H => R (([4] : List Nat).map fun t => s.getD t (.tup [])) H) [] R [4]) = N69_1 ρ call yc lim k x0 x1 H R := by
  rw [evL_X, N69_1_x]
  simp only [← evL_X, N69_1, N69_2_eq]
noncomputable def N69_4 (ρ : RO) (call : CallF) (yc : YieldF) (lim k : Nat) (x0 x5 x7 : AV) (H : Heap) (R : KR) : Res :=
  purK (binA Tryd.prog H .lss 2 x0 (.int .i64 0)) fun x34_1 =>
  condK x34_1
  (
  purK (ixR 1 24 x5 (.int .i64 0)) fun x35_1 =>
  effK H (stA lim H 1 x35_1 (.int .u8 45)) fun _ H =>
  purK (binA Tryd.prog H .add 3 (.int .i64 1) x7) fun x37_1 =>
  purK (slR 1 24 x5 none (some x37_1) none) fun x38_1 =>
  purK (b2s ρ H x38_1) fun x39_1 =>
  R [x39_1] H)
  (
  purK (binA Tryd.prog H .add 3 (.int .i64 1) x7) fun x41_1 =>
  purK (slR 1 24 x5 (some (.int .i64 1)) (some x41_1) none) fun x42_1 =>
  purK (b2s ρ H x42_1) fun x43_1 =>
  R [x43_1] H)
theorem N69_4_eq (ρ : RO) (call : CallF) (yc : YieldF) (lim k : Nat) (x0 x5 x7 : AV) (H : Heap) (kn : KS) (R : KR) :
  evL (cx ρ) call yc false 69 lim k (Code.at [1, 0, 1, 0, 1, 1, 1, 1, 1, 1] c69) (sp 54 [(0, x0), (5, x5), (7, x7)]) H (kk (some [0, 1]) kn [] R [4]) = N69_4 ρ call yc lim k x0 x5 x7 H R := by
  kernel_rfl
noncomputable def N69_3 (ρ : RO) (call : CallF) (yc : YieldF) (lim k : Nat) (x0 x5 x6 : AV) (H : Heap) (R : KR) : Res :=
  resK (call lim 71 [x6] H) fun x27_1 H =>
  purK (binA Tryd.prog H .add 3 (.int .i64 1) x27_1) fun x29_1 =>
  purK (slR 1 24 x5 (some (.int .i64 1)) (some x29_1) none) fun x30_1 =>
  resK (call lim 72 [x30_1, x6] H) fun x32_1 H =>
  N69_4 ρ call yc lim k x0 x5 x27_1 H R
theorem N69_3_x (ρ : RO) (call : CallF) (yc : YieldF) (lim k : Nat) (J : CodeF) (x0 x5 x6 : AV) (H : Heap) (kn : KS) (R : KR) :
  evX (cx ρ) call yc false 69 lim k J (Code.at [1, 0, 1, 0, 1, 1, 1, 1] c69) (sp 54 [(0, x0), (5, x5), (6, x6)]) H (kk (some [0, 1]) kn [] R [4]) =
  resK (call lim 71 [x6] H) fun x27_1 H =>
  purK (binA Tryd.prog H .add 3 (.int .i64 1) x27_1) fun x29_1 =>
  purK (slR 1 24 x5 (some (.int .i64 1)) (some x29_1) none) fun x30_1 =>
  resK (call lim 72 [x30_1, x6] H) fun x32_1 H =>
  J (Code.at [1, 0, 1, 0, 1, 1, 1, 1, 1, 1] c69) (sp 54 [(0, x0), (5, x5), (7, x27_1)]) H (kk (some [0, 1]) kn [] R [4]) := by
  kernel_rfl
theorem N69_3_eq (ρ : RO) (call : CallF) (yc : YieldF) (lim k : Nat) (x0 x5 x6 : AV) (H : Heap) (kn : KS) (R : KR) :
  evL (cx ρ) call yc false 69 lim k (Code.at [1, 0, 1, 0, 1, 1, 1, 1] c69) (sp 54 [(0, x0), (5, x5), (6, x6)]) H (kk (some [0, 1]) kn [] R [4]) = N69_3 ρ call yc lim k x0 x5 x6 H R := by
  rw [evL_X, N69_3_x]
  simp only [← evL_X, N69_3, N69_4_eq]
noncomputable def L69 (ρ : RO) (call : CallF) (yc : YieldF) (lim k : Nat) (x0 x1 : AV) (H : Heap) : Res :=
  purK (binA Tryd.prog H .eql 3 x1 (.int .i64 10)) fun x11 =>
  condK x11
  (
  purK (binA Tryd.prog H .leq 2 (.int .i64 0) x0) fun x13 =>
  purK (gPur (wantV x13 true) (some x0)) fun x15 =>
  purK (gPur (wantV x13 true) (binA Tryd.prog H .lss 2 x15 (.int .i64 100))) fun x16 =>
  purK (pickA x13 x16 (.bool false)) fun x17 =>
  condK x17
  (
  resK (call lim 70 [x0] H) fun x19 H =>
  retK [x19] H)
  (
  effK H (some (.ptr H.sz 0 0, .new (newCells 99 false [.int .u8 0, .int .u8 0, .int .u8 0, .int .u8 0, .int .u8 0, .int .u8 0, .int .u8 0, .int .u8 0, .int .u8 0, .int .u8 0, .int .u8 0, .int .u8 0, .int .u8 0, .int .u8 0, .int .u8 0, .int .u8 0, .int .u8 0, .int .u8 0, .int .u8 0, .int .u8 0, .int .u8 0, .int .u8 0, .int .u8 0, .int .u8 0]))) fun x5 H =>
  purK (cvI .u64 x0) fun x21 =>
  purK (binA Tryd.prog H .lss 2 x0 (.int .i64 0)) fun x23 =>
  condK x23
  (
  purK (unA .neg x21) fun x25 =>
  N69_3 ρ call yc lim k x0 x5 x25 H retK)
  (
  N69_3 ρ call yc lim k x0 x5 x21 H retK)))
  (
  N69_1 ρ call yc lim k x0 x1 H retK)
theorem L69_x (ρ : RO) (call : CallF) (yc : YieldF) (lim k : Nat) (J : CodeF) (x0 x1 : AV) (H : Heap) :
  evX (cx ρ) call yc false 69 lim k J c69 [x0, x1, (.tup []), (.tup []), (.tup []), (.tup []), (.tup []), (.tup []), (.tup []), (.tup []), (.tup []), (.tup []), (.tup []), (.tup []), (.tup []), (.tup []), (.tup []), (.tup []), (.tup []), (.tup []), (.tup []), (.tup []), (.tup []), (.tup []), (.tup []), (.tup []), (.tup []), (.tup []), (.tup []), (.tup []), (.tup []), (.tup []), (.tup []), (.tup []), (.tup []), (.tup []), (.tup []), (.tup []), (.tup []), (.tup []), (.tup []), (.tup []), (.tup []), (.tup []), (.tup []), (.tup []), (.tup []), (.tup []), (.tup []), (.tup []), (.tup []), (.tup []), (.tup []), (.tup [])] H (kk none (fun s H => retK (([4] : List Nat).map fun t => s.getD t (.tup [])) H) [] retK [4]) =
  purK (binA Tryd.prog H .eql 3 x1 (.int .i64 10)) fun x11 =>
  condK x11
  (
  purK (binA Tryd.prog H .leq 2 (.int .i64 0) x0) fun x13 =>
  purK (gPur (wantV x13 true) (some x0)) fun x15 =>
  purK (gPur (wantV x13 true) (binA Tryd.prog H .lss 2 x15 (.int .i64 100))) fun x16 =>
  purK (pickA x13 x16 (.bool false)) fun x17 =>
  condK x17
  (
  resK (call lim 70 [x0] H) fun x19 H =>
  retK [x19] H)
  (
  effK H (some (.ptr H.sz 0 0, .new (newCells 99 false [.int .u8 0, .int .u8 0, .int .u8 0, .int .u8 0, .int .u8 0, .int .u8 0, .int .u8 0, .int .u8 0, .int .u8 0, .int .u8 0, .int .u8 0, .int .u8 0, .int .u8 0, .int .u8 0, .int .u8 0, .int .u8 0, .int .u8 0, .int .u8 0, .int .u8 0, .int .u8 0, .int .u8 0, .int .u8 0, .int .u8 0, .int .u8 0]))) fun x5 H =>
  purK (cvI .u64 x0) fun x21 =>
  purK (binA Tryd.prog H .lss 2 x0 (.int .i64 0)) fun x23 =>
  condK x23
  (
  purK (unA .neg x21) fun x25 =>
  J (Code.at [1, 0, 1, 0, 1, 1, 1, 1] c69) (sp 54 [(0, x0), (5, x5), (6, x25)]) H (kk (some [0, 1]) (fun s H => J (Code.at [1, 1] c69) s H (kk none (fun s H => retK (([4] : List Nat).map fun t => s.getD t (.tup [])) H) [] retK [4])) [] retK [4]))
  (
  J (Code.at [1, 0, 1, 0, 1, 1, 1, 1] c69) (sp 54 [(0, x0), (5, x5), (6, x21)]) H (kk (some [0, 1]) (fun s H => J (Code.at [1, 1] c69) s H (kk none (fun s H => retK (([4] : List Nat).map fun t => s.getD t (.tup [])) H) [] retK [4])) [] retK [4]))))
  (
  J (Code.at [1, 1] c69) (sp 54 [(0, x0), (1, x1)]) H (kk none (fun s H => retK (([4] : List Nat).map fun t => s.getD t (.tup [])) H) [] retK [4])) := by
  kernel_rfl
theorem G69 (ρ : RO) (call : CallF) (yc : YieldF) (lim k : Nat) (x0 x1 : AV) (H : Heap) :
  evL (cx ρ) call yc false 69 lim k c69 [x0, x1, (.tup []), (.tup []), (.tup []), (.tup []), (.tup []), (.tup []), (.tup []), (.tup []), (.tup []), (.tup []), (.tup []), (.tup []), (.tup []), (.tup []), (.tup []), (.tup []), (.tup []), (.tup []), (.tup []), (.tup []), (.tup []), (.tup []), (.tup []), (.tup []), (.tup []), (.tup []), (.tup []), (.tup []), (.tup []), (.tup []), (.tup []), (.tup []), (.tup []), (.tup []), (.tup []), (.tup []), (.tup []), (.tup []), (.tup []), (.tup []), (.tup []), (.tup []), (.tup []), (.tup []), (.tup []), (.tup []), (.tup []), (.tup []), (.tup []), (.tup []), (.tup []), (.tup [])] H (kk none (fun s H => retK (([4] : List Nat).map fun t => s.getD t (.tup [])) H) [] retK [4]) = L69 ρ call yc lim k x0 x1 H := by
  rw [evL_X, L69_x]
  simp only [← evL_X, L69, N69_1_eq, N69_3_eq]
theorem E69 (ρ : RO) (k lim : Nat) (x0 x1 : AV) (H : Heap) : evCall (cx ρ) (k + 1) lim 69 [x0, x1] H = L69 ρ (evCall (cx ρ) k) (evCY (cx ρ) k).2 lim k x0 x1 H := by
  rw [evCall_body (cx ρ) k lim 69 _ H Tryd.f69 c69 [4] (by kernel_rfl) (by kernel_rfl) (by kernel_rfl) (by kernel_rfl) (by kernel_rfl)]
  exact G69 ρ (evCall (cx ρ) k) (evCY (cx ρ) k).2 lim k x0 x1 H
-- internal/strconv.small
noncomputable def c70 : Code := Code.of Tryd.prog 70
noncomputable def L70 (ρ : RO) (call : CallF) (yc : YieldF) (lim k : Nat) (x0 : AV) (H : Heap) : Res :=
  purK (binA Tryd.prog H .lss 3 x0 (.int .i64 10)) fun x4 =>
  condK x4
  (
  purK (binA Tryd.prog H .add 3 x0 (.int .i64 1)) fun x7 =>
  purK (slT (.str (ByteArray.mk #[48, 49, 50, 51, 52, 53, 54, 55, 56, 57, 97, 98, 99, 100, 101, 102, 103, 104, 105, 106, 107, 108, 109, 110, 111, 112, 113, 114, 115, 116, 117, 118, 119, 120, 121, 122])) (some x0) (some x7)) fun x8 =>
  retK [x8] H)
  (
  purK (binA Tryd.prog H .mul 3 x0 (.int .i64 2)) fun x10 =>
  purK (binA Tryd.prog H .mul 3 x0 (.int .i64 2)) fun x12 =>
  purK (binA Tryd.prog H .add 3 x12 (.int .i64 2)) fun x13 =>
  purK (slT (.str (ByteArray.mk #[48, 48, 48, 49, 48, 50, 48, 51, 48, 52, 48, 53, 48, 54, 48, 55, 48, 56, 48, 57, 49, 48, 49, 49, 49, 50, 49, 51, 49, 52, 49, 53, 49, 54, 49, 55, 49, 56, 49, 57, 50, 48, 50, 49, 50, 50, 50, 51, 50, 52, 50, 53, 50, 54, 50, 55, 50, 56, 50, 57, 51, 48, 51, 49, 51, 50, 51, 51, 51, 52, 51, 53, 51, 54, 51, 55, 51, 56, 51, 57, 52, 48, 52, 49, 52, 50, 52, 51, 52, 52, 52, 53, 52, 54, 52, 55, 52, 56, 52, 57, 53, 48, 53, 49, 53, 50, 53, 51, 53, 52, 53, 53, 53, 54, 53, 55, 53, 56, 53, 57, 54, 48, 54, 49, 54, 50, 54, 51, 54, 52, 54, 53, 54, 54, 54, 55, 54, 56, 54, 57, 55, 48, 55, 49, 55, 50, 55, 51, 55, 52, 55, 53, 55, 54, 55, 55, 55, 56, 55, 57, 56, 48, 56, 49, 56, 50, 56, 51, 56, 52, 56, 53, 56, 54, 56, 55, 56, 56, 56, 57, 57, 48, 57, 49, 57, 50, 57, 51, 57, 52, 57, 53, 57, 54, 57, 55, 57, 56, 57, 57])) (some x10) (some x13)) fun x14 =>
  retK [x14] H)
theorem G70 (ρ : RO) (call : CallF) (yc : YieldF) (lim k : Nat) (x0 : AV) (H : Heap) :
  evL (cx ρ) call yc false 70 lim k c70 [x0, (.tup []), (.tup []), (.tup []), (.tup []), (.tup []), (.tup []), (.tup []), (.tup []), (.tup []), (.tup []), (.tup []), (.tup []), (.tup []), (.tup [])] H (kk none (fun s H => retK (([2] : List Nat).map fun t => s.getD t (.tup [])) H) [] retK [2]) = L70 ρ call yc lim k x0 H := by
  kernel_rfl
theorem E70 (ρ : RO) (k lim : Nat) (x0 : AV) (H : Heap) : evCall (cx ρ) (k + 1) lim 70 [x0] H = L70 ρ (evCall (cx ρ) k) (evCY (cx ρ) k).2 lim k x0 H := by
  rw [evCall_body (cx ρ) k lim 70 _ H Tryd.f70 c70 [2] (by kernel_rfl) (by kernel_rfl) (by kernel_rfl) (by kernel_rfl) (by kernel_rfl)]
  exact G70 ρ (evCall (cx ρ) k) (evCY (cx ρ) k).2 lim k x0 H
-- internal/strconv.numDigits
noncomputable def c71 : Code := Code.of Tryd.prog 71
noncomputable def L71 (ρ : RO) (call : CallF) (yc : YieldF) (lim k : Nat) (x0 : AV) (H : Heap) : Res :=
  resK (call lim 82 [x0] H) fun x5 H =>
  resK (call lim 81 [x5] H) fun x6 H =>
  purK (ixR 1 20 (.xp ⟨3, 0, none⟩) x6) fun x10 =>
  purK (ld1 ρ H x10) fun x11 =>
  purK (binA Tryd.prog H .geq 38 x0 x11) fun x12 =>
  resK (call lim 83 [x12] H) fun x13 H =>
  purK (binA Tryd.prog H .add 3 x6 x13) fun x14 =>
  retK [x14] H
theorem G71 (ρ : RO) (call : CallF) (yc : YieldF) (lim k : Nat) (x0 : AV) (H : Heap) :
  evL (cx ρ) call yc false 71 lim k c71 [x0, (.tup []), (.tup []), (.tup []), (.tup []), (.tup []), (.tup []), (.tup []), (.tup []), (.tup []), (.tup []), (.tup []), (.tup []), (.tup []), (.tup [])] H (kk none (fun s H => retK (([2] : List Nat).map fun t => s.getD t (.tup [])) H) [] retK [2]) = L71 ρ call yc lim k x0 H := by
  kernel_rfl
theorem E71 (ρ : RO) (k lim : Nat) (x0 : AV) (H : Heap) : evCall (cx ρ) (k + 1) lim 71 [x0] H = L71 ρ (evCall (cx ρ) k) (evCY (cx ρ) k).2 lim k x0 H := by
  rw [evCall_body (cx ρ) k lim 71 _ H Tryd.f71 c71 [2] (by kernel_rfl) (by kernel_rfl) (by kernel_rfl) (by kernel_rfl) (by kernel_rfl)]
  exact G71 ρ (evCall (cx ρ) k) (evCY (cx ρ) k).2 lim k x0 H
end Go.Proofs.YtnkeebchblfbgaaDoor

-- part Sc8
/- Functions, lifted. Printed by a program of this repo. -/
set_option linter.unusedVariables false
set_option linter.unusedSimpArgs false
set_option maxRecDepth 100000
set_option maxHeartbeats 4000000
namespace Go.Proofs.YtnkeebchblfbgaaDoor
open Go.Ev Go.RowKit
-- internal/strconv.formatBase10
noncomputable def c72 : Code := Code.of Tryd.prog 72
noncomputable def N72_4 (ρ : RO) (call : CallF) (yc : YieldF) (lim k : Nat) (x0 x4 x12 : AV) (H : Heap) (R : KR) : Res :=
  purK (binA Tryd.prog H .gtr 3 x4 (.int .i64 0)) fun x161_1 =>
  condK x161_1
  (
  purK (binA Tryd.prog H .add 104 (.int .u32 48) x12) fun x164_1 =>
  purK (cvI .u8 x164_1) fun x165_1 =>
  purK (ixS 1 x0 (.int .i64 0)) fun x166_1 =>
  effK H (stA lim H 1 x166_1 x165_1) fun _ H =>
  R [] H)
  (
  R [] H)
theorem N72_4_eq (ρ : RO) (call : CallF) (yc : YieldF) (lim k : Nat) (x0 x4 x12 : AV) (H : Heap) (R : KR) :
  evL (cx ρ) call yc false 72 lim k (Code.at [1, 1, 1, 1, 1] c72) (sp 167 [(0, x0), (4, x4), (12, x12)]) H (kk none (fun s H => R (([] : List Nat).map fun t => s.getD t (.tup [])) H) [] R []) = N72_4 ρ call yc lim k x0 x4 x12 H R := by
  kernel_rfl
noncomputable def N72_5 (ρ : RO) (call : CallF) (yc : YieldF) (lim k : Nat) (x0 x4 x12 x16 : AV) (H : Heap) (kn : AV → AV → AV → Heap → Res) : Res :=
  purK (binA Tryd.prog H .sub 3 x4 (.int .i64 1)) fun x147_1 =>
  purK (binA Tryd.prog H .sub 3 x4 (.int .i64 2)) fun x150_1 =>
  purK (binA Tryd.prog H .add 104 x16 (.int .u32 1)) fun x152_1 =>
  purK (ixT (.str (ByteArray.mk #[48, 48, 48, 49, 48, 50, 48, 51, 48, 52, 48, 53, 48, 54, 48, 55, 48, 56, 48, 57, 49, 48, 49, 49, 49, 50, 49, 51, 49, 52, 49, 53, 49, 54, 49, 55, 49, 56, 49, 57, 50, 48, 50, 49, 50, 50, 50, 51, 50, 52, 50, 53, 50, 54, 50, 55, 50, 56, 50, 57, 51, 48, 51, 49, 51, 50, 51, 51, 51, 52, 51, 53, 51, 54, 51, 55, 51, 56, 51, 57, 52, 48, 52, 49, 52, 50, 52, 51, 52, 52, 52, 53, 52, 54, 52, 55, 52, 56, 52, 57, 53, 48, 53, 49, 53, 50, 53, 51, 53, 52, 53, 53, 53, 54, 53, 55, 53, 56, 53, 57, 54, 48, 54, 49, 54, 50, 54, 51, 54, 52, 54, 53, 54, 54, 54, 55, 54, 56, 54, 57, 55, 48, 55, 49, 55, 50, 55, 51, 55, 52, 55, 53, 55, 54, 55, 55, 55, 56, 55, 57, 56, 48, 56, 49, 56, 50, 56, 51, 56, 52, 56, 53, 56, 54, 56, 55, 56, 56, 56, 57, 57, 48, 57, 49, 57, 50, 57, 51, 57, 52, 57, 53, 57, 54, 57, 55, 57, 56, 57, 57])) x152_1) fun x153_1 =>
  purK (ixT (.str (ByteArray.mk #[48, 48, 48, 49, 48, 50, 48, 51, 48, 52, 48, 53, 48, 54, 48, 55, 48, 56, 48, 57, 49, 48, 49, 49, 49, 50, 49, 51, 49, 52, 49, 53, 49, 54, 49, 55, 49, 56, 49, 57, 50, 48, 50, 49, 50, 50, 50, 51, 50, 52, 50, 53, 50, 54, 50, 55, 50, 56, 50, 57, 51, 48, 51, 49, 51, 50, 51, 51, 51, 52, 51, 53, 51, 54, 51, 55, 51, 56, 51, 57, 52, 48, 52, 49, 52, 50, 52, 51, 52, 52, 52, 53, 52, 54, 52, 55, 52, 56, 52, 57, 53, 48, 53, 49, 53, 50, 53, 51, 53, 52, 53, 53, 53, 54, 53, 55, 53, 56, 53, 57, 54, 48, 54, 49, 54, 50, 54, 51, 54, 52, 54, 53, 54, 54, 54, 55, 54, 56, 54, 57, 55, 48, 55, 49, 55, 50, 55, 51, 55, 52, 55, 53, 55, 54, 55, 55, 55, 56, 55, 57, 56, 48, 56, 49, 56, 50, 56, 51, 56, 52, 56, 53, 56, 54, 56, 55, 56, 56, 56, 57, 57, 48, 57, 49, 57, 50, 57, 51, 57, 52, 57, 53, 57, 54, 57, 55, 57, 56, 57, 57])) x16) fun x155_1 =>
  purK (ixS 1 x0 x147_1) fun x156_1 =>
  effK H (stA lim H 1 x156_1 x153_1) fun _ H => bif (agn (binA Tryd.prog H .sub 3 x4 (.int .i64 2)) x150_1 && true) then
  purK (ixS 1 x0 x150_1) fun x157_1 =>
  effK H (stA lim H 1 x157_1 x155_1) fun _ H =>
  purK (binA Tryd.prog H .sub 3 x4 (.int .i64 2)) fun x159_1 =>
  kn x0 x159_1 x12 H
  else none
theorem N72_5_eq (ρ : RO) (call : CallF) (yc : YieldF) (lim k : Nat) (x0 x4 x12 x16 : AV) (H : Heap) (kn : KS) (R : KR) :
  evL (cx ρ) call yc false 72 lim k (Code.at [1, 1, 1, 1, 0, 1, 0, 1, 1] c72) (sp 167 [(0, x0), (4, x4), (12, x12), (16, x16)]) H (kk (some [0, 4, 12]) kn [] R []) = N72_5 ρ call yc lim k x0 x4 x12 x16 H (fun x0 x4 x12 H => kn (sp 167 [(0, x0), (4, x4), (12, x12)]) H) := by
  kernel_rfl
noncomputable def N72_3 (ρ : RO) (call : CallF) (yc : YieldF) (lim k : Nat) (x0 x4 x12 : AV) (H : Heap) (R : KR) : Res :=
  purK (binA Tryd.prog H .geq 3 x4 (.int .i64 2)) fun x139_1 =>
  condK x139_1
  (
  purK (binA Tryd.prog H .rem 104 x12 (.int .u32 100)) fun x141_1 =>
  purK (binA Tryd.prog H .mul 104 x141_1 (.int .u32 2)) fun x142_1 =>
  purK (binA Tryd.prog H .quo 104 x12 (.int .u32 100)) fun x144_1 =>
  N72_5 ρ call yc lim k x0 x4 x144_1 x142_1 H (fun x0_1 x4_1 x12_1 H =>
  N72_4 ρ call yc lim k x0_1 x4_1 x12_1 H R))
  (
  N72_4 ρ call yc lim k x0 x4 x12 H R)
theorem N72_3_x (ρ : RO) (call : CallF) (yc : YieldF) (lim k : Nat) (J : CodeF) (x0 x4 x12 : AV) (H : Heap) (R : KR) :
  evX (cx ρ) call yc false 72 lim k J (Code.at [1, 1, 1, 1] c72) (sp 167 [(0, x0), (4, x4), (12, x12)]) H (kk none (fun s H => R (([] : List Nat).map fun t => s.getD t (.tup [])) H) [] R []) =
  purK (binA Tryd.prog H .geq 3 x4 (.int .i64 2)) fun x139_1 =>
  condK x139_1
  (
  purK (binA Tryd.prog H .rem 104 x12 (.int .u32 100)) fun x141_1 =>
  purK (binA Tryd.prog H .mul 104 x141_1 (.int .u32 2)) fun x142_1 =>
  purK (binA Tryd.prog H .quo 104 x12 (.int .u32 100)) fun x144_1 =>
  J (Code.at [1, 1, 1, 1, 0, 1, 0, 1, 1] c72) (sp 167 [(0, x0), (4, x4), (12, x144_1), (16, x142_1)]) H (kk (some [0, 4, 12]) (fun s H => J (Code.at [1, 1, 1, 1, 1] c72) s H (kk none (fun s H => R (([] : List Nat).map fun t => s.getD t (.tup [])) H) [] R [])) [] R []))
  (
  J (Code.at [1, 1, 1, 1, 1] c72) (sp 167 [(0, x0), (4, x4), (12, x12)]) H (kk none (fun s H => R (([] : List Nat).map fun t => s.getD t (.tup [])) H) [] R [])) := by
  kernel_rfl
theorem N72_3_eq (ρ : RO) (call : CallF) (yc : YieldF) (lim k : Nat) (x0 x4 x12 : AV) (H : Heap) (R : KR) :
  evL (cx ρ) call yc false 72 lim k (Code.at [1, 1, 1, 1] c72) (sp 167 [(0, x0), (4, x4), (12, x12)]) H (kk none (fun s H => R (([] : List Nat).map fun t => s.getD t (.tup [])) H) [] R []) = N72_3 ρ call yc lim k x0 x4 x12 H R := by
  rw [evL_X, N72_3_x]
  simp only [← evL_X, N72_3, N72_4_eq, N72_5_eq]
noncomputable def N72_6 (ρ : RO) (call : CallF) (yc : YieldF) (lim k : Nat) (x0 x4 x12 x14 : AV) (H : Heap) (kn : AV → AV → AV → Heap → Res) : Res :=
  purK (binA Tryd.prog H .sub 3 x4 (.int .i64 3)) fun x125_1 =>
  purK (binA Tryd.prog H .sub 3 x4 (.int .i64 4)) fun x128_1 =>
  purK (binA Tryd.prog H .add 104 x14 (.int .u32 1)) fun x130_1 =>
  purK (ixT (.str (ByteArray.mk #[48, 48, 48, 49, 48, 50, 48, 51, 48, 52, 48, 53, 48, 54, 48, 55, 48, 56, 48, 57, 49, 48, 49, 49, 49, 50, 49, 51, 49, 52, 49, 53, 49, 54, 49, 55, 49, 56, 49, 57, 50, 48, 50, 49, 50, 50, 50, 51, 50, 52, 50, 53, 50, 54, 50, 55, 50, 56, 50, 57, 51, 48, 51, 49, 51, 50, 51, 51, 51, 52, 51, 53, 51, 54, 51, 55, 51, 56, 51, 57, 52, 48, 52, 49, 52, 50, 52, 51, 52, 52, 52, 53, 52, 54, 52, 55, 52, 56, 52, 57, 53, 48, 53, 49, 53, 50, 53, 51, 53, 52, 53, 53, 53, 54, 53, 55, 53, 56, 53, 57, 54, 48, 54, 49, 54, 50, 54, 51, 54, 52, 54, 53, 54, 54, 54, 55, 54, 56, 54, 57, 55, 48, 55, 49, 55, 50, 55, 51, 55, 52, 55, 53, 55, 54, 55, 55, 55, 56, 55, 57, 56, 48, 56, 49, 56, 50, 56, 51, 56, 52, 56, 53, 56, 54, 56, 55, 56, 56, 56, 57, 57, 48, 57, 49, 57, 50, 57, 51, 57, 52, 57, 53, 57, 54, 57, 55, 57, 56, 57, 57])) x130_1) fun x131_1 =>
  purK (ixT (.str (ByteArray.mk #[48, 48, 48, 49, 48, 50, 48, 51, 48, 52, 48, 53, 48, 54, 48, 55, 48, 56, 48, 57, 49, 48, 49, 49, 49, 50, 49, 51, 49, 52, 49, 53, 49, 54, 49, 55, 49, 56, 49, 57, 50, 48, 50, 49, 50, 50, 50, 51, 50, 52, 50, 53, 50, 54, 50, 55, 50, 56, 50, 57, 51, 48, 51, 49, 51, 50, 51, 51, 51, 52, 51, 53, 51, 54, 51, 55, 51, 56, 51, 57, 52, 48, 52, 49, 52, 50, 52, 51, 52, 52, 52, 53, 52, 54, 52, 55, 52, 56, 52, 57, 53, 48, 53, 49, 53, 50, 53, 51, 53, 52, 53, 53, 53, 54, 53, 55, 53, 56, 53, 57, 54, 48, 54, 49, 54, 50, 54, 51, 54, 52, 54, 53, 54, 54, 54, 55, 54, 56, 54, 57, 55, 48, 55, 49, 55, 50, 55, 51, 55, 52, 55, 53, 55, 54, 55, 55, 55, 56, 55, 57, 56, 48, 56, 49, 56, 50, 56, 51, 56, 52, 56, 53, 56, 54, 56, 55, 56, 56, 56, 57, 57, 48, 57, 49, 57, 50, 57, 51, 57, 52, 57, 53, 57, 54, 57, 55, 57, 56, 57, 57])) x14) fun x133_1 =>
  purK (ixS 1 x0 x125_1) fun x134_1 =>
  effK H (stA lim H 1 x134_1 x131_1) fun _ H => bif (agn (binA Tryd.prog H .sub 3 x4 (.int .i64 4)) x128_1 && true) then
  purK (ixS 1 x0 x128_1) fun x135_1 =>
  effK H (stA lim H 1 x135_1 x133_1) fun _ H =>
  purK (binA Tryd.prog H .sub 3 x4 (.int .i64 4)) fun x137_1 =>
  kn x0 x137_1 x12 H
  else none
theorem N72_6_eq (ρ : RO) (call : CallF) (yc : YieldF) (lim k : Nat) (x0 x4 x12 x14 : AV) (H : Heap) (kn : KS) (R : KR) :
  evL (cx ρ) call yc false 72 lim k (Code.at [1, 1, 1, 0, 1, 0, 1, 1, 1, 1] c72) (sp 167 [(0, x0), (4, x4), (12, x12), (14, x14)]) H (kk (some [0, 4, 12]) kn [] R []) = N72_6 ρ call yc lim k x0 x4 x12 x14 H (fun x0 x4 x12 H => kn (sp 167 [(0, x0), (4, x4), (12, x12)]) H) := by
  kernel_rfl
noncomputable def N72_2 (ρ : RO) (call : CallF) (yc : YieldF) (lim k : Nat) (x0 x1 x4 : AV) (H : Heap) (R : KR) : Res :=
  purK (cvI .u32 x1) fun x97_1 =>
  purK (binA Tryd.prog H .geq 3 x4 (.int .i64 4)) fun x99_1 =>
  condK x99_1
  (
  purK (binA Tryd.prog H .rem 104 x97_1 (.int .u32 10000)) fun x101_1 =>
  purK (binA Tryd.prog H .quo 104 x97_1 (.int .u32 10000)) fun x103_1 =>
  purK (binA Tryd.prog H .quo 104 x101_1 (.int .u32 100)) fun x105_1 =>
  purK (binA Tryd.prog H .mul 104 x105_1 (.int .u32 2)) fun x106_1 =>
  purK (binA Tryd.prog H .rem 104 x101_1 (.int .u32 100)) fun x108_1 =>
  purK (binA Tryd.prog H .mul 104 x108_1 (.int .u32 2)) fun x109_1 =>
  purK (binA Tryd.prog H .sub 3 x4 (.int .i64 1)) fun x112_1 =>
  purK (binA Tryd.prog H .sub 3 x4 (.int .i64 2)) fun x115_1 =>
  purK (binA Tryd.prog H .add 104 x109_1 (.int .u32 1)) fun x117_1 =>
  purK (ixT (.str (ByteArray.mk #[48, 48, 48, 49, 48, 50, 48, 51, 48, 52, 48, 53, 48, 54, 48, 55, 48, 56, 48, 57, 49, 48, 49, 49, 49, 50, 49, 51, 49, 52, 49, 53, 49, 54, 49, 55, 49, 56, 49, 57, 50, 48, 50, 49, 50, 50, 50, 51, 50, 52, 50, 53, 50, 54, 50, 55, 50, 56, 50, 57, 51, 48, 51, 49, 51, 50, 51, 51, 51, 52, 51, 53, 51, 54, 51, 55, 51, 56, 51, 57, 52, 48, 52, 49, 52, 50, 52, 51, 52, 52, 52, 53, 52, 54, 52, 55, 52, 56, 52, 57, 53, 48, 53, 49, 53, 50, 53, 51, 53, 52, 53, 53, 53, 54, 53, 55, 53, 56, 53, 57, 54, 48, 54, 49, 54, 50, 54, 51, 54, 52, 54, 53, 54, 54, 54, 55, 54, 56, 54, 57, 55, 48, 55, 49, 55, 50, 55, 51, 55, 52, 55, 53, 55, 54, 55, 55, 55, 56, 55, 57, 56, 48, 56, 49, 56, 50, 56, 51, 56, 52, 56, 53, 56, 54, 56, 55, 56, 56, 56, 57, 57, 48, 57, 49, 57, 50, 57, 51, 57, 52, 57, 53, 57, 54, 57, 55, 57, 56, 57, 57])) x117_1) fun x118_1 =>
  purK (ixT (.str (ByteArray.mk #[48, 48, 48, 49, 48, 50, 48, 51, 48, 52, 48, 53, 48, 54, 48, 55, 48, 56, 48, 57, 49, 48, 49, 49, 49, 50, 49, 51, 49, 52, 49, 53, 49, 54, 49, 55, 49, 56, 49, 57, 50, 48, 50, 49, 50, 50, 50, 51, 50, 52, 50, 53, 50, 54, 50, 55, 50, 56, 50, 57, 51, 48, 51, 49, 51, 50, 51, 51, 51, 52, 51, 53, 51, 54, 51, 55, 51, 56, 51, 57, 52, 48, 52, 49, 52, 50, 52, 51, 52, 52, 52, 53, 52, 54, 52, 55, 52, 56, 52, 57, 53, 48, 53, 49, 53, 50, 53, 51, 53, 52, 53, 53, 53, 54, 53, 55, 53, 56, 53, 57, 54, 48, 54, 49, 54, 50, 54, 51, 54, 52, 54, 53, 54, 54, 54, 55, 54, 56, 54, 57, 55, 48, 55, 49, 55, 50, 55, 51, 55, 52, 55, 53, 55, 54, 55, 55, 55, 56, 55, 57, 56, 48, 56, 49, 56, 50, 56, 51, 56, 52, 56, 53, 56, 54, 56, 55, 56, 56, 56, 57, 57, 48, 57, 49, 57, 50, 57, 51, 57, 52, 57, 53, 57, 54, 57, 55, 57, 56, 57, 57])) x109_1) fun x120_1 =>
  purK (ixS 1 x0 x112_1) fun x121_1 =>
  effK H (stA lim H 1 x121_1 x118_1) fun _ H => bif (agn (binA Tryd.prog H .sub 3 x4 (.int .i64 2)) x115_1 && true) then
  purK (ixS 1 x0 x115_1) fun x122_1 =>
  effK H (stA lim H 1 x122_1 x120_1) fun _ H =>
  N72_6 ρ call yc lim k x0 x4 x103_1 x106_1 H (fun x0_1 x4_1 x12_1 H =>
  N72_3 ρ call yc lim k x0_1 x4_1 x12_1 H R)
  else none)
  (
  N72_3 ρ call yc lim k x0 x4 x97_1 H R)
theorem N72_2_x (ρ : RO) (call : CallF) (yc : YieldF) (lim k : Nat) (J : CodeF) (x0 x1 x4 : AV) (H : Heap) (R : KR) :
  evX (cx ρ) call yc false 72 lim k J (Code.at [1, 1] c72) (sp 167 [(0, x0), (1, x1), (4, x4)]) H (kk none (fun s H => R (([] : List Nat).map fun t => s.getD t (.tup [])) H) [] R []) =
  purK (cvI .u32 x1) fun x97_1 =>
  purK (binA Tryd.prog H .geq 3 x4 (.int .i64 4)) fun x99_1 =>
  condK x99_1
  (
  purK (binA Tryd.prog H .rem 104 x97_1 (.int .u32 10000)) fun x101_1 =>
  purK (binA Tryd.prog H .quo 104 x97_1 (.int .u32 10000)) fun x103_1 =>
  purK (binA Tryd.prog H .quo 104 x101_1 (.int .u32 100)) fun x105_1 =>
  purK (binA Tryd.prog H .mul 104 x105_1 (.int .u32 2)) fun x106_1 =>
  purK (binA Tryd.prog H .rem 104 x101_1 (.int .u32 100)) fun x108_1 =>
  purK (binA Tryd.prog H .mul 104 x108_1 (.int .u32 2)) fun x109_1 =>
  purK (binA Tryd.prog H .sub 3 x4 (.int .i64 1)) fun x112_1 =>
  purK (binA Tryd.prog H .sub 3 x4 (.int .i64 2)) fun x115_1 =>
  purK (binA Tryd.prog H .add 104 x109_1 (.int .u32 1)) fun x117_1 =>
  purK (ixT (.str (ByteArray.mk #[48, 48, 48, 49, 48, 50, 48, 51, 48, 52, 48, 53, 48, 54, 48, 55, 48, 56, 48, 57, 49, 48, 49, 49, 49, 50, 49, 51, 49, 52, 49, 53, 49, 54, 49, 55, 49, 56, 49, 57, 50, 48, 50, 49, 50, 50, 50, 51, 50, 52, 50, 53, 50, 54, 50, 55, 50, 56, 50, 57, 51, 48, 51, 49, 51, 50, 51, 51, 51, 52, 51, 53, 51, 54, 51, 55, 51, 56, 51, 57, 52, 48, 52, 49, 52, 50, 52, 51, 52, 52, 52, 53, 52, 54, 52, 55, 52, 56, 52, 57, 53, 48, 53, 49, 53, 50, 53, 51, 53, 52, 53, 53, 53, 54, 53, 55, 53, 56, 53, 57, 54, 48, 54, 49, 54, 50, 54, 51, 54, 52, 54, 53, 54, 54, 54, 55, 54, 56, 54, 57, 55, 48, 55, 49, 55, 50, 55, 51, 55, 52, 55, 53, 55, 54, 55, 55, 55, 56, 55, 57, 56, 48, 56, 49, 56, 50, 56, 51, 56, 52, 56, 53, 56, 54, 56, 55, 56, 56, 56, 57, 57, 48, 57, 49, 57, 50, 57, 51, 57, 52, 57, 53, 57, 54, 57, 55, 57, 56, 57, 57])) x117_1) fun x118_1 =>
  purK (ixT (.str (ByteArray.mk #[48, 48, 48, 49, 48, 50, 48, 51, 48, 52, 48, 53, 48, 54, 48, 55, 48, 56, 48, 57, 49, 48, 49, 49, 49, 50, 49, 51, 49, 52, 49, 53, 49, 54, 49, 55, 49, 56, 49, 57, 50, 48, 50, 49, 50, 50, 50, 51, 50, 52, 50, 53, 50, 54, 50, 55, 50, 56, 50, 57, 51, 48, 51, 49, 51, 50, 51, 51, 51, 52, 51, 53, 51, 54, 51, 55, 51, 56, 51, 57, 52, 48, 52, 49, 52, 50, 52, 51, 52, 52, 52, 53, 52, 54, 52, 55, 52, 56, 52, 57, 53, 48, 53, 49, 53, 50, 53, 51, 53, 52, 53, 53, 53, 54, 53, 55, 53, 56, 53, 57, 54, 48, 54, 49, 54, 50, 54, 51, 54, 52, 54, 53, 54, 54, 54, 55, 54, 56, 54, 57, 55, 48, 55, 49, 55, 50, 55, 51, 55, 52, 55, 53, 55, 54, 55, 55, 55, 56, 55, 57, 56, 48, 56, 49, 56, 50, 56, 51, 56, 52, 56, 53, 56, 54, 56, 55, 56, 56, 56, 57, 57, 48, 57, 49, 57, 50, 57, 51, 57, 52, 57, 53, 57, 54, 57, 55, 57, 56, 57, 57])) x109_1) fun x120_1 =>
  purK (ixS 1 x0 x112_1) fun x121_1 =>
  effK H (stA lim H 1 x121_1 x118_1) fun _ H => bif (agn (binA Tryd.prog H .sub 3 x4 (.int .i64 2)) x115_1 && true) then
  purK (ixS 1 x0 x115_1) fun x122_1 =>
  effK H (stA lim H 1 x122_1 x120_1) fun _ H =>
  J (Code.at [1, 1, 1, 0, 1, 0, 1, 1, 1, 1] c72) (sp 167 [(0, x0), (4, x4), (12, x103_1), (14, x106_1)]) H (kk (some [0, 4, 12]) (fun s H => J (Code.at [1, 1, 1, 1] c72) s H (kk none (fun s H => R (([] : List Nat).map fun t => s.getD t (.tup [])) H) [] R [])) [] R [])
  else none)
  (
  J (Code.at [1, 1, 1, 1] c72) (sp 167 [(0, x0), (4, x4), (12, x97_1)]) H (kk none (fun s H => R (([] : List Nat).map fun t => s.getD t (.tup [])) H) [] R [])) := by
  kernel_rfl
theorem N72_2_eq (ρ : RO) (call : CallF) (yc : YieldF) (lim k : Nat) (x0 x1 x4 : AV) (H : Heap) (R : KR) :
  evL (cx ρ) call yc false 72 lim k (Code.at [1, 1] c72) (sp 167 [(0, x0), (1, x1), (4, x4)]) H (kk none (fun s H => R (([] : List Nat).map fun t => s.getD t (.tup [])) H) [] R []) = N72_2 ρ call yc lim k x0 x1 x4 H R := by
  rw [evL_X, N72_2_x]
  simp only [← evL_X, N72_2, N72_3_eq, N72_6_eq]
noncomputable def N72_10 (ρ : RO) (call : CallF) (yc : YieldF) (lim k : Nat) (x0 x1 x4 : AV) (H : Heap) (kn : AV → AV → Heap → Res) : Res :=
  purK (binA Tryd.prog H .sub 3 x4 (.int .i64 8)) fun x95_1 =>
  kn x1 x95_1 H
theorem N72_10_eq (ρ : RO) (call : CallF) (yc : YieldF) (lim k : Nat) (x0 x1 x4 : AV) (H : Heap) (kn : KS) (k1 : KS) (k0 : KS) (R : KR) :
  evL (cx ρ) call yc false 72 lim k (Code.at [1, 0, 0, 0, 1, 0, 1, 1, 1, 1, 1, 1, 1, 1, 1] c72) (sp 167 [(0, x0), (1, x1), (4, x4)]) H (kk (some [0, 1, 4]) kn [(1, (some [0, 1, 4]), k1), (0, (some [0, 1, 4]), k0)] R []) = N72_10 ρ call yc lim k x0 x1 x4 H (fun x1 x4 H => kn (sp 167 [(0, x0), (1, x1), (4, x4)]) H) := by
  kernel_rfl
noncomputable def N72_9 (ρ : RO) (call : CallF) (yc : YieldF) (lim k : Nat) (x0 x1 x4 x10 x11 : AV) (H : Heap) (kn : AV → AV → Heap → Res) : Res :=
  purK (binA Tryd.prog H .sub 3 x4 (.int .i64 5)) fun x70_1 =>
  purK (binA Tryd.prog H .sub 3 x4 (.int .i64 6)) fun x73_1 =>
  purK (binA Tryd.prog H .add 104 x11 (.int .u32 1)) fun x75_1 =>
  purK (ixT (.str (ByteArray.mk #[48, 48, 48, 49, 48, 50, 48, 51, 48, 52, 48, 53, 48, 54, 48, 55, 48, 56, 48, 57, 49, 48, 49, 49, 49, 50, 49, 51, 49, 52, 49, 53, 49, 54, 49, 55, 49, 56, 49, 57, 50, 48, 50, 49, 50, 50, 50, 51, 50, 52, 50, 53, 50, 54, 50, 55, 50, 56, 50, 57, 51, 48, 51, 49, 51, 50, 51, 51, 51, 52, 51, 53, 51, 54, 51, 55, 51, 56, 51, 57, 52, 48, 52, 49, 52, 50, 52, 51, 52, 52, 52, 53, 52, 54, 52, 55, 52, 56, 52, 57, 53, 48, 53, 49, 53, 50, 53, 51, 53, 52, 53, 53, 53, 54, 53, 55, 53, 56, 53, 57, 54, 48, 54, 49, 54, 50, 54, 51, 54, 52, 54, 53, 54, 54, 54, 55, 54, 56, 54, 57, 55, 48, 55, 49, 55, 50, 55, 51, 55, 52, 55, 53, 55, 54, 55, 55, 55, 56, 55, 57, 56, 48, 56, 49, 56, 50, 56, 51, 56, 52, 56, 53, 56, 54, 56, 55, 56, 56, 56, 57, 57, 48, 57, 49, 57, 50, 57, 51, 57, 52, 57, 53, 57, 54, 57, 55, 57, 56, 57, 57])) x75_1) fun x76_1 =>
  purK (ixT (.str (ByteArray.mk #[48, 48, 48, 49, 48, 50, 48, 51, 48, 52, 48, 53, 48, 54, 48, 55, 48, 56, 48, 57, 49, 48, 49, 49, 49, 50, 49, 51, 49, 52, 49, 53, 49, 54, 49, 55, 49, 56, 49, 57, 50, 48, 50, 49, 50, 50, 50, 51, 50, 52, 50, 53, 50, 54, 50, 55, 50, 56, 50, 57, 51, 48, 51, 49, 51, 50, 51, 51, 51, 52, 51, 53, 51, 54, 51, 55, 51, 56, 51, 57, 52, 48, 52, 49, 52, 50, 52, 51, 52, 52, 52, 53, 52, 54, 52, 55, 52, 56, 52, 57, 53, 48, 53, 49, 53, 50, 53, 51, 53, 52, 53, 53, 53, 54, 53, 55, 53, 56, 53, 57, 54, 48, 54, 49, 54, 50, 54, 51, 54, 52, 54, 53, 54, 54, 54, 55, 54, 56, 54, 57, 55, 48, 55, 49, 55, 50, 55, 51, 55, 52, 55, 53, 55, 54, 55, 55, 55, 56, 55, 57, 56, 48, 56, 49, 56, 50, 56, 51, 56, 52, 56, 53, 56, 54, 56, 55, 56, 56, 56, 57, 57, 48, 57, 49, 57, 50, 57, 51, 57, 52, 57, 53, 57, 54, 57, 55, 57, 56, 57, 57])) x11) fun x78_1 =>
  purK (ixS 1 x0 x70_1) fun x79_1 =>
  effK H (stA lim H 1 x79_1 x76_1) fun _ H => bif (agn (binA Tryd.prog H .sub 3 x4 (.int .i64 6)) x73_1 && true) then
  purK (ixS 1 x0 x73_1) fun x80_1 =>
  effK H (stA lim H 1 x80_1 x78_1) fun _ H =>
  purK (binA Tryd.prog H .sub 3 x4 (.int .i64 7)) fun x83_1 =>
  purK (binA Tryd.prog H .sub 3 x4 (.int .i64 8)) fun x86_1 =>
  purK (binA Tryd.prog H .add 104 x10 (.int .u32 1)) fun x88_1 =>
  purK (ixT (.str (ByteArray.mk #[48, 48, 48, 49, 48, 50, 48, 51, 48, 52, 48, 53, 48, 54, 48, 55, 48, 56, 48, 57, 49, 48, 49, 49, 49, 50, 49, 51, 49, 52, 49, 53, 49, 54, 49, 55, 49, 56, 49, 57, 50, 48, 50, 49, 50, 50, 50, 51, 50, 52, 50, 53, 50, 54, 50, 55, 50, 56, 50, 57, 51, 48, 51, 49, 51, 50, 51, 51, 51, 52, 51, 53, 51, 54, 51, 55, 51, 56, 51, 57, 52, 48, 52, 49, 52, 50, 52, 51, 52, 52, 52, 53, 52, 54, 52, 55, 52, 56, 52, 57, 53, 48, 53, 49, 53, 50, 53, 51, 53, 52, 53, 53, 53, 54, 53, 55, 53, 56, 53, 57, 54, 48, 54, 49, 54, 50, 54, 51, 54, 52, 54, 53, 54, 54, 54, 55, 54, 56, 54, 57, 55, 48, 55, 49, 55, 50, 55, 51, 55, 52, 55, 53, 55, 54, 55, 55, 55, 56, 55, 57, 56, 48, 56, 49, 56, 50, 56, 51, 56, 52, 56, 53, 56, 54, 56, 55, 56, 56, 56, 57, 57, 48, 57, 49, 57, 50, 57, 51, 57, 52, 57, 53, 57, 54, 57, 55, 57, 56, 57, 57])) x88_1) fun x89_1 =>
  purK (ixT (.str (ByteArray.mk #[48, 48, 48, 49, 48, 50, 48, 51, 48, 52, 48, 53, 48, 54, 48, 55, 48, 56, 48, 57, 49, 48, 49, 49, 49, 50, 49, 51, 49, 52, 49, 53, 49, 54, 49, 55, 49, 56, 49, 57, 50, 48, 50, 49, 50, 50, 50, 51, 50, 52, 50, 53, 50, 54, 50, 55, 50, 56, 50, 57, 51, 48, 51, 49, 51, 50, 51, 51, 51, 52, 51, 53, 51, 54, 51, 55, 51, 56, 51, 57, 52, 48, 52, 49, 52, 50, 52, 51, 52, 52, 52, 53, 52, 54, 52, 55, 52, 56, 52, 57, 53, 48, 53, 49, 53, 50, 53, 51, 53, 52, 53, 53, 53, 54, 53, 55, 53, 56, 53, 57, 54, 48, 54, 49, 54, 50, 54, 51, 54, 52, 54, 53, 54, 54, 54, 55, 54, 56, 54, 57, 55, 48, 55, 49, 55, 50, 55, 51, 55, 52, 55, 53, 55, 54, 55, 55, 55, 56, 55, 57, 56, 48, 56, 49, 56, 50, 56, 51, 56, 52, 56, 53, 56, 54, 56, 55, 56, 56, 56, 57, 57, 48, 57, 49, 57, 50, 57, 51, 57, 52, 57, 53, 57, 54, 57, 55, 57, 56, 57, 57])) x10) fun x91_1 =>
  purK (ixS 1 x0 x83_1) fun x92_1 =>
  effK H (stA lim H 1 x92_1 x89_1) fun _ H => bif (agn (binA Tryd.prog H .sub 3 x4 (.int .i64 8)) x86_1 && true) then
  purK (ixS 1 x0 x86_1) fun x93_1 =>
  effK H (stA lim H 1 x93_1 x91_1) fun _ H =>
  N72_10 ρ call yc lim k x0 x1 x4 H kn
  else none
  else none
theorem N72_9_x (ρ : RO) (call : CallF) (yc : YieldF) (lim k : Nat) (J : CodeF) (x0 x1 x4 x10 x11 : AV) (H : Heap) (kn : KS) (k1 : KS) (k0 : KS) (R : KR) :
  evX (cx ρ) call yc false 72 lim k J (Code.at [1, 0, 0, 0, 1, 0, 1, 1, 1, 1, 1, 1, 1] c72) (sp 167 [(0, x0), (1, x1), (4, x4), (10, x10), (11, x11)]) H (kk (some [0, 1, 4]) kn [(1, (some [0, 1, 4]), k1), (0, (some [0, 1, 4]), k0)] R []) =
  purK (binA Tryd.prog H .sub 3 x4 (.int .i64 5)) fun x70_1 =>
  purK (binA Tryd.prog H .sub 3 x4 (.int .i64 6)) fun x73_1 =>
  purK (binA Tryd.prog H .add 104 x11 (.int .u32 1)) fun x75_1 =>
  purK (ixT (.str (ByteArray.mk #[48, 48, 48, 49, 48, 50, 48, 51, 48, 52, 48, 53, 48, 54, 48, 55, 48, 56, 48, 57, 49, 48, 49, 49, 49, 50, 49, 51, 49, 52, 49, 53, 49, 54, 49, 55, 49, 56, 49, 57, 50, 48, 50, 49, 50, 50, 50, 51, 50, 52, 50, 53, 50, 54, 50, 55, 50, 56, 50, 57, 51, 48, 51, 49, 51, 50, 51, 51, 51, 52, 51, 53, 51, 54, 51, 55, 51, 56, 51, 57, 52, 48, 52, 49, 52, 50, 52, 51, 52, 52, 52, 53, 52, 54, 52, 55, 52, 56, 52, 57, 53, 48, 53, 49, 53, 50, 53, 51, 53, 52, 53, 53, 53, 54, 53, 55, 53, 56, 53, 57, 54, 48, 54, 49, 54, 50, 54, 51, 54, 52, 54, 53, 54, 54, 54, 55, 54, 56, 54, 57, 55, 48, 55, 49, 55, 50, 55, 51, 55, 52, 55, 53, 55, 54, 55, 55, 55, 56, 55, 57, 56, 48, 56, 49, 56, 50, 56, 51, 56, 52, 56, 53, 56, 54, 56, 55, 56, 56, 56, 57, 57, 48, 57, 49, 57, 50, 57, 51, 57, 52, 57, 53, 57, 54, 57, 55, 57, 56, 57, 57])) x75_1) fun x76_1 =>
  purK (ixT (.str (ByteArray.mk #[48, 48, 48, 49, 48, 50, 48, 51, 48, 52, 48, 53, 48, 54, 48, 55, 48, 56, 48, 57, 49, 48, 49, 49, 49, 50, 49, 51, 49, 52, 49, 53, 49, 54, 49, 55, 49, 56, 49, 57, 50, 48, 50, 49, 50, 50, 50, 51, 50, 52, 50, 53, 50, 54, 50, 55, 50, 56, 50, 57, 51, 48, 51, 49, 51, 50, 51, 51, 51, 52, 51, 53, 51, 54, 51, 55, 51, 56, 51, 57, 52, 48, 52, 49, 52, 50, 52, 51, 52, 52, 52, 53, 52, 54, 52, 55, 52, 56, 52, 57, 53, 48, 53, 49, 53, 50, 53, 51, 53, 52, 53, 53, 53, 54, 53, 55, 53, 56, 53, 57, 54, 48, 54, 49, 54, 50, 54, 51, 54, 52, 54, 53, 54, 54, 54, 55, 54, 56, 54, 57, 55, 48, 55, 49, 55, 50, 55, 51, 55, 52, 55, 53, 55, 54, 55, 55, 55, 56, 55, 57, 56, 48, 56, 49, 56, 50, 56, 51, 56, 52, 56, 53, 56, 54, 56, 55, 56, 56, 56, 57, 57, 48, 57, 49, 57, 50, 57, 51, 57, 52, 57, 53, 57, 54, 57, 55, 57, 56, 57, 57])) x11) fun x78_1 =>
  purK (ixS 1 x0 x70_1) fun x79_1 =>
  effK H (stA lim H 1 x79_1 x76_1) fun _ H => bif (agn (binA Tryd.prog H .sub 3 x4 (.int .i64 6)) x73_1 && true) then
  purK (ixS 1 x0 x73_1) fun x80_1 =>
  effK H (stA lim H 1 x80_1 x78_1) fun _ H =>
  purK (binA Tryd.prog H .sub 3 x4 (.int .i64 7)) fun x83_1 =>
  purK (binA Tryd.prog H .sub 3 x4 (.int .i64 8)) fun x86_1 =>
  purK (binA Tryd.prog H .add 104 x10 (.int .u32 1)) fun x88_1 =>
  purK (ixT (.str (ByteArray.mk #[48, 48, 48, 49, 48, 50, 48, 51, 48, 52, 48, 53, 48, 54, 48, 55, 48, 56, 48, 57, 49, 48, 49, 49, 49, 50, 49, 51, 49, 52, 49, 53, 49, 54, 49, 55, 49, 56, 49, 57, 50, 48, 50, 49, 50, 50, 50, 51, 50, 52, 50, 53, 50, 54, 50, 55, 50, 56, 50, 57, 51, 48, 51, 49, 51, 50, 51, 51, 51, 52, 51, 53, 51, 54, 51, 55, 51, 56, 51, 57, 52, 48, 52, 49, 52, 50, 52, 51, 52, 52, 52, 53, 52, 54, 52, 55, 52, 56, 52, 57, 53, 48, 53, 49, 53, 50, 53, 51, 53, 52, 53, 53, 53, 54, 53, 55, 53, 56, 53, 57, 54, 48, 54, 49, 54, 50, 54, 51, 54, 52, 54, 53, 54, 54, 54, 55, 54, 56, 54, 57, 55, 48, 55, 49, 55, 50, 55, 51, 55, 52, 55, 53, 55, 54, 55, 55, 55, 56, 55, 57, 56, 48, 56, 49, 56, 50, 56, 51, 56, 52, 56, 53, 56, 54, 56, 55, 56, 56, 56, 57, 57, 48, 57, 49, 57, 50, 57, 51, 57, 52, 57, 53, 57, 54, 57, 55, 57, 56, 57, 57])) x88_1) fun x89_1 =>
  purK (ixT (.str (ByteArray.mk #[48, 48, 48, 49, 48, 50, 48, 51, 48, 52, 48, 53, 48, 54, 48, 55, 48, 56, 48, 57, 49, 48, 49, 49, 49, 50, 49, 51, 49, 52, 49, 53, 49, 54, 49, 55, 49, 56, 49, 57, 50, 48, 50, 49, 50, 50, 50, 51, 50, 52, 50, 53, 50, 54, 50, 55, 50, 56, 50, 57, 51, 48, 51, 49, 51, 50, 51, 51, 51, 52, 51, 53, 51, 54, 51, 55, 51, 56, 51, 57, 52, 48, 52, 49, 52, 50, 52, 51, 52, 52, 52, 53, 52, 54, 52, 55, 52, 56, 52, 57, 53, 48, 53, 49, 53, 50, 53, 51, 53, 52, 53, 53, 53, 54, 53, 55, 53, 56, 53, 57, 54, 48, 54, 49, 54, 50, 54, 51, 54, 52, 54, 53, 54, 54, 54, 55, 54, 56, 54, 57, 55, 48, 55, 49, 55, 50, 55, 51, 55, 52, 55, 53, 55, 54, 55, 55, 55, 56, 55, 57, 56, 48, 56, 49, 56, 50, 56, 51, 56, 52, 56, 53, 56, 54, 56, 55, 56, 56, 56, 57, 57, 48, 57, 49, 57, 50, 57, 51, 57, 52, 57, 53, 57, 54, 57, 55, 57, 56, 57, 57])) x10) fun x91_1 =>
  purK (ixS 1 x0 x83_1) fun x92_1 =>
  effK H (stA lim H 1 x92_1 x89_1) fun _ H => bif (agn (binA Tryd.prog H .sub 3 x4 (.int .i64 8)) x86_1 && true) then
  purK (ixS 1 x0 x86_1) fun x93_1 =>
  effK H (stA lim H 1 x93_1 x91_1) fun _ H =>
  J (Code.at [1, 0, 0, 0, 1, 0, 1, 1, 1, 1, 1, 1, 1, 1, 1] c72) (sp 167 [(0, x0), (1, x1), (4, x4)]) H (kk (some [0, 1, 4]) kn [(1, (some [0, 1, 4]), k1), (0, (some [0, 1, 4]), k0)] R [])
  else none
  else none := by
  kernel_rfl
theorem N72_9_eq (ρ : RO) (call : CallF) (yc : YieldF) (lim k : Nat) (x0 x1 x4 x10 x11 : AV) (H : Heap) (kn : KS) (k1 : KS) (k0 : KS) (R : KR) :
  evL (cx ρ) call yc false 72 lim k (Code.at [1, 0, 0, 0, 1, 0, 1, 1, 1, 1, 1, 1, 1] c72) (sp 167 [(0, x0), (1, x1), (4, x4), (10, x10), (11, x11)]) H (kk (some [0, 1, 4]) kn [(1, (some [0, 1, 4]), k1), (0, (some [0, 1, 4]), k0)] R []) = N72_9 ρ call yc lim k x0 x1 x4 x10 x11 H (fun x1 x4 H => kn (sp 167 [(0, x0), (1, x1), (4, x4)]) H) := by
  rw [evL_X, N72_9_x]
  simp only [← evL_X, N72_9, N72_10_eq]
noncomputable def N72_8 (ρ : RO) (call : CallF) (yc : YieldF) (lim k : Nat) (x0 x1 x4 x8 x9 x10 x11 : AV) (H : Heap) (kn : AV → AV → Heap → Res) : Res :=
  purK (binA Tryd.prog H .sub 3 x4 (.int .i64 1)) fun x44_1 =>
  purK (binA Tryd.prog H .sub 3 x4 (.int .i64 2)) fun x47_1 =>
  purK (binA Tryd.prog H .add 104 x9 (.int .u32 1)) fun x49_1 =>
  purK (ixT (.str (ByteArray.mk #[48, 48, 48, 49, 48, 50, 48, 51, 48, 52, 48, 53, 48, 54, 48, 55, 48, 56, 48, 57, 49, 48, 49, 49, 49, 50, 49, 51, 49, 52, 49, 53, 49, 54, 49, 55, 49, 56, 49, 57, 50, 48, 50, 49, 50, 50, 50, 51, 50, 52, 50, 53, 50, 54, 50, 55, 50, 56, 50, 57, 51, 48, 51, 49, 51, 50, 51, 51, 51, 52, 51, 53, 51, 54, 51, 55, 51, 56, 51, 57, 52, 48, 52, 49, 52, 50, 52, 51, 52, 52, 52, 53, 52, 54, 52, 55, 52, 56, 52, 57, 53, 48, 53, 49, 53, 50, 53, 51, 53, 52, 53, 53, 53, 54, 53, 55, 53, 56, 53, 57, 54, 48, 54, 49, 54, 50, 54, 51, 54, 52, 54, 53, 54, 54, 54, 55, 54, 56, 54, 57, 55, 48, 55, 49, 55, 50, 55, 51, 55, 52, 55, 53, 55, 54, 55, 55, 55, 56, 55, 57, 56, 48, 56, 49, 56, 50, 56, 51, 56, 52, 56, 53, 56, 54, 56, 55, 56, 56, 56, 57, 57, 48, 57, 49, 57, 50, 57, 51, 57, 52, 57, 53, 57, 54, 57, 55, 57, 56, 57, 57])) x49_1) fun x50_1 =>
  purK (ixT (.str (ByteArray.mk #[48, 48, 48, 49, 48, 50, 48, 51, 48, 52, 48, 53, 48, 54, 48, 55, 48, 56, 48, 57, 49, 48, 49, 49, 49, 50, 49, 51, 49, 52, 49, 53, 49, 54, 49, 55, 49, 56, 49, 57, 50, 48, 50, 49, 50, 50, 50, 51, 50, 52, 50, 53, 50, 54, 50, 55, 50, 56, 50, 57, 51, 48, 51, 49, 51, 50, 51, 51, 51, 52, 51, 53, 51, 54, 51, 55, 51, 56, 51, 57, 52, 48, 52, 49, 52, 50, 52, 51, 52, 52, 52, 53, 52, 54, 52, 55, 52, 56, 52, 57, 53, 48, 53, 49, 53, 50, 53, 51, 53, 52, 53, 53, 53, 54, 53, 55, 53, 56, 53, 57, 54, 48, 54, 49, 54, 50, 54, 51, 54, 52, 54, 53, 54, 54, 54, 55, 54, 56, 54, 57, 55, 48, 55, 49, 55, 50, 55, 51, 55, 52, 55, 53, 55, 54, 55, 55, 55, 56, 55, 57, 56, 48, 56, 49, 56, 50, 56, 51, 56, 52, 56, 53, 56, 54, 56, 55, 56, 56, 56, 57, 57, 48, 57, 49, 57, 50, 57, 51, 57, 52, 57, 53, 57, 54, 57, 55, 57, 56, 57, 57])) x9) fun x52_1 =>
  purK (ixS 1 x0 x44_1) fun x53_1 =>
  effK H (stA lim H 1 x53_1 x50_1) fun _ H => bif (agn (binA Tryd.prog H .sub 3 x4 (.int .i64 2)) x47_1 && true) then
  purK (ixS 1 x0 x47_1) fun x54_1 =>
  effK H (stA lim H 1 x54_1 x52_1) fun _ H =>
  purK (binA Tryd.prog H .sub 3 x4 (.int .i64 3)) fun x57_1 =>
  purK (binA Tryd.prog H .sub 3 x4 (.int .i64 4)) fun x60_1 =>
  purK (binA Tryd.prog H .add 104 x8 (.int .u32 1)) fun x62_1 =>
  purK (ixT (.str (ByteArray.mk #[48, 48, 48, 49, 48, 50, 48, 51, 48, 52, 48, 53, 48, 54, 48, 55, 48, 56, 48, 57, 49, 48, 49, 49, 49, 50, 49, 51, 49, 52, 49, 53, 49, 54, 49, 55, 49, 56, 49, 57, 50, 48, 50, 49, 50, 50, 50, 51, 50, 52, 50, 53, 50, 54, 50, 55, 50, 56, 50, 57, 51, 48, 51, 49, 51, 50, 51, 51, 51, 52, 51, 53, 51, 54, 51, 55, 51, 56, 51, 57, 52, 48, 52, 49, 52, 50, 52, 51, 52, 52, 52, 53, 52, 54, 52, 55, 52, 56, 52, 57, 53, 48, 53, 49, 53, 50, 53, 51, 53, 52, 53, 53, 53, 54, 53, 55, 53, 56, 53, 57, 54, 48, 54, 49, 54, 50, 54, 51, 54, 52, 54, 53, 54, 54, 54, 55, 54, 56, 54, 57, 55, 48, 55, 49, 55, 50, 55, 51, 55, 52, 55, 53, 55, 54, 55, 55, 55, 56, 55, 57, 56, 48, 56, 49, 56, 50, 56, 51, 56, 52, 56, 53, 56, 54, 56, 55, 56, 56, 56, 57, 57, 48, 57, 49, 57, 50, 57, 51, 57, 52, 57, 53, 57, 54, 57, 55, 57, 56, 57, 57])) x62_1) fun x63_1 =>
  purK (ixT (.str (ByteArray.mk #[48, 48, 48, 49, 48, 50, 48, 51, 48, 52, 48, 53, 48, 54, 48, 55, 48, 56, 48, 57, 49, 48, 49, 49, 49, 50, 49, 51, 49, 52, 49, 53, 49, 54, 49, 55, 49, 56, 49, 57, 50, 48, 50, 49, 50, 50, 50, 51, 50, 52, 50, 53, 50, 54, 50, 55, 50, 56, 50, 57, 51, 48, 51, 49, 51, 50, 51, 51, 51, 52, 51, 53, 51, 54, 51, 55, 51, 56, 51, 57, 52, 48, 52, 49, 52, 50, 52, 51, 52, 52, 52, 53, 52, 54, 52, 55, 52, 56, 52, 57, 53, 48, 53, 49, 53, 50, 53, 51, 53, 52, 53, 53, 53, 54, 53, 55, 53, 56, 53, 57, 54, 48, 54, 49, 54, 50, 54, 51, 54, 52, 54, 53, 54, 54, 54, 55, 54, 56, 54, 57, 55, 48, 55, 49, 55, 50, 55, 51, 55, 52, 55, 53, 55, 54, 55, 55, 55, 56, 55, 57, 56, 48, 56, 49, 56, 50, 56, 51, 56, 52, 56, 53, 56, 54, 56, 55, 56, 56, 56, 57, 57, 48, 57, 49, 57, 50, 57, 51, 57, 52, 57, 53, 57, 54, 57, 55, 57, 56, 57, 57])) x8) fun x65_1 =>
  purK (ixS 1 x0 x57_1) fun x66_1 =>
  effK H (stA lim H 1 x66_1 x63_1) fun _ H => bif (agn (binA Tryd.prog H .sub 3 x4 (.int .i64 4)) x60_1 && true) then
  purK (ixS 1 x0 x60_1) fun x67_1 =>
  effK H (stA lim H 1 x67_1 x65_1) fun _ H =>
  N72_9 ρ call yc lim k x0 x1 x4 x10 x11 H kn
  else none
  else none
theorem N72_8_x (ρ : RO) (call : CallF) (yc : YieldF) (lim k : Nat) (J : CodeF) (x0 x1 x4 x8 x9 x10 x11 : AV) (H : Heap) (kn : KS) (k1 : KS) (k0 : KS) (R : KR) :
  evX (cx ρ) call yc false 72 lim k J (Code.at [1, 0, 0, 0, 1, 0, 1, 1, 1, 1, 1] c72) (sp 167 [(0, x0), (1, x1), (4, x4), (8, x8), (9, x9), (10, x10), (11, x11)]) H (kk (some [0, 1, 4]) kn [(1, (some [0, 1, 4]), k1), (0, (some [0, 1, 4]), k0)] R []) =
  purK (binA Tryd.prog H .sub 3 x4 (.int .i64 1)) fun x44_1 =>
  purK (binA Tryd.prog H .sub 3 x4 (.int .i64 2)) fun x47_1 =>
  purK (binA Tryd.prog H .add 104 x9 (.int .u32 1)) fun x49_1 =>
  purK (ixT (.str (ByteArray.mk #[48, 48, 48, 49, 48, 50, 48, 51, 48, 52, 48, 53, 48, 54, 48, 55, 48, 56, 48, 57, 49, 48, 49, 49, 49, 50, 49, 51, 49, 52, 49, 53, 49, 54, 49, 55, 49, 56, 49, 57, 50, 48, 50, 49, 50, 50, 50, 51, 50, 52, 50, 53, 50, 54, 50, 55, 50, 56, 50, 57, 51, 48, 51, 49, 51, 50, 51, 51, 51, 52, 51, 53, 51, 54, 51, 55, 51, 56, 51, 57, 52, 48, 52, 49, 52, 50, 52, 51, 52, 52, 52, 53, 52, 54, 52, 55, 52, 56, 52, 57, 53, 48, 53, 49, 53, 50, 53, 51, 53, 52, 53, 53, 53, 54, 53, 55, 53, 56, 53, 57, 54, 48, 54, 49, 54, 50, 54, 51, 54, 52, 54, 53, 54, 54, 54, 55, 54, 56, 54, 57, 55, 48, 55, 49, 55, 50, 55, 51, 55, 52, 55, 53, 55, 54, 55, 55, 55, 56, 55, 57, 56, 48, 56, 49, 56, 50, 56, 51, 56, 52, 56, 53, 56, 54, 56, 55, 56, 56, 56, 57, 57, 48, 57, 49, 57, 50, 57, 51, 57, 52, 57, 53, 57, 54, 57, 55, 57, 56, 57, 57])) x49_1) fun x50_1 =>
  purK (ixT (.str (ByteArray.mk #[48, 48, 48, 49, 48, 50, 48, 51, 48, 52, 48, 53, 48, 54, 48, 55, 48, 56, 48, 57, 49, 48, 49, 49, 49, 50, 49, 51, 49, 52, 49, 53, 49, 54, 49, 55, 49, 56, 49, 57, 50, 48, 50, 49, 50, 50, 50, 51, 50, 52, 50, 53, 50, 54, 50, 55, 50, 56, 50, 57, 51, 48, 51, 49, 51, 50, 51, 51, 51, 52, 51, 53, 51, 54, 51, 55, 51, 56, 51, 57, 52, 48, 52, 49, 52, 50, 52, 51, 52, 52, 52, 53, 52, 54, 52, 55, 52, 56, 52, 57, 53, 48, 53, 49, 53, 50, 53, 51, 53, 52, 53, 53, 53, 54, 53, 55, 53, 56, 53, 57, 54, 48, 54, 49, 54, 50, 54, 51, 54, 52, 54, 53, 54, 54, 54, 55, 54, 56, 54, 57, 55, 48, 55, 49, 55, 50, 55, 51, 55, 52, 55, 53, 55, 54, 55, 55, 55, 56, 55, 57, 56, 48, 56, 49, 56, 50, 56, 51, 56, 52, 56, 53, 56, 54, 56, 55, 56, 56, 56, 57, 57, 48, 57, 49, 57, 50, 57, 51, 57, 52, 57, 53, 57, 54, 57, 55, 57, 56, 57, 57])) x9) fun x52_1 =>
  purK (ixS 1 x0 x44_1) fun x53_1 =>
  effK H (stA lim H 1 x53_1 x50_1) fun _ H => bif (agn (binA Tryd.prog H .sub 3 x4 (.int .i64 2)) x47_1 && true) then
  purK (ixS 1 x0 x47_1) fun x54_1 =>
  effK H (stA lim H 1 x54_1 x52_1) fun _ H =>
  purK (binA Tryd.prog H .sub 3 x4 (.int .i64 3)) fun x57_1 =>
  purK (binA Tryd.prog H .sub 3 x4 (.int .i64 4)) fun x60_1 =>
  purK (binA Tryd.prog H .add 104 x8 (.int .u32 1)) fun x62_1 =>
  purK (ixT (.str (ByteArray.mk #[48, 48, 48, 49, 48, 50, 48, 51, 48, 52, 48, 53, 48, 54, 48, 55, 48, 56, 48, 57, 49, 48, 49, 49, 49, 50, 49, 51, 49, 52, 49, 53, 49, 54, 49, 55, 49, 56, 49, 57, 50, 48, 50, 49, 50, 50, 50, 51, 50, 52, 50, 53, 50, 54, 50, 55, 50, 56, 50, 57, 51, 48, 51, 49, 51, 50, 51, 51, 51, 52, 51, 53, 51, 54, 51, 55, 51, 56, 51, 57, 52, 48, 52, 49, 52, 50, 52, 51, 52, 52, 52, 53, 52, 54, 52, 55, 52, 56, 52, 57, 53, 48, 53, 49, 53, 50, 53, 51, 53, 52, 53, 53, 53, 54, 53, 55, 53, 56, 53, 57, 54, 48, 54, 49, 54, 50, 54, 51, 54, 52, 54, 53, 54, 54, 54, 55, 54, 56, 54, 57, 55, 48, 55, 49, 55, 50, 55, 51, 55, 52, 55, 53, 55, 54, 55, 55, 55, 56, 55, 57, 56, 48, 56, 49, 56, 50, 56, 51, 56, 52, 56, 53, 56, 54, 56, 55, 56, 56, 56, 57, 57, 48, 57, 49, 57, 50, 57, 51, 57, 52, 57, 53, 57, 54, 57, 55, 57, 56, 57, 57])) x62_1) fun x63_1 =>
  purK (ixT (.str (ByteArray.mk #[48, 48, 48, 49, 48, 50, 48, 51, 48, 52, 48, 53, 48, 54, 48, 55, 48, 56, 48, 57, 49, 48, 49, 49, 49, 50, 49, 51, 49, 52, 49, 53, 49, 54, 49, 55, 49, 56, 49, 57, 50, 48, 50, 49, 50, 50, 50, 51, 50, 52, 50, 53, 50, 54, 50, 55, 50, 56, 50, 57, 51, 48, 51, 49, 51, 50, 51, 51, 51, 52, 51, 53, 51, 54, 51, 55, 51, 56, 51, 57, 52, 48, 52, 49, 52, 50, 52, 51, 52, 52, 52, 53, 52, 54, 52, 55, 52, 56, 52, 57, 53, 48, 53, 49, 53, 50, 53, 51, 53, 52, 53, 53, 53, 54, 53, 55, 53, 56, 53, 57, 54, 48, 54, 49, 54, 50, 54, 51, 54, 52, 54, 53, 54, 54, 54, 55, 54, 56, 54, 57, 55, 48, 55, 49, 55, 50, 55, 51, 55, 52, 55, 53, 55, 54, 55, 55, 55, 56, 55, 57, 56, 48, 56, 49, 56, 50, 56, 51, 56, 52, 56, 53, 56, 54, 56, 55, 56, 56, 56, 57, 57, 48, 57, 49, 57, 50, 57, 51, 57, 52, 57, 53, 57, 54, 57, 55, 57, 56, 57, 57])) x8) fun x65_1 =>
  purK (ixS 1 x0 x57_1) fun x66_1 =>
  effK H (stA lim H 1 x66_1 x63_1) fun _ H => bif (agn (binA Tryd.prog H .sub 3 x4 (.int .i64 4)) x60_1 && true) then
  purK (ixS 1 x0 x60_1) fun x67_1 =>
  effK H (stA lim H 1 x67_1 x65_1) fun _ H =>
  J (Code.at [1, 0, 0, 0, 1, 0, 1, 1, 1, 1, 1, 1, 1] c72) (sp 167 [(0, x0), (1, x1), (4, x4), (10, x10), (11, x11)]) H (kk (some [0, 1, 4]) kn [(1, (some [0, 1, 4]), k1), (0, (some [0, 1, 4]), k0)] R [])
  else none
  else none := by
  kernel_rfl
theorem N72_8_eq (ρ : RO) (call : CallF) (yc : YieldF) (lim k : Nat) (x0 x1 x4 x8 x9 x10 x11 : AV) (H : Heap) (kn : KS) (k1 : KS) (k0 : KS) (R : KR) :
  evL (cx ρ) call yc false 72 lim k (Code.at [1, 0, 0, 0, 1, 0, 1, 1, 1, 1, 1] c72) (sp 167 [(0, x0), (1, x1), (4, x4), (8, x8), (9, x9), (10, x10), (11, x11)]) H (kk (some [0, 1, 4]) kn [(1, (some [0, 1, 4]), k1), (0, (some [0, 1, 4]), k0)] R []) = N72_8 ρ call yc lim k x0 x1 x4 x8 x9 x10 x11 H (fun x1 x4 H => kn (sp 167 [(0, x0), (1, x1), (4, x4)]) H) := by
  rw [evL_X, N72_8_x]
  simp only [← evL_X, N72_8, N72_9_eq]
noncomputable def N72_7b (ρ : RO) (call : CallF) (yc : YieldF) (lim k : Nat) (x0 x1 x4 : AV) (H : Heap) (kn : AV → AV → Heap → Res) (k0 : AV → AV → AV → Heap → Res) : Res :=
  purK (binA Tryd.prog H .geq 3 x4 (.int .i64 8)) fun x20_1 =>
  condK x20_1
  (
  purK (binA Tryd.prog H .rem 38 x1 (.int .u64 100000000)) fun x22_1 =>
  purK (cvI .u32 x22_1) fun x23_1 =>
  purK (binA Tryd.prog H .quo 38 x1 (.int .u64 100000000)) fun x25_1 =>
  purK (binA Tryd.prog H .quo 104 x23_1 (.int .u32 10000)) fun x27_1 =>
  purK (binA Tryd.prog H .rem 104 x23_1 (.int .u32 10000)) fun x29_1 =>
  purK (binA Tryd.prog H .quo 104 x29_1 (.int .u32 100)) fun x31_1 =>
  purK (binA Tryd.prog H .mul 104 x31_1 (.int .u32 2)) fun x32_1 =>
  purK (binA Tryd.prog H .rem 104 x29_1 (.int .u32 100)) fun x34_1 =>
  purK (binA Tryd.prog H .mul 104 x34_1 (.int .u32 2)) fun x35_1 =>
  purK (binA Tryd.prog H .quo 104 x27_1 (.int .u32 100)) fun x37_1 =>
  purK (binA Tryd.prog H .mul 104 x37_1 (.int .u32 2)) fun x38_1 =>
  purK (binA Tryd.prog H .rem 104 x27_1 (.int .u32 100)) fun x40_1 =>
  purK (binA Tryd.prog H .mul 104 x40_1 (.int .u32 2)) fun x41_1 =>
  N72_8 ρ call yc lim k x0 x25_1 x4 x32_1 x35_1 x38_1 x41_1 H kn)
  (
  k0 x0 x1 x4 H)
theorem N72_7b_x (ρ : RO) (call : CallF) (yc : YieldF) (lim k : Nat) (J : CodeF) (x0 x1 x4 : AV) (H : Heap) (kn : KS) (k0 : KS) (R : KR) :
  evX (cx ρ) call yc false 72 lim k J (Code.at [1, 0, 0, 0] c72) (sp 167 [(0, x0), (1, x1), (4, x4)]) H (kk (some [0, 1, 4]) kn [(0, (some [0, 1, 4]), k0)] R []) =
  purK (binA Tryd.prog H .geq 3 x4 (.int .i64 8)) fun x20_1 =>
  condK x20_1
  (
  purK (binA Tryd.prog H .rem 38 x1 (.int .u64 100000000)) fun x22_1 =>
  purK (cvI .u32 x22_1) fun x23_1 =>
  purK (binA Tryd.prog H .quo 38 x1 (.int .u64 100000000)) fun x25_1 =>
  purK (binA Tryd.prog H .quo 104 x23_1 (.int .u32 10000)) fun x27_1 =>
  purK (binA Tryd.prog H .rem 104 x23_1 (.int .u32 10000)) fun x29_1 =>
  purK (binA Tryd.prog H .quo 104 x29_1 (.int .u32 100)) fun x31_1 =>
  purK (binA Tryd.prog H .mul 104 x31_1 (.int .u32 2)) fun x32_1 =>
  purK (binA Tryd.prog H .rem 104 x29_1 (.int .u32 100)) fun x34_1 =>
  purK (binA Tryd.prog H .mul 104 x34_1 (.int .u32 2)) fun x35_1 =>
  purK (binA Tryd.prog H .quo 104 x27_1 (.int .u32 100)) fun x37_1 =>
  purK (binA Tryd.prog H .mul 104 x37_1 (.int .u32 2)) fun x38_1 =>
  purK (binA Tryd.prog H .rem 104 x27_1 (.int .u32 100)) fun x40_1 =>
  purK (binA Tryd.prog H .mul 104 x40_1 (.int .u32 2)) fun x41_1 =>
  J (Code.at [1, 0, 0, 0, 1, 0, 1, 1, 1, 1, 1] c72) (sp 167 [(0, x0), (1, x25_1), (4, x4), (8, x32_1), (9, x35_1), (10, x38_1), (11, x41_1)]) H (kk (some [0, 1, 4]) kn [(1, (some [0, 1, 4]), kn), (0, (some [0, 1, 4]), k0)] R []))
  (
  k0 (sp 167 [(0, x0), (1, x1), (4, x4)]) H) := by
  kernel_rfl
theorem N72_7b_eq (ρ : RO) (call : CallF) (yc : YieldF) (lim k : Nat) (x0 x1 x4 : AV) (H : Heap) (kn : KS) (k0 : KS) (R : KR) :
  evL (cx ρ) call yc false 72 lim k (Code.at [1, 0, 0, 0] c72) (sp 167 [(0, x0), (1, x1), (4, x4)]) H (kk (some [0, 1, 4]) kn [(0, (some [0, 1, 4]), k0)] R []) = N72_7b ρ call yc lim k x0 x1 x4 H (fun x1 x4 H => kn (sp 167 [(0, x0), (1, x1), (4, x4)]) H) (fun x0 x1 x4 H => k0 (sp 167 [(0, x0), (1, x1), (4, x4)]) H) := by
  rw [evL_X, N72_7b_x]
  simp only [← evL_X, N72_7b, N72_8_eq]
noncomputable def N72_7 (ρ : RO) (call : CallF) (yc : YieldF) (lim k : Nat) (x0 x1 x4 : AV) (H : Heap) (k0 : AV → AV → AV → Heap → Res) : Res :=
  loopL (fun (x : AV × AV) H kn => N72_7b ρ call yc lim k x0 x.1 x.2 H (fun x1 x4 H => kn (x1, x4) H) k0) k (x1, x4) H
theorem N72_7_eq (ρ : RO) (call : CallF) (yc : YieldF) (lim k : Nat) (x0 x1 x4 : AV) (H : Heap) (kn : KS) (k0 : KS) (R : KR) :
  evL (cx ρ) call yc false 72 lim k (Code.at [1, 0, 0] c72) (sp 167 [(0, x0), (1, x1), (4, x4)]) H (kk (some [0, 1, 4]) kn [(0, (some [0, 1, 4]), k0)] R []) = N72_7 ρ call yc lim k x0 x1 x4 H (fun x0 x1 x4 H => k0 (sp 167 [(0, x0), (1, x1), (4, x4)]) H) := by
  have e : Code.at [1, 0, 0] c72 = .loop (Code.at [1, 0, 0, 0] c72) := by kernel_rfl
  rw [e]
  unfold N72_7
  exact loop_node [0, 1, 4] (fun x : AV × AV => (sp 167 [(0, x0), (1, (x.1)), (4, (x.2))])) (fun (x : AV × AV) H kn => N72_7b ρ call yc lim k x0 x.1 x.2 H (fun x1 x4 H => kn (x1, x4) H) (fun x0 x1 x4 H => k0 (sp 167 [(0, x0), (1, x1), (4, x4)]) H)) (by kernel_rfl) (fun x => by kernel_rfl) (fun x H kn => N72_7b_eq ρ call yc lim k x0 (x.1) (x.2) H kn k0 R) (x1, x4) (sp 167 [(0, x0), (1, x1), (4, x4)]) H (by kernel_rfl)
noncomputable def N72_1 (ρ : RO) (call : CallF) (yc : YieldF) (lim k : Nat) (x0 x1 x4 : AV) (H : Heap) (R : KR) : Res :=
  N72_7 ρ call yc lim k x0 x1 x4 H (fun x0_1 x1_1 x4_1 H =>
  N72_2 ρ call yc lim k x0_1 x1_1 x4_1 H R)
theorem N72_1_x (ρ : RO) (call : CallF) (yc : YieldF) (lim k : Nat) (J : CodeF) (x0 x1 x4 : AV) (H : Heap) (R : KR) :
  evX (cx ρ) call yc false 72 lim k J (Code.at [1] c72) (sp 167 [(0, x0), (1, x1), (4, x4)]) H (kk none (fun s H => R (([] : List Nat).map fun t => s.getD t (.tup [])) H) [] R []) =
  J (Code.at [1, 0, 0] c72) (sp 167 [(0, x0), (1, x1), (4, x4)]) H (kk (some [0, 1, 4]) (fun s H => J (Code.at [1, 1] c72) s H (kk none (fun s H => R (([] : List Nat).map fun t => s.getD t (.tup [])) H) [] R [])) [(0, (some [0, 1, 4]), (fun s H => J (Code.at [1, 1] c72) s H (kk none (fun s H => R (([] : List Nat).map fun t => s.getD t (.tup [])) H) [] R [])))] R []) := by
  kernel_rfl
theorem N72_1_eq (ρ : RO) (call : CallF) (yc : YieldF) (lim k : Nat) (x0 x1 x4 : AV) (H : Heap) (R : KR) :
  evL (cx ρ) call yc false 72 lim k (Code.at [1] c72) (sp 167 [(0, x0), (1, x1), (4, x4)]) H (kk none (fun s H => R (([] : List Nat).map fun t => s.getD t (.tup [])) H) [] R []) = N72_1 ρ call yc lim k x0 x1 x4 H R := by
  rw [evL_X, N72_1_x]
  simp only [← evL_X, N72_1, N72_2_eq, N72_7_eq]
noncomputable def L72 (ρ : RO) (call : CallF) (yc : YieldF) (lim k : Nat) (x0 x1 : AV) (H : Heap) : Res :=
  purK (lenS x0) fun x18 =>
  N72_1 ρ call yc lim k x0 x1 x18 H retK
theorem L72_x (ρ : RO) (call : CallF) (yc : YieldF) (lim k : Nat) (J : CodeF) (x0 x1 : AV) (H : Heap) :
  evX (cx ρ) call yc false 72 lim k J c72 [x0, x1, (.tup []), (.tup []), (.tup []), (.tup []), (.tup []), (.tup []), (.tup []), (.tup []), (.tup []), (.tup []), (.tup []), (.tup []), (.tup []), (.tup []), (.tup []), (.tup []), (.tup []), (.tup []), (.tup []), (.tup []), (.tup []), (.tup []), (.tup []), (.tup []), (.tup []), (.tup []), (.tup []), (.tup []), (.tup []), (.tup []), (.tup []), (.tup []), (.tup []), (.tup []), (.tup []), (.tup []), (.tup []), (.tup []), (.tup []), (.tup []), (.tup []), (.tup []), (.tup []), (.tup []), (.tup []), (.tup []), (.tup []), (.tup []), (.tup []), (.tup []), (.tup []), (.tup []), (.tup []), (.tup []), (.tup []), (.tup []), (.tup []), (.tup []), (.tup []), (.tup []), (.tup []), (.tup []), (.tup []), (.tup []), (.tup []), (.tup []), (.tup []), (.tup []), (.tup []), (.tup []), (.tup []), (.tup []), (.tup []), (.tup []), (.tup []), (.tup []), (.tup []), (.tup []), (.tup []), (.tup []), (.tup []), (.tup []), (.tup []), (.tup []), (.tup []), (.tup []), (.tup []), (.tup []), (.tup []), (.tup []), (.tup []), (.tup []), (.tup []), (.tup []), (.tup []), (.tup []), (.tup []), (.tup []), (.tup []), (.tup []), (.tup []), (.tup []), (.tup []), (.tup []), (.tup []), (.tup []), (.tup []), (.tup []), (.tup []), (.tup []), (.tup []), (.tup []), (.tup []), (.tup []), (.tup []), (.tup []), (.tup []), (.tup []), (.tup []), (.tup []), (.tup []), (.tup []), (.tup []), (.tup []), (.tup []), (.tup []), (.tup []), (.tup []), (.tup []), (.tup []), (.tup []), (.tup []), (.tup []), (.tup []), (.tup []), (.tup []), (.tup []), (.tup []), (.tup []), (.tup []), (.tup []), (.tup []), (.tup []), (.tup []), (.tup []), (.tup []), (.tup []), (.tup []), (.tup []), (.tup []), (.tup []), (.tup []), (.tup []), (.tup []), (.tup []), (.tup []), (.tup []), (.tup []), (.tup []), (.tup []), (.tup []), (.tup []), (.tup []), (.tup []), (.tup [])] H (kk none (fun s H => retK (([] : List Nat).map fun t => s.getD t (.tup [])) H) [] retK []) =
  purK (lenS x0) fun x18 =>
  J (Code.at [1] c72) (sp 167 [(0, x0), (1, x1), (4, x18)]) H (kk none (fun s H => retK (([] : List Nat).map fun t => s.getD t (.tup [])) H) [] retK []) := by
  kernel_rfl
theorem G72 (ρ : RO) (call : CallF) (yc : YieldF) (lim k : Nat) (x0 x1 : AV) (H : Heap) :
  evL (cx ρ) call yc false 72 lim k c72 [x0, x1, (.tup []), (.tup []), (.tup []), (.tup []), (.tup []), (.tup []), (.tup []), (.tup []), (.tup []), (.tup []), (.tup []), (.tup []), (.tup []), (.tup []), (.tup []), (.tup []), (.tup []), (.tup []), (.tup []), (.tup []), (.tup []), (.tup []), (.tup []), (.tup []), (.tup []), (.tup []), (.tup []), (.tup []), (.tup []), (.tup []), (.tup []), (.tup []), (.tup []), (.tup []), (.tup []), (.tup []), (.tup []), (.tup []), (.tup []), (.tup []), (.tup []), (.tup []), (.tup []), (.tup []), (.tup []), (.tup []), (.tup []), (.tup []), (.tup []), (.tup []), (.tup []), (.tup []), (.tup []), (.tup []), (.tup []), (.tup []), (.tup []), (.tup []), (.tup []), (.tup []), (.tup []), (.tup []), (.tup []), (.tup []), (.tup []), (.tup []), (.tup []), (.tup []), (.tup []), (.tup []), (.tup []), (.tup []), (.tup []), (.tup []), (.tup []), (.tup []), (.tup []), (.tup []), (.tup []), (.tup []), (.tup []), (.tup []), (.tup []), (.tup []), (.tup []), (.tup []), (.tup []), (.tup []), (.tup []), (.tup []), (.tup []), (.tup []), (.tup []), (.tup []), (.tup []), (.tup []), (.tup []), (.tup []), (.tup []), (.tup []), (.tup []), (.tup []), (.tup []), (.tup []), (.tup []), (.tup []), (.tup []), (.tup []), (.tup []), (.tup []), (.tup []), (.tup []), (.tup []), (.tup []), (.tup []), (.tup []), (.tup []), (.tup []), (.tup []), (.tup []), (.tup []), (.tup []), (.tup []), (.tup []), (.tup []), (.tup []), (.tup []), (.tup []), (.tup []), (.tup []), (.tup []), (.tup []), (.tup []), (.tup []), (.tup []), (.tup []), (.tup []), (.tup []), (.tup []), (.tup []), (.tup []), (.tup []), (.tup []), (.tup []), (.tup []), (.tup []), (.tup []), (.tup []), (.tup []), (.tup []), (.tup []), (.tup []), (.tup []), (.tup []), (.tup []), (.tup []), (.tup []), (.tup []), (.tup []), (.tup []), (.tup []), (.tup []), (.tup []), (.tup []), (.tup [])] H (kk none (fun s H => retK (([] : List Nat).map fun t => s.getD t (.tup [])) H) [] retK []) = L72 ρ call yc lim k x0 x1 H := by
  rw [evL_X, L72_x]
  simp only [← evL_X, L72, N72_1_eq]
theorem E72 (ρ : RO) (k lim : Nat) (x0 x1 : AV) (H : Heap) : evCall (cx ρ) (k + 1) lim 72 [x0, x1] H = L72 ρ (evCall (cx ρ) k) (evCY (cx ρ) k).2 lim k x0 x1 H := by
  rw [evCall_body (cx ρ) k lim 72 _ H Tryd.f72 c72 [] (by kernel_rfl) (by kernel_rfl) (by kernel_rfl) (by kernel_rfl) (by kernel_rfl)]
  exact G72 ρ (evCall (cx ρ) k) (evCY (cx ρ) k).2 lim k x0 x1 H
-- (*strings.Builder).grow
noncomputable def c74 : Code := Code.of Tryd.prog 74
noncomputable def L74 (ρ : RO) (call : CallF) (yc : YieldF) (lim k : Nat) (x0 x1 : AV) (H : Heap) : Res :=
  purK (nilChkA x0) fun x6 =>
  purK (addA 1 x6) fun x7 =>
  purK (ld1 ρ H x7) fun x8 =>
  purK (capS x8) fun x9 =>
  purK (binA Tryd.prog H .mul 3 (.int .i64 2) x9) fun x10 =>
  purK (binA Tryd.prog H .add 3 x10 x1) fun x12 =>
  purK (nilChkA x0) fun x15 =>
  purK (addA 1 x15) fun x16 =>
  purK (ld1 ρ H x16) fun x17 =>
  purK (lenS x17) fun x18 =>
  resK (call lim 86 [x12] H) fun x13 H => bif (agn (lenS x17) x18 && (agn (ld1 ρ H x16) x17 && true)) then
  purK (slS 1 x13 none (some x18) none) fun x19 =>
  purK (nilChkA x0) fun x22 =>
  purK (addA 1 x22) fun x23 =>
  purK (ld1 ρ H x23) fun x24 =>
  effK H (builtinA (cx ρ) lim H .copy #[52, 52] [x19, x24]) fun x25 H =>
  purK (nilChkA x0) fun x28 =>
  purK (addA 1 x28) fun x29 =>
  effK H (stA lim H 1 x29 x19) fun _ H =>
  retK [] H
  else none
theorem G74 (ρ : RO) (call : CallF) (yc : YieldF) (lim k : Nat) (x0 x1 : AV) (H : Heap) :
  evL (cx ρ) call yc false 74 lim k c74 [x0, x1, (.tup []), (.tup []), (.tup []), (.tup []), (.tup []), (.tup []), (.tup []), (.tup []), (.tup []), (.tup []), (.tup []), (.tup []), (.tup []), (.tup []), (.tup []), (.tup []), (.tup []), (.tup []), (.tup []), (.tup []), (.tup []), (.tup []), (.tup []), (.tup []), (.tup []), (.tup []), (.tup []), (.tup [])] H (kk none (fun s H => retK (([] : List Nat).map fun t => s.getD t (.tup [])) H) [] retK []) = L74 ρ call yc lim k x0 x1 H := by
  kernel_rfl
theorem E74 (ρ : RO) (k lim : Nat) (x0 x1 : AV) (H : Heap) : evCall (cx ρ) (k + 1) lim 74 [x0, x1] H = L74 ρ (evCall (cx ρ) k) (evCY (cx ρ) k).2 lim k x0 x1 H := by
  rw [evCall_body (cx ρ) k lim 74 _ H Tryd.f74 c74 [] (by kernel_rfl) (by kernel_rfl) (by kernel_rfl) (by kernel_rfl) (by kernel_rfl)]
  exact G74 ρ (evCall (cx ρ) k) (evCY (cx ρ) k).2 lim k x0 x1 H
end Go.Proofs.YtnkeebchblfbgaaDoor

-- part Sc9
/- Functions, lifted. Printed by a program of this repo. -/
set_option linter.unusedVariables false
set_option linter.unusedSimpArgs false
set_option maxRecDepth 100000
set_option maxHeartbeats 4000000
namespace Go.Proofs.YtnkeebchblfbgaaDoor
open Go.Ev Go.RowKit
-- internal/strconv.ParseUint
noncomputable def c79 : Code := Code.of Tryd.prog 79
noncomputable def N79_5 (ρ : RO) (call : CallF) (yc : YieldF) (lim k : Nat) (x9 x12 x13 : AV) (H : Heap) (R : KR) : Res :=
  purK (gPur (wantV x12 true) (some x9)) fun x166_1 =>
  resK (gRes (wantV x12 true) H (call lim 89 [x166_1] H)) fun x167_1 H =>
  purK (gPur (wantV x12 true) (unA .not x167_1)) fun x168_1 =>
  purK (pickA x12 x168_1 (.bool false)) fun x169_1 =>
  condK x169_1
  (
  R [(.int .u64 0), (.ifc 115 (.int .i64 2))] H)
  (
  R [x13, .nili] H)
theorem N79_5_eq (ρ : RO) (call : CallF) (yc : YieldF) (lim k : Nat) (x9 x12 x13 : AV) (H : Heap) (R : KR) :
  evL (cx ρ) call yc false 79 lim k (Code.at [1, 1, 1, 1, 1, 1, 1, 1, 1, 1, 1, 1] c79) (sp 172 [(9, x9), (12, x12), (13, x13)]) H (kk none (fun s H => R (([6, 7] : List Nat).map fun t => s.getD t (.tup [])) H) [] R [6, 7]) = N79_5 ρ call yc lim k x9 x12 x13 H R := by
  kernel_rfl
noncomputable def N79_8 (ρ : RO) (call : CallF) (yc : YieldF) (lim k : Nat) (x1 x8 x9 x10 x11 x12 x13 x99 x100 x101 : AV) (H : Heap) (kn : AV → AV → AV → Heap → Res) : Res :=
  purK (binA Tryd.prog H .add 3 x101 (.int .i64 1)) fun x163_1 =>
  kn x12 x13 x163_1 H
theorem N79_8_eq (ρ : RO) (call : CallF) (yc : YieldF) (lim k : Nat) (x1 x8 x9 x10 x11 x12 x13 x99 x100 x101 : AV) (H : Heap) (kn : KS) (k3 : KS) (R : KR) :
  evL (cx ρ) call yc false 79 lim k (Code.at [1, 1, 1, 1, 1, 1, 1, 1, 1, 1, 1, 0, 1, 0, 0, 1, 1, 1] c79) (sp 172 [(1, x1), (8, x8), (9, x9), (10, x10), (11, x11), (12, x12), (13, x13), (99, x99), (100, x100), (101, x101)]) H (kk (some [1, 8, 9, 10, 11, 12, 13, 99, 100, 101]) kn [(3, (some [9, 12, 13]), k3)] R [6, 7]) = N79_8 ρ call yc lim k x1 x8 x9 x10 x11 x12 x13 x99 x100 x101 H (fun x12 x13 x101 H => kn (sp 172 [(1, x1), (8, x8), (9, x9), (10, x10), (11, x11), (12, x12), (13, x13), (99, x99), (100, x100), (101, x101)]) H) := by
  kernel_rfl
noncomputable def N79_11 (ρ : RO) (call : CallF) (yc : YieldF) (lim k : Nat) (x1 x8 x9 x10 x11 x12 x17 x99 x100 x101 : AV) (H : Heap) (kn : AV → AV → AV → Heap → Res) : Res :=
  kn x12 x17 x101 H
theorem N79_11_eq (ρ : RO) (call : CallF) (yc : YieldF) (lim k : Nat) (x1 x8 x9 x10 x11 x12 x17 x99 x100 x101 : AV) (H : Heap) (kn : KS) (k4 : KS) (k3 : KS) (R : KR) :
  evL (cx ρ) call yc false 79 lim k (Code.at [1, 1, 1, 1, 1, 1, 1, 1, 1, 1, 1, 0, 1, 0, 0, 1, 1, 0, 0, 1, 1, 1, 1, 1, 1, 1, 1] c79) (sp 172 [(1, x1), (8, x8), (9, x9), (10, x10), (11, x11), (12, x12), (17, x17), (99, x99), (100, x100), (101, x101)]) H (kk (some [1, 8, 9, 10, 11, 12, 13, 99, 100, 101]) kn [(4, (some [1, 8, 9, 10, 11, 12, 13, 99, 100, 101]), k4), (3, (some [9, 12, 13]), k3)] R [6, 7]) = N79_11 ρ call yc lim k x1 x8 x9 x10 x11 x12 x17 x99 x100 x101 H (fun x12 x13 x101 H => kn (sp 172 [(1, x1), (8, x8), (9, x9), (10, x10), (11, x11), (12, x12), (13, x13), (99, x99), (100, x100), (101, x101)]) H) := by
  kernel_rfl
noncomputable def N79_12 (ρ : RO) (call : CallF) (yc : YieldF) (lim k : Nat) (x1 x8 x9 x10 x11 x12 x17 x99 x100 x101 x159 : AV) (H : Heap) (kn : AV → AV → AV → Heap → Res) (R : KR) : Res :=
  condK x159
  (
  R [x11, (.ifc 115 (.int .i64 1))] H)
  (
  kn x12 x17 x101 H)
theorem N79_12_eq (ρ : RO) (call : CallF) (yc : YieldF) (lim k : Nat) (x1 x8 x9 x10 x11 x12 x17 x99 x100 x101 x159 : AV) (H : Heap) (kn : KS) (k4 : KS) (k3 : KS) (R : KR) :
  evL (cx ρ) call yc false 79 lim k (Code.at [1, 1, 1, 1, 1, 1, 1, 1, 1, 1, 1, 0, 1, 0, 0, 1, 1, 0, 0, 1, 1, 1, 1, 1, 1, 1, 0, 1] c79) (sp 172 [(1, x1), (8, x8), (9, x9), (10, x10), (11, x11), (12, x12), (17, x17), (99, x99), (100, x100), (101, x101), (159, x159)]) H (kk (some [1, 8, 9, 10, 11, 12, 17, 99, 100, 101]) kn [(4, (some [1, 8, 9, 10, 11, 12, 13, 99, 100, 101]), k4), (3, (some [9, 12, 13]), k3)] R [6, 7]) = N79_12 ρ call yc lim k x1 x8 x9 x10 x11 x12 x17 x99 x100 x101 x159 H (fun x12 x17 x101 H => kn (sp 172 [(1, x1), (8, x8), (9, x9), (10, x10), (11, x11), (12, x12), (17, x17), (99, x99), (100, x100), (101, x101)]) H) R := by
  kernel_rfl
noncomputable def N79_10 (ρ : RO) (call : CallF) (yc : YieldF) (lim k : Nat) (x1 x8 x9 x10 x11 x12 x13 x16 x99 x100 x101 : AV) (H : Heap) (kn : AV → AV → AV → Heap → Res) (R : KR) : Res :=
  purK (binA Tryd.prog H .geq 38 x13 x10) fun x141_1 =>
  condK x141_1
  (
  R [x11, (.ifc 115 (.int .i64 1))] H)
  (
  purK (cvI .u64 x1) fun x146_1 =>
  purK (binA Tryd.prog H .mul 38 x13 x146_1) fun x147_1 =>
  purK (cvI .u64 x16) fun x150_1 =>
  purK (binA Tryd.prog H .add 38 x147_1 x150_1) fun x151_1 =>
  purK (binA Tryd.prog H .lss 38 x151_1 x147_1) fun x154_1 =>
  purK (gPur (wantV x154_1 false) (some x151_1)) fun x156_1 =>
  purK (gPur (wantV x154_1 false) (some x11)) fun x157_1 =>
  purK (gPur (wantV x154_1 false) (binA Tryd.prog H .gtr 38 x156_1 x157_1)) fun x158_1 =>
  purK (pickA x154_1 (.bool true) x158_1) fun x159_1 =>
  N79_12 ρ call yc lim k x1 x8 x9 x10 x11 x12 x151_1 x99 x100 x101 x159_1 H (fun x12_1 x17_1 x101_1 H =>
  N79_11 ρ call yc lim k x1 x8 x9 x10 x11 x12_1 x17_1 x99 x100 x101_1 H kn) R)
theorem N79_10_x (ρ : RO) (call : CallF) (yc : YieldF) (lim k : Nat) (J : CodeF) (x1 x8 x9 x10 x11 x12 x13 x16 x99 x100 x101 : AV) (H : Heap) (kn : KS) (k4 : KS) (k3 : KS) (R : KR) :
  evX (cx ρ) call yc false 79 lim k J (Code.at [1, 1, 1, 1, 1, 1, 1, 1, 1, 1, 1, 0, 1, 0, 0, 1, 1, 0, 0, 1, 1, 1, 1] c79) (sp 172 [(1, x1), (8, x8), (9, x9), (10, x10), (11, x11), (12, x12), (13, x13), (16, x16), (99, x99), (100, x100), (101, x101)]) H (kk (some [1, 8, 9, 10, 11, 12, 13, 99, 100, 101]) kn [(4, (some [1, 8, 9, 10, 11, 12, 13, 99, 100, 101]), k4), (3, (some [9, 12, 13]), k3)] R [6, 7]) =
  purK (binA Tryd.prog H .geq 38 x13 x10) fun x141_1 =>
  condK x141_1
  (
  R [x11, (.ifc 115 (.int .i64 1))] H)
  (
  purK (cvI .u64 x1) fun x146_1 =>
  purK (binA Tryd.prog H .mul 38 x13 x146_1) fun x147_1 =>
  purK (cvI .u64 x16) fun x150_1 =>
  purK (binA Tryd.prog H .add 38 x147_1 x150_1) fun x151_1 =>
  purK (binA Tryd.prog H .lss 38 x151_1 x147_1) fun x154_1 =>
  purK (gPur (wantV x154_1 false) (some x151_1)) fun x156_1 =>
  purK (gPur (wantV x154_1 false) (some x11)) fun x157_1 =>
  purK (gPur (wantV x154_1 false) (binA Tryd.prog H .gtr 38 x156_1 x157_1)) fun x158_1 =>
  purK (pickA x154_1 (.bool true) x158_1) fun x159_1 =>
  J (Code.at [1, 1, 1, 1, 1, 1, 1, 1, 1, 1, 1, 0, 1, 0, 0, 1, 1, 0, 0, 1, 1, 1, 1, 1, 1, 1, 0, 1] c79) (sp 172 [(1, x1), (8, x8), (9, x9), (10, x10), (11, x11), (12, x12), (17, x151_1), (99, x99), (100, x100), (101, x101), (159, x159_1)]) H (kk (some [1, 8, 9, 10, 11, 12, 17, 99, 100, 101]) (fun s H => J (Code.at [1, 1, 1, 1, 1, 1, 1, 1, 1, 1, 1, 0, 1, 0, 0, 1, 1, 0, 0, 1, 1, 1, 1, 1, 1, 1, 1] c79) s H (kk (some [1, 8, 9, 10, 11, 12, 13, 99, 100, 101]) kn [(4, (some [1, 8, 9, 10, 11, 12, 13, 99, 100, 101]), k4), (3, (some [9, 12, 13]), k3)] R [6, 7])) [(4, (some [1, 8, 9, 10, 11, 12, 13, 99, 100, 101]), k4), (3, (some [9, 12, 13]), k3)] R [6, 7])) := by
  kernel_rfl
theorem N79_10_eq (ρ : RO) (call : CallF) (yc : YieldF) (lim k : Nat) (x1 x8 x9 x10 x11 x12 x13 x16 x99 x100 x101 : AV) (H : Heap) (kn : KS) (k4 : KS) (k3 : KS) (R : KR) :
  evL (cx ρ) call yc false 79 lim k (Code.at [1, 1, 1, 1, 1, 1, 1, 1, 1, 1, 1, 0, 1, 0, 0, 1, 1, 0, 0, 1, 1, 1, 1] c79) (sp 172 [(1, x1), (8, x8), (9, x9), (10, x10), (11, x11), (12, x12), (13, x13), (16, x16), (99, x99), (100, x100), (101, x101)]) H (kk (some [1, 8, 9, 10, 11, 12, 13, 99, 100, 101]) kn [(4, (some [1, 8, 9, 10, 11, 12, 13, 99, 100, 101]), k4), (3, (some [9, 12, 13]), k3)] R [6, 7]) = N79_10 ρ call yc lim k x1 x8 x9 x10 x11 x12 x13 x16 x99 x100 x101 H (fun x12 x13 x101 H => kn (sp 172 [(1, x1), (8, x8), (9, x9), (10, x10), (11, x11), (12, x12), (13, x13), (99, x99), (100, x100), (101, x101)]) H) R := by
  rw [evL_X, N79_10_x]
  simp only [← evL_X, N79_10, N79_11_eq, N79_12_eq]
noncomputable def N79_13 (ρ : RO) (call : CallF) (yc : YieldF) (lim k : Nat) (x1 x8 x9 x10 x11 x12 x13 x16 x99 x100 x101 x137 : AV) (H : Heap) (kn : AV → AV → AV → AV → Heap → Res) (R : KR) : Res :=
  condK x137
  (
  R [(.int .u64 0), (.ifc 115 (.int .i64 2))] H)
  (
  kn x12 x13 x16 x101 H)
theorem N79_13_eq (ρ : RO) (call : CallF) (yc : YieldF) (lim k : Nat) (x1 x8 x9 x10 x11 x12 x13 x16 x99 x100 x101 x137 : AV) (H : Heap) (kn : KS) (k4 : KS) (k3 : KS) (R : KR) :
  evL (cx ρ) call yc false 79 lim k (Code.at [1, 1, 1, 1, 1, 1, 1, 1, 1, 1, 1, 0, 1, 0, 0, 1, 1, 0, 0, 1, 1, 1, 0, 1] c79) (sp 172 [(1, x1), (8, x8), (9, x9), (10, x10), (11, x11), (12, x12), (13, x13), (16, x16), (99, x99), (100, x100), (101, x101), (137, x137)]) H (kk (some [1, 8, 9, 10, 11, 12, 13, 16, 99, 100, 101]) kn [(4, (some [1, 8, 9, 10, 11, 12, 13, 99, 100, 101]), k4), (3, (some [9, 12, 13]), k3)] R [6, 7]) = N79_13 ρ call yc lim k x1 x8 x9 x10 x11 x12 x13 x16 x99 x100 x101 x137 H (fun x12 x13 x16 x101 H => kn (sp 172 [(1, x1), (8, x8), (9, x9), (10, x10), (11, x11), (12, x12), (13, x13), (16, x16), (99, x99), (100, x100), (101, x101)]) H) R := by
  kernel_rfl
noncomputable def N79_9 (ρ : RO) (call : CallF) (yc : YieldF) (lim k : Nat) (x1 x8 x9 x10 x11 x12 x13 x16 x99 x100 x101 : AV) (H : Heap) (kn : AV → AV → AV → Heap → Res) (R : KR) : Res :=
  purK (cvI .u8 x1) fun x136_1 =>
  purK (binA Tryd.prog H .geq 5 x16 x136_1) fun x137_1 =>
  N79_13 ρ call yc lim k x1 x8 x9 x10 x11 x12 x13 x16 x99 x100 x101 x137_1 H (fun x12_1 x13_1 x16_1 x101_1 H =>
  N79_10 ρ call yc lim k x1 x8 x9 x10 x11 x12_1 x13_1 x16_1 x99 x100 x101_1 H kn R) R
theorem N79_9_x (ρ : RO) (call : CallF) (yc : YieldF) (lim k : Nat) (J : CodeF) (x1 x8 x9 x10 x11 x12 x13 x16 x99 x100 x101 : AV) (H : Heap) (kn : KS) (k4 : KS) (k3 : KS) (R : KR) :
  evX (cx ρ) call yc false 79 lim k J (Code.at [1, 1, 1, 1, 1, 1, 1, 1, 1, 1, 1, 0, 1, 0, 0, 1, 1, 0, 0, 1, 1, 1] c79) (sp 172 [(1, x1), (8, x8), (9, x9), (10, x10), (11, x11), (12, x12), (13, x13), (16, x16), (99, x99), (100, x100), (101, x101)]) H (kk (some [1, 8, 9, 10, 11, 12, 13, 99, 100, 101]) kn [(4, (some [1, 8, 9, 10, 11, 12, 13, 99, 100, 101]), k4), (3, (some [9, 12, 13]), k3)] R [6, 7]) =
  purK (cvI .u8 x1) fun x136_1 =>
  purK (binA Tryd.prog H .geq 5 x16 x136_1) fun x137_1 =>
  J (Code.at [1, 1, 1, 1, 1, 1, 1, 1, 1, 1, 1, 0, 1, 0, 0, 1, 1, 0, 0, 1, 1, 1, 0, 1] c79) (sp 172 [(1, x1), (8, x8), (9, x9), (10, x10), (11, x11), (12, x12), (13, x13), (16, x16), (99, x99), (100, x100), (101, x101), (137, x137_1)]) H (kk (some [1, 8, 9, 10, 11, 12, 13, 16, 99, 100, 101]) (fun s H => J (Code.at [1, 1, 1, 1, 1, 1, 1, 1, 1, 1, 1, 0, 1, 0, 0, 1, 1, 0, 0, 1, 1, 1, 1] c79) s H (kk (some [1, 8, 9, 10, 11, 12, 13, 99, 100, 101]) kn [(4, (some [1, 8, 9, 10, 11, 12, 13, 99, 100, 101]), k4), (3, (some [9, 12, 13]), k3)] R [6, 7])) [(4, (some [1, 8, 9, 10, 11, 12, 13, 99, 100, 101]), k4), (3, (some [9, 12, 13]), k3)] R [6, 7]) := by
  kernel_rfl
theorem N79_9_eq (ρ : RO) (call : CallF) (yc : YieldF) (lim k : Nat) (x1 x8 x9 x10 x11 x12 x13 x16 x99 x100 x101 : AV) (H : Heap) (kn : KS) (k4 : KS) (k3 : KS) (R : KR) :
  evL (cx ρ) call yc false 79 lim k (Code.at [1, 1, 1, 1, 1, 1, 1, 1, 1, 1, 1, 0, 1, 0, 0, 1, 1, 0, 0, 1, 1, 1] c79) (sp 172 [(1, x1), (8, x8), (9, x9), (10, x10), (11, x11), (12, x12), (13, x13), (16, x16), (99, x99), (100, x100), (101, x101)]) H (kk (some [1, 8, 9, 10, 11, 12, 13, 99, 100, 101]) kn [(4, (some [1, 8, 9, 10, 11, 12, 13, 99, 100, 101]), k4), (3, (some [9, 12, 13]), k3)] R [6, 7]) = N79_9 ρ call yc lim k x1 x8 x9 x10 x11 x12 x13 x16 x99 x100 x101 H (fun x12 x13 x101 H => kn (sp 172 [(1, x1), (8, x8), (9, x9), (10, x10), (11, x11), (12, x12), (13, x13), (99, x99), (100, x100), (101, x101)]) H) R := by
  rw [evL_X, N79_9_x]
  simp only [← evL_X, N79_9, N79_10_eq, N79_13_eq]
noncomputable def N79_14 (ρ : RO) (call : CallF) (yc : YieldF) (lim k : Nat) (x1 x8 x9 x10 x11 x12 x13 x15 x99 x100 x101 x121 : AV) (H : Heap) (kn : AV → AV → AV → AV → Heap → Res) (R : KR) : Res :=
  condK x121
  (
  resK (call lim 88 [x15] H) fun x131_1 H =>
  purK (binA Tryd.prog H .sub 5 x131_1 (.int .u8 97)) fun x132_1 =>
  purK (binA Tryd.prog H .add 5 x132_1 (.int .u8 10)) fun x133_1 =>
  kn x12 x13 x133_1 x101 H)
  (
  R [(.int .u64 0), (.ifc 115 (.int .i64 2))] H)
theorem N79_14_eq (ρ : RO) (call : CallF) (yc : YieldF) (lim k : Nat) (x1 x8 x9 x10 x11 x12 x13 x15 x99 x100 x101 x121 : AV) (H : Heap) (kn : KS) (k5 : KS) (k4 : KS) (k3 : KS) (R : KR) :
  evL (cx ρ) call yc false 79 lim k (Code.at [1, 1, 1, 1, 1, 1, 1, 1, 1, 1, 1, 0, 1, 0, 0, 1, 1, 0, 0, 1, 1, 0, 0, 1, 1, 1, 1, 1] c79) (sp 172 [(1, x1), (8, x8), (9, x9), (10, x10), (11, x11), (12, x12), (13, x13), (15, x15), (99, x99), (100, x100), (101, x101), (121, x121)]) H (kk (some [1, 8, 9, 10, 11, 12, 13, 16, 99, 100, 101]) kn [(5, (some [1, 8, 9, 10, 11, 12, 13, 16, 99, 100, 101]), k5), (4, (some [1, 8, 9, 10, 11, 12, 13, 99, 100, 101]), k4), (3, (some [9, 12, 13]), k3)] R [6, 7]) = N79_14 ρ call yc lim k x1 x8 x9 x10 x11 x12 x13 x15 x99 x100 x101 x121 H (fun x12 x13 x16 x101 H => kn (sp 172 [(1, x1), (8, x8), (9, x9), (10, x10), (11, x11), (12, x12), (13, x13), (16, x16), (99, x99), (100, x100), (101, x101)]) H) R := by
  kernel_rfl
noncomputable def N79_7b (ρ : RO) (call : CallF) (yc : YieldF) (lim k : Nat) (x1 x8 x9 x10 x11 x12 x13 x99 x100 x101 : AV) (H : Heap) (kn : AV → AV → AV → Heap → Res) (k3 : AV → AV → AV → Heap → Res) (R : KR) : Res :=
  purK (binA Tryd.prog H .lss 3 x101 x100) fun x102_1 =>
  condK x102_1
  (
  purK (ixS 1 x99 x101) fun x103_1 =>
  purK (ld1 ρ H x103_1) fun x104_1 =>
  purK (binA Tryd.prog H .eql 5 x104_1 (.int .u8 95)) fun x108_1 =>
  purK (gPur (wantV x108_1 true) (some x8)) fun x110_1 =>
  purK (pickA x108_1 x110_1 (.bool false)) fun x111_1 =>
  condK x111_1
  (
  N79_8 ρ call yc lim k x1 x8 x9 x10 x11 (.bool true) x13 x99 x100 x101 H kn)
  (
  purK (binA Tryd.prog H .leq 5 (.int .u8 48) x104_1) fun x114_1 =>
  purK (gPur (wantV x114_1 true) (some x104_1)) fun x116_1 =>
  purK (gPur (wantV x114_1 true) (binA Tryd.prog H .leq 5 x116_1 (.int .u8 57))) fun x117_1 =>
  purK (pickA x114_1 x117_1 (.bool false)) fun x118_1 =>
  condK x118_1
  (
  purK (binA Tryd.prog H .sub 5 x104_1 (.int .u8 48)) fun x120_1 =>
  N79_9 ρ call yc lim k x1 x8 x9 x10 x11 x12 x13 x120_1 x99 x100 x101 H (fun x12_1 x13_1 x101_1 H =>
  N79_8 ρ call yc lim k x1 x8 x9 x10 x11 x12_1 x13_1 x99 x100 x101_1 H kn) R)
  (
  resK (call lim 88 [x104_1] H) fun x123_1 H =>
  purK (binA Tryd.prog H .leq 5 (.int .u8 97) x123_1) fun x124_1 =>
  purK (gPur (wantV x124_1 true) (some x104_1)) fun x126_1 =>
  resK (gRes (wantV x124_1 true) H (call lim 88 [x126_1] H)) fun x127_1 H =>
  purK (gPur (wantV x124_1 true) (binA Tryd.prog H .leq 5 x127_1 (.int .u8 122))) fun x128_1 =>
  purK (pickA x124_1 x128_1 (.bool false)) fun x129_1 =>
  N79_14 ρ call yc lim k x1 x8 x9 x10 x11 x12 x13 x104_1 x99 x100 x101 x129_1 H (fun x12_2 x13_2 x16_1 x101_2 H =>
  N79_9 ρ call yc lim k x1 x8 x9 x10 x11 x12_2 x13_2 x16_1 x99 x100 x101_2 H (fun x12_3 x13_3 x101_3 H =>
  N79_8 ρ call yc lim k x1 x8 x9 x10 x11 x12_3 x13_3 x99 x100 x101_3 H kn) R) R)))
  (
  k3 x9 x12 x13 H)
theorem N79_7b_x (ρ : RO) (call : CallF) (yc : YieldF) (lim k : Nat) (J : CodeF) (x1 x8 x9 x10 x11 x12 x13 x99 x100 x101 : AV) (H : Heap) (kn : KS) (k3 : KS) (R : KR) :
  evX (cx ρ) call yc false 79 lim k J (Code.at [1, 1, 1, 1, 1, 1, 1, 1, 1, 1, 1, 0, 1, 0, 0] c79) (sp 172 [(1, x1), (8, x8), (9, x9), (10, x10), (11, x11), (12, x12), (13, x13), (99, x99), (100, x100), (101, x101)]) H (kk (some [1, 8, 9, 10, 11, 12, 13, 99, 100, 101]) kn [(3, (some [9, 12, 13]), k3)] R [6, 7]) =
  purK (binA Tryd.prog H .lss 3 x101 x100) fun x102_1 =>
  condK x102_1
  (
  purK (ixS 1 x99 x101) fun x103_1 =>
  purK (ld1 ρ H x103_1) fun x104_1 =>
  purK (binA Tryd.prog H .eql 5 x104_1 (.int .u8 95)) fun x108_1 =>
  purK (gPur (wantV x108_1 true) (some x8)) fun x110_1 =>
  purK (pickA x108_1 x110_1 (.bool false)) fun x111_1 =>
  condK x111_1
  (
  J (Code.at [1, 1, 1, 1, 1, 1, 1, 1, 1, 1, 1, 0, 1, 0, 0, 1, 1, 1] c79) (sp 172 [(1, x1), (8, x8), (9, x9), (10, x10), (11, x11), (12, (.bool true)), (13, x13), (99, x99), (100, x100), (101, x101)]) H (kk (some [1, 8, 9, 10, 11, 12, 13, 99, 100, 101]) kn [(3, (some [9, 12, 13]), k3)] R [6, 7]))
  (
  purK (binA Tryd.prog H .leq 5 (.int .u8 48) x104_1) fun x114_1 =>
  purK (gPur (wantV x114_1 true) (some x104_1)) fun x116_1 =>
  purK (gPur (wantV x114_1 true) (binA Tryd.prog H .leq 5 x116_1 (.int .u8 57))) fun x117_1 =>
  purK (pickA x114_1 x117_1 (.bool false)) fun x118_1 =>
  condK x118_1
  (
  purK (binA Tryd.prog H .sub 5 x104_1 (.int .u8 48)) fun x120_1 =>
  J (Code.at [1, 1, 1, 1, 1, 1, 1, 1, 1, 1, 1, 0, 1, 0, 0, 1, 1, 0, 0, 1, 1, 1] c79) (sp 172 [(1, x1), (8, x8), (9, x9), (10, x10), (11, x11), (12, x12), (13, x13), (16, x120_1), (99, x99), (100, x100), (101, x101)]) H (kk (some [1, 8, 9, 10, 11, 12, 13, 99, 100, 101]) (fun s H => J (Code.at [1, 1, 1, 1, 1, 1, 1, 1, 1, 1, 1, 0, 1, 0, 0, 1, 1, 1] c79) s H (kk (some [1, 8, 9, 10, 11, 12, 13, 99, 100, 101]) kn [(3, (some [9, 12, 13]), k3)] R [6, 7])) [(4, (some [1, 8, 9, 10, 11, 12, 13, 99, 100, 101]), (fun s H => J (Code.at [1, 1, 1, 1, 1, 1, 1, 1, 1, 1, 1, 0, 1, 0, 0, 1, 1, 1] c79) s H (kk (some [1, 8, 9, 10, 11, 12, 13, 99, 100, 101]) kn [(3, (some [9, 12, 13]), k3)] R [6, 7]))), (3, (some [9, 12, 13]), k3)] R [6, 7]))
  (
  resK (call lim 88 [x104_1] H) fun x123_1 H =>
  purK (binA Tryd.prog H .leq 5 (.int .u8 97) x123_1) fun x124_1 =>
  purK (gPur (wantV x124_1 true) (some x104_1)) fun x126_1 =>
  resK (gRes (wantV x124_1 true) H (call lim 88 [x126_1] H)) fun x127_1 H =>
  purK (gPur (wantV x124_1 true) (binA Tryd.prog H .leq 5 x127_1 (.int .u8 122))) fun x128_1 =>
  purK (pickA x124_1 x128_1 (.bool false)) fun x129_1 =>
  J (Code.at [1, 1, 1, 1, 1, 1, 1, 1, 1, 1, 1, 0, 1, 0, 0, 1, 1, 0, 0, 1, 1, 0, 0, 1, 1, 1, 1, 1] c79) (sp 172 [(1, x1), (8, x8), (9, x9), (10, x10), (11, x11), (12, x12), (13, x13), (15, x104_1), (99, x99), (100, x100), (101, x101), (121, x129_1)]) H (kk (some [1, 8, 9, 10, 11, 12, 13, 16, 99, 100, 101]) (fun s H => J (Code.at [1, 1, 1, 1, 1, 1, 1, 1, 1, 1, 1, 0, 1, 0, 0, 1, 1, 0, 0, 1, 1, 1] c79) s H (kk (some [1, 8, 9, 10, 11, 12, 13, 99, 100, 101]) (fun s H => J (Code.at [1, 1, 1, 1, 1, 1, 1, 1, 1, 1, 1, 0, 1, 0, 0, 1, 1, 1] c79) s H (kk (some [1, 8, 9, 10, 11, 12, 13, 99, 100, 101]) kn [(3, (some [9, 12, 13]), k3)] R [6, 7])) [(4, (some [1, 8, 9, 10, 11, 12, 13, 99, 100, 101]), (fun s H => J (Code.at [1, 1, 1, 1, 1, 1, 1, 1, 1, 1, 1, 0, 1, 0, 0, 1, 1, 1] c79) s H (kk (some [1, 8, 9, 10, 11, 12, 13, 99, 100, 101]) kn [(3, (some [9, 12, 13]), k3)] R [6, 7]))), (3, (some [9, 12, 13]), k3)] R [6, 7])) [(5, (some [1, 8, 9, 10, 11, 12, 13, 16, 99, 100, 101]), (fun s H => J (Code.at [1, 1, 1, 1, 1, 1, 1, 1, 1, 1, 1, 0, 1, 0, 0, 1, 1, 0, 0, 1, 1, 1] c79) s H (kk (some [1, 8, 9, 10, 11, 12, 13, 99, 100, 101]) (fun s H => J (Code.at [1, 1, 1, 1, 1, 1, 1, 1, 1, 1, 1, 0, 1, 0, 0, 1, 1, 1] c79) s H (kk (some [1, 8, 9, 10, 11, 12, 13, 99, 100, 101]) kn [(3, (some [9, 12, 13]), k3)] R [6, 7])) [(4, (some [1, 8, 9, 10, 11, 12, 13, 99, 100, 101]), (fun s H => J (Code.at [1, 1, 1, 1, 1, 1, 1, 1, 1, 1, 1, 0, 1, 0, 0, 1, 1, 1] c79) s H (kk (some [1, 8, 9, 10, 11, 12, 13, 99, 100, 101]) kn [(3, (some [9, 12, 13]), k3)] R [6, 7]))), (3, (some [9, 12, 13]), k3)] R [6, 7]))), (4, (some [1, 8, 9, 10, 11, 12, 13, 99, 100, 101]), (fun s H => J (Code.at [1, 1, 1, 1, 1, 1, 1, 1, 1, 1, 1, 0, 1, 0, 0, 1, 1, 1] c79) s H (kk (some [1, 8, 9, 10, 11, 12, 13, 99, 100, 101]) kn [(3, (some [9, 12, 13]), k3)] R [6, 7]))), (3, (some [9, 12, 13]), k3)] R [6, 7]))))
  (
  k3 (sp 172 [(9, x9), (12, x12), (13, x13)]) H) := by
  kernel_rfl
theorem N79_7b_eq (ρ : RO) (call : CallF) (yc : YieldF) (lim k : Nat) (x1 x8 x9 x10 x11 x12 x13 x99 x100 x101 : AV) (H : Heap) (kn : KS) (k3 : KS) (R : KR) :
  evL (cx ρ) call yc false 79 lim k (Code.at [1, 1, 1, 1, 1, 1, 1, 1, 1, 1, 1, 0, 1, 0, 0] c79) (sp 172 [(1, x1), (8, x8), (9, x9), (10, x10), (11, x11), (12, x12), (13, x13), (99, x99), (100, x100), (101, x101)]) H (kk (some [1, 8, 9, 10, 11, 12, 13, 99, 100, 101]) kn [(3, (some [9, 12, 13]), k3)] R [6, 7]) = N79_7b ρ call yc lim k x1 x8 x9 x10 x11 x12 x13 x99 x100 x101 H (fun x12 x13 x101 H => kn (sp 172 [(1, x1), (8, x8), (9, x9), (10, x10), (11, x11), (12, x12), (13, x13), (99, x99), (100, x100), (101, x101)]) H) (fun x9 x12 x13 H => k3 (sp 172 [(9, x9), (12, x12), (13, x13)]) H) R := by
  rw [evL_X, N79_7b_x]
  simp only [← evL_X, N79_7b, N79_14_eq, N79_8_eq, N79_9_eq]
noncomputable def N79_7 (ρ : RO) (call : CallF) (yc : YieldF) (lim k : Nat) (x1 x8 x9 x10 x11 x12 x13 x99 x100 x101 : AV) (H : Heap) (k3 : AV → AV → AV → Heap → Res) (R : KR) : Res :=
  loopL (fun (x : AV × AV × AV) H kn => N79_7b ρ call yc lim k x1 x8 x9 x10 x11 x.1 x.2.1 x99 x100 x.2.2 H (fun x12 x13 x101 H => kn (x12, x13, x101) H) k3 R) k (x12, x13, x101) H
theorem N79_7_eq (ρ : RO) (call : CallF) (yc : YieldF) (lim k : Nat) (x1 x8 x9 x10 x11 x12 x13 x99 x100 x101 : AV) (H : Heap) (kn : KS) (k3 : KS) (R : KR) :
  evL (cx ρ) call yc false 79 lim k (Code.at [1, 1, 1, 1, 1, 1, 1, 1, 1, 1, 1, 0, 1, 0] c79) (sp 172 [(1, x1), (8, x8), (9, x9), (10, x10), (11, x11), (12, x12), (13, x13), (99, x99), (100, x100), (101, x101)]) H (kk (some [9, 12, 13]) kn [(3, (some [9, 12, 13]), k3)] R [6, 7]) = N79_7 ρ call yc lim k x1 x8 x9 x10 x11 x12 x13 x99 x100 x101 H (fun x9 x12 x13 H => k3 (sp 172 [(9, x9), (12, x12), (13, x13)]) H) R := by
  have e : Code.at [1, 1, 1, 1, 1, 1, 1, 1, 1, 1, 1, 0, 1, 0] c79 = .loop (Code.at [1, 1, 1, 1, 1, 1, 1, 1, 1, 1, 1, 0, 1, 0, 0] c79) := by kernel_rfl
  rw [e]
  unfold N79_7
  exact loop_node [1, 8, 9, 10, 11, 12, 13, 99, 100, 101] (fun x : AV × AV × AV => (sp 172 [(1, x1), (8, x8), (9, x9), (10, x10), (11, x11), (12, (x.1)), (13, (x.2.1)), (99, x99), (100, x100), (101, (x.2.2))])) (fun (x : AV × AV × AV) H kn => N79_7b ρ call yc lim k x1 x8 x9 x10 x11 x.1 x.2.1 x99 x100 x.2.2 H (fun x12 x13 x101 H => kn (x12, x13, x101) H) (fun x9 x12 x13 H => k3 (sp 172 [(9, x9), (12, x12), (13, x13)]) H) R) (by kernel_rfl) (fun x => by kernel_rfl) (fun x H kn => N79_7b_eq ρ call yc lim k x1 x8 x9 x10 x11 (x.1) (x.2.1) x99 x100 (x.2.2) H kn k3 R) (x12, x13, x101) (sp 172 [(1, x1), (8, x8), (9, x9), (10, x10), (11, x11), (12, x12), (13, x13), (99, x99), (100, x100), (101, x101)]) H (by kernel_rfl)
noncomputable def N79_6 (ρ : RO) (call : CallF) (yc : YieldF) (lim k : Nat) (x1 x8 x9 x10 x11 x12 x13 x99 x100 x101 : AV) (H : Heap) (kn : AV → AV → AV → Heap → Res) (R : KR) : Res :=
  N79_7 ρ call yc lim k x1 x8 x9 x10 x11 x12 x13 x99 x100 x101 H kn R
theorem N79_6_x (ρ : RO) (call : CallF) (yc : YieldF) (lim k : Nat) (J : CodeF) (x1 x8 x9 x10 x11 x12 x13 x99 x100 x101 : AV) (H : Heap) (kn : KS) (R : KR) :
  evX (cx ρ) call yc false 79 lim k J (Code.at [1, 1, 1, 1, 1, 1, 1, 1, 1, 1, 1, 0, 1] c79) (sp 172 [(1, x1), (8, x8), (9, x9), (10, x10), (11, x11), (12, x12), (13, x13), (99, x99), (100, x100), (101, x101)]) H (kk (some [9, 12, 13]) kn [] R [6, 7]) =
  J (Code.at [1, 1, 1, 1, 1, 1, 1, 1, 1, 1, 1, 0, 1, 0] c79) (sp 172 [(1, x1), (8, x8), (9, x9), (10, x10), (11, x11), (12, x12), (13, x13), (99, x99), (100, x100), (101, x101)]) H (kk (some [9, 12, 13]) kn [(3, (some [9, 12, 13]), kn)] R [6, 7]) := by
  kernel_rfl
theorem N79_6_eq (ρ : RO) (call : CallF) (yc : YieldF) (lim k : Nat) (x1 x8 x9 x10 x11 x12 x13 x99 x100 x101 : AV) (H : Heap) (kn : KS) (R : KR) :
  evL (cx ρ) call yc false 79 lim k (Code.at [1, 1, 1, 1, 1, 1, 1, 1, 1, 1, 1, 0, 1] c79) (sp 172 [(1, x1), (8, x8), (9, x9), (10, x10), (11, x11), (12, x12), (13, x13), (99, x99), (100, x100), (101, x101)]) H (kk (some [9, 12, 13]) kn [] R [6, 7]) = N79_6 ρ call yc lim k x1 x8 x9 x10 x11 x12 x13 x99 x100 x101 H (fun x9 x12 x13 H => kn (sp 172 [(9, x9), (12, x12), (13, x13)]) H) R := by
  rw [evL_X, N79_6_x]
  simp only [← evL_X, N79_6, N79_7_eq]
noncomputable def N79_4 (ρ : RO) (call : CallF) (yc : YieldF) (lim k : Nat) (x0 x1 x8 x9 x10 x11 : AV) (H : Heap) (R : KR) : Res :=
  effK H (s2bT H 5 x0) fun x99_1 H =>
  purK (lenS x99_1) fun x100_1 =>
  N79_6 ρ call yc lim k x1 x8 x9 x10 x11 (.bool false) (.int .u64 0) x99_1 x100_1 (.int .i64 0) H (fun x9_1 x12_1 x13_1 H =>
  N79_5 ρ call yc lim k x9_1 x12_1 x13_1 H R) R
theorem N79_4_x (ρ : RO) (call : CallF) (yc : YieldF) (lim k : Nat) (J : CodeF) (x0 x1 x8 x9 x10 x11 : AV) (H : Heap) (R : KR) :
  evX (cx ρ) call yc false 79 lim k J (Code.at [1, 1, 1, 1, 1, 1, 1, 1, 1] c79) (sp 172 [(0, x0), (1, x1), (8, x8), (9, x9), (10, x10), (11, x11)]) H (kk none (fun s H => R (([6, 7] : List Nat).map fun t => s.getD t (.tup [])) H) [] R [6, 7]) =
  effK H (s2bT H 5 x0) fun x99_1 H =>
  purK (lenS x99_1) fun x100_1 =>
  J (Code.at [1, 1, 1, 1, 1, 1, 1, 1, 1, 1, 1, 0, 1] c79) (sp 172 [(1, x1), (8, x8), (9, x9), (10, x10), (11, x11), (12, (.bool false)), (13, (.int .u64 0)), (99, x99_1), (100, x100_1), (101, (.int .i64 0))]) H (kk (some [9, 12, 13]) (fun s H => J (Code.at [1, 1, 1, 1, 1, 1, 1, 1, 1, 1, 1, 1] c79) s H (kk none (fun s H => R (([6, 7] : List Nat).map fun t => s.getD t (.tup [])) H) [] R [6, 7])) [] R [6, 7]) := by
  kernel_rfl
theorem N79_4_eq (ρ : RO) (call : CallF) (yc : YieldF) (lim k : Nat) (x0 x1 x8 x9 x10 x11 : AV) (H : Heap) (R : KR) :
  evL (cx ρ) call yc false 79 lim k (Code.at [1, 1, 1, 1, 1, 1, 1, 1, 1] c79) (sp 172 [(0, x0), (1, x1), (8, x8), (9, x9), (10, x10), (11, x11)]) H (kk none (fun s H => R (([6, 7] : List Nat).map fun t => s.getD t (.tup [])) H) [] R [6, 7]) = N79_4 ρ call yc lim k x0 x1 x8 x9 x10 x11 H R := by
  rw [evL_X, N79_4_x]
  simp only [← evL_X, N79_4, N79_5_eq, N79_6_eq]
noncomputable def N79_3 (ρ : RO) (call : CallF) (yc : YieldF) (lim k : Nat) (x0 x1 x2 x8 x9 x10 : AV) (H : Heap) (R : KR) : Res :=
  purK (cvI .u64 x2) fun x95_1 =>
  purK (binA Tryd.prog H .shl 38 (.int .u64 1) x95_1) fun x96_1 =>
  purK (binA Tryd.prog H .sub 38 x96_1 (.int .u64 1)) fun x97_1 =>
  N79_4 ρ call yc lim k x0 x1 x8 x9 x10 x97_1 H R
theorem N79_3_x (ρ : RO) (call : CallF) (yc : YieldF) (lim k : Nat) (J : CodeF) (x0 x1 x2 x8 x9 x10 : AV) (H : Heap) (R : KR) :
  evX (cx ρ) call yc false 79 lim k J (Code.at [1, 1, 1, 1, 1, 1, 1, 1] c79) (sp 172 [(0, x0), (1, x1), (2, x2), (8, x8), (9, x9), (10, x10)]) H (kk none (fun s H => R (([6, 7] : List Nat).map fun t => s.getD t (.tup [])) H) [] R [6, 7]) =
  purK (cvI .u64 x2) fun x95_1 =>
  purK (binA Tryd.prog H .shl 38 (.int .u64 1) x95_1) fun x96_1 =>
  purK (binA Tryd.prog H .sub 38 x96_1 (.int .u64 1)) fun x97_1 =>
  J (Code.at [1, 1, 1, 1, 1, 1, 1, 1, 1] c79) (sp 172 [(0, x0), (1, x1), (8, x8), (9, x9), (10, x10), (11, x97_1)]) H (kk none (fun s H => R (([6, 7] : List Nat).map fun t => s.getD t (.tup [])) H) [] R [6, 7]) := by
  kernel_rfl
theorem N79_3_eq (ρ : RO) (call : CallF) (yc : YieldF) (lim k : Nat) (x0 x1 x2 x8 x9 x10 : AV) (H : Heap) (R : KR) :
  evL (cx ρ) call yc false 79 lim k (Code.at [1, 1, 1, 1, 1, 1, 1, 1] c79) (sp 172 [(0, x0), (1, x1), (2, x2), (8, x8), (9, x9), (10, x10)]) H (kk none (fun s H => R (([6, 7] : List Nat).map fun t => s.getD t (.tup [])) H) [] R [6, 7]) = N79_3 ρ call yc lim k x0 x1 x2 x8 x9 x10 H R := by
  rw [evL_X, N79_3_x]
  simp only [← evL_X, N79_3, N79_4_eq]
noncomputable def N79_2 (ρ : RO) (call : CallF) (yc : YieldF) (lim k : Nat) (x0 x1 x2 x8 x9 : AV) (H : Heap) (R : KR) : Res :=
  purK (binA Tryd.prog H .eql 3 x1 (.int .i64 10)) fun x91_1 =>
  condK x91_1
  (
  N79_3 ρ call yc lim k x0 x1 x2 x8 x9 (.int .u64 1844674407370955162) H R)
  (
  purK (binA Tryd.prog H .eql 3 x1 (.int .i64 16)) fun x93_1 =>
  condK x93_1
  (
  N79_3 ρ call yc lim k x0 x1 x2 x8 x9 (.int .u64 1152921504606846976) H R)
  (
  purK (cvI .u64 x1) fun x87_1 =>
  purK (binA Tryd.prog H .quo 38 (.int .u64 18446744073709551615) x87_1) fun x88_1 =>
  purK (binA Tryd.prog H .add 38 x88_1 (.int .u64 1)) fun x89_1 =>
  N79_3 ρ call yc lim k x0 x1 x2 x8 x9 x89_1 H R))
theorem N79_2_x (ρ : RO) (call : CallF) (yc : YieldF) (lim k : Nat) (J : CodeF) (x0 x1 x2 x8 x9 : AV) (H : Heap) (R : KR) :
  evX (cx ρ) call yc false 79 lim k J (Code.at [1, 1, 1, 1, 1, 1] c79) (sp 172 [(0, x0), (1, x1), (2, x2), (8, x8), (9, x9)]) H (kk none (fun s H => R (([6, 7] : List Nat).map fun t => s.getD t (.tup [])) H) [] R [6, 7]) =
  purK (binA Tryd.prog H .eql 3 x1 (.int .i64 10)) fun x91_1 =>
  condK x91_1
  (
  J (Code.at [1, 1, 1, 1, 1, 1, 1, 1] c79) (sp 172 [(0, x0), (1, x1), (2, x2), (8, x8), (9, x9), (10, (.int .u64 1844674407370955162))]) H (kk none (fun s H => R (([6, 7] : List Nat).map fun t => s.getD t (.tup [])) H) [] R [6, 7]))
  (
  purK (binA Tryd.prog H .eql 3 x1 (.int .i64 16)) fun x93_1 =>
  condK x93_1
  (
  J (Code.at [1, 1, 1, 1, 1, 1, 1, 1] c79) (sp 172 [(0, x0), (1, x1), (2, x2), (8, x8), (9, x9), (10, (.int .u64 1152921504606846976))]) H (kk none (fun s H => R (([6, 7] : List Nat).map fun t => s.getD t (.tup [])) H) [] R [6, 7]))
  (
  purK (cvI .u64 x1) fun x87_1 =>
  purK (binA Tryd.prog H .quo 38 (.int .u64 18446744073709551615) x87_1) fun x88_1 =>
  purK (binA Tryd.prog H .add 38 x88_1 (.int .u64 1)) fun x89_1 =>
  J (Code.at [1, 1, 1, 1, 1, 1, 1, 1] c79) (sp 172 [(0, x0), (1, x1), (2, x2), (8, x8), (9, x9), (10, x89_1)]) H (kk none (fun s H => R (([6, 7] : List Nat).map fun t => s.getD t (.tup [])) H) [] R [6, 7]))) := by
  kernel_rfl
theorem N79_2_eq (ρ : RO) (call : CallF) (yc : YieldF) (lim k : Nat) (x0 x1 x2 x8 x9 : AV) (H : Heap) (R : KR) :
  evL (cx ρ) call yc false 79 lim k (Code.at [1, 1, 1, 1, 1, 1] c79) (sp 172 [(0, x0), (1, x1), (2, x2), (8, x8), (9, x9)]) H (kk none (fun s H => R (([6, 7] : List Nat).map fun t => s.getD t (.tup [])) H) [] R [6, 7]) = N79_2 ρ call yc lim k x0 x1 x2 x8 x9 H R := by
  rw [evL_X, N79_2_x]
  simp only [← evL_X, N79_2, N79_3_eq]
noncomputable def N79_1 (ρ : RO) (call : CallF) (yc : YieldF) (lim k : Nat) (x0 x1 x2 x8 x9 : AV) (H : Heap) (R : KR) : Res :=
  purK (binA Tryd.prog H .eql 3 x2 (.int .i64 0)) fun x77_1 =>
  condK x77_1
  (
  N79_2 ρ call yc lim k x0 x1 (.int .i64 64) x8 x9 H R)
  (
  purK (binA Tryd.prog H .lss 3 x2 (.int .i64 0)) fun x79_1 =>
  purK (gPur (wantV x79_1 false) (some x2)) fun x81_1 =>
  purK (gPur (wantV x79_1 false) (binA Tryd.prog H .gtr 3 x81_1 (.int .i64 64))) fun x82_1 =>
  purK (pickA x79_1 (.bool true) x82_1) fun x83_1 =>
  condK x83_1
  (
  R [(.int .u64 0), (.ifc 115 (.int .i64 4))] H)
  (
  N79_2 ρ call yc lim k x0 x1 x2 x8 x9 H R))
theorem N79_1_x (ρ : RO) (call : CallF) (yc : YieldF) (lim k : Nat) (J : CodeF) (x0 x1 x2 x8 x9 : AV) (H : Heap) (R : KR) :
  evX (cx ρ) call yc false 79 lim k J (Code.at [1, 1, 1, 1, 1] c79) (sp 172 [(0, x0), (1, x1), (2, x2), (8, x8), (9, x9)]) H (kk none (fun s H => R (([6, 7] : List Nat).map fun t => s.getD t (.tup [])) H) [] R [6, 7]) =
  purK (binA Tryd.prog H .eql 3 x2 (.int .i64 0)) fun x77_1 =>
  condK x77_1
  (
  J (Code.at [1, 1, 1, 1, 1, 1] c79) (sp 172 [(0, x0), (1, x1), (2, (.int .i64 64)), (8, x8), (9, x9)]) H (kk none (fun s H => R (([6, 7] : List Nat).map fun t => s.getD t (.tup [])) H) [] R [6, 7]))
  (
  purK (binA Tryd.prog H .lss 3 x2 (.int .i64 0)) fun x79_1 =>
  purK (gPur (wantV x79_1 false) (some x2)) fun x81_1 =>
  purK (gPur (wantV x79_1 false) (binA Tryd.prog H .gtr 3 x81_1 (.int .i64 64))) fun x82_1 =>
  purK (pickA x79_1 (.bool true) x82_1) fun x83_1 =>
  condK x83_1
  (
  R [(.int .u64 0), (.ifc 115 (.int .i64 4))] H)
  (
  J (Code.at [1, 1, 1, 1, 1, 1] c79) (sp 172 [(0, x0), (1, x1), (2, x2), (8, x8), (9, x9)]) H (kk none (fun s H => R (([6, 7] : List Nat).map fun t => s.getD t (.tup [])) H) [] R [6, 7]))) := by
  kernel_rfl
theorem N79_1_eq (ρ : RO) (call : CallF) (yc : YieldF) (lim k : Nat) (x0 x1 x2 x8 x9 : AV) (H : Heap) (R : KR) :
  evL (cx ρ) call yc false 79 lim k (Code.at [1, 1, 1, 1, 1] c79) (sp 172 [(0, x0), (1, x1), (2, x2), (8, x8), (9, x9)]) H (kk none (fun s H => R (([6, 7] : List Nat).map fun t => s.getD t (.tup [])) H) [] R [6, 7]) = N79_1 ρ call yc lim k x0 x1 x2 x8 x9 H R := by
  rw [evL_X, N79_1_x]
  simp only [← evL_X, N79_1, N79_2_eq]
noncomputable def N79_16 (ρ : RO) (call : CallF) (yc : YieldF) (lim k : Nat) (x0 x2 x8 x9 x64 : AV) (H : Heap) (kn : AV → AV → AV → AV → AV → Heap → Res) : Res :=
  condK x64
  (
  purK (slT x0 (some (.int .i64 2)) none) fun x75_1 =>
  kn x75_1 (.int .i64 16) x2 x8 x9 H)
  (
  purK (slT x0 (some (.int .i64 1)) none) fun x39_1 =>
  kn x39_1 (.int .i64 8) x2 x8 x9 H)
theorem N79_16_eq (ρ : RO) (call : CallF) (yc : YieldF) (lim k : Nat) (x0 x2 x8 x9 x64 : AV) (H : Heap) (kn : KS) (k1 : KS) (k0 : KS) (R : KR) :
  evL (cx ρ) call yc false 79 lim k (Code.at [1, 1, 1, 1, 0, 0, 1, 1, 1, 0, 1, 1, 0, 0, 1, 1, 1, 1, 1] c79) (sp 172 [(0, x0), (2, x2), (8, x8), (9, x9), (64, x64)]) H (kk (some [0, 1, 2, 8, 9]) kn [(1, (some [0, 1, 2, 8, 9]), k1), (0, (some [0, 1, 2, 8, 9]), k0)] R [6, 7]) = N79_16 ρ call yc lim k x0 x2 x8 x9 x64 H (fun x0 x1 x2 x8 x9 H => kn (sp 172 [(0, x0), (1, x1), (2, x2), (8, x8), (9, x9)]) H) := by
  kernel_rfl
noncomputable def N79_15 (ρ : RO) (call : CallF) (yc : YieldF) (lim k : Nat) (x0 x1 x2 x8 x9 x37 : AV) (H : Heap) (kn : AV → AV → AV → AV → AV → Heap → Res) : Res :=
  condK x37
  (
  purK (lenT x0) fun x42_1 =>
  purK (binA Tryd.prog H .geq 3 x42_1 (.int .i64 3)) fun x43_1 =>
  purK (gPur (wantV x43_1 true) (some x0)) fun x45_1 =>
  purK (gPur (wantV x43_1 true) (ixT x45_1 (.int .i64 1))) fun x46_1 =>
  resK (gRes (wantV x43_1 true) H (call lim 88 [x46_1] H)) fun x47_1 H =>
  purK (gPur (wantV x43_1 true) (binA Tryd.prog H .eql 5 x47_1 (.int .u8 98))) fun x48_1 =>
  purK (pickA x43_1 x48_1 (.bool false)) fun x49_1 =>
  condK x49_1
  (
  purK (slT x0 (some (.int .i64 2)) none) fun x51_1 =>
  kn x51_1 (.int .i64 2) x2 x8 x9 H)
  (
  purK (lenT x0) fun x54_1 =>
  purK (binA Tryd.prog H .geq 3 x54_1 (.int .i64 3)) fun x55_1 =>
  purK (gPur (wantV x55_1 true) (some x0)) fun x57_1 =>
  purK (gPur (wantV x55_1 true) (ixT x57_1 (.int .i64 1))) fun x58_1 =>
  resK (gRes (wantV x55_1 true) H (call lim 88 [x58_1] H)) fun x59_1 H =>
  purK (gPur (wantV x55_1 true) (binA Tryd.prog H .eql 5 x59_1 (.int .u8 111))) fun x60_1 =>
  purK (pickA x55_1 x60_1 (.bool false)) fun x61_1 =>
  condK x61_1
  (
  purK (slT x0 (some (.int .i64 2)) none) fun x63_1 =>
  kn x63_1 (.int .i64 8) x2 x8 x9 H)
  (
  purK (lenT x0) fun x66_1 =>
  purK (binA Tryd.prog H .geq 3 x66_1 (.int .i64 3)) fun x67_1 =>
  purK (gPur (wantV x67_1 true) (some x0)) fun x69_1 =>
  purK (gPur (wantV x67_1 true) (ixT x69_1 (.int .i64 1))) fun x70_1 =>
  resK (gRes (wantV x67_1 true) H (call lim 88 [x70_1] H)) fun x71_1 H =>
  purK (gPur (wantV x67_1 true) (binA Tryd.prog H .eql 5 x71_1 (.int .u8 120))) fun x72_1 =>
  purK (pickA x67_1 x72_1 (.bool false)) fun x73_1 =>
  N79_16 ρ call yc lim k x0 x2 x8 x9 x73_1 H kn)))
  (
  kn x0 x1 x2 x8 x9 H)
theorem N79_15_x (ρ : RO) (call : CallF) (yc : YieldF) (lim k : Nat) (J : CodeF) (x0 x1 x2 x8 x9 x37 : AV) (H : Heap) (kn : KS) (k0 : KS) (R : KR) :
  evX (cx ρ) call yc false 79 lim k J (Code.at [1, 1, 1, 1, 0, 0, 1, 1, 1, 0, 1, 1] c79) (sp 172 [(0, x0), (1, x1), (2, x2), (8, x8), (9, x9), (37, x37)]) H (kk (some [0, 1, 2, 8, 9]) kn [(0, (some [0, 1, 2, 8, 9]), k0)] R [6, 7]) =
  condK x37
  (
  purK (lenT x0) fun x42_1 =>
  purK (binA Tryd.prog H .geq 3 x42_1 (.int .i64 3)) fun x43_1 =>
  purK (gPur (wantV x43_1 true) (some x0)) fun x45_1 =>
  purK (gPur (wantV x43_1 true) (ixT x45_1 (.int .i64 1))) fun x46_1 =>
  resK (gRes (wantV x43_1 true) H (call lim 88 [x46_1] H)) fun x47_1 H =>
  purK (gPur (wantV x43_1 true) (binA Tryd.prog H .eql 5 x47_1 (.int .u8 98))) fun x48_1 =>
  purK (pickA x43_1 x48_1 (.bool false)) fun x49_1 =>
  condK x49_1
  (
  purK (slT x0 (some (.int .i64 2)) none) fun x51_1 =>
  kn (sp 172 [(0, x51_1), (1, (.int .i64 2)), (2, x2), (8, x8), (9, x9)]) H)
  (
  purK (lenT x0) fun x54_1 =>
  purK (binA Tryd.prog H .geq 3 x54_1 (.int .i64 3)) fun x55_1 =>
  purK (gPur (wantV x55_1 true) (some x0)) fun x57_1 =>
  purK (gPur (wantV x55_1 true) (ixT x57_1 (.int .i64 1))) fun x58_1 =>
  resK (gRes (wantV x55_1 true) H (call lim 88 [x58_1] H)) fun x59_1 H =>
  purK (gPur (wantV x55_1 true) (binA Tryd.prog H .eql 5 x59_1 (.int .u8 111))) fun x60_1 =>
  purK (pickA x55_1 x60_1 (.bool false)) fun x61_1 =>
  condK x61_1
  (
  purK (slT x0 (some (.int .i64 2)) none) fun x63_1 =>
  kn (sp 172 [(0, x63_1), (1, (.int .i64 8)), (2, x2), (8, x8), (9, x9)]) H)
  (
  purK (lenT x0) fun x66_1 =>
  purK (binA Tryd.prog H .geq 3 x66_1 (.int .i64 3)) fun x67_1 =>
  purK (gPur (wantV x67_1 true) (some x0)) fun x69_1 =>
  purK (gPur (wantV x67_1 true) (ixT x69_1 (.int .i64 1))) fun x70_1 =>
  resK (gRes (wantV x67_1 true) H (call lim 88 [x70_1] H)) fun x71_1 H =>
  purK (gPur (wantV x67_1 true) (binA Tryd.prog H .eql 5 x71_1 (.int .u8 120))) fun x72_1 =>
  purK (pickA x67_1 x72_1 (.bool false)) fun x73_1 =>
  J (Code.at [1, 1, 1, 1, 0, 0, 1, 1, 1, 0, 1, 1, 0, 0, 1, 1, 1, 1, 1] c79) (sp 172 [(0, x0), (2, x2), (8, x8), (9, x9), (64, x73_1)]) H (kk (some [0, 1, 2, 8, 9]) kn [(1, (some [0, 1, 2, 8, 9]), kn), (0, (some [0, 1, 2, 8, 9]), k0)] R [6, 7]))))
  (
  kn (sp 172 [(0, x0), (1, x1), (2, x2), (8, x8), (9, x9)]) H) := by
  kernel_rfl
theorem N79_15_eq (ρ : RO) (call : CallF) (yc : YieldF) (lim k : Nat) (x0 x1 x2 x8 x9 x37 : AV) (H : Heap) (kn : KS) (k0 : KS) (R : KR) :
  evL (cx ρ) call yc false 79 lim k (Code.at [1, 1, 1, 1, 0, 0, 1, 1, 1, 0, 1, 1] c79) (sp 172 [(0, x0), (1, x1), (2, x2), (8, x8), (9, x9), (37, x37)]) H (kk (some [0, 1, 2, 8, 9]) kn [(0, (some [0, 1, 2, 8, 9]), k0)] R [6, 7]) = N79_15 ρ call yc lim k x0 x1 x2 x8 x9 x37 H (fun x0 x1 x2 x8 x9 H => kn (sp 172 [(0, x0), (1, x1), (2, x2), (8, x8), (9, x9)]) H) := by
  rw [evL_X, N79_15_x]
  simp only [← evL_X, N79_15, N79_16_eq]
noncomputable def L79 (ρ : RO) (call : CallF) (yc : YieldF) (lim k : Nat) (x0 x1 x2 : AV) (H : Heap) : Res :=
  purK (binA Tryd.prog H .eql 9 x0 (.str (ByteArray.mk #[]))) fun x19 =>
  condK x19
  (
  retK [(.int .u64 0), (.ifc 115 (.int .i64 2))] H)
  (
  purK (binA Tryd.prog H .eql 3 x1 (.int .i64 0)) fun x22 =>
  purK (binA Tryd.prog H .leq 3 (.int .i64 2) x1) fun x27 =>
  purK (gPur (wantV x27 true) (some x1)) fun x29 =>
  purK (gPur (wantV x27 true) (binA Tryd.prog H .leq 3 x29 (.int .i64 36))) fun x30 =>
  purK (pickA x27 x30 (.bool false)) fun x31 =>
  condK x31
  (
  N79_1 ρ call yc lim k x0 x1 x2 x22 x0 H retK)
  (
  purK (binA Tryd.prog H .eql 3 x1 (.int .i64 0)) fun x34 =>
  condK x34
  (
  purK (ixT x0 (.int .i64 0)) fun x36 =>
  purK (binA Tryd.prog H .eql 5 x36 (.int .u8 48)) fun x37 =>
  N79_15 ρ call yc lim k x0 (.int .i64 10) x2 x22 x0 x37 H (fun x0_1 x1_1 x2_1 x8 x9 H =>
  N79_1 ρ call yc lim k x0_1 x1_1 x2_1 x8 x9 H retK))
  (
  retK [(.int .u64 0), (.ifc 115 (.int .i64 3))] H)))
theorem L79_x (ρ : RO) (call : CallF) (yc : YieldF) (lim k : Nat) (J : CodeF) (x0 x1 x2 : AV) (H : Heap) :
  evX (cx ρ) call yc false 79 lim k J c79 [x0, x1, x2, (.tup []), (.tup []), (.tup []), (.tup []), (.tup []), (.tup []), (.tup []), (.tup []), (.tup []), (.tup []), (.tup []), (.tup []), (.tup []), (.tup []), (.tup []), (.tup []), (.tup []), (.tup []), (.tup []), (.tup []), (.tup []), (.tup []), (.tup []), (.tup []), (.tup []), (.tup []), (.tup []), (.tup []), (.tup []), (.tup []), (.tup []), (.tup []), (.tup []), (.tup []), (.tup []), (.tup []), (.tup []), (.tup []), (.tup []), (.tup []), (.tup []), (.tup []), (.tup []), (.tup []), (.tup []), (.tup []), (.tup []), (.tup []), (.tup []), (.tup []), (.tup []), (.tup []), (.tup []), (.tup []), (.tup []), (.tup []), (.tup []), (.tup []), (.tup []), (.tup []), (.tup []), (.tup []), (.tup []), (.tup []), (.tup []), (.tup []), (.tup []), (.tup []), (.tup []), (.tup []), (.tup []), (.tup []), (.tup []), (.tup []), (.tup []), (.tup []), (.tup []), (.tup []), (.tup []), (.tup []), (.tup []), (.tup []), (.tup []), (.tup []), (.tup []), (.tup []), (.tup []), (.tup []), (.tup []), (.tup []), (.tup []), (.tup []), (.tup []), (.tup []), (.tup []), (.tup []), (.tup []), (.tup []), (.tup []), (.tup []), (.tup []), (.tup []), (.tup []), (.tup []), (.tup []), (.tup []), (.tup []), (.tup []), (.tup []), (.tup []), (.tup []), (.tup []), (.tup []), (.tup []), (.tup []), (.tup []), (.tup []), (.tup []), (.tup []), (.tup []), (.tup []), (.tup []), (.tup []), (.tup []), (.tup []), (.tup []), (.tup []), (.tup []), (.tup []), (.tup []), (.tup []), (.tup []), (.tup []), (.tup []), (.tup []), (.tup []), (.tup []), (.tup []), (.tup []), (.tup []), (.tup []), (.tup []), (.tup []), (.tup []), (.tup []), (.tup []), (.tup []), (.tup []), (.tup []), (.tup []), (.tup []), (.tup []), (.tup []), (.tup []), (.tup []), (.tup []), (.tup []), (.tup []), (.tup []), (.tup []), (.tup []), (.tup []), (.tup []), (.tup []), (.tup []), (.tup []), (.tup []), (.tup []), (.tup [])] H (kk none (fun s H => retK (([6, 7] : List Nat).map fun t => s.getD t (.tup [])) H) [] retK [6, 7]) =
  purK (binA Tryd.prog H .eql 9 x0 (.str (ByteArray.mk #[]))) fun x19 =>
  condK x19
  (
  retK [(.int .u64 0), (.ifc 115 (.int .i64 2))] H)
  (
  purK (binA Tryd.prog H .eql 3 x1 (.int .i64 0)) fun x22 =>
  purK (binA Tryd.prog H .leq 3 (.int .i64 2) x1) fun x27 =>
  purK (gPur (wantV x27 true) (some x1)) fun x29 =>
  purK (gPur (wantV x27 true) (binA Tryd.prog H .leq 3 x29 (.int .i64 36))) fun x30 =>
  purK (pickA x27 x30 (.bool false)) fun x31 =>
  condK x31
  (
  J (Code.at [1, 1, 1, 1, 1] c79) (sp 172 [(0, x0), (1, x1), (2, x2), (8, x22), (9, x0)]) H (kk none (fun s H => retK (([6, 7] : List Nat).map fun t => s.getD t (.tup [])) H) [] retK [6, 7]))
  (
  purK (binA Tryd.prog H .eql 3 x1 (.int .i64 0)) fun x34 =>
  condK x34
  (
  purK (ixT x0 (.int .i64 0)) fun x36 =>
  purK (binA Tryd.prog H .eql 5 x36 (.int .u8 48)) fun x37 =>
  J (Code.at [1, 1, 1, 1, 0, 0, 1, 1, 1, 0, 1, 1] c79) (sp 172 [(0, x0), (1, (.int .i64 10)), (2, x2), (8, x22), (9, x0), (37, x37)]) H (kk (some [0, 1, 2, 8, 9]) (fun s H => J (Code.at [1, 1, 1, 1, 1] c79) s H (kk none (fun s H => retK (([6, 7] : List Nat).map fun t => s.getD t (.tup [])) H) [] retK [6, 7])) [(0, (some [0, 1, 2, 8, 9]), (fun s H => J (Code.at [1, 1, 1, 1, 1] c79) s H (kk none (fun s H => retK (([6, 7] : List Nat).map fun t => s.getD t (.tup [])) H) [] retK [6, 7])))] retK [6, 7]))
  (
  retK [(.int .u64 0), (.ifc 115 (.int .i64 3))] H))) := by
  kernel_rfl
theorem G79 (ρ : RO) (call : CallF) (yc : YieldF) (lim k : Nat) (x0 x1 x2 : AV) (H : Heap) :
  evL (cx ρ) call yc false 79 lim k c79 [x0, x1, x2, (.tup []), (.tup []), (.tup []), (.tup []), (.tup []), (.tup []), (.tup []), (.tup []), (.tup []), (.tup []), (.tup []), (.tup []), (.tup []), (.tup []), (.tup []), (.tup []), (.tup []), (.tup []), (.tup []), (.tup []), (.tup []), (.tup []), (.tup []), (.tup []), (.tup []), (.tup []), (.tup []), (.tup []), (.tup []), (.tup []), (.tup []), (.tup []), (.tup []), (.tup []), (.tup []), (.tup []), (.tup []), (.tup []), (.tup []), (.tup []), (.tup []), (.tup []), (.tup []), (.tup []), (.tup []), (.tup []), (.tup []), (.tup []), (.tup []), (.tup []), (.tup []), (.tup []), (.tup []), (.tup []), (.tup []), (.tup []), (.tup []), (.tup []), (.tup []), (.tup []), (.tup []), (.tup []), (.tup []), (.tup []), (.tup []), (.tup []), (.tup []), (.tup []), (.tup []), (.tup []), (.tup []), (.tup []), (.tup []), (.tup []), (.tup []), (.tup []), (.tup []), (.tup []), (.tup []), (.tup []), (.tup []), (.tup []), (.tup []), (.tup []), (.tup []), (.tup []), (.tup []), (.tup []), (.tup []), (.tup []), (.tup []), (.tup []), (.tup []), (.tup []), (.tup []), (.tup []), (.tup []), (.tup []), (.tup []), (.tup []), (.tup []), (.tup []), (.tup []), (.tup []), (.tup []), (.tup []), (.tup []), (.tup []), (.tup []), (.tup []), (.tup []), (.tup []), (.tup []), (.tup []), (.tup []), (.tup []), (.tup []), (.tup []), (.tup []), (.tup []), (.tup []), (.tup []), (.tup []), (.tup []), (.tup []), (.tup []), (.tup []), (.tup []), (.tup []), (.tup []), (.tup []), (.tup []), (.tup []), (.tup []), (.tup []), (.tup []), (.tup []), (.tup []), (.tup []), (.tup []), (.tup []), (.tup []), (.tup []), (.tup []), (.tup []), (.tup []), (.tup []), (.tup []), (.tup []), (.tup []), (.tup []), (.tup []), (.tup []), (.tup []), (.tup []), (.tup []), (.tup []), (.tup []), (.tup []), (.tup []), (.tup []), (.tup []), (.tup []), (.tup []), (.tup []), (.tup []), (.tup []), (.tup []), (.tup [])] H (kk none (fun s H => retK (([6, 7] : List Nat).map fun t => s.getD t (.tup [])) H) [] retK [6, 7]) = L79 ρ call yc lim k x0 x1 x2 H := by
  rw [evL_X, L79_x]
  simp only [← evL_X, L79, N79_15_eq, N79_1_eq]
theorem E79 (ρ : RO) (k lim : Nat) (x0 x1 x2 : AV) (H : Heap) : evCall (cx ρ) (k + 1) lim 79 [x0, x1, x2] H = L79 ρ (evCall (cx ρ) k) (evCY (cx ρ) k).2 lim k x0 x1 x2 H := by
  rw [evCall_body (cx ρ) k lim 79 _ H Tryd.f79 c79 [6, 7] (by kernel_rfl) (by kernel_rfl) (by kernel_rfl) (by kernel_rfl) (by kernel_rfl)]
  exact G79 ρ (evCall (cx ρ) k) (evCY (cx ρ) k).2 lim k x0 x1 x2 H
-- strconv.toError
noncomputable def c80 : Code := Code.of Tryd.prog 80
noncomputable def L80 (ρ : RO) (call : CallF) (yc : YieldF) (lim k : Nat) (x0 x1 x2 x3 x4 : AV) (H : Heap) : Res :=
  purK (eqI Tryd.prog .eql false x4 (.ifc 115 (.int .i64 2))) fun x14 =>
  condK x14
  (
  resK (call lim 90 [x0, x1] H) fun x17 H =>
  retK [(.ifc 116 x17)] H)
  (
  purK (eqI Tryd.prog .eql false x4 (.ifc 115 (.int .i64 1))) fun x21 =>
  condK x21
  (
  resK (call lim 91 [x0, x1] H) fun x24 H =>
  retK [(.ifc 116 x24)] H)
  (
  purK (eqI Tryd.prog .eql false x4 (.ifc 115 (.int .i64 3))) fun x28 =>
  condK x28
  (
  resK (call lim 92 [x0, x1, x2] H) fun x32 H =>
  retK [(.ifc 116 x32)] H)
  (
  purK (eqI Tryd.prog .eql false x4 (.ifc 115 (.int .i64 4))) fun x36 =>
  condK x36
  (
  resK (call lim 93 [x0, x1, x3] H) fun x40 H =>
  retK [(.ifc 116 x40)] H)
  (
  retK [x4] H))))
theorem G80 (ρ : RO) (call : CallF) (yc : YieldF) (lim k : Nat) (x0 x1 x2 x3 x4 : AV) (H : Heap) :
  evL (cx ρ) call yc false 80 lim k c80 [x0, x1, x2, x3, x4, (.tup []), (.tup []), (.tup []), (.tup []), (.tup []), (.tup []), (.tup []), (.tup []), (.tup []), (.tup []), (.tup []), (.tup []), (.tup []), (.tup []), (.tup []), (.tup []), (.tup []), (.tup []), (.tup []), (.tup []), (.tup []), (.tup []), (.tup []), (.tup []), (.tup []), (.tup []), (.tup []), (.tup []), (.tup []), (.tup []), (.tup []), (.tup []), (.tup []), (.tup []), (.tup []), (.tup []), (.tup []), (.tup [])] H (kk none (fun s H => retK (([10] : List Nat).map fun t => s.getD t (.tup [])) H) [] retK [10]) = L80 ρ call yc lim k x0 x1 x2 x3 x4 H := by
  kernel_rfl
theorem E80 (ρ : RO) (k lim : Nat) (x0 x1 x2 x3 x4 : AV) (H : Heap) : evCall (cx ρ) (k + 1) lim 80 [x0, x1, x2, x3, x4] H = L80 ρ (evCall (cx ρ) k) (evCY (cx ρ) k).2 lim k x0 x1 x2 x3 x4 H := by
  rw [evCall_body (cx ρ) k lim 80 _ H Tryd.f80 c80 [10] (by kernel_rfl) (by kernel_rfl) (by kernel_rfl) (by kernel_rfl) (by kernel_rfl)]
  exact G80 ρ (evCall (cx ρ) k) (evCY (cx ρ) k).2 lim k x0 x1 x2 x3 x4 H
-- internal/strconv.log10Pow2
noncomputable def c81 : Code := Code.of Tryd.prog 81
noncomputable def L81 (ρ : RO) (call : CallF) (yc : YieldF) (lim k : Nat) (x0 : AV) (H : Heap) : Res :=
  purK (binA Tryd.prog H .mul 3 x0 (.int .i64 78913)) fun x4 =>
  purK (binA Tryd.prog H .shr 3 x4 (.int .u64 18)) fun x5 =>
  retK [x5] H
theorem G81 (ρ : RO) (call : CallF) (yc : YieldF) (lim k : Nat) (x0 : AV) (H : Heap) :
  evL (cx ρ) call yc false 81 lim k c81 [x0, (.tup []), (.tup []), (.tup []), (.tup []), (.tup [])] H (kk none (fun s H => retK (([2] : List Nat).map fun t => s.getD t (.tup [])) H) [] retK [2]) = L81 ρ call yc lim k x0 H := by
  kernel_rfl
theorem E81 (ρ : RO) (k lim : Nat) (x0 : AV) (H : Heap) : evCall (cx ρ) (k + 1) lim 81 [x0] H = L81 ρ (evCall (cx ρ) k) (evCY (cx ρ) k).2 lim k x0 H := by
  rw [evCall_body (cx ρ) k lim 81 _ H Tryd.f81 c81 [2] (by kernel_rfl) (by kernel_rfl) (by kernel_rfl) (by kernel_rfl) (by kernel_rfl)]
  exact G81 ρ (evCall (cx ρ) k) (evCY (cx ρ) k).2 lim k x0 H
-- math/bits.Len64
noncomputable def c82 : Code := Code.of Tryd.prog 82
noncomputable def N82_3 (ρ : RO) (call : CallF) (yc : YieldF) (lim k : Nat) (x0 x2 : AV) (H : Heap) (R : KR) : Res :=
  purK (cvI .u8 x0) fun x21_1 =>
  purK (ixT (.str (ByteArray.mk #[0, 1, 2, 2, 3, 3, 3, 3, 4, 4, 4, 4, 4, 4, 4, 4, 5, 5, 5, 5, 5, 5, 5, 5, 5, 5, 5, 5, 5, 5, 5, 5, 6, 6, 6, 6, 6, 6, 6, 6, 6, 6, 6, 6, 6, 6, 6, 6, 6, 6, 6, 6, 6, 6, 6, 6, 6, 6, 6, 6, 6, 6, 6, 6, 7, 7, 7, 7, 7, 7, 7, 7, 7, 7, 7, 7, 7, 7, 7, 7, 7, 7, 7, 7, 7, 7, 7, 7, 7, 7, 7, 7, 7, 7, 7, 7, 7, 7, 7, 7, 7, 7, 7, 7, 7, 7, 7, 7, 7, 7, 7, 7, 7, 7, 7, 7, 7, 7, 7, 7, 7, 7, 7, 7, 7, 7, 7, 7, 8, 8, 8, 8, 8, 8, 8, 8, 8, 8, 8, 8, 8, 8, 8, 8, 8, 8, 8, 8, 8, 8, 8, 8, 8, 8, 8, 8, 8, 8, 8, 8, 8, 8, 8, 8, 8, 8, 8, 8, 8, 8, 8, 8, 8, 8, 8, 8, 8, 8, 8, 8, 8, 8, 8, 8, 8, 8, 8, 8, 8, 8, 8, 8, 8, 8, 8, 8, 8, 8, 8, 8, 8, 8, 8, 8, 8, 8, 8, 8, 8, 8, 8, 8, 8, 8, 8, 8, 8, 8, 8, 8, 8, 8, 8, 8, 8, 8, 8, 8, 8, 8, 8, 8, 8, 8, 8, 8, 8, 8, 8, 8, 8, 8, 8, 8, 8, 8, 8, 8, 8, 8, 8, 8, 8, 8, 8, 8])) x21_1) fun x22_1 =>
  purK (cvI .i64 x22_1) fun x23_1 =>
  purK (binA Tryd.prog H .add 3 x2 x23_1) fun x24_1 =>
  R [x24_1] H
theorem N82_3_eq (ρ : RO) (call : CallF) (yc : YieldF) (lim k : Nat) (x0 x2 : AV) (H : Heap) (R : KR) :
  evL (cx ρ) call yc false 82 lim k (Code.at [1, 1, 1, 1] c82) (sp 25 [(0, x0), (2, x2)]) H (kk none (fun s H => R (([2] : List Nat).map fun t => s.getD t (.tup [])) H) [] R [2]) = N82_3 ρ call yc lim k x0 x2 H R := by
  kernel_rfl
noncomputable def N82_2 (ρ : RO) (call : CallF) (yc : YieldF) (lim k : Nat) (x0 x2 : AV) (H : Heap) (R : KR) : Res :=
  purK (binA Tryd.prog H .geq 38 x0 (.int .u64 256)) fun x14_1 =>
  condK x14_1
  (
  purK (binA Tryd.prog H .shr 38 x0 (.int .u64 8)) fun x16_1 =>
  purK (binA Tryd.prog H .add 3 x2 (.int .i64 8)) fun x18_1 =>
  N82_3 ρ call yc lim k x16_1 x18_1 H R)
  (
  N82_3 ρ call yc lim k x0 x2 H R)
theorem N82_2_x (ρ : RO) (call : CallF) (yc : YieldF) (lim k : Nat) (J : CodeF) (x0 x2 : AV) (H : Heap) (R : KR) :
  evX (cx ρ) call yc false 82 lim k J (Code.at [1, 1, 1] c82) (sp 25 [(0, x0), (2, x2)]) H (kk none (fun s H => R (([2] : List Nat).map fun t => s.getD t (.tup [])) H) [] R [2]) =
  purK (binA Tryd.prog H .geq 38 x0 (.int .u64 256)) fun x14_1 =>
  condK x14_1
  (
  purK (binA Tryd.prog H .shr 38 x0 (.int .u64 8)) fun x16_1 =>
  purK (binA Tryd.prog H .add 3 x2 (.int .i64 8)) fun x18_1 =>
  J (Code.at [1, 1, 1, 1] c82) (sp 25 [(0, x16_1), (2, x18_1)]) H (kk none (fun s H => R (([2] : List Nat).map fun t => s.getD t (.tup [])) H) [] R [2]))
  (
  J (Code.at [1, 1, 1, 1] c82) (sp 25 [(0, x0), (2, x2)]) H (kk none (fun s H => R (([2] : List Nat).map fun t => s.getD t (.tup [])) H) [] R [2])) := by
  kernel_rfl
theorem N82_2_eq (ρ : RO) (call : CallF) (yc : YieldF) (lim k : Nat) (x0 x2 : AV) (H : Heap) (R : KR) :
  evL (cx ρ) call yc false 82 lim k (Code.at [1, 1, 1] c82) (sp 25 [(0, x0), (2, x2)]) H (kk none (fun s H => R (([2] : List Nat).map fun t => s.getD t (.tup [])) H) [] R [2]) = N82_2 ρ call yc lim k x0 x2 H R := by
  rw [evL_X, N82_2_x]
  simp only [← evL_X, N82_2, N82_3_eq]
noncomputable def N82_1 (ρ : RO) (call : CallF) (yc : YieldF) (lim k : Nat) (x0 x2 : AV) (H : Heap) (R : KR) : Res :=
  purK (binA Tryd.prog H .geq 38 x0 (.int .u64 65536)) fun x8_1 =>
  condK x8_1
  (
  purK (binA Tryd.prog H .shr 38 x0 (.int .u64 16)) fun x10_1 =>
  purK (binA Tryd.prog H .add 3 x2 (.int .i64 16)) fun x12_1 =>
  N82_2 ρ call yc lim k x10_1 x12_1 H R)
  (
  N82_2 ρ call yc lim k x0 x2 H R)
theorem N82_1_x (ρ : RO) (call : CallF) (yc : YieldF) (lim k : Nat) (J : CodeF) (x0 x2 : AV) (H : Heap) (R : KR) :
  evX (cx ρ) call yc false 82 lim k J (Code.at [1, 1] c82) (sp 25 [(0, x0), (2, x2)]) H (kk none (fun s H => R (([2] : List Nat).map fun t => s.getD t (.tup [])) H) [] R [2]) =
  purK (binA Tryd.prog H .geq 38 x0 (.int .u64 65536)) fun x8_1 =>
  condK x8_1
  (
  purK (binA Tryd.prog H .shr 38 x0 (.int .u64 16)) fun x10_1 =>
  purK (binA Tryd.prog H .add 3 x2 (.int .i64 16)) fun x12_1 =>
  J (Code.at [1, 1, 1] c82) (sp 25 [(0, x10_1), (2, x12_1)]) H (kk none (fun s H => R (([2] : List Nat).map fun t => s.getD t (.tup [])) H) [] R [2]))
  (
  J (Code.at [1, 1, 1] c82) (sp 25 [(0, x0), (2, x2)]) H (kk none (fun s H => R (([2] : List Nat).map fun t => s.getD t (.tup [])) H) [] R [2])) := by
  kernel_rfl
theorem N82_1_eq (ρ : RO) (call : CallF) (yc : YieldF) (lim k : Nat) (x0 x2 : AV) (H : Heap) (R : KR) :
  evL (cx ρ) call yc false 82 lim k (Code.at [1, 1] c82) (sp 25 [(0, x0), (2, x2)]) H (kk none (fun s H => R (([2] : List Nat).map fun t => s.getD t (.tup [])) H) [] R [2]) = N82_1 ρ call yc lim k x0 x2 H R := by
  rw [evL_X, N82_1_x]
  simp only [← evL_X, N82_1, N82_2_eq]
noncomputable def L82 (ρ : RO) (call : CallF) (yc : YieldF) (lim k : Nat) (x0 : AV) (H : Heap) : Res :=
  purK (binA Tryd.prog H .geq 38 x0 (.int .u64 4294967296)) fun x4 =>
  condK x4
  (
  purK (binA Tryd.prog H .shr 38 x0 (.int .u64 32)) fun x6 =>
  N82_1 ρ call yc lim k x6 (.int .i64 32) H retK)
  (
  N82_1 ρ call yc lim k x0 (.int .i64 0) H retK)
theorem L82_x (ρ : RO) (call : CallF) (yc : YieldF) (lim k : Nat) (J : CodeF) (x0 : AV) (H : Heap) :
  evX (cx ρ) call yc false 82 lim k J c82 [x0, (.tup []), (.tup []), (.tup []), (.tup []), (.tup []), (.tup []), (.tup []), (.tup []), (.tup []), (.tup []), (.tup []), (.tup []), (.tup []), (.tup []), (.tup []), (.tup []), (.tup []), (.tup []), (.tup []), (.tup []), (.tup []), (.tup []), (.tup []), (.tup [])] H (kk none (fun s H => retK (([2] : List Nat).map fun t => s.getD t (.tup [])) H) [] retK [2]) =
  purK (binA Tryd.prog H .geq 38 x0 (.int .u64 4294967296)) fun x4 =>
  condK x4
  (
  purK (binA Tryd.prog H .shr 38 x0 (.int .u64 32)) fun x6 =>
  J (Code.at [1, 1] c82) (sp 25 [(0, x6), (2, (.int .i64 32))]) H (kk none (fun s H => retK (([2] : List Nat).map fun t => s.getD t (.tup [])) H) [] retK [2]))
  (
  J (Code.at [1, 1] c82) (sp 25 [(0, x0), (2, (.int .i64 0))]) H (kk none (fun s H => retK (([2] : List Nat).map fun t => s.getD t (.tup [])) H) [] retK [2])) := by
  kernel_rfl
theorem G82 (ρ : RO) (call : CallF) (yc : YieldF) (lim k : Nat) (x0 : AV) (H : Heap) :
  evL (cx ρ) call yc false 82 lim k c82 [x0, (.tup []), (.tup []), (.tup []), (.tup []), (.tup []), (.tup []), (.tup []), (.tup []), (.tup []), (.tup []), (.tup []), (.tup []), (.tup []), (.tup []), (.tup []), (.tup []), (.tup []), (.tup []), (.tup []), (.tup []), (.tup []), (.tup []), (.tup []), (.tup [])] H (kk none (fun s H => retK (([2] : List Nat).map fun t => s.getD t (.tup [])) H) [] retK [2]) = L82 ρ call yc lim k x0 H := by
  rw [evL_X, L82_x]
  simp only [← evL_X, L82, N82_1_eq]
theorem E82 (ρ : RO) (k lim : Nat) (x0 : AV) (H : Heap) : evCall (cx ρ) (k + 1) lim 82 [x0] H = L82 ρ (evCall (cx ρ) k) (evCY (cx ρ) k).2 lim k x0 H := by
  rw [evCall_body (cx ρ) k lim 82 _ H Tryd.f82 c82 [2] (by kernel_rfl) (by kernel_rfl) (by kernel_rfl) (by kernel_rfl) (by kernel_rfl)]
  exact G82 ρ (evCall (cx ρ) k) (evCY (cx ρ) k).2 lim k x0 H
-- internal/strconv.bool2[int]
noncomputable def c83 : Code := Code.of Tryd.prog 83
noncomputable def L83 (ρ : RO) (call : CallF) (yc : YieldF) (lim k : Nat) (x0 : AV) (H : Heap) : Res :=
  condK x0
  (
  retK [(.int .i64 1)] H)
  (
  retK [(.int .i64 0)] H)
theorem G83 (ρ : RO) (call : CallF) (yc : YieldF) (lim k : Nat) (x0 : AV) (H : Heap) :
  evL (cx ρ) call yc false 83 lim k c83 [x0, (.tup []), (.tup []), (.tup [])] H (kk none (fun s H => retK (([2] : List Nat).map fun t => s.getD t (.tup [])) H) [] retK [2]) = L83 ρ call yc lim k x0 H := by
  kernel_rfl
theorem E83 (ρ : RO) (k lim : Nat) (x0 : AV) (H : Heap) : evCall (cx ρ) (k + 1) lim 83 [x0] H = L83 ρ (evCall (cx ρ) k) (evCY (cx ρ) k).2 lim k x0 H := by
  rw [evCall_body (cx ρ) k lim 83 _ H Tryd.f83 c83 [2] (by kernel_rfl) (by kernel_rfl) (by kernel_rfl) (by kernel_rfl) (by kernel_rfl)]
  exact G83 ρ (evCall (cx ρ) k) (evCY (cx ρ) k).2 lim k x0 H
end Go.Proofs.YtnkeebchblfbgaaDoor

-- part Sc10
/- Functions, lifted. Printed by a program of this repo. -/
set_option linter.unusedVariables false
set_option linter.unusedSimpArgs false
set_option maxRecDepth 100000
set_option maxHeartbeats 4000000
namespace Go.Proofs.YtnkeebchblfbgaaDoor
open Go.Ev Go.RowKit
-- internal/strconv.lower
noncomputable def c88 : Code := Code.of Tryd.prog 88
noncomputable def L88 (ρ : RO) (call : CallF) (yc : YieldF) (lim k : Nat) (x0 : AV) (H : Heap) : Res :=
  purK (binA Tryd.prog H .or 5 x0 (.int .u8 32)) fun x4 =>
  retK [x4] H
theorem G88 (ρ : RO) (call : CallF) (yc : YieldF) (lim k : Nat) (x0 : AV) (H : Heap) :
  evL (cx ρ) call yc false 88 lim k c88 [x0, (.tup []), (.tup []), (.tup []), (.tup [])] H (kk none (fun s H => retK (([2] : List Nat).map fun t => s.getD t (.tup [])) H) [] retK [2]) = L88 ρ call yc lim k x0 H := by
  kernel_rfl
theorem E88 (ρ : RO) (k lim : Nat) (x0 : AV) (H : Heap) : evCall (cx ρ) (k + 1) lim 88 [x0] H = L88 ρ (evCall (cx ρ) k) (evCY (cx ρ) k).2 lim k x0 H := by
  rw [evCall_body (cx ρ) k lim 88 _ H Tryd.f88 c88 [2] (by kernel_rfl) (by kernel_rfl) (by kernel_rfl) (by kernel_rfl) (by kernel_rfl)]
  exact G88 ρ (evCall (cx ρ) k) (evCY (cx ρ) k).2 lim k x0 H
-- strconv.syntaxError
noncomputable def c90 : Code := Code.of Tryd.prog 90
noncomputable def L90 (ρ : RO) (call : CallF) (yc : YieldF) (lim k : Nat) (x0 x1 : AV) (H : Heap) : Res :=
  purK (ld1 ρ H (.xp ⟨6, 0, none⟩)) fun x8 =>
  resK (call lim 96 [x1] H) fun x7 H => bif (agn (ld1 ρ H (.xp ⟨6, 0, none⟩)) x8 && true) then
  purK (bldA [.str ByteArray.empty, .str ByteArray.empty, .nili] [(0, 1, x0), (1, 1, x7), (2, 1, x8)]) fun x9 =>
  effK H (boxA H 125 x9) fun x10 H =>
  retK [x10] H
  else none
theorem G90 (ρ : RO) (call : CallF) (yc : YieldF) (lim k : Nat) (x0 x1 : AV) (H : Heap) :
  evL (cx ρ) call yc false 90 lim k c90 [x0, x1, (.tup []), (.tup []), (.tup []), (.tup []), (.tup []), (.tup []), (.tup []), (.tup []), (.tup [])] H (kk none (fun s H => retK (([4] : List Nat).map fun t => s.getD t (.tup [])) H) [] retK [4]) = L90 ρ call yc lim k x0 x1 H := by
  kernel_rfl
theorem E90 (ρ : RO) (k lim : Nat) (x0 x1 : AV) (H : Heap) : evCall (cx ρ) (k + 1) lim 90 [x0, x1] H = L90 ρ (evCall (cx ρ) k) (evCY (cx ρ) k).2 lim k x0 x1 H := by
  rw [evCall_body (cx ρ) k lim 90 _ H Tryd.f90 c90 [4] (by kernel_rfl) (by kernel_rfl) (by kernel_rfl) (by kernel_rfl) (by kernel_rfl)]
  exact G90 ρ (evCall (cx ρ) k) (evCY (cx ρ) k).2 lim k x0 x1 H
-- strconv.rangeError
noncomputable def c91 : Code := Code.of Tryd.prog 91
noncomputable def L91 (ρ : RO) (call : CallF) (yc : YieldF) (lim k : Nat) (x0 x1 : AV) (H : Heap) : Res :=
  purK (ld1 ρ H (.xp ⟨7, 0, none⟩)) fun x8 =>
  resK (call lim 96 [x1] H) fun x7 H => bif (agn (ld1 ρ H (.xp ⟨7, 0, none⟩)) x8 && true) then
  purK (bldA [.str ByteArray.empty, .str ByteArray.empty, .nili] [(0, 1, x0), (1, 1, x7), (2, 1, x8)]) fun x9 =>
  effK H (boxA H 125 x9) fun x10 H =>
  retK [x10] H
  else none
theorem G91 (ρ : RO) (call : CallF) (yc : YieldF) (lim k : Nat) (x0 x1 : AV) (H : Heap) :
  evL (cx ρ) call yc false 91 lim k c91 [x0, x1, (.tup []), (.tup []), (.tup []), (.tup []), (.tup []), (.tup []), (.tup []), (.tup []), (.tup [])] H (kk none (fun s H => retK (([4] : List Nat).map fun t => s.getD t (.tup [])) H) [] retK [4]) = L91 ρ call yc lim k x0 x1 H := by
  kernel_rfl
theorem E91 (ρ : RO) (k lim : Nat) (x0 x1 : AV) (H : Heap) : evCall (cx ρ) (k + 1) lim 91 [x0, x1] H = L91 ρ (evCall (cx ρ) k) (evCY (cx ρ) k).2 lim k x0 x1 H := by
  rw [evCall_body (cx ρ) k lim 91 _ H Tryd.f91 c91 [4] (by kernel_rfl) (by kernel_rfl) (by kernel_rfl) (by kernel_rfl) (by kernel_rfl)]
  exact G91 ρ (evCall (cx ρ) k) (evCY (cx ρ) k).2 lim k x0 x1 H
-- internal/stringslite.Clone
noncomputable def c96 : Code := Code.of Tryd.prog 96
noncomputable def L96 (ρ : RO) (call : CallF) (yc : YieldF) (lim k : Nat) (x0 : AV) (H : Heap) : Res :=
  purK (lenT x0) fun x5 =>
  purK (binA Tryd.prog H .eql 3 x5 (.int .i64 0)) fun x6 =>
  condK x6
  (
  retK [(.str (ByteArray.mk #[]))] H)
  (
  purK (lenT x0) fun x8 =>
  effK H (mkS H 5 1 1 [.int .u8 0] x8 x8) fun x9 H =>
  effK H (builtinA (cx ρ) lim H .copy #[52, 9] [x9, x0]) fun x12 H =>
  purK (ixS 1 x9 (.int .i64 0)) fun x14 =>
  purK (lenS x9) fun x16 =>
  effK H (builtinA (cx ρ) lim H .unsafeString #[84, 3] [x14, x16]) fun x17 H =>
  retK [x17] H)
theorem G96 (ρ : RO) (call : CallF) (yc : YieldF) (lim k : Nat) (x0 : AV) (H : Heap) :
  evL (cx ρ) call yc false 96 lim k c96 [x0, (.tup []), (.tup []), (.tup []), (.tup []), (.tup []), (.tup []), (.tup []), (.tup []), (.tup []), (.tup []), (.tup []), (.tup []), (.tup []), (.tup []), (.tup []), (.tup []), (.tup [])] H (kk none (fun s H => retK (([2] : List Nat).map fun t => s.getD t (.tup [])) H) [] retK [2]) = L96 ρ call yc lim k x0 H := by
  kernel_rfl
theorem E96 (ρ : RO) (k lim : Nat) (x0 : AV) (H : Heap) : evCall (cx ρ) (k + 1) lim 96 [x0] H = L96 ρ (evCall (cx ρ) k) (evCY (cx ρ) k).2 lim k x0 H := by
  rw [evCall_body (cx ρ) k lim 96 _ H Tryd.f96 c96 [2] (by kernel_rfl) (by kernel_rfl) (by kernel_rfl) (by kernel_rfl) (by kernel_rfl)]
  exact G96 ρ (evCall (cx ρ) k) (evCY (cx ρ) k).2 lim k x0 H
end Go.Proofs.YtnkeebchblfbgaaDoor

-- part Sc
/- All functions that are lifted. Printed by a program of this repo. -/
set_option linter.unusedVariables false
set_option linter.unusedSimpArgs false
set_option maxRecDepth 100000
set_option maxHeartbeats 4000000
namespace Go.Proofs.YtnkeebchblfbgaaDoor
open Go.Ev Go.RowKit

theorem ldT40 (ρ : RO) (H : Heap) (x : AV) : loadA (cx ρ) H 40 x = ldN ρ H 4 x := by kernel_rfl
theorem ldT43 (ρ : RO) (H : Heap) (x : AV) : loadA (cx ρ) H 43 x = ldN ρ H 8 x := by kernel_rfl
end Go.Proofs.YtnkeebchblfbgaaDoor
