/- Functions, lifted. Printed by a program of this repo. -/
import Derived.Test.YtbnhlcgbigeceaaGreatLfTab
set_option linter.unusedVariables false
set_option linter.unusedSimpArgs false
set_option maxRecDepth 100000
set_option maxHeartbeats 4000000
namespace Go.Proofs.YtbnhlcgbigeceaaGreat
open Go.Ev Go.RowKit
-- haycroft/haycroftlaw25.awake
noncomputable def c4 : Code := Code.of Tryz.prog 4
noncomputable def N4_1_k (s : Slots) (H : Heap) (R : RK) (J : CodeF) : Res := J (Code.at [1, 1, 1, 1, 1] c4) s H (kk none (fun s H => R (([0] : List Nat).map fun t => s.getD t (.tup [])) H) [] R [0])
noncomputable def N4_1 (E : LE) (x1 x2 x3 x4 : AV) (H : Heap) (R : RK) : Res :=
  resK (E.call E.lim 8 [x1, (.str (ByteArray.mk #[107]))] H) fun x33_1 H =>
  purK (extA 0 x33_1) fun x34_1 =>
  purK (extA 1 x33_1) fun x35_1 =>
  purK (extA 2 x33_1) fun x36_1 =>
  purK (binA P H .eql 28 x2 (.int .i64 0)) fun x38_1 =>
  purK (gPur (wantV x38_1 true) (some x3)) fun x40_1 =>
  purK (gPur (wantV x38_1 true) (lenBA (Cx E) H 34 x40_1)) fun x41_1 =>
  purK (gPur (wantV x38_1 true) (binA P H .eql 3 x41_1 (.int .i64 0))) fun x42_1 =>
  purK (pickA x38_1 x42_1 (.bool false)) fun x43_1 =>
  purK (gPur (wantV x43_1 true) (some x4)) fun x45_1 =>
  purK (gPur (wantV x43_1 true) (binA P H .eql 28 x45_1 (.int .i64 0))) fun x46_1 =>
  purK (pickA x43_1 x46_1 (.bool false)) fun x47_1 =>
  purK (gPur (wantV x47_1 true) (some x34_1)) fun x49_1 =>
  purK (gPur (wantV x47_1 true) (binA P H .eql 9 x49_1 (.str (ByteArray.mk #[118])))) fun x50_1 =>
  purK (pickA x47_1 x50_1 (.bool false)) fun x51_1 =>
  purK (gPur (wantV x51_1 true) (some x35_1)) fun x53_1 =>
  purK (pickA x51_1 x53_1 (.bool false)) fun x54_1 =>
  purK (gPur (wantV x54_1 true) (some x36_1)) fun x56_1 =>
  purK (gPur (wantV x54_1 true) (binA P H .eql 28 x56_1 (.int .i64 0))) fun x57_1 =>
  purK (pickA x54_1 x57_1 (.bool false)) fun x58_1 =>
  R [x58_1] H
theorem N4_1_eq (E : LE) (x1 x2 x3 x4 : AV) (H : Heap) (R : RK) : N4_1_k (sp 59 [(1, x1), (2, x2), (3, x3), (4, x4)]) H R (jj E 4) = N4_1 E x1 x2 x3 x4 H R := by kernel_rfl
noncomputable def N4_2_k (s : Slots) (H : Heap) (kn : KS) (R : RK) (J : CodeF) : Res := J (Code.at [1, 1, 1, 1, 0, 1] c4) s H (kk (some [1, 2, 3, 4]) kn [] R [0])
noncomputable def N4_2b_k (s : Slots) (H : Heap) (kn k0 : KS) (R : RK) (J : CodeF) : Res := J (Code.at [1, 1, 1, 1, 0, 1, 0, 0] c4) s H (kk (some [1, 2, 3, 4, 5]) kn [(0, (some [1, 2, 3, 4]), k0)] R [0])
noncomputable def N4_2b (E : LE) (x1 x2 x3 x4 x5 : AV) (H : Heap) (kn : AV → AV → AV → AV → AV → Heap → Res) (k0 : AV → AV → AV → AV → Heap → Res) : Res :=
  purK (binA P H .lss 3 x5 (.int .i64 9)) fun x25_1 =>
  condK x25_1
  (
    purK (buildA P 62 [(0, (.int .i64 2))]) fun x29_1 =>
    resK (E.call E.lim 15 [x1, x29_1] H) fun x30_1 H =>
    purK (binA P H .add 3 x5 (.int .i64 1)) fun x27_1 =>
    kn x1 x2 x3 x4 x27_1 H)
  (
    k0 x1 x2 x3 x4 H)
theorem N4_2b_eq (E : LE) (x1 x2 x3 x4 x5 : AV) (H : Heap) (kn k0 : KS) (R : RK) : N4_2b_k (sp 59 [(1, x1), (2, x2), (3, x3), (4, x4), (5, x5)]) H kn k0 R (jj E 4) = N4_2b E x1 x2 x3 x4 x5 H (fun x1 x2 x3 x4 x5 H => kn (sp 59 [(1, x1), (2, x2), (3, x3), (4, x4), (5, x5)]) H) (fun x1 x2 x3 x4 H => k0 (sp 59 [(1, x1), (2, x2), (3, x3), (4, x4)]) H) := by kernel_rfl
noncomputable def N4_2 (E : LE) (x1 x2 x3 x4 x5 : AV) (H : Heap) (kn : AV → AV → AV → AV → Heap → Res) : Res :=
  loopL (fun (x : AV) H kl => N4_2b E x1 x2 x3 x4 x H (fun _ _ _ _ x5 H => kl x5 H) kn) E.k x5 H
theorem N4_2_eq (E : LE) (x1 x2 x3 x4 x5 : AV) (H : Heap) (kn : KS) (R : RK) : N4_2_k (sp 59 [(1, x1), (2, x2), (3, x3), (4, x4), (5, x5)]) H kn R (jj E 4) = N4_2 E x1 x2 x3 x4 x5 H (fun x1 x2 x3 x4 H => kn (sp 59 [(1, x1), (2, x2), (3, x3), (4, x4)]) H) := by
  have e : Code.at [1, 1, 1, 1, 0, 1] c4 = Code.block 0 (Code.loop (Code.at [1, 1, 1, 1, 0, 1, 0, 0] c4)) := by kernel_rfl
  unfold N4_2_k N4_2 jj
  rw [e]
  rw [block_kk]
  exact loop_node [1, 2, 3, 4, 5] (fun x : AV => (sp 59 [(1, x1), (2, x2), (3, x3), (4, x4), (5, (x))])) (fun (x : AV) H kl => N4_2b E x1 x2 x3 x4 x H (fun _ _ _ _ x5 H => kl x5 H) (fun x1 x2 x3 x4 H => kn (sp 59 [(1, x1), (2, x2), (3, x3), (4, x4)]) H)) (by kernel_rfl) (fun x => by kernel_rfl) (fun x H kl => by
    have h := N4_2b_eq E x1 x2 x3 x4 (x) H kl kn R
    unfold N4_2b_k jj at h
    exact h) x5 (sp 59 [(1, x1), (2, x2), (3, x3), (4, x4), (5, x5)]) H (by kernel_rfl)
noncomputable def L4 (E : LE) (H : Heap) : Res :=
  resK (E.call E.lim 13 [] H) fun x10 H =>
  resK (E.call E.lim 14 [] H) fun x11 H =>
  resK (E.call E.lim 12 [x10, x11] H) fun x12 H =>
  purK (extA 0 x12) fun x13 =>
  purK (extA 1 x12) fun x14 =>
  resK (E.call E.lim 7 [x13] H) fun x17 H =>
  purK (extA 0 x17) fun x18 =>
  purK (extA 1 x17) fun x19 =>
  purK (buildA P 59 [(0, (.int .i64 2)), (1, (.str (ByteArray.mk #[107]))), (2, (.str (ByteArray.mk #[118])))]) fun x21 =>
  purK (buildA P 62 [(0, (.int .i64 1)), (3, x21)]) fun x22 =>
  resK (E.call E.lim 15 [x13, x22] H) fun x23 H =>
  N4_2 E x13 x14 x18 x19 (.int .i64 0) H (fun x1 x2 x3 x4 H =>
    N4_1 E x1 x2 x3 x4 H retK)
theorem L4_x (E : LE) (J : CodeF) (H : Heap) : jx E 4 J c4 [(.tup []), (.tup []), (.tup []), (.tup []), (.tup []), (.tup []), (.tup []), (.tup []), (.tup []), (.tup []), (.tup []), (.tup []), (.tup []), (.tup []), (.tup []), (.tup []), (.tup []), (.tup []), (.tup []), (.tup []), (.tup []), (.tup []), (.tup []), (.tup []), (.tup []), (.tup []), (.tup []), (.tup []), (.tup []), (.tup []), (.tup []), (.tup []), (.tup []), (.tup []), (.tup []), (.tup []), (.tup []), (.tup []), (.tup []), (.tup []), (.tup []), (.tup []), (.tup []), (.tup []), (.tup []), (.tup []), (.tup []), (.tup []), (.tup []), (.tup []), (.tup []), (.tup []), (.tup []), (.tup []), (.tup []), (.tup []), (.tup []), (.tup []), (.tup [])] H (kk none (fun s H => retK (([0] : List Nat).map fun t => s.getD t (.tup [])) H) [] retK [0]) =
  resK (E.call E.lim 13 [] H) fun x10 H =>
  resK (E.call E.lim 14 [] H) fun x11 H =>
  resK (E.call E.lim 12 [x10, x11] H) fun x12 H =>
  purK (extA 0 x12) fun x13 =>
  purK (extA 1 x12) fun x14 =>
  resK (E.call E.lim 7 [x13] H) fun x17 H =>
  purK (extA 0 x17) fun x18 =>
  purK (extA 1 x17) fun x19 =>
  purK (buildA P 59 [(0, (.int .i64 2)), (1, (.str (ByteArray.mk #[107]))), (2, (.str (ByteArray.mk #[118])))]) fun x21 =>
  purK (buildA P 62 [(0, (.int .i64 1)), (3, x21)]) fun x22 =>
  resK (E.call E.lim 15 [x13, x22] H) fun x23 H =>
  N4_2_k (sp 59 [(1, x13), (2, x14), (3, x18), (4, x19), (5, (.int .i64 0))]) H (fun s H => N4_1_k s H retK J) retK J := by kernel_rfl
theorem G4 (E : LE) (H : Heap) : jj E 4 c4 [(.tup []), (.tup []), (.tup []), (.tup []), (.tup []), (.tup []), (.tup []), (.tup []), (.tup []), (.tup []), (.tup []), (.tup []), (.tup []), (.tup []), (.tup []), (.tup []), (.tup []), (.tup []), (.tup []), (.tup []), (.tup []), (.tup []), (.tup []), (.tup []), (.tup []), (.tup []), (.tup []), (.tup []), (.tup []), (.tup []), (.tup []), (.tup []), (.tup []), (.tup []), (.tup []), (.tup []), (.tup []), (.tup []), (.tup []), (.tup []), (.tup []), (.tup []), (.tup []), (.tup []), (.tup []), (.tup []), (.tup []), (.tup []), (.tup []), (.tup []), (.tup []), (.tup []), (.tup []), (.tup []), (.tup []), (.tup []), (.tup []), (.tup []), (.tup [])] H (kk none (fun s H => retK (([0] : List Nat).map fun t => s.getD t (.tup [])) H) [] retK [0]) = L4 E H := (jj_X E 4 _ _ H _).trans ((L4_x E (jj E 4) H).trans (by simp only [L4, N4_1_eq, N4_2_eq]))
theorem E4 (ρ : Addr → Option Value) (k lim : Nat) (H : Heap) : evCall (cx ρ) (k + 1) lim 4 [] H = L4 ⟨ρ, evCall (cx ρ) k, (evCY (cx ρ) k).2, lim, k⟩ H := by
  rw [evCall_body (cx ρ) k lim 4 _ H Tryz.f4 c4 [0] (by kernel_rfl) (by kernel_rfl) (by kernel_rfl) (by kernel_rfl) (by kernel_rfl)]
  have h := G4 ⟨ρ, evCall (cx ρ) k, (evCY (cx ρ) k).2, lim, k⟩ H
  unfold jj at h
  exact h
-- haycroft/audit.Read
noncomputable def c5 : Code := Code.of Tryz.prog 5
noncomputable def N5_1_k (s : Slots) (H : Heap) (R : RK) (J : CodeF) : Res := J (Code.at [1, 1, 1, 1, 1, 1, 1] c5) s H (kk none (fun s H => R (([4, 5] : List Nat).map fun t => s.getD t (.tup [])) H) [] R [4, 5])
noncomputable def N5_1 (E : LE) (x4 x9 : AV) (H : Heap) (R : RK) : Res :=
  resK (E.call E.lim 22 [x9] H) fun x47_1 H =>
  purK (extA 0 x47_1) fun x48_1 =>
  purK (extA 1 x47_1) fun x49_1 =>
  purK (extA 2 x47_1) fun x50_1 =>
  effK H (allocA (Cx E) H 27) fun x10_1 H =>
  effK H ((storeA (Cx E) E.lim H 27 x10_1 x48_1).map skips) fun _ H =>
  purK (binA P H .neq 28 x50_1 (.int .i64 0)) fun x52_1 =>
  condK x52_1
  (
    purK (buildA P 27 []) fun x53_1 =>
    effK H ((storeA (Cx E) E.lim H 27 x4 x53_1).map skips) fun _ H =>
    R [x4, (.int .i64 4)] H)
  (
    purK (loadA (Cx E) H 27 x10_1) fun x54_1 =>
    effK H ((storeA (Cx E) E.lim H 27 x4 x54_1).map skips) fun _ H =>
    R [x4, (.int .i64 0)] H)
theorem N5_1_eq (E : LE) (x4 x9 : AV) (H : Heap) (R : RK) : N5_1_k (sp 55 [(4, x4), (9, x9)]) H R (jj E 5) = N5_1 E x4 x9 H R := by kernel_rfl
noncomputable def L5 (E : LE) (x0 x1 : AV) (H : Heap) : Res :=
  effK H (allocA (Cx E) H 27) fun x4 H =>
  resK (E.call E.lim 16 [x0] H) fun x13 H =>
  purK (binA P H .neq 28 x13 (.int .i64 0)) fun x15 =>
  condK x15
  (
    purK (buildA P 27 []) fun x16 =>
    effK H ((storeA (Cx E) E.lim H 27 x4 x16).map skips) fun _ H =>
    (retC (Cx E) [some 27, none]) [x4, x13] H)
  (
    resK (E.call E.lim 17 [x1] H) fun x19 H =>
    purK (unA .not x19) fun x20 =>
    condK x20
    (
      purK (buildA P 27 []) fun x21 =>
      effK H ((storeA (Cx E) E.lim H 27 x4 x21).map skips) fun _ H =>
      (retC (Cx E) [some 27, none]) [x4, (.int .i64 1)] H)
    (
      resK (E.call E.lim 18 [x0, x1] H) fun x25 H =>
      purK (extA 0 x25) fun x26 =>
      purK (extA 1 x25) fun x27 =>
      purK (binA P H .neq 28 x27 (.int .i64 0)) fun x29 =>
      condK x29
      (
        purK (buildA P 27 []) fun x30 =>
        effK H ((storeA (Cx E) E.lim H 27 x4 x30).map skips) fun _ H =>
        (retC (Cx E) [some 27, none]) [x4, x27] H)
      (
        resK (E.call E.lim 21 [x0] H) fun x34 H =>
        purK (fieldA P 52 x34 0) fun x35 =>
        resK (E.call E.lim 20 [x35, x1] H) fun x37 H =>
        purK (sliceA P 31 x26 (some x37) none none) fun x38 =>
        resK (E.call E.lim 19 [x38] H) fun x39 H =>
        purK (lenBA (Cx E) H 31 x39) fun x41 =>
        purK (binA P H .gtr 3 x41 (.int .i64 1)) fun x42 =>
        condK x42
        (
          purK (indexAddrA P 31 x39 (.int .i64 1)) fun x44 =>
          effK H ((storeA (Cx E) E.lim H 22 x44 (.int .u64 0)).map skips) fun _ H =>
          N5_1 E x4 x39 H (retC (Cx E) [some 27, none]))
        (
          N5_1 E x4 x39 H (retC (Cx E) [some 27, none])))))
theorem L5_x (E : LE) (J : CodeF) (x0 x1 : AV) (H : Heap) : jx E 5 J c5 [x0, x1, (.tup []), (.tup []), (.tup []), (.tup []), (.tup []), (.tup []), (.tup []), (.tup []), (.tup []), (.tup []), (.tup []), (.tup []), (.tup []), (.tup []), (.tup []), (.tup []), (.tup []), (.tup []), (.tup []), (.tup []), (.tup []), (.tup []), (.tup []), (.tup []), (.tup []), (.tup []), (.tup []), (.tup []), (.tup []), (.tup []), (.tup []), (.tup []), (.tup []), (.tup []), (.tup []), (.tup []), (.tup []), (.tup []), (.tup []), (.tup []), (.tup []), (.tup []), (.tup []), (.tup []), (.tup []), (.tup []), (.tup []), (.tup []), (.tup []), (.tup []), (.tup []), (.tup []), (.tup [])] H (kk none (fun s H => (retC (Cx E) [some 27, none]) (([4, 5] : List Nat).map fun t => s.getD t (.tup [])) H) [] (retC (Cx E) [some 27, none]) [4, 5]) =
  effK H (allocA (Cx E) H 27) fun x4 H =>
  resK (E.call E.lim 16 [x0] H) fun x13 H =>
  purK (binA P H .neq 28 x13 (.int .i64 0)) fun x15 =>
  condK x15
  (
    purK (buildA P 27 []) fun x16 =>
    effK H ((storeA (Cx E) E.lim H 27 x4 x16).map skips) fun _ H =>
    (retC (Cx E) [some 27, none]) [x4, x13] H)
  (
    resK (E.call E.lim 17 [x1] H) fun x19 H =>
    purK (unA .not x19) fun x20 =>
    condK x20
    (
      purK (buildA P 27 []) fun x21 =>
      effK H ((storeA (Cx E) E.lim H 27 x4 x21).map skips) fun _ H =>
      (retC (Cx E) [some 27, none]) [x4, (.int .i64 1)] H)
    (
      resK (E.call E.lim 18 [x0, x1] H) fun x25 H =>
      purK (extA 0 x25) fun x26 =>
      purK (extA 1 x25) fun x27 =>
      purK (binA P H .neq 28 x27 (.int .i64 0)) fun x29 =>
      condK x29
      (
        purK (buildA P 27 []) fun x30 =>
        effK H ((storeA (Cx E) E.lim H 27 x4 x30).map skips) fun _ H =>
        (retC (Cx E) [some 27, none]) [x4, x27] H)
      (
        resK (E.call E.lim 21 [x0] H) fun x34 H =>
        purK (fieldA P 52 x34 0) fun x35 =>
        resK (E.call E.lim 20 [x35, x1] H) fun x37 H =>
        purK (sliceA P 31 x26 (some x37) none none) fun x38 =>
        resK (E.call E.lim 19 [x38] H) fun x39 H =>
        purK (lenBA (Cx E) H 31 x39) fun x41 =>
        purK (binA P H .gtr 3 x41 (.int .i64 1)) fun x42 =>
        condK x42
        (
          purK (indexAddrA P 31 x39 (.int .i64 1)) fun x44 =>
          effK H ((storeA (Cx E) E.lim H 22 x44 (.int .u64 0)).map skips) fun _ H =>
          N5_1_k (sp 55 [(4, x4), (9, x39)]) H (retC (Cx E) [some 27, none]) J)
        (
          N5_1_k (sp 55 [(4, x4), (9, x39)]) H (retC (Cx E) [some 27, none]) J)))) := by kernel_rfl
theorem G5 (E : LE) (x0 x1 : AV) (H : Heap) : jj E 5 c5 [x0, x1, (.tup []), (.tup []), (.tup []), (.tup []), (.tup []), (.tup []), (.tup []), (.tup []), (.tup []), (.tup []), (.tup []), (.tup []), (.tup []), (.tup []), (.tup []), (.tup []), (.tup []), (.tup []), (.tup []), (.tup []), (.tup []), (.tup []), (.tup []), (.tup []), (.tup []), (.tup []), (.tup []), (.tup []), (.tup []), (.tup []), (.tup []), (.tup []), (.tup []), (.tup []), (.tup []), (.tup []), (.tup []), (.tup []), (.tup []), (.tup []), (.tup []), (.tup []), (.tup []), (.tup []), (.tup []), (.tup []), (.tup []), (.tup []), (.tup []), (.tup []), (.tup []), (.tup []), (.tup [])] H (kk none (fun s H => (retC (Cx E) [some 27, none]) (([4, 5] : List Nat).map fun t => s.getD t (.tup [])) H) [] (retC (Cx E) [some 27, none]) [4, 5]) = L5 E x0 x1 H := (jj_X E 5 _ _ H _).trans ((L5_x E (jj E 5) x0 x1 H).trans (by simp only [L5, N5_1_eq]))
theorem E5 (ρ : Addr → Option Value) (k lim : Nat) (x0 x1 : AV) (H : Heap) : evCall (cx ρ) (k + 1) lim 5 [x0, x1] H = L5 ⟨ρ, evCall (cx ρ) k, (evCY (cx ρ) k).2, lim, k⟩ x0 x1 H := by
  rw [evCall_cells (cx ρ) k lim 5 _ H Tryz.f5 c5 [4, 5] [some 27, none] (by kernel_rfl) (by kernel_rfl) (by kernel_rfl) (by kernel_rfl) (by kernel_rfl) (by kernel_rfl)]
  have h := G5 ⟨ρ, evCall (cx ρ) k, (evCY (cx ρ) k).2, lim, k⟩ x0 x1 H
  unfold jj at h
  exact h
-- haycroft/audit.Chain
noncomputable def c6 : Code := Code.of Tryz.prog 6
noncomputable def N6_1_k (s : Slots) (H : Heap) (R : RK) (J : CodeF) : Res := J (Code.at [1, 1, 1, 1, 1, 1] c6) s H (kk none (fun s H => R (([4, 5] : List Nat).map fun t => s.getD t (.tup [])) H) [] R [4, 5])
noncomputable def N6_1 (E : LE) (x9 : AV) (H : Heap) (R : RK) : Res :=
  R [x9, (.int .i64 0)] H
theorem N6_1_eq (E : LE) (x9 : AV) (H : Heap) (R : RK) : N6_1_k (sp 39 [(9, x9)]) H R (jj E 6) = N6_1 E x9 H R := by kernel_rfl
noncomputable def N6_2_k (s : Slots) (H : Heap) (kn : KS) (R : RK) (J : CodeF) : Res := J (Code.at [1, 1, 1, 1, 1, 0, 1] c6) s H (kk (some [9]) kn [] R [4, 5])
noncomputable def N6_2b_k (s : Slots) (H : Heap) (kn k0 : KS) (R : RK) (J : CodeF) : Res := J (Code.at [1, 1, 1, 1, 1, 0, 1, 0, 0] c6) s H (kk (some [9, 26, 27, 28]) kn [(0, (some [9]), k0)] R [4, 5])
noncomputable def N6_2b (E : LE) (x9 x26 x27 x28 : AV) (H : Heap) (kn : AV → AV → AV → AV → Heap → Res) (k0 : AV → Heap → Res) : Res :=
  purK (binA P H .lss 3 x28 x27) fun x29_1 =>
  condK x29_1
  (
    purK (indexAddrA P 69 x26 x28) fun x30_1 =>
    purK (loadA (Cx E) H 73 x30_1) fun x31_1 =>
    effK H (allocA (Cx E) H 73) fun x11_1 H =>
    effK H ((storeA (Cx E) E.lim H 73 x11_1 x31_1).map skips) fun _ H =>
    purK (fieldAddrA P 73 x11_1 0) fun x33_1 =>
    purK (loadA (Cx E) H 22 x33_1) fun x34_1 =>
    effK H (buildSliceA (Cx E) H 31 1 [(0, x34_1)]) fun x35_1 H =>
    effK H (builtinA (Cx E) E.lim H .append #[31, 31] [x9, x35_1]) fun x36_1 H =>
    purK (binA P H .add 3 x28 (.int .i64 1)) fun x37_1 =>
    kn x36_1 x26 x27 x37_1 H)
  (
    k0 x9 H)
theorem N6_2b_eq (E : LE) (x9 x26 x27 x28 : AV) (H : Heap) (kn k0 : KS) (R : RK) : N6_2b_k (sp 39 [(9, x9), (26, x26), (27, x27), (28, x28)]) H kn k0 R (jj E 6) = N6_2b E x9 x26 x27 x28 H (fun x9 x26 x27 x28 H => kn (sp 39 [(9, x9), (26, x26), (27, x27), (28, x28)]) H) (fun x9 H => k0 (sp 39 [(9, x9)]) H) := by kernel_rfl
noncomputable def N6_2 (E : LE) (x9 x26 x27 x28 : AV) (H : Heap) (kn : AV → Heap → Res) : Res :=
  loopL (fun (x : AV × AV) H kl => N6_2b E x.1 x26 x27 x.2 H (fun x9 _ _ x28 H => kl (x9, x28) H) kn) E.k (x9, x28) H
theorem N6_2_eq (E : LE) (x9 x26 x27 x28 : AV) (H : Heap) (kn : KS) (R : RK) : N6_2_k (sp 39 [(9, x9), (26, x26), (27, x27), (28, x28)]) H kn R (jj E 6) = N6_2 E x9 x26 x27 x28 H (fun x9 H => kn (sp 39 [(9, x9)]) H) := by
  have e : Code.at [1, 1, 1, 1, 1, 0, 1] c6 = Code.block 0 (Code.loop (Code.at [1, 1, 1, 1, 1, 0, 1, 0, 0] c6)) := by kernel_rfl
  unfold N6_2_k N6_2 jj
  rw [e]
  rw [block_kk]
  exact loop_node [9, 26, 27, 28] (fun x : AV × AV => (sp 39 [(9, (x.1)), (26, x26), (27, x27), (28, (x.2))])) (fun (x : AV × AV) H kl => N6_2b E x.1 x26 x27 x.2 H (fun x9 _ _ x28 H => kl (x9, x28) H) (fun x9 H => kn (sp 39 [(9, x9)]) H)) (by kernel_rfl) (fun x => by kernel_rfl) (fun x H kl => by
    have h := N6_2b_eq E (x.1) x26 x27 (x.2) H kl kn R
    unfold N6_2b_k jj at h
    exact h) (x9, x28) (sp 39 [(9, x9), (26, x26), (27, x27), (28, x28)]) H (by kernel_rfl)
noncomputable def L6 (E : LE) (x0 x1 : AV) (H : Heap) : Res :=
  resK (E.call E.lim 16 [x0] H) fun x13 H =>
  purK (binA P H .neq 28 x13 (.int .i64 0)) fun x15 =>
  condK x15
  (
    retK [.nils, x13] H)
  (
    resK (E.call E.lim 23 [x0, x1] H) fun x20 H =>
    purK (extA 0 x20) fun x21 =>
    purK (extA 1 x20) fun x22 =>
    purK (binA P H .neq 28 x22 (.int .i64 0)) fun x24 =>
    condK x24
    (
      retK [.nils, x22] H)
    (
      purK (lenBA (Cx E) H 69 x21) fun x27 =>
      N6_2 E .nils x21 x27 (.int .i64 0) H (fun x9 H =>
        N6_1 E x9 H retK)))
theorem L6_x (E : LE) (J : CodeF) (x0 x1 : AV) (H : Heap) : jx E 6 J c6 [x0, x1, (.tup []), (.tup []), (.tup []), (.tup []), (.tup []), (.tup []), (.tup []), (.tup []), (.tup []), (.tup []), (.tup []), (.tup []), (.tup []), (.tup []), (.tup []), (.tup []), (.tup []), (.tup []), (.tup []), (.tup []), (.tup []), (.tup []), (.tup []), (.tup []), (.tup []), (.tup []), (.tup []), (.tup []), (.tup []), (.tup []), (.tup []), (.tup []), (.tup []), (.tup []), (.tup []), (.tup []), (.tup [])] H (kk none (fun s H => retK (([4, 5] : List Nat).map fun t => s.getD t (.tup [])) H) [] retK [4, 5]) =
  resK (E.call E.lim 16 [x0] H) fun x13 H =>
  purK (binA P H .neq 28 x13 (.int .i64 0)) fun x15 =>
  condK x15
  (
    retK [.nils, x13] H)
  (
    resK (E.call E.lim 23 [x0, x1] H) fun x20 H =>
    purK (extA 0 x20) fun x21 =>
    purK (extA 1 x20) fun x22 =>
    purK (binA P H .neq 28 x22 (.int .i64 0)) fun x24 =>
    condK x24
    (
      retK [.nils, x22] H)
    (
      purK (lenBA (Cx E) H 69 x21) fun x27 =>
      N6_2_k (sp 39 [(9, .nils), (26, x21), (27, x27), (28, (.int .i64 0))]) H (fun s H => N6_1_k s H retK J) retK J)) := by kernel_rfl
theorem G6 (E : LE) (x0 x1 : AV) (H : Heap) : jj E 6 c6 [x0, x1, (.tup []), (.tup []), (.tup []), (.tup []), (.tup []), (.tup []), (.tup []), (.tup []), (.tup []), (.tup []), (.tup []), (.tup []), (.tup []), (.tup []), (.tup []), (.tup []), (.tup []), (.tup []), (.tup []), (.tup []), (.tup []), (.tup []), (.tup []), (.tup []), (.tup []), (.tup []), (.tup []), (.tup []), (.tup []), (.tup []), (.tup []), (.tup []), (.tup []), (.tup []), (.tup []), (.tup []), (.tup [])] H (kk none (fun s H => retK (([4, 5] : List Nat).map fun t => s.getD t (.tup [])) H) [] retK [4, 5]) = L6 E x0 x1 H := (jj_X E 6 _ _ H _).trans ((L6_x E (jj E 6) x0 x1 H).trans (by simp only [L6, N6_1_eq, N6_2_eq]))
theorem E6 (ρ : Addr → Option Value) (k lim : Nat) (x0 x1 : AV) (H : Heap) : evCall (cx ρ) (k + 1) lim 6 [x0, x1] H = L6 ⟨ρ, evCall (cx ρ) k, (evCY (cx ρ) k).2, lim, k⟩ x0 x1 H := by
  rw [evCall_body (cx ρ) k lim 6 _ H Tryz.f6 c6 [4, 5] (by kernel_rfl) (by kernel_rfl) (by kernel_rfl) (by kernel_rfl) (by kernel_rfl)]
  have h := G6 ⟨ρ, evCall (cx ρ) k, (evCY (cx ρ) k).2, lim, k⟩ x0 x1 H
  unfold jj at h
  exact h
-- haycroft/audit.Pairs
noncomputable def c7 : Code := Code.of Tryz.prog 7
noncomputable def N7_1_k (s : Slots) (H : Heap) (R : RK) (J : CodeF) : Res := J (Code.at [1, 1, 1, 1, 1] c7) s H (kk none (fun s H => R (([2, 3] : List Nat).map fun t => s.getD t (.tup [])) H) [] R [2, 3])
noncomputable def N7_1 (E : LE) (x6 : AV) (H : Heap) (R : RK) : Res :=
  resK (E.call E.lim 26 [x6, (.fn (.func 27) [] [])] H) fun x37_1 H =>
  R [x6, (.int .i64 0)] H
theorem N7_1_eq (E : LE) (x6 : AV) (H : Heap) (R : RK) : N7_1_k (sp 39 [(6, x6)]) H R (jj E 7) = N7_1 E x6 H R := by kernel_rfl
noncomputable def N7_2_k (s : Slots) (H : Heap) (kn : KS) (R : RK) (J : CodeF) : Res := J (Code.at [1, 1, 1, 1, 0, 1] c7) s H (kk (some [6]) kn [] R [2, 3])
noncomputable def N7_2b_k (s : Slots) (H : Heap) (kn k0 : KS) (R : RK) (J : CodeF) : Res := J (Code.at [1, 1, 1, 1, 0, 1, 0, 0] c7) s H (kk (some [6, 19]) kn [(0, (some [6]), k0)] R [2, 3])
noncomputable def N7_2b (E : LE) (x6 x19 : AV) (H : Heap) (kn : AV → AV → Heap → Res) (k0 : AV → Heap → Res) : Res :=
  effK H (nextA E.lim H x19 false) fun x20_1 H =>
  purK (extA 0 x20_1) fun x21_1 =>
  condK x21_1
  (
    purK (entryA H x19) fun x22_1 =>
    purK (extA 0 x22_1) fun x23_1 =>
    purK (extA 1 x22_1) fun x24_1 =>
    effK H (allocA (Cx E) H 27) fun x8_1 H =>
    effK H ((storeA (Cx E) E.lim H 27 x8_1 x24_1).map skips) fun _ H =>
    purK (fieldAddrA P 27 x8_1 0) fun x25_1 =>
    purK (fieldAddrA P 25 x25_1 1) fun x26_1 =>
    purK (loadA (Cx E) H 4 x26_1) fun x27_1 =>
    purK (unA .not x27_1) fun x28_1 =>
    condK x28_1
    (
      purK (fieldAddrA P 27 x8_1 2) fun x31_1 =>
      purK (loadA (Cx E) H 9 x31_1) fun x32_1 =>
      purK (buildA P 80 [(0, x23_1), (1, x32_1)]) fun x33_1 =>
      effK H (buildSliceA (Cx E) H 34 1 [(0, x33_1)]) fun x34_1 H =>
      effK H (builtinA (Cx E) E.lim H .append #[34, 34] [x6, x34_1]) fun x35_1 H =>
      kn x35_1 x19 H)
    (
      kn x6 x19 H))
  (
    k0 x6 H)
theorem N7_2b_eq (E : LE) (x6 x19 : AV) (H : Heap) (kn k0 : KS) (R : RK) : N7_2b_k (sp 39 [(6, x6), (19, x19)]) H kn k0 R (jj E 7) = N7_2b E x6 x19 H (fun x6 x19 H => kn (sp 39 [(6, x6), (19, x19)]) H) (fun x6 H => k0 (sp 39 [(6, x6)]) H) := by kernel_rfl
noncomputable def N7_2 (E : LE) (x6 x19 : AV) (H : Heap) (kn : AV → Heap → Res) : Res :=
  loopL (fun (x : AV) H kl => N7_2b E x x19 H (fun x6 _ H => kl x6 H) kn) E.k x6 H
theorem N7_2_eq (E : LE) (x6 x19 : AV) (H : Heap) (kn : KS) (R : RK) : N7_2_k (sp 39 [(6, x6), (19, x19)]) H kn R (jj E 7) = N7_2 E x6 x19 H (fun x6 H => kn (sp 39 [(6, x6)]) H) := by
  have e : Code.at [1, 1, 1, 1, 0, 1] c7 = Code.block 0 (Code.loop (Code.at [1, 1, 1, 1, 0, 1, 0, 0] c7)) := by kernel_rfl
  unfold N7_2_k N7_2 jj
  rw [e]
  rw [block_kk]
  exact loop_node [6, 19] (fun x : AV => (sp 39 [(6, (x)), (19, x19)])) (fun (x : AV) H kl => N7_2b E x x19 H (fun x6 _ H => kl x6 H) (fun x6 H => kn (sp 39 [(6, x6)]) H)) (by kernel_rfl) (fun x => by kernel_rfl) (fun x H kl => by
    have h := N7_2b_eq E (x) x19 H kl kn R
    unfold N7_2b_k jj at h
    exact h) x6 (sp 39 [(6, x6), (19, x19)]) H (by kernel_rfl)
noncomputable def L7 (E : LE) (x0 : AV) (H : Heap) : Res :=
  resK (E.call E.lim 24 [x0] H) fun x11 H =>
  purK (extA 0 x11) fun x12 =>
  purK (extA 1 x11) fun x13 =>
  purK (binA P H .neq 28 x13 (.int .i64 0)) fun x15 =>
  condK x15
  (
    retK [.nils, x13] H)
  (
    resK (E.call E.lim 25 [x12] H) fun x18 H =>
    effK H (rangeA H P 77 x18) fun x19 H =>
    N7_2 E .nils x19 H (fun x6 H =>
      N7_1 E x6 H retK))
theorem L7_x (E : LE) (J : CodeF) (x0 : AV) (H : Heap) : jx E 7 J c7 [x0, (.tup []), (.tup []), (.tup []), (.tup []), (.tup []), (.tup []), (.tup []), (.tup []), (.tup []), (.tup []), (.tup []), (.tup []), (.tup []), (.tup []), (.tup []), (.tup []), (.tup []), (.tup []), (.tup []), (.tup []), (.tup []), (.tup []), (.tup []), (.tup []), (.tup []), (.tup []), (.tup []), (.tup []), (.tup []), (.tup []), (.tup []), (.tup []), (.tup []), (.tup []), (.tup []), (.tup []), (.tup []), (.tup [])] H (kk none (fun s H => retK (([2, 3] : List Nat).map fun t => s.getD t (.tup [])) H) [] retK [2, 3]) =
  resK (E.call E.lim 24 [x0] H) fun x11 H =>
  purK (extA 0 x11) fun x12 =>
  purK (extA 1 x11) fun x13 =>
  purK (binA P H .neq 28 x13 (.int .i64 0)) fun x15 =>
  condK x15
  (
    retK [.nils, x13] H)
  (
    resK (E.call E.lim 25 [x12] H) fun x18 H =>
    effK H (rangeA H P 77 x18) fun x19 H =>
    N7_2_k (sp 39 [(6, .nils), (19, x19)]) H (fun s H => N7_1_k s H retK J) retK J) := by kernel_rfl
theorem G7 (E : LE) (x0 : AV) (H : Heap) : jj E 7 c7 [x0, (.tup []), (.tup []), (.tup []), (.tup []), (.tup []), (.tup []), (.tup []), (.tup []), (.tup []), (.tup []), (.tup []), (.tup []), (.tup []), (.tup []), (.tup []), (.tup []), (.tup []), (.tup []), (.tup []), (.tup []), (.tup []), (.tup []), (.tup []), (.tup []), (.tup []), (.tup []), (.tup []), (.tup []), (.tup []), (.tup []), (.tup []), (.tup []), (.tup []), (.tup []), (.tup []), (.tup []), (.tup []), (.tup [])] H (kk none (fun s H => retK (([2, 3] : List Nat).map fun t => s.getD t (.tup [])) H) [] retK [2, 3]) = L7 E x0 H := (jj_X E 7 _ _ H _).trans ((L7_x E (jj E 7) x0 H).trans (by simp only [L7, N7_1_eq, N7_2_eq]))
theorem E7 (ρ : Addr → Option Value) (k lim : Nat) (x0 : AV) (H : Heap) : evCall (cx ρ) (k + 1) lim 7 [x0] H = L7 ⟨ρ, evCall (cx ρ) k, (evCY (cx ρ) k).2, lim, k⟩ x0 H := by
  rw [evCall_body (cx ρ) k lim 7 _ H Tryz.f7 c7 [2, 3] (by kernel_rfl) (by kernel_rfl) (by kernel_rfl) (by kernel_rfl) (by kernel_rfl)]
  have h := G7 ⟨ρ, evCall (cx ρ) k, (evCY (cx ρ) k).2, lim, k⟩ x0 H
  unfold jj at h
  exact h
-- haycroft/audit.Get
noncomputable def c8 : Code := Code.of Tryz.prog 8
noncomputable def N8_1_k (s : Slots) (H : Heap) (R : RK) (J : CodeF) : Res := J (Code.at [1, 1, 1, 1] c8) s H (kk none (fun s H => R (([4, 5, 6] : List Nat).map fun t => s.getD t (.tup [])) H) [] R [4, 5, 6])
noncomputable def N8_1 (E : LE) (H : Heap) (R : RK) : Res :=
  R [(.str (ByteArray.mk #[])), (.bool false), (.int .i64 0)] H
theorem N8_1_eq (E : LE) (H : Heap) (R : RK) : N8_1_k (sp 32 []) H R (jj E 8) = N8_1 E H R := by kernel_rfl
noncomputable def N8_2_k (s : Slots) (H : Heap) (kn : KS) (R : RK) (J : CodeF) : Res := J (Code.at [1, 1, 1, 0, 1] c8) s H (kk (some []) kn [] R [4, 5, 6])
noncomputable def N8_2b_k (s : Slots) (H : Heap) (kn k0 : KS) (R : RK) (J : CodeF) : Res := J (Code.at [1, 1, 1, 0, 1, 0, 0] c8) s H (kk (some [1, 19, 20, 21]) kn [(0, (some []), k0)] R [4, 5, 6])
noncomputable def N8_2b (E : LE) (x1 x19 x20 x21 : AV) (H : Heap) (kn : AV → AV → AV → AV → Heap → Res) (k0 : Heap → Res) (R : RK) : Res :=
  purK (binA P H .lss 3 x21 x20) fun x22_1 =>
  condK x22_1
  (
    purK (indexAddrA P 34 x19 x21) fun x23_1 =>
    purK (loadA (Cx E) H 80 x23_1) fun x24_1 =>
    effK H (allocA (Cx E) H 80) fun x10_1 H =>
    effK H ((storeA (Cx E) E.lim H 80 x10_1 x24_1).map skips) fun _ H =>
    purK (fieldAddrA P 80 x10_1 0) fun x25_1 =>
    purK (loadA (Cx E) H 9 x25_1) fun x26_1 =>
    purK (binA P H .eql 9 x26_1 x1) fun x28_1 =>
    condK x28_1
    (
      purK (fieldAddrA P 80 x10_1 1) fun x29_1 =>
      purK (loadA (Cx E) H 9 x29_1) fun x30_1 =>
      R [x30_1, (.bool true), (.int .i64 0)] H)
    (
      purK (binA P H .add 3 x21 (.int .i64 1)) fun x31_1 =>
      kn x1 x19 x20 x31_1 H))
  (
    k0 H)
theorem N8_2b_eq (E : LE) (x1 x19 x20 x21 : AV) (H : Heap) (kn k0 : KS) (R : RK) : N8_2b_k (sp 32 [(1, x1), (19, x19), (20, x20), (21, x21)]) H kn k0 R (jj E 8) = N8_2b E x1 x19 x20 x21 H (fun x1 x19 x20 x21 H => kn (sp 32 [(1, x1), (19, x19), (20, x20), (21, x21)]) H) (fun H => k0 (sp 32 []) H) R := by kernel_rfl
noncomputable def N8_2 (E : LE) (x1 x19 x20 x21 : AV) (H : Heap) (kn : Heap → Res) (R : RK) : Res :=
  loopL (fun (x : AV) H kl => N8_2b E x1 x19 x20 x H (fun _ _ _ x21 H => kl x21 H) kn R) E.k x21 H
theorem N8_2_eq (E : LE) (x1 x19 x20 x21 : AV) (H : Heap) (kn : KS) (R : RK) : N8_2_k (sp 32 [(1, x1), (19, x19), (20, x20), (21, x21)]) H kn R (jj E 8) = N8_2 E x1 x19 x20 x21 H (fun H => kn (sp 32 []) H) R := by
  have e : Code.at [1, 1, 1, 0, 1] c8 = Code.block 0 (Code.loop (Code.at [1, 1, 1, 0, 1, 0, 0] c8)) := by kernel_rfl
  unfold N8_2_k N8_2 jj
  rw [e]
  rw [block_kk]
  exact loop_node [1, 19, 20, 21] (fun x : AV => (sp 32 [(1, x1), (19, x19), (20, x20), (21, (x))])) (fun (x : AV) H kl => N8_2b E x1 x19 x20 x H (fun _ _ _ x21 H => kl x21 H) (fun H => kn (sp 32 []) H) R) (by kernel_rfl) (fun x => by kernel_rfl) (fun x H kl => by
    have h := N8_2b_eq E x1 x19 x20 (x) H kl kn R
    unfold N8_2b_k jj at h
    exact h) x21 (sp 32 [(1, x1), (19, x19), (20, x20), (21, x21)]) H (by kernel_rfl)
noncomputable def L8 (E : LE) (x0 x1 : AV) (H : Heap) : Res :=
  resK (E.call E.lim 7 [x0] H) fun x13 H =>
  purK (extA 0 x13) fun x14 =>
  purK (extA 1 x13) fun x15 =>
  purK (binA P H .neq 28 x15 (.int .i64 0)) fun x17 =>
  condK x17
  (
    retK [(.str (ByteArray.mk #[])), (.bool false), x15] H)
  (
    purK (lenBA (Cx E) H 34 x14) fun x20 =>
    N8_2 E x1 x14 x20 (.int .i64 0) H (fun H =>
      N8_1 E H retK) retK)
theorem L8_x (E : LE) (J : CodeF) (x0 x1 : AV) (H : Heap) : jx E 8 J c8 [x0, x1, (.tup []), (.tup []), (.tup []), (.tup []), (.tup []), (.tup []), (.tup []), (.tup []), (.tup []), (.tup []), (.tup []), (.tup []), (.tup []), (.tup []), (.tup []), (.tup []), (.tup []), (.tup []), (.tup []), (.tup []), (.tup []), (.tup []), (.tup []), (.tup []), (.tup []), (.tup []), (.tup []), (.tup []), (.tup []), (.tup [])] H (kk none (fun s H => retK (([4, 5, 6] : List Nat).map fun t => s.getD t (.tup [])) H) [] retK [4, 5, 6]) =
  resK (E.call E.lim 7 [x0] H) fun x13 H =>
  purK (extA 0 x13) fun x14 =>
  purK (extA 1 x13) fun x15 =>
  purK (binA P H .neq 28 x15 (.int .i64 0)) fun x17 =>
  condK x17
  (
    retK [(.str (ByteArray.mk #[])), (.bool false), x15] H)
  (
    purK (lenBA (Cx E) H 34 x14) fun x20 =>
    N8_2_k (sp 32 [(1, x1), (19, x14), (20, x20), (21, (.int .i64 0))]) H (fun s H => N8_1_k s H retK J) retK J) := by kernel_rfl
theorem G8 (E : LE) (x0 x1 : AV) (H : Heap) : jj E 8 c8 [x0, x1, (.tup []), (.tup []), (.tup []), (.tup []), (.tup []), (.tup []), (.tup []), (.tup []), (.tup []), (.tup []), (.tup []), (.tup []), (.tup []), (.tup []), (.tup []), (.tup []), (.tup []), (.tup []), (.tup []), (.tup []), (.tup []), (.tup []), (.tup []), (.tup []), (.tup []), (.tup []), (.tup []), (.tup []), (.tup []), (.tup [])] H (kk none (fun s H => retK (([4, 5, 6] : List Nat).map fun t => s.getD t (.tup [])) H) [] retK [4, 5, 6]) = L8 E x0 x1 H := (jj_X E 8 _ _ H _).trans ((L8_x E (jj E 8) x0 x1 H).trans (by simp only [L8, N8_1_eq, N8_2_eq]))
theorem E8 (ρ : Addr → Option Value) (k lim : Nat) (x0 x1 : AV) (H : Heap) : evCall (cx ρ) (k + 1) lim 8 [x0, x1] H = L8 ⟨ρ, evCall (cx ρ) k, (evCY (cx ρ) k).2, lim, k⟩ x0 x1 H := by
  rw [evCall_body (cx ρ) k lim 8 _ H Tryz.f8 c8 [4, 5, 6] (by kernel_rfl) (by kernel_rfl) (by kernel_rfl) (by kernel_rfl) (by kernel_rfl)]
  have h := G8 ⟨ρ, evCall (cx ρ) k, (evCY (cx ρ) k).2, lim, k⟩ x0 x1 H
  unfold jj at h
  exact h
-- haycroft/audit.Report
noncomputable def c9 : Code := Code.of Tryz.prog 9
noncomputable def N9_1_k (s : Slots) (H : Heap) (R : RK) (J : CodeF) : Res := J (Code.at [1, 1, 1, 1, 1] c9) s H (kk none (fun s H => R (([2, 3] : List Nat).map fun t => s.getD t (.tup [])) H) [] R [2, 3])
noncomputable def N9_2_k (s : Slots) (H : Heap) (R : RK) (J : CodeF) : Res := J (Code.at [1, 1, 1, 1, 1, 1] c9) s H (kk none (fun s H => R (([2, 3] : List Nat).map fun t => s.getD t (.tup [])) H) [] R [2, 3])
noncomputable def N9_2 (E : LE) (x2 x6 : AV) (H : Heap) (R : RK) : Res :=
  purK (loadA (Cx E) H 40 x6) fun x79_1 =>
  effK H ((storeA (Cx E) E.lim H 40 x2 x79_1).map skips) fun _ H =>
  R [x2, (.int .i64 0)] H
theorem N9_2_eq (E : LE) (x2 x6 : AV) (H : Heap) (R : RK) : N9_2_k (sp 80 [(2, x2), (6, x6)]) H R (jj E 9) = N9_2 E x2 x6 H R := by kernel_rfl
noncomputable def N9_3_k (s : Slots) (H : Heap) (kn : KS) (R : RK) (J : CodeF) : Res := J (Code.at [1, 1, 1, 1, 1, 0, 1] c9) s H (kk (some [2, 6]) kn [] R [2, 3])
noncomputable def N9_3b_k (s : Slots) (H : Heap) (kn k4 : KS) (R : RK) (J : CodeF) : Res := J (Code.at [1, 1, 1, 1, 1, 0, 1, 0, 0] c9) s H (kk (some [2, 6, 63]) kn [(4, (some [2, 6]), k4)] R [2, 3])
noncomputable def N9_3b (E : LE) (x2 x6 x63 : AV) (H : Heap) (kn : AV → AV → AV → Heap → Res) (k4 : AV → AV → Heap → Res) : Res :=
  effK H (nextA E.lim H x63 false) fun x64_1 H =>
  purK (extA 0 x64_1) fun x65_1 =>
  condK x65_1
  (
    purK (entryA H x63) fun x66_1 =>
    purK (extA 1 x66_1) fun x67_1 =>
    effK H (allocA (Cx E) H 27) fun x12_1 H =>
    effK H ((storeA (Cx E) E.lim H 27 x12_1 x67_1).map skips) fun _ H =>
    purK (fieldAddrA P 27 x12_1 0) fun x68_1 =>
    purK (fieldAddrA P 25 x68_1 1) fun x69_1 =>
    purK (loadA (Cx E) H 4 x69_1) fun x70_1 =>
    condK x70_1
    (
      purK (fieldAddrA P 40 x6 3) fun x71_1 =>
      purK (loadA (Cx E) H 3 x71_1) fun x72_1 =>
      purK (binA P H .add 3 x72_1 (.int .i64 1)) fun x73_1 =>
      purK (fieldAddrA P 40 x6 3) fun x74_1 =>
      effK H ((storeA (Cx E) E.lim H 3 x74_1 x73_1).map skips) fun _ H =>
      kn x2 x6 x63 H)
    (
      purK (fieldAddrA P 40 x6 2) fun x75_1 =>
      purK (loadA (Cx E) H 3 x75_1) fun x76_1 =>
      purK (binA P H .add 3 x76_1 (.int .i64 1)) fun x77_1 =>
      purK (fieldAddrA P 40 x6 2) fun x78_1 =>
      effK H ((storeA (Cx E) E.lim H 3 x78_1 x77_1).map skips) fun _ H =>
      kn x2 x6 x63 H))
  (
    k4 x2 x6 H)
theorem N9_3b_eq (E : LE) (x2 x6 x63 : AV) (H : Heap) (kn k4 : KS) (R : RK) : N9_3b_k (sp 80 [(2, x2), (6, x6), (63, x63)]) H kn k4 R (jj E 9) = N9_3b E x2 x6 x63 H (fun x2 x6 x63 H => kn (sp 80 [(2, x2), (6, x6), (63, x63)]) H) (fun x2 x6 H => k4 (sp 80 [(2, x2), (6, x6)]) H) := by kernel_rfl
noncomputable def N9_3 (E : LE) (x2 x6 x63 : AV) (H : Heap) (kn : AV → AV → Heap → Res) : Res :=
  loopL (fun (x : Unit) H kl => N9_3b E x2 x6 x63 H (fun _ _ _ H => kl () H) kn) E.k () H
theorem N9_3_eq (E : LE) (x2 x6 x63 : AV) (H : Heap) (kn : KS) (R : RK) : N9_3_k (sp 80 [(2, x2), (6, x6), (63, x63)]) H kn R (jj E 9) = N9_3 E x2 x6 x63 H (fun x2 x6 H => kn (sp 80 [(2, x2), (6, x6)]) H) := by
  have e : Code.at [1, 1, 1, 1, 1, 0, 1] c9 = Code.block 4 (Code.loop (Code.at [1, 1, 1, 1, 1, 0, 1, 0, 0] c9)) := by kernel_rfl
  unfold N9_3_k N9_3 jj
  rw [e]
  rw [block_kk]
  exact loop_node [2, 6, 63] (fun x : Unit => (sp 80 [(2, x2), (6, x6), (63, x63)])) (fun (x : Unit) H kl => N9_3b E x2 x6 x63 H (fun _ _ _ H => kl () H) (fun x2 x6 H => kn (sp 80 [(2, x2), (6, x6)]) H)) (by kernel_rfl) (fun x => by kernel_rfl) (fun x H kl => by
    have h := N9_3b_eq E x2 x6 x63 H kl kn R
    unfold N9_3b_k jj at h
    exact h) () (sp 80 [(2, x2), (6, x6), (63, x63)]) H (by kernel_rfl)
noncomputable def N9_1 (E : LE) (x2 x4 x6 : AV) (H : Heap) (R : RK) : Res :=
  resK (E.call E.lim 25 [x4] H) fun x62_1 H =>
  effK H (rangeA H P 77 x62_1) fun x63_1 H =>
  N9_3 E x2 x6 x63_1 H (fun x2_1 x6_1 H =>
    N9_2 E x2_1 x6_1 H R)
theorem N9_1_x (E : LE) (J : CodeF) (x2 x4 x6 : AV) (H : Heap) (R : RK) : N9_1_k (sp 80 [(2, x2), (4, x4), (6, x6)]) H R (jx E 9 J) =
  resK (E.call E.lim 25 [x4] H) fun x62_1 H =>
  effK H (rangeA H P 77 x62_1) fun x63_1 H =>
  N9_3_k (sp 80 [(2, x2), (6, x6), (63, x63_1)]) H (fun s H => N9_2_k s H R J) R J := by kernel_rfl
theorem N9_1_eq (E : LE) (x2 x4 x6 : AV) (H : Heap) (R : RK) : N9_1_k (sp 80 [(2, x2), (4, x4), (6, x6)]) H R (jj E 9) = N9_1 E x2 x4 x6 H R := (jj_X E 9 _ _ H _).trans ((N9_1_x E (jj E 9) x2 x4 x6 H R).trans (by simp only [N9_1, N9_2_eq, N9_3_eq]))
noncomputable def N9_4_k (s : Slots) (H : Heap) (kn : KS) (R : RK) (J : CodeF) : Res := J (Code.at [1, 1, 1, 1, 0, 1] c9) s H (kk (some [2, 4, 6]) kn [] R [2, 3])
noncomputable def N9_4b_k (s : Slots) (H : Heap) (kn k0 : KS) (R : RK) (J : CodeF) : Res := J (Code.at [1, 1, 1, 1, 0, 1, 0, 0] c9) s H (kk (some [0, 2, 4, 6, 25, 26, 27]) kn [(0, (some [2, 4, 6]), k0)] R [2, 3])
noncomputable def N9_5_k (s : Slots) (H : Heap) (kn k0 : KS) (R : RK) (J : CodeF) : Res := J (Code.at [1, 1, 1, 1, 0, 1, 0, 0, 1, 1, 1] c9) s H (kk (some [0, 2, 4, 6, 25, 26, 27]) kn [(0, (some [2, 4, 6]), k0)] R [2, 3])
noncomputable def N9_5 (E : LE) (x0 x2 x4 x6 x25 x26 x27 : AV) (H : Heap) (kn : AV → AV → AV → AV → AV → AV → AV → Heap → Res) : Res :=
  purK (binA P H .add 3 x27 (.int .i64 1)) fun x60_1 =>
  kn x0 x2 x4 x6 x25 x26 x60_1 H
theorem N9_5_eq (E : LE) (x0 x2 x4 x6 x25 x26 x27 : AV) (H : Heap) (kn k0 : KS) (R : RK) : N9_5_k (sp 80 [(0, x0), (2, x2), (4, x4), (6, x6), (25, x25), (26, x26), (27, x27)]) H kn k0 R (jj E 9) = N9_5 E x0 x2 x4 x6 x25 x26 x27 H (fun x0 x2 x4 x6 x25 x26 x27 H => kn (sp 80 [(0, x0), (2, x2), (4, x4), (6, x6), (25, x25), (26, x26), (27, x27)]) H) := by kernel_rfl
noncomputable def N9_6_k (s : Slots) (H : Heap) (kn k1 k0 : KS) (R : RK) (J : CodeF) : Res := J (Code.at [1, 1, 1, 1, 0, 1, 0, 0, 1, 1, 0, 0, 1, 1, 1, 1] c9) s H (kk (some [0, 2, 4, 6, 25, 26, 27]) kn [(1, (some [0, 2, 4, 6, 25, 26, 27]), k1), (0, (some [2, 4, 6]), k0)] R [2, 3])
noncomputable def N9_6b_k (s : Slots) (H : Heap) (kn k2 k1 k0 : KS) (R : RK) (J : CodeF) : Res := J (Code.at [1, 1, 1, 1, 0, 1, 0, 0, 1, 1, 0, 0, 1, 1, 1, 1, 0, 0] c9) s H (kk (some [0, 2, 4, 6, 25, 26, 27, 43, 44, 45]) kn [(2, (some [0, 2, 4, 6, 25, 26, 27]), k2), (1, (some [0, 2, 4, 6, 25, 26, 27]), k1), (0, (some [2, 4, 6]), k0)] R [2, 3])
noncomputable def N9_7_k (s : Slots) (H : Heap) (kn k2 k1 k0 : KS) (R : RK) (J : CodeF) : Res := J (Code.at [1, 1, 1, 1, 0, 1, 0, 0, 1, 1, 0, 0, 1, 1, 1, 1, 0, 0, 1, 1, 1] c9) s H (kk (some [0, 2, 4, 6, 25, 26, 27, 43, 44, 45]) kn [(2, (some [0, 2, 4, 6, 25, 26, 27]), k2), (1, (some [0, 2, 4, 6, 25, 26, 27]), k1), (0, (some [2, 4, 6]), k0)] R [2, 3])
noncomputable def N9_7 (E : LE) (x0 x2 x4 x6 x25 x26 x27 x43 x44 x45 : AV) (H : Heap) (kn : AV → AV → AV → AV → AV → AV → AV → AV → AV → AV → Heap → Res) : Res :=
  purK (binA P H .add 3 x45 (.int .i64 1)) fun x59_1 =>
  kn x0 x2 x4 x6 x25 x26 x27 x43 x44 x59_1 H
theorem N9_7_eq (E : LE) (x0 x2 x4 x6 x25 x26 x27 x43 x44 x45 : AV) (H : Heap) (kn k2 k1 k0 : KS) (R : RK) : N9_7_k (sp 80 [(0, x0), (2, x2), (4, x4), (6, x6), (25, x25), (26, x26), (27, x27), (43, x43), (44, x44), (45, x45)]) H kn k2 k1 k0 R (jj E 9) = N9_7 E x0 x2 x4 x6 x25 x26 x27 x43 x44 x45 H (fun x0 x2 x4 x6 x25 x26 x27 x43 x44 x45 H => kn (sp 80 [(0, x0), (2, x2), (4, x4), (6, x6), (25, x25), (26, x26), (27, x27), (43, x43), (44, x44), (45, x45)]) H) := by kernel_rfl
noncomputable def N9_6b (E : LE) (x0 x2 x4 x6 x25 x26 x27 x43 x44 x45 : AV) (H : Heap) (kn : AV → AV → AV → AV → AV → AV → AV → AV → AV → AV → Heap → Res) (k2 : AV → AV → AV → AV → AV → AV → AV → Heap → Res) : Res :=
  purK (binA P H .lss 3 x45 x44) fun x46_1 =>
  condK x46_1
  (
    purK (indexAddrA P 69 x43 x45) fun x47_1 =>
    purK (loadA (Cx E) H 73 x47_1) fun x48_1 =>
    effK H (allocA (Cx E) H 73) fun x10_1 H =>
    effK H ((storeA (Cx E) E.lim H 73 x10_1 x48_1).map skips) fun _ H =>
    purK (fieldAddrA P 73 x10_1 0) fun x51_1 =>
    purK (loadA (Cx E) H 22 x51_1) fun x52_1 =>
    resK (E.call E.lim 29 [x0] H) fun x50_1 H => bif (agn (loadA (Cx E) H 22 x51_1) x52_1 && true) then
      resK (E.call E.lim 30 [x50_1, x52_1] H) fun x53_1 H =>
      purK (binA P H .eql 3 x53_1 (.int .i64 4)) fun x54_1 =>
      condK x54_1
      (
        purK (fieldAddrA P 40 x6 4) fun x55_1 =>
        purK (loadA (Cx E) H 3 x55_1) fun x56_1 =>
        purK (binA P H .add 3 x56_1 (.int .i64 1)) fun x57_1 =>
        purK (fieldAddrA P 40 x6 4) fun x58_1 =>
        effK H ((storeA (Cx E) E.lim H 3 x58_1 x57_1).map skips) fun _ H =>
        N9_7 E x0 x2 x4 x6 x25 x26 x27 x43 x44 x45 H kn)
      (
        N9_7 E x0 x2 x4 x6 x25 x26 x27 x43 x44 x45 H kn)
    else none)
  (
    k2 x0 x2 x4 x6 x25 x26 x27 H)
theorem N9_6b_x (E : LE) (J : CodeF) (x0 x2 x4 x6 x25 x26 x27 x43 x44 x45 : AV) (H : Heap) (kn k2 k1 k0 : KS) (R : RK) : N9_6b_k (sp 80 [(0, x0), (2, x2), (4, x4), (6, x6), (25, x25), (26, x26), (27, x27), (43, x43), (44, x44), (45, x45)]) H kn k2 k1 k0 R (jx E 9 J) =
  purK (binA P H .lss 3 x45 x44) fun x46_1 =>
  condK x46_1
  (
    purK (indexAddrA P 69 x43 x45) fun x47_1 =>
    purK (loadA (Cx E) H 73 x47_1) fun x48_1 =>
    effK H (allocA (Cx E) H 73) fun x10_1 H =>
    effK H ((storeA (Cx E) E.lim H 73 x10_1 x48_1).map skips) fun _ H =>
    purK (fieldAddrA P 73 x10_1 0) fun x51_1 =>
    purK (loadA (Cx E) H 22 x51_1) fun x52_1 =>
    resK (E.call E.lim 29 [x0] H) fun x50_1 H => bif (agn (loadA (Cx E) H 22 x51_1) x52_1 && true) then
      resK (E.call E.lim 30 [x50_1, x52_1] H) fun x53_1 H =>
      purK (binA P H .eql 3 x53_1 (.int .i64 4)) fun x54_1 =>
      condK x54_1
      (
        purK (fieldAddrA P 40 x6 4) fun x55_1 =>
        purK (loadA (Cx E) H 3 x55_1) fun x56_1 =>
        purK (binA P H .add 3 x56_1 (.int .i64 1)) fun x57_1 =>
        purK (fieldAddrA P 40 x6 4) fun x58_1 =>
        effK H ((storeA (Cx E) E.lim H 3 x58_1 x57_1).map skips) fun _ H =>
        N9_7_k (sp 80 [(0, x0), (2, x2), (4, x4), (6, x6), (25, x25), (26, x26), (27, x27), (43, x43), (44, x44), (45, x45)]) H kn k2 k1 k0 R J)
      (
        N9_7_k (sp 80 [(0, x0), (2, x2), (4, x4), (6, x6), (25, x25), (26, x26), (27, x27), (43, x43), (44, x44), (45, x45)]) H kn k2 k1 k0 R J)
    else none)
  (
    k2 (sp 80 [(0, x0), (2, x2), (4, x4), (6, x6), (25, x25), (26, x26), (27, x27)]) H) := by kernel_rfl
theorem N9_6b_eq (E : LE) (x0 x2 x4 x6 x25 x26 x27 x43 x44 x45 : AV) (H : Heap) (kn k2 k1 k0 : KS) (R : RK) : N9_6b_k (sp 80 [(0, x0), (2, x2), (4, x4), (6, x6), (25, x25), (26, x26), (27, x27), (43, x43), (44, x44), (45, x45)]) H kn k2 k1 k0 R (jj E 9) = N9_6b E x0 x2 x4 x6 x25 x26 x27 x43 x44 x45 H (fun x0 x2 x4 x6 x25 x26 x27 x43 x44 x45 H => kn (sp 80 [(0, x0), (2, x2), (4, x4), (6, x6), (25, x25), (26, x26), (27, x27), (43, x43), (44, x44), (45, x45)]) H) (fun x0 x2 x4 x6 x25 x26 x27 H => k2 (sp 80 [(0, x0), (2, x2), (4, x4), (6, x6), (25, x25), (26, x26), (27, x27)]) H) := (jj_X E 9 _ _ H _).trans ((N9_6b_x E (jj E 9) x0 x2 x4 x6 x25 x26 x27 x43 x44 x45 H kn k2 k1 k0 R).trans (by simp only [N9_6b, N9_7_eq]))
noncomputable def N9_6 (E : LE) (x0 x2 x4 x6 x25 x26 x27 x43 x44 x45 : AV) (H : Heap) (kn : AV → AV → AV → AV → AV → AV → AV → Heap → Res) : Res :=
  loopL (fun (x : AV) H kl => N9_6b E x0 x2 x4 x6 x25 x26 x27 x43 x44 x H (fun _ _ _ _ _ _ _ _ _ x45 H => kl x45 H) kn) E.k x45 H
theorem N9_6_eq (E : LE) (x0 x2 x4 x6 x25 x26 x27 x43 x44 x45 : AV) (H : Heap) (kn k1 k0 : KS) (R : RK) : N9_6_k (sp 80 [(0, x0), (2, x2), (4, x4), (6, x6), (25, x25), (26, x26), (27, x27), (43, x43), (44, x44), (45, x45)]) H kn k1 k0 R (jj E 9) = N9_6 E x0 x2 x4 x6 x25 x26 x27 x43 x44 x45 H (fun x0 x2 x4 x6 x25 x26 x27 H => kn (sp 80 [(0, x0), (2, x2), (4, x4), (6, x6), (25, x25), (26, x26), (27, x27)]) H) := by
  have e : Code.at [1, 1, 1, 1, 0, 1, 0, 0, 1, 1, 0, 0, 1, 1, 1, 1] c9 = Code.block 2 (Code.loop (Code.at [1, 1, 1, 1, 0, 1, 0, 0, 1, 1, 0, 0, 1, 1, 1, 1, 0, 0] c9)) := by kernel_rfl
  unfold N9_6_k N9_6 jj
  rw [e]
  rw [block_kk]
  exact loop_node [0, 2, 4, 6, 25, 26, 27, 43, 44, 45] (fun x : AV => (sp 80 [(0, x0), (2, x2), (4, x4), (6, x6), (25, x25), (26, x26), (27, x27), (43, x43), (44, x44), (45, (x))])) (fun (x : AV) H kl => N9_6b E x0 x2 x4 x6 x25 x26 x27 x43 x44 x H (fun _ _ _ _ _ _ _ _ _ x45 H => kl x45 H) (fun x0 x2 x4 x6 x25 x26 x27 H => kn (sp 80 [(0, x0), (2, x2), (4, x4), (6, x6), (25, x25), (26, x26), (27, x27)]) H)) (by kernel_rfl) (fun x => by kernel_rfl) (fun x H kl => by
    have h := N9_6b_eq E x0 x2 x4 x6 x25 x26 x27 x43 x44 (x) H kl kn k1 k0 R
    unfold N9_6b_k jj at h
    exact h) x45 (sp 80 [(0, x0), (2, x2), (4, x4), (6, x6), (25, x25), (26, x26), (27, x27), (43, x43), (44, x44), (45, x45)]) H (by kernel_rfl)
noncomputable def N9_4b (E : LE) (x0 x2 x4 x6 x25 x26 x27 : AV) (H : Heap) (kn : AV → AV → AV → AV → AV → AV → AV → Heap → Res) (k0 : AV → AV → AV → Heap → Res) : Res :=
  purK (binA P H .lss 3 x27 x26) fun x28_1 =>
  condK x28_1
  (
    purK (indexAddrA P 74 x25 x27) fun x29_1 =>
    purK (loadA (Cx E) H 69 x29_1) fun x30_1 =>
    purK (fieldAddrA P 40 x6 1) fun x31_1 =>
    purK (loadA (Cx E) H 3 x31_1) fun x32_1 =>
    purK (lenBA (Cx E) H 69 x30_1) fun x34_1 =>
    purK (binA P H .add 3 x32_1 x34_1) fun x35_1 =>
    purK (fieldAddrA P 40 x6 1) fun x36_1 =>
    effK H ((storeA (Cx E) E.lim H 3 x36_1 x35_1).map skips) fun _ H =>
    purK (fieldAddrA P 40 x6 5) fun x37_1 =>
    purK (loadA (Cx E) H 3 x37_1) fun x38_1 =>
    purK (lenBA (Cx E) H 69 x30_1) fun x40_1 =>
    purK (foldsA maxA [x38_1, x40_1]) fun x41_1 =>
    purK (fieldAddrA P 40 x6 5) fun x42_1 =>
    effK H ((storeA (Cx E) E.lim H 3 x42_1 x41_1).map skips) fun _ H =>
    purK (lenBA (Cx E) H 69 x30_1) fun x44_1 =>
    N9_6 E x0 x2 x4 x6 x25 x26 x27 x30_1 x44_1 (.int .i64 0) H (fun x0_1 x2_1 x4_1 x6_1 x25_1 x26_1 x27_1 H =>
      N9_5 E x0_1 x2_1 x4_1 x6_1 x25_1 x26_1 x27_1 H kn))
  (
    k0 x2 x4 x6 H)
theorem N9_4b_x (E : LE) (J : CodeF) (x0 x2 x4 x6 x25 x26 x27 : AV) (H : Heap) (kn k0 : KS) (R : RK) : N9_4b_k (sp 80 [(0, x0), (2, x2), (4, x4), (6, x6), (25, x25), (26, x26), (27, x27)]) H kn k0 R (jx E 9 J) =
  purK (binA P H .lss 3 x27 x26) fun x28_1 =>
  condK x28_1
  (
    purK (indexAddrA P 74 x25 x27) fun x29_1 =>
    purK (loadA (Cx E) H 69 x29_1) fun x30_1 =>
    purK (fieldAddrA P 40 x6 1) fun x31_1 =>
    purK (loadA (Cx E) H 3 x31_1) fun x32_1 =>
    purK (lenBA (Cx E) H 69 x30_1) fun x34_1 =>
    purK (binA P H .add 3 x32_1 x34_1) fun x35_1 =>
    purK (fieldAddrA P 40 x6 1) fun x36_1 =>
    effK H ((storeA (Cx E) E.lim H 3 x36_1 x35_1).map skips) fun _ H =>
    purK (fieldAddrA P 40 x6 5) fun x37_1 =>
    purK (loadA (Cx E) H 3 x37_1) fun x38_1 =>
    purK (lenBA (Cx E) H 69 x30_1) fun x40_1 =>
    purK (foldsA maxA [x38_1, x40_1]) fun x41_1 =>
    purK (fieldAddrA P 40 x6 5) fun x42_1 =>
    effK H ((storeA (Cx E) E.lim H 3 x42_1 x41_1).map skips) fun _ H =>
    purK (lenBA (Cx E) H 69 x30_1) fun x44_1 =>
    N9_6_k (sp 80 [(0, x0), (2, x2), (4, x4), (6, x6), (25, x25), (26, x26), (27, x27), (43, x30_1), (44, x44_1), (45, (.int .i64 0))]) H (fun s H => N9_5_k s H kn k0 R J) (fun s H => N9_5_k s H kn k0 R J) k0 R J)
  (
    k0 (sp 80 [(2, x2), (4, x4), (6, x6)]) H) := by kernel_rfl
theorem N9_4b_eq (E : LE) (x0 x2 x4 x6 x25 x26 x27 : AV) (H : Heap) (kn k0 : KS) (R : RK) : N9_4b_k (sp 80 [(0, x0), (2, x2), (4, x4), (6, x6), (25, x25), (26, x26), (27, x27)]) H kn k0 R (jj E 9) = N9_4b E x0 x2 x4 x6 x25 x26 x27 H (fun x0 x2 x4 x6 x25 x26 x27 H => kn (sp 80 [(0, x0), (2, x2), (4, x4), (6, x6), (25, x25), (26, x26), (27, x27)]) H) (fun x2 x4 x6 H => k0 (sp 80 [(2, x2), (4, x4), (6, x6)]) H) := (jj_X E 9 _ _ H _).trans ((N9_4b_x E (jj E 9) x0 x2 x4 x6 x25 x26 x27 H kn k0 R).trans (by simp only [N9_4b, N9_5_eq, N9_6_eq]))
noncomputable def N9_4 (E : LE) (x0 x2 x4 x6 x25 x26 x27 : AV) (H : Heap) (kn : AV → AV → AV → Heap → Res) : Res :=
  loopL (fun (x : AV) H kl => N9_4b E x0 x2 x4 x6 x25 x26 x H (fun _ _ _ _ _ _ x27 H => kl x27 H) kn) E.k x27 H
theorem N9_4_eq (E : LE) (x0 x2 x4 x6 x25 x26 x27 : AV) (H : Heap) (kn : KS) (R : RK) : N9_4_k (sp 80 [(0, x0), (2, x2), (4, x4), (6, x6), (25, x25), (26, x26), (27, x27)]) H kn R (jj E 9) = N9_4 E x0 x2 x4 x6 x25 x26 x27 H (fun x2 x4 x6 H => kn (sp 80 [(2, x2), (4, x4), (6, x6)]) H) := by
  have e : Code.at [1, 1, 1, 1, 0, 1] c9 = Code.block 0 (Code.loop (Code.at [1, 1, 1, 1, 0, 1, 0, 0] c9)) := by kernel_rfl
  unfold N9_4_k N9_4 jj
  rw [e]
  rw [block_kk]
  exact loop_node [0, 2, 4, 6, 25, 26, 27] (fun x : AV => (sp 80 [(0, x0), (2, x2), (4, x4), (6, x6), (25, x25), (26, x26), (27, (x))])) (fun (x : AV) H kl => N9_4b E x0 x2 x4 x6 x25 x26 x H (fun _ _ _ _ _ _ x27 H => kl x27 H) (fun x2 x4 x6 H => kn (sp 80 [(2, x2), (4, x4), (6, x6)]) H)) (by kernel_rfl) (fun x => by kernel_rfl) (fun x H kl => by
    have h := N9_4b_eq E x0 x2 x4 x6 x25 x26 (x) H kl kn R
    unfold N9_4b_k jj at h
    exact h) x27 (sp 80 [(0, x0), (2, x2), (4, x4), (6, x6), (25, x25), (26, x26), (27, x27)]) H (by kernel_rfl)
noncomputable def L9 (E : LE) (x0 : AV) (H : Heap) : Res :=
  effK H (allocA (Cx E) H 40) fun x2 H =>
  resK (E.call E.lim 24 [x0] H) fun x15 H =>
  purK (extA 0 x15) fun x16 =>
  purK (extA 1 x15) fun x17 =>
  purK (binA P H .neq 28 x17 (.int .i64 0)) fun x19 =>
  condK x19
  (
    purK (buildA P 40 []) fun x20 =>
    effK H ((storeA (Cx E) E.lim H 40 x2 x20).map skips) fun _ H =>
    (retC (Cx E) [some 40, none]) [x2, x17] H)
  (
    purK (lenBA (Cx E) H 74 x16) fun x23 =>
    purK (buildA P 40 [(0, x23)]) fun x24 =>
    effK H (allocA (Cx E) H 40) fun x6 H =>
    effK H ((storeA (Cx E) E.lim H 40 x6 x24).map skips) fun _ H =>
    purK (lenBA (Cx E) H 74 x16) fun x26 =>
    N9_4 E x0 x2 x16 x6 x16 x26 (.int .i64 0) H (fun x2_1 x4 x6_1 H =>
      N9_1 E x2_1 x4 x6_1 H (retC (Cx E) [some 40, none])))
theorem L9_x (E : LE) (J : CodeF) (x0 : AV) (H : Heap) : jx E 9 J c9 [x0, (.tup []), (.tup []), (.tup []), (.tup []), (.tup []), (.tup []), (.tup []), (.tup []), (.tup []), (.tup []), (.tup []), (.tup []), (.tup []), (.tup []), (.tup []), (.tup []), (.tup []), (.tup []), (.tup []), (.tup []), (.tup []), (.tup []), (.tup []), (.tup []), (.tup []), (.tup []), (.tup []), (.tup []), (.tup []), (.tup []), (.tup []), (.tup []), (.tup []), (.tup []), (.tup []), (.tup []), (.tup []), (.tup []), (.tup []), (.tup []), (.tup []), (.tup []), (.tup []), (.tup []), (.tup []), (.tup []), (.tup []), (.tup []), (.tup []), (.tup []), (.tup []), (.tup []), (.tup []), (.tup []), (.tup []), (.tup []), (.tup []), (.tup []), (.tup []), (.tup []), (.tup []), (.tup []), (.tup []), (.tup []), (.tup []), (.tup []), (.tup []), (.tup []), (.tup []), (.tup []), (.tup []), (.tup []), (.tup []), (.tup []), (.tup []), (.tup []), (.tup []), (.tup []), (.tup [])] H (kk none (fun s H => (retC (Cx E) [some 40, none]) (([2, 3] : List Nat).map fun t => s.getD t (.tup [])) H) [] (retC (Cx E) [some 40, none]) [2, 3]) =
  effK H (allocA (Cx E) H 40) fun x2 H =>
  resK (E.call E.lim 24 [x0] H) fun x15 H =>
  purK (extA 0 x15) fun x16 =>
  purK (extA 1 x15) fun x17 =>
  purK (binA P H .neq 28 x17 (.int .i64 0)) fun x19 =>
  condK x19
  (
    purK (buildA P 40 []) fun x20 =>
    effK H ((storeA (Cx E) E.lim H 40 x2 x20).map skips) fun _ H =>
    (retC (Cx E) [some 40, none]) [x2, x17] H)
  (
    purK (lenBA (Cx E) H 74 x16) fun x23 =>
    purK (buildA P 40 [(0, x23)]) fun x24 =>
    effK H (allocA (Cx E) H 40) fun x6 H =>
    effK H ((storeA (Cx E) E.lim H 40 x6 x24).map skips) fun _ H =>
    purK (lenBA (Cx E) H 74 x16) fun x26 =>
    N9_4_k (sp 80 [(0, x0), (2, x2), (4, x16), (6, x6), (25, x16), (26, x26), (27, (.int .i64 0))]) H (fun s H => N9_1_k s H (retC (Cx E) [some 40, none]) J) (retC (Cx E) [some 40, none]) J) := by kernel_rfl
theorem G9 (E : LE) (x0 : AV) (H : Heap) : jj E 9 c9 [x0, (.tup []), (.tup []), (.tup []), (.tup []), (.tup []), (.tup []), (.tup []), (.tup []), (.tup []), (.tup []), (.tup []), (.tup []), (.tup []), (.tup []), (.tup []), (.tup []), (.tup []), (.tup []), (.tup []), (.tup []), (.tup []), (.tup []), (.tup []), (.tup []), (.tup []), (.tup []), (.tup []), (.tup []), (.tup []), (.tup []), (.tup []), (.tup []), (.tup []), (.tup []), (.tup []), (.tup []), (.tup []), (.tup []), (.tup []), (.tup []), (.tup []), (.tup []), (.tup []), (.tup []), (.tup []), (.tup []), (.tup []), (.tup []), (.tup []), (.tup []), (.tup []), (.tup []), (.tup []), (.tup []), (.tup []), (.tup []), (.tup []), (.tup []), (.tup []), (.tup []), (.tup []), (.tup []), (.tup []), (.tup []), (.tup []), (.tup []), (.tup []), (.tup []), (.tup []), (.tup []), (.tup []), (.tup []), (.tup []), (.tup []), (.tup []), (.tup []), (.tup []), (.tup []), (.tup [])] H (kk none (fun s H => (retC (Cx E) [some 40, none]) (([2, 3] : List Nat).map fun t => s.getD t (.tup [])) H) [] (retC (Cx E) [some 40, none]) [2, 3]) = L9 E x0 H := (jj_X E 9 _ _ H _).trans ((L9_x E (jj E 9) x0 H).trans (by simp only [L9, N9_1_eq, N9_4_eq]))
theorem E9 (ρ : Addr → Option Value) (k lim : Nat) (x0 : AV) (H : Heap) : evCall (cx ρ) (k + 1) lim 9 [x0] H = L9 ⟨ρ, evCall (cx ρ) k, (evCY (cx ρ) k).2, lim, k⟩ x0 H := by
  rw [evCall_cells (cx ρ) k lim 9 _ H Tryz.f9 c9 [2, 3] [some 40, none] (by kernel_rfl) (by kernel_rfl) (by kernel_rfl) (by kernel_rfl) (by kernel_rfl) (by kernel_rfl)]
  have h := G9 ⟨ρ, evCall (cx ρ) k, (evCY (cx ρ) k).2, lim, k⟩ x0 H
  unfold jj at h
  exact h
-- haycroft/audit.Sound
noncomputable def c10 : Code := Code.of Tryz.prog 10
noncomputable def N10_1_k (s : Slots) (H : Heap) (R : RK) (J : CodeF) : Res := J (Code.at [1, 1, 1, 1] c10) s H (kk none (fun s H => R (([2, 3] : List Nat).map fun t => s.getD t (.tup [])) H) [] R [2, 3])
noncomputable def N10_1 (E : LE) (x5 : AV) (H : Heap) (R : RK) : Res :=
  R [x5, (.int .i64 0)] H
theorem N10_1_eq (E : LE) (x5 : AV) (H : Heap) (R : RK) : N10_1_k (sp 47 [(5, x5)]) H R (jj E 10) = N10_1 E x5 H R := by kernel_rfl
noncomputable def N10_2_k (s : Slots) (H : Heap) (kn : KS) (R : RK) (J : CodeF) : Res := J (Code.at [1, 1, 1, 0, 1] c10) s H (kk (some [5]) kn [] R [2, 3])
noncomputable def N10_2b_k (s : Slots) (H : Heap) (kn k0 : KS) (R : RK) (J : CodeF) : Res := J (Code.at [1, 1, 1, 0, 1, 0, 0] c10) s H (kk (some [0, 5, 18, 19]) kn [(0, (some [5]), k0)] R [2, 3])
noncomputable def N10_3_k (s : Slots) (H : Heap) (kn k0 : KS) (R : RK) (J : CodeF) : Res := J (Code.at [1, 1, 1, 0, 1, 0, 0, 1, 1, 1] c10) s H (kk (some [0, 5, 18, 19]) kn [(0, (some [5]), k0)] R [2, 3])
noncomputable def N10_3 (E : LE) (x0 x5 x18 x19 : AV) (H : Heap) (kn : AV → AV → AV → AV → Heap → Res) : Res :=
  purK (binA P H .add 3 x19 (.int .i64 1)) fun x45_1 =>
  kn x0 x5 x18 x45_1 H
theorem N10_3_eq (E : LE) (x0 x5 x18 x19 : AV) (H : Heap) (kn k0 : KS) (R : RK) : N10_3_k (sp 47 [(0, x0), (5, x5), (18, x18), (19, x19)]) H kn k0 R (jj E 10) = N10_3 E x0 x5 x18 x19 H (fun x0 x5 x18 x19 H => kn (sp 47 [(0, x0), (5, x5), (18, x18), (19, x19)]) H) := by kernel_rfl
noncomputable def N10_4_k (s : Slots) (H : Heap) (kn k1 k0 : KS) (R : RK) (J : CodeF) : Res := J (Code.at [1, 1, 1, 0, 1, 0, 0, 1, 1, 0, 0, 1, 1] c10) s H (kk (some [0, 5, 18, 19]) kn [(1, (some [0, 5, 18, 19]), k1), (0, (some [5]), k0)] R [2, 3])
noncomputable def N10_4b_k (s : Slots) (H : Heap) (kn k2 k1 k0 : KS) (R : RK) (J : CodeF) : Res := J (Code.at [1, 1, 1, 0, 1, 0, 0, 1, 1, 0, 0, 1, 1, 0, 0] c10) s H (kk (some [0, 5, 6, 18, 19, 24, 25, 26]) kn [(2, (some [0, 5, 18, 19]), k2), (1, (some [0, 5, 18, 19]), k1), (0, (some [5]), k0)] R [2, 3])
noncomputable def N10_4b (E : LE) (x0 x5 x6 x18 x19 x24 x25 x26 : AV) (H : Heap) (kn : AV → AV → AV → AV → AV → AV → AV → AV → Heap → Res) (k2 : AV → AV → AV → AV → Heap → Res) (R : RK) : Res :=
  purK (binA P H .lss 3 x26 x25) fun x27_1 =>
  condK x27_1
  (
    purK (indexAddrA P 87 x24 x26) fun x28_1 =>
    purK (loadA (Cx E) H 90 x28_1) fun x29_1 =>
    effK H (allocA (Cx E) H 90) fun x8_1 H =>
    effK H ((storeA (Cx E) E.lim H 90 x8_1 x29_1).map skips) fun _ H =>
    purK (loadA (Cx E) H 90 x8_1) fun x32_1 =>
    resK (E.call E.lim 32 [x0, x32_1, x6] H) fun x34_1 H =>
    purK (extA 0 x34_1) fun x35_1 =>
    purK (extA 1 x34_1) fun x36_1 =>
    purK (binA P H .neq 28 x36_1 (.int .i64 0)) fun x38_1 =>
    condK x38_1
    (
      R [(.bool false), x36_1] H)
    (
      purK (gPur (wantV x5 true) (some x35_1)) fun x42_1 =>
      purK (pickA x5 x42_1 (.bool false)) fun x43_1 =>
      purK (binA P H .add 3 x26 (.int .i64 1)) fun x44_1 =>
      kn x0 x43_1 x6 x18 x19 x24 x25 x44_1 H))
  (
    k2 x0 x5 x18 x19 H)
theorem N10_4b_eq (E : LE) (x0 x5 x6 x18 x19 x24 x25 x26 : AV) (H : Heap) (kn k2 k1 k0 : KS) (R : RK) : N10_4b_k (sp 47 [(0, x0), (5, x5), (6, x6), (18, x18), (19, x19), (24, x24), (25, x25), (26, x26)]) H kn k2 k1 k0 R (jj E 10) = N10_4b E x0 x5 x6 x18 x19 x24 x25 x26 H (fun x0 x5 x6 x18 x19 x24 x25 x26 H => kn (sp 47 [(0, x0), (5, x5), (6, x6), (18, x18), (19, x19), (24, x24), (25, x25), (26, x26)]) H) (fun x0 x5 x18 x19 H => k2 (sp 47 [(0, x0), (5, x5), (18, x18), (19, x19)]) H) R := by kernel_rfl
noncomputable def N10_4 (E : LE) (x0 x5 x6 x18 x19 x24 x25 x26 : AV) (H : Heap) (kn : AV → AV → AV → AV → Heap → Res) (R : RK) : Res :=
  loopL (fun (x : AV × AV) H kl => N10_4b E x0 x.1 x6 x18 x19 x24 x25 x.2 H (fun _ x5 _ _ _ _ _ x26 H => kl (x5, x26) H) kn R) E.k (x5, x26) H
theorem N10_4_eq (E : LE) (x0 x5 x6 x18 x19 x24 x25 x26 : AV) (H : Heap) (kn k1 k0 : KS) (R : RK) : N10_4_k (sp 47 [(0, x0), (5, x5), (6, x6), (18, x18), (19, x19), (24, x24), (25, x25), (26, x26)]) H kn k1 k0 R (jj E 10) = N10_4 E x0 x5 x6 x18 x19 x24 x25 x26 H (fun x0 x5 x18 x19 H => kn (sp 47 [(0, x0), (5, x5), (18, x18), (19, x19)]) H) R := by
  have e : Code.at [1, 1, 1, 0, 1, 0, 0, 1, 1, 0, 0, 1, 1] c10 = Code.block 2 (Code.loop (Code.at [1, 1, 1, 0, 1, 0, 0, 1, 1, 0, 0, 1, 1, 0, 0] c10)) := by kernel_rfl
  unfold N10_4_k N10_4 jj
  rw [e]
  rw [block_kk]
  exact loop_node [0, 5, 6, 18, 19, 24, 25, 26] (fun x : AV × AV => (sp 47 [(0, x0), (5, (x.1)), (6, x6), (18, x18), (19, x19), (24, x24), (25, x25), (26, (x.2))])) (fun (x : AV × AV) H kl => N10_4b E x0 x.1 x6 x18 x19 x24 x25 x.2 H (fun _ x5 _ _ _ _ _ x26 H => kl (x5, x26) H) (fun x0 x5 x18 x19 H => kn (sp 47 [(0, x0), (5, x5), (18, x18), (19, x19)]) H) R) (by kernel_rfl) (fun x => by kernel_rfl) (fun x H kl => by
    have h := N10_4b_eq E x0 (x.1) x6 x18 x19 x24 x25 (x.2) H kl kn k1 k0 R
    unfold N10_4b_k jj at h
    exact h) (x5, x26) (sp 47 [(0, x0), (5, x5), (6, x6), (18, x18), (19, x19), (24, x24), (25, x25), (26, x26)]) H (by kernel_rfl)
noncomputable def N10_2b (E : LE) (x0 x5 x18 x19 : AV) (H : Heap) (kn : AV → AV → AV → AV → Heap → Res) (k0 : AV → Heap → Res) (R : RK) : Res :=
  purK (binA P H .lss 3 x19 x18) fun x20_1 =>
  condK x20_1
  (
    resK (E.call E.lim 31 [x0, x19] H) fun x24_1 H =>
    purK (lenBA (Cx E) H 87 x24_1) fun x25_1 =>
    N10_4 E x0 x5 x19 x18 x19 x24_1 x25_1 (.int .i64 0) H (fun x0_1 x5_1 x18_1 x19_1 H =>
      N10_3 E x0_1 x5_1 x18_1 x19_1 H kn) R)
  (
    k0 x5 H)
theorem N10_2b_x (E : LE) (J : CodeF) (x0 x5 x18 x19 : AV) (H : Heap) (kn k0 : KS) (R : RK) : N10_2b_k (sp 47 [(0, x0), (5, x5), (18, x18), (19, x19)]) H kn k0 R (jx E 10 J) =
  purK (binA P H .lss 3 x19 x18) fun x20_1 =>
  condK x20_1
  (
    resK (E.call E.lim 31 [x0, x19] H) fun x24_1 H =>
    purK (lenBA (Cx E) H 87 x24_1) fun x25_1 =>
    N10_4_k (sp 47 [(0, x0), (5, x5), (6, x19), (18, x18), (19, x19), (24, x24_1), (25, x25_1), (26, (.int .i64 0))]) H (fun s H => N10_3_k s H kn k0 R J) (fun s H => N10_3_k s H kn k0 R J) k0 R J)
  (
    k0 (sp 47 [(5, x5)]) H) := by kernel_rfl
theorem N10_2b_eq (E : LE) (x0 x5 x18 x19 : AV) (H : Heap) (kn k0 : KS) (R : RK) : N10_2b_k (sp 47 [(0, x0), (5, x5), (18, x18), (19, x19)]) H kn k0 R (jj E 10) = N10_2b E x0 x5 x18 x19 H (fun x0 x5 x18 x19 H => kn (sp 47 [(0, x0), (5, x5), (18, x18), (19, x19)]) H) (fun x5 H => k0 (sp 47 [(5, x5)]) H) R := (jj_X E 10 _ _ H _).trans ((N10_2b_x E (jj E 10) x0 x5 x18 x19 H kn k0 R).trans (by simp only [N10_2b, N10_3_eq, N10_4_eq]))
noncomputable def N10_2 (E : LE) (x0 x5 x18 x19 : AV) (H : Heap) (kn : AV → Heap → Res) (R : RK) : Res :=
  loopL (fun (x : AV × AV) H kl => N10_2b E x0 x.1 x18 x.2 H (fun _ x5 _ x19 H => kl (x5, x19) H) kn R) E.k (x5, x19) H
theorem N10_2_eq (E : LE) (x0 x5 x18 x19 : AV) (H : Heap) (kn : KS) (R : RK) : N10_2_k (sp 47 [(0, x0), (5, x5), (18, x18), (19, x19)]) H kn R (jj E 10) = N10_2 E x0 x5 x18 x19 H (fun x5 H => kn (sp 47 [(5, x5)]) H) R := by
  have e : Code.at [1, 1, 1, 0, 1] c10 = Code.block 0 (Code.loop (Code.at [1, 1, 1, 0, 1, 0, 0] c10)) := by kernel_rfl
  unfold N10_2_k N10_2 jj
  rw [e]
  rw [block_kk]
  exact loop_node [0, 5, 18, 19] (fun x : AV × AV => (sp 47 [(0, x0), (5, (x.1)), (18, x18), (19, (x.2))])) (fun (x : AV × AV) H kl => N10_2b E x0 x.1 x18 x.2 H (fun _ x5 _ x19 H => kl (x5, x19) H) (fun x5 H => kn (sp 47 [(5, x5)]) H) R) (by kernel_rfl) (fun x => by kernel_rfl) (fun x H kl => by
    have h := N10_2b_eq E x0 (x.1) x18 (x.2) H kl kn R
    unfold N10_2b_k jj at h
    exact h) (x5, x19) (sp 47 [(0, x0), (5, x5), (18, x18), (19, x19)]) H (by kernel_rfl)
noncomputable def L10 (E : LE) (x0 : AV) (H : Heap) : Res :=
  resK (E.call E.lim 16 [x0] H) fun x12 H =>
  purK (binA P H .neq 28 x12 (.int .i64 0)) fun x14 =>
  condK x14
  (
    retK [(.bool false), x12] H)
  (
    resK (E.call E.lim 21 [x0] H) fun x17 H =>
    purK (fieldA P 52 x17 3) fun x18 =>
    N10_2 E x0 (.bool true) x18 (.int .i64 0) H (fun x5 H =>
      N10_1 E x5 H retK) retK)
theorem L10_x (E : LE) (J : CodeF) (x0 : AV) (H : Heap) : jx E 10 J c10 [x0, (.tup []), (.tup []), (.tup []), (.tup []), (.tup []), (.tup []), (.tup []), (.tup []), (.tup []), (.tup []), (.tup []), (.tup []), (.tup []), (.tup []), (.tup []), (.tup []), (.tup []), (.tup []), (.tup []), (.tup []), (.tup []), (.tup []), (.tup []), (.tup []), (.tup []), (.tup []), (.tup []), (.tup []), (.tup []), (.tup []), (.tup []), (.tup []), (.tup []), (.tup []), (.tup []), (.tup []), (.tup []), (.tup []), (.tup []), (.tup []), (.tup []), (.tup []), (.tup []), (.tup []), (.tup []), (.tup [])] H (kk none (fun s H => retK (([2, 3] : List Nat).map fun t => s.getD t (.tup [])) H) [] retK [2, 3]) =
  resK (E.call E.lim 16 [x0] H) fun x12 H =>
  purK (binA P H .neq 28 x12 (.int .i64 0)) fun x14 =>
  condK x14
  (
    retK [(.bool false), x12] H)
  (
    resK (E.call E.lim 21 [x0] H) fun x17 H =>
    purK (fieldA P 52 x17 3) fun x18 =>
    N10_2_k (sp 47 [(0, x0), (5, (.bool true)), (18, x18), (19, (.int .i64 0))]) H (fun s H => N10_1_k s H retK J) retK J) := by kernel_rfl
theorem G10 (E : LE) (x0 : AV) (H : Heap) : jj E 10 c10 [x0, (.tup []), (.tup []), (.tup []), (.tup []), (.tup []), (.tup []), (.tup []), (.tup []), (.tup []), (.tup []), (.tup []), (.tup []), (.tup []), (.tup []), (.tup []), (.tup []), (.tup []), (.tup []), (.tup []), (.tup []), (.tup []), (.tup []), (.tup []), (.tup []), (.tup []), (.tup []), (.tup []), (.tup []), (.tup []), (.tup []), (.tup []), (.tup []), (.tup []), (.tup []), (.tup []), (.tup []), (.tup []), (.tup []), (.tup []), (.tup []), (.tup []), (.tup []), (.tup []), (.tup []), (.tup []), (.tup [])] H (kk none (fun s H => retK (([2, 3] : List Nat).map fun t => s.getD t (.tup [])) H) [] retK [2, 3]) = L10 E x0 H := (jj_X E 10 _ _ H _).trans ((L10_x E (jj E 10) x0 H).trans (by simp only [L10, N10_1_eq, N10_2_eq]))
theorem E10 (ρ : Addr → Option Value) (k lim : Nat) (x0 : AV) (H : Heap) : evCall (cx ρ) (k + 1) lim 10 [x0] H = L10 ⟨ρ, evCall (cx ρ) k, (evCY (cx ρ) k).2, lim, k⟩ x0 H := by
  rw [evCall_body (cx ρ) k lim 10 _ H Tryz.f10 c10 [2, 3] (by kernel_rfl) (by kernel_rfl) (by kernel_rfl) (by kernel_rfl) (by kernel_rfl)]
  have h := G10 ⟨ρ, evCall (cx ρ) k, (evCY (cx ρ) k).2, lim, k⟩ x0 H
  unfold jj at h
  exact h
-- haycroft/audit.Mine
noncomputable def c11 : Code := Code.of Tryz.prog 11
noncomputable def N11_1_k (s : Slots) (H : Heap) (R : RK) (J : CodeF) : Res := J (Code.at [1, 1, 1, 1, 1, 1, 1, 1, 1] c11) s H (kk none (fun s H => R (([4, 5, 6] : List Nat).map fun t => s.getD t (.tup [])) H) [] R [4, 5, 6])
noncomputable def N11_1 (E : LE) (H : Heap) (R : RK) : Res :=
  R [(.int .u64 0), (.bool false), (.int .i64 0)] H
theorem N11_1_eq (E : LE) (H : Heap) (R : RK) : N11_1_k (sp 67 []) H R (jj E 11) = N11_1 E H R := by kernel_rfl
noncomputable def N11_2_k (s : Slots) (H : Heap) (kn : KS) (R : RK) (J : CodeF) : Res := J (Code.at [1, 1, 1, 1, 1, 1, 1, 1, 0, 1] c11) s H (kk (some []) kn [] R [4, 5, 6])
noncomputable def N11_2b_k (s : Slots) (H : Heap) (kn k0 : KS) (R : RK) (J : CodeF) : Res := J (Code.at [1, 1, 1, 1, 1, 1, 1, 1, 0, 1, 0, 0] c11) s H (kk (some [1, 53, 54, 55]) kn [(0, (some []), k0)] R [4, 5, 6])
noncomputable def N11_2b (E : LE) (x1 x53 x54 x55 : AV) (H : Heap) (kn : AV → AV → AV → AV → Heap → Res) (k0 : Heap → Res) (R : RK) : Res :=
  purK (binA P H .lss 3 x55 x54) fun x56_1 =>
  condK x56_1
  (
    purK (indexAddrA P 69 x53 x55) fun x57_1 =>
    purK (loadA (Cx E) H 73 x57_1) fun x58_1 =>
    effK H (allocA (Cx E) H 73) fun x13_1 H =>
    effK H ((storeA (Cx E) E.lim H 73 x13_1 x58_1).map skips) fun _ H =>
    purK (fieldAddrA P 73 x13_1 1) fun x59_1 =>
    purK (fieldAddrA P 27 x59_1 1) fun x60_1 =>
    purK (loadA (Cx E) H 9 x60_1) fun x61_1 =>
    purK (binA P H .eql 9 x61_1 x1) fun x63_1 =>
    condK x63_1
    (
      purK (fieldAddrA P 73 x13_1 0) fun x64_1 =>
      purK (loadA (Cx E) H 22 x64_1) fun x65_1 =>
      R [x65_1, (.bool true), (.int .i64 0)] H)
    (
      purK (binA P H .add 3 x55 (.int .i64 1)) fun x66_1 =>
      kn x1 x53 x54 x66_1 H))
  (
    k0 H)
theorem N11_2b_eq (E : LE) (x1 x53 x54 x55 : AV) (H : Heap) (kn k0 : KS) (R : RK) : N11_2b_k (sp 67 [(1, x1), (53, x53), (54, x54), (55, x55)]) H kn k0 R (jj E 11) = N11_2b E x1 x53 x54 x55 H (fun x1 x53 x54 x55 H => kn (sp 67 [(1, x1), (53, x53), (54, x54), (55, x55)]) H) (fun H => k0 (sp 67 []) H) R := by kernel_rfl
noncomputable def N11_2 (E : LE) (x1 x53 x54 x55 : AV) (H : Heap) (kn : Heap → Res) (R : RK) : Res :=
  loopL (fun (x : AV) H kl => N11_2b E x1 x53 x54 x H (fun _ _ _ x55 H => kl x55 H) kn R) E.k x55 H
theorem N11_2_eq (E : LE) (x1 x53 x54 x55 : AV) (H : Heap) (kn : KS) (R : RK) : N11_2_k (sp 67 [(1, x1), (53, x53), (54, x54), (55, x55)]) H kn R (jj E 11) = N11_2 E x1 x53 x54 x55 H (fun H => kn (sp 67 []) H) R := by
  have e : Code.at [1, 1, 1, 1, 1, 1, 1, 1, 0, 1] c11 = Code.block 0 (Code.loop (Code.at [1, 1, 1, 1, 1, 1, 1, 1, 0, 1, 0, 0] c11)) := by kernel_rfl
  unfold N11_2_k N11_2 jj
  rw [e]
  rw [block_kk]
  exact loop_node [1, 53, 54, 55] (fun x : AV => (sp 67 [(1, x1), (53, x53), (54, x54), (55, (x))])) (fun (x : AV) H kl => N11_2b E x1 x53 x54 x H (fun _ _ _ x55 H => kl x55 H) (fun H => kn (sp 67 []) H) R) (by kernel_rfl) (fun x => by kernel_rfl) (fun x H kl => by
    have h := N11_2b_eq E x1 x53 x54 (x) H kl kn R
    unfold N11_2b_k jj at h
    exact h) x55 (sp 67 [(1, x1), (53, x53), (54, x54), (55, x55)]) H (by kernel_rfl)
noncomputable def L11 (E : LE) (x0 x1 : AV) (H : Heap) : Res :=
  resK (E.call E.lim 16 [x0] H) fun x15 H =>
  purK (binA P H .neq 28 x15 (.int .i64 0)) fun x17 =>
  condK x17
  (
    retK [(.int .u64 0), (.bool false), x15] H)
  (
    resK (E.call E.lim 33 [x0] H) fun x21 H =>
    resK (E.call E.lim 35 [x1] H) fun x23 H =>
    resK (E.call E.lim 34 [x21, x23] H) fun x24 H =>
    purK (extA 0 x24) fun x25 =>
    purK (extA 1 x24) fun x26 =>
    effK H (allocA (Cx E) H 93) fun x8 H =>
    effK H ((storeA (Cx E) E.lim H 93 x8 x25).map skips) fun _ H =>
    purK (binA P H .neq 28 x26 (.int .i64 0)) fun x28 =>
    purK (gPur (wantV x28 false) (fieldAddrA P 93 x8 0)) fun x30 =>
    purK (gPur (wantV x28 false) (loadA (Cx E) H 3 x30)) fun x31 =>
    purK (gPur (wantV x28 false) (binA P H .neq 3 x31 (.int .i64 1))) fun x32 =>
    purK (pickA x28 (.bool true) x32) fun x33 =>
    condK x33
    (
      retK [(.int .u64 0), (.bool false), x26] H)
    (
      purK (fieldAddrA P 93 x8 2) fun x36 =>
      purK (loadA (Cx E) H 22 x36) fun x37 =>
      resK (E.call E.lim 36 [x37] H) fun x38 H =>
      purK (extA 0 x38) fun x39 =>
      purK (extA 1 x38) fun x40 =>
      effK H (allocA (Cx E) H 90) fun x10 H =>
      effK H ((storeA (Cx E) E.lim H 90 x10 x39).map skips) fun _ H =>
      purK (binA P H .neq 28 x40 (.int .i64 0)) fun x42 =>
      condK x42
      (
        retK [(.int .u64 0), (.bool false), (.int .i64 4)] H)
      (
        purK (fieldAddrA P 90 x10 0) fun x45 =>
        purK (loadA (Cx E) H 22 x45) fun x46 =>
        resK (E.call E.lim 23 [x0, x46] H) fun x47 H =>
        purK (extA 0 x47) fun x48 =>
        purK (extA 1 x47) fun x49 =>
        purK (binA P H .neq 28 x49 (.int .i64 0)) fun x51 =>
        condK x51
        (
          retK [(.int .u64 0), (.bool false), x49] H)
        (
          purK (lenBA (Cx E) H 69 x48) fun x54 =>
          N11_2 E x1 x48 x54 (.int .i64 0) H (fun H =>
            N11_1 E H retK) retK))))
theorem L11_x (E : LE) (J : CodeF) (x0 x1 : AV) (H : Heap) : jx E 11 J c11 [x0, x1, (.tup []), (.tup []), (.tup []), (.tup []), (.tup []), (.tup []), (.tup []), (.tup []), (.tup []), (.tup []), (.tup []), (.tup []), (.tup []), (.tup []), (.tup []), (.tup []), (.tup []), (.tup []), (.tup []), (.tup []), (.tup []), (.tup []), (.tup []), (.tup []), (.tup []), (.tup []), (.tup []), (.tup []), (.tup []), (.tup []), (.tup []), (.tup []), (.tup []), (.tup []), (.tup []), (.tup []), (.tup []), (.tup []), (.tup []), (.tup []), (.tup []), (.tup []), (.tup []), (.tup []), (.tup []), (.tup []), (.tup []), (.tup []), (.tup []), (.tup []), (.tup []), (.tup []), (.tup []), (.tup []), (.tup []), (.tup []), (.tup []), (.tup []), (.tup []), (.tup []), (.tup []), (.tup []), (.tup []), (.tup []), (.tup [])] H (kk none (fun s H => retK (([4, 5, 6] : List Nat).map fun t => s.getD t (.tup [])) H) [] retK [4, 5, 6]) =
  resK (E.call E.lim 16 [x0] H) fun x15 H =>
  purK (binA P H .neq 28 x15 (.int .i64 0)) fun x17 =>
  condK x17
  (
    retK [(.int .u64 0), (.bool false), x15] H)
  (
    resK (E.call E.lim 33 [x0] H) fun x21 H =>
    resK (E.call E.lim 35 [x1] H) fun x23 H =>
    resK (E.call E.lim 34 [x21, x23] H) fun x24 H =>
    purK (extA 0 x24) fun x25 =>
    purK (extA 1 x24) fun x26 =>
    effK H (allocA (Cx E) H 93) fun x8 H =>
    effK H ((storeA (Cx E) E.lim H 93 x8 x25).map skips) fun _ H =>
    purK (binA P H .neq 28 x26 (.int .i64 0)) fun x28 =>
    purK (gPur (wantV x28 false) (fieldAddrA P 93 x8 0)) fun x30 =>
    purK (gPur (wantV x28 false) (loadA (Cx E) H 3 x30)) fun x31 =>
    purK (gPur (wantV x28 false) (binA P H .neq 3 x31 (.int .i64 1))) fun x32 =>
    purK (pickA x28 (.bool true) x32) fun x33 =>
    condK x33
    (
      retK [(.int .u64 0), (.bool false), x26] H)
    (
      purK (fieldAddrA P 93 x8 2) fun x36 =>
      purK (loadA (Cx E) H 22 x36) fun x37 =>
      resK (E.call E.lim 36 [x37] H) fun x38 H =>
      purK (extA 0 x38) fun x39 =>
      purK (extA 1 x38) fun x40 =>
      effK H (allocA (Cx E) H 90) fun x10 H =>
      effK H ((storeA (Cx E) E.lim H 90 x10 x39).map skips) fun _ H =>
      purK (binA P H .neq 28 x40 (.int .i64 0)) fun x42 =>
      condK x42
      (
        retK [(.int .u64 0), (.bool false), (.int .i64 4)] H)
      (
        purK (fieldAddrA P 90 x10 0) fun x45 =>
        purK (loadA (Cx E) H 22 x45) fun x46 =>
        resK (E.call E.lim 23 [x0, x46] H) fun x47 H =>
        purK (extA 0 x47) fun x48 =>
        purK (extA 1 x47) fun x49 =>
        purK (binA P H .neq 28 x49 (.int .i64 0)) fun x51 =>
        condK x51
        (
          retK [(.int .u64 0), (.bool false), x49] H)
        (
          purK (lenBA (Cx E) H 69 x48) fun x54 =>
          N11_2_k (sp 67 [(1, x1), (53, x48), (54, x54), (55, (.int .i64 0))]) H (fun s H => N11_1_k s H retK J) retK J)))) := by kernel_rfl
theorem G11 (E : LE) (x0 x1 : AV) (H : Heap) : jj E 11 c11 [x0, x1, (.tup []), (.tup []), (.tup []), (.tup []), (.tup []), (.tup []), (.tup []), (.tup []), (.tup []), (.tup []), (.tup []), (.tup []), (.tup []), (.tup []), (.tup []), (.tup []), (.tup []), (.tup []), (.tup []), (.tup []), (.tup []), (.tup []), (.tup []), (.tup []), (.tup []), (.tup []), (.tup []), (.tup []), (.tup []), (.tup []), (.tup []), (.tup []), (.tup []), (.tup []), (.tup []), (.tup []), (.tup []), (.tup []), (.tup []), (.tup []), (.tup []), (.tup []), (.tup []), (.tup []), (.tup []), (.tup []), (.tup []), (.tup []), (.tup []), (.tup []), (.tup []), (.tup []), (.tup []), (.tup []), (.tup []), (.tup []), (.tup []), (.tup []), (.tup []), (.tup []), (.tup []), (.tup []), (.tup []), (.tup []), (.tup [])] H (kk none (fun s H => retK (([4, 5, 6] : List Nat).map fun t => s.getD t (.tup [])) H) [] retK [4, 5, 6]) = L11 E x0 x1 H := (jj_X E 11 _ _ H _).trans ((L11_x E (jj E 11) x0 x1 H).trans (by simp only [L11, N11_1_eq, N11_2_eq]))
theorem E11 (ρ : Addr → Option Value) (k lim : Nat) (x0 x1 : AV) (H : Heap) : evCall (cx ρ) (k + 1) lim 11 [x0, x1] H = L11 ⟨ρ, evCall (cx ρ) k, (evCY (cx ρ) k).2, lim, k⟩ x0 x1 H := by
  rw [evCall_body (cx ρ) k lim 11 _ H Tryz.f11 c11 [4, 5, 6] (by kernel_rfl) (by kernel_rfl) (by kernel_rfl) (by kernel_rfl) (by kernel_rfl)]
  have h := G11 ⟨ρ, evCall (cx ρ) k, (evCY (cx ρ) k).2, lim, k⟩ x0 x1 H
  unfold jj at h
  exact h
-- haycroft/store.Open
noncomputable def c12 : Code := Code.of Tryz.prog 12
noncomputable def L12 (E : LE) (x0 x1 : AV) (H : Heap) : Res :=
  effK H (boxA H 52 x0) fun x2 H =>
  purK (binA P H .eql 54 x1 .nilp) fun x10 =>
  condK x10
  (
    retK [.nilp, (.int .i64 2)] H)
  (
    purK (loadA (Cx E) H 52 x2) fun x12 =>
    resK (E.call E.lim 37 [x12] H) fun x13 H =>
    purK (unA .not x13) fun x14 =>
    condK x14
    (
      retK [.nilp, (.int .i64 1)] H)
    (
      resK (E.call E.lim 38 [x1] H) fun x17 H =>
      purK (unA .not x17) fun x18 =>
      condK x18
      (
        retK [.nilp, (.int .i64 6)] H)
      (
        purK (loadA (Cx E) H 52 x2) fun x20 =>
        resK (E.call E.lim 39 [x20, x1] H) fun x22 H =>
        purK (extA 0 x22) fun x23 =>
        purK (extA 1 x22) fun x24 =>
        purK (binA P H .neq 28 x24 (.int .i64 0)) fun x26 =>
        condK x26
        (
          retK [.nilp, x24] H)
        (
          purK (loadA (Cx E) H 52 x2) fun x28 =>
          purK (buildA P 106 [(0, x28), (1, x1), (2, x23)]) fun x31 =>
          effK H (boxA H 106 x31) fun x32 H =>
          retK [x32, (.int .i64 0)] H))))
theorem G12 (E : LE) (x0 x1 : AV) (H : Heap) : jj E 12 c12 [x0, x1, (.tup []), (.tup []), (.tup []), (.tup []), (.tup []), (.tup []), (.tup []), (.tup []), (.tup []), (.tup []), (.tup []), (.tup []), (.tup []), (.tup []), (.tup []), (.tup []), (.tup []), (.tup []), (.tup []), (.tup []), (.tup []), (.tup []), (.tup []), (.tup []), (.tup []), (.tup []), (.tup []), (.tup []), (.tup []), (.tup []), (.tup [])] H (kk none (fun s H => retK (([4, 5] : List Nat).map fun t => s.getD t (.tup [])) H) [] retK [4, 5]) = L12 E x0 x1 H := by kernel_rfl
theorem E12 (ρ : Addr → Option Value) (k lim : Nat) (x0 x1 : AV) (H : Heap) : evCall (cx ρ) (k + 1) lim 12 [x0, x1] H = L12 ⟨ρ, evCall (cx ρ) k, (evCY (cx ρ) k).2, lim, k⟩ x0 x1 H := by
  rw [evCall_body (cx ρ) k lim 12 _ H Tryz.f12 c12 [4, 5] (by kernel_rfl) (by kernel_rfl) (by kernel_rfl) (by kernel_rfl) (by kernel_rfl)]
  have h := G12 ⟨ρ, evCall (cx ρ) k, (evCY (cx ρ) k).2, lim, k⟩ x0 x1 H
  unfold jj at h
  exact h
-- haycroft/haycroftlaw24.Plain
noncomputable def c13 : Code := Code.of Tryz.prog 13
noncomputable def L13 (E : LE) (H : Heap) : Res :=
  effK H (allocA (Cx E) H 52) fun x0 H =>
  purK (buildA P 52 [(0, (.int .i64 5)), (1, (.int .i64 2)), (2, (.int .i64 8)), (3, (.int .i64 1)), (4, (.int .i64 1)), (5, (.int .i64 2))]) fun x1 =>
  effK H ((storeA (Cx E) E.lim H 52 x0 x1).map skips) fun _ H =>
  (retC (Cx E) [some 52]) [x0] H
theorem G13 (E : LE) (H : Heap) : jj E 13 c13 [(.tup []), (.tup [])] H (kk none (fun s H => (retC (Cx E) [some 52]) (([0] : List Nat).map fun t => s.getD t (.tup [])) H) [] (retC (Cx E) [some 52]) [0]) = L13 E H := by kernel_rfl
theorem E13 (ρ : Addr → Option Value) (k lim : Nat) (H : Heap) : evCall (cx ρ) (k + 1) lim 13 [] H = L13 ⟨ρ, evCall (cx ρ) k, (evCY (cx ρ) k).2, lim, k⟩ H := by
  rw [evCall_cells (cx ρ) k lim 13 _ H Tryz.f13 c13 [0] [some 52] (by kernel_rfl) (by kernel_rfl) (by kernel_rfl) (by kernel_rfl) (by kernel_rfl) (by kernel_rfl)]
  have h := G13 ⟨ρ, evCall (cx ρ) k, (evCY (cx ρ) k).2, lim, k⟩ H
  unfold jj at h
  exact h
-- haycroft/device.New
noncomputable def c14 : Code := Code.of Tryz.prog 14
noncomputable def L14 (E : LE) (H : Heap) : Res :=
  effK H (some (makeMapA H)) fun x1 H =>
  effK H (some (makeMapA H)) fun x2 H =>
  effK H (some (makeMapA H)) fun x3 H =>
  purK (buildA P 111 [(1, x1), (2, x2), (3, x3)]) fun x4 =>
  effK H (boxA H 111 x4) fun x5 H =>
  retK [x5] H
theorem G14 (E : LE) (H : Heap) : jj E 14 c14 [(.tup []), (.tup []), (.tup []), (.tup []), (.tup []), (.tup [])] H (kk none (fun s H => retK (([0] : List Nat).map fun t => s.getD t (.tup [])) H) [] retK [0]) = L14 E H := by kernel_rfl
theorem E14 (ρ : Addr → Option Value) (k lim : Nat) (H : Heap) : evCall (cx ρ) (k + 1) lim 14 [] H = L14 ⟨ρ, evCall (cx ρ) k, (evCY (cx ρ) k).2, lim, k⟩ H := by
  rw [evCall_body (cx ρ) k lim 14 _ H Tryz.f14 c14 [0] (by kernel_rfl) (by kernel_rfl) (by kernel_rfl) (by kernel_rfl) (by kernel_rfl)]
  have h := G14 ⟨ρ, evCall (cx ρ) k, (evCY (cx ρ) k).2, lim, k⟩ H
  unfold jj at h
  exact h
-- (*haycroft/store.Store).Do
noncomputable def c15 : Code := Code.of Tryz.prog 15
noncomputable def L15 (E : LE) (x0 x1 : AV) (H : Heap) : Res :=
  effK H (boxA H 62 x1) fun x3 H =>
  purK (loadA (Cx E) H 62 x3) fun x8 =>
  resK (E.call E.lim 40 [x0, x8] H) fun x9 H =>
  purK (binA P H .neq 28 x9 (.int .i64 0)) fun x11 =>
  condK x11
  (
    retK [(.int .i64 0), x9] H)
  (
    purK (fieldAddrA P 62 x3 0) fun x13 =>
    purK (loadA (Cx E) H 3 x13) fun x14 =>
    purK (binA P H .eql 3 x14 (.int .i64 1)) fun x16 =>
    condK x16
    (
      purK (loadA (Cx E) H 62 x3) fun x18 =>
      resK (E.call E.lim 41 [x0, x18] H) fun x19 H =>
      purK (extA 0 x19) fun x20 =>
      purK (extA 1 x19) fun x21 =>
      retK [x20, x21] H)
    (
      purK (binA P H .eql 3 x14 (.int .i64 2)) fun x23 =>
      condK x23
      (
        purK (nilChkA x0) fun x25 =>
        purK (fieldAddrA P 106 x25 2) fun x26 =>
        purK (loadA (Cx E) H 102 x26) fun x27 =>
        purK (nilChkA x27) fun x28 =>
        purK (fieldAddrA P 117 x28 2) fun x29 =>
        purK (loadA (Cx E) H 114 x29) fun x30 =>
        purK (fieldAddrA P 62 x3 1) fun x31 =>
        purK (loadA (Cx E) H 3 x31) fun x32 =>
        purK (indexAddrA P 114 x30 x32) fun x33 =>
        purK (loadA (Cx E) H 113 x33) fun x34 =>
        resK (E.call E.lim 42 [x34] H) fun x35 H =>
        purK (extA 0 x35) fun x36 =>
        purK (extA 1 x35) fun x37 =>
        retK [x36, x37] H)
      (
        purK (binA P H .eql 3 x14 (.int .i64 3)) fun x39 =>
        condK x39
        (
          purK (nilChkA x0) fun x41 =>
          purK (fieldAddrA P 106 x41 2) fun x42 =>
          purK (loadA (Cx E) H 102 x42) fun x43 =>
          purK (nilChkA x43) fun x44 =>
          purK (fieldAddrA P 117 x44 2) fun x45 =>
          purK (loadA (Cx E) H 114 x45) fun x46 =>
          purK (fieldAddrA P 62 x3 1) fun x47 =>
          purK (loadA (Cx E) H 3 x47) fun x48 =>
          purK (indexAddrA P 114 x46 x48) fun x49 =>
          purK (loadA (Cx E) H 113 x49) fun x50 =>
          resK (E.call E.lim 43 [x50] H) fun x51 H =>
          purK (extA 0 x51) fun x52 =>
          purK (extA 1 x51) fun x53 =>
          retK [x52, x53] H)
        (
          purK (binA P H .eql 3 x14 (.int .i64 4)) fun x55 =>
          condK x55
          (
            purK (fieldAddrA P 62 x3 2) fun x57 =>
            purK (loadA (Cx E) H 3 x57) fun x58 =>
            resK (E.call E.lim 44 [x0, x58] H) fun x59 H =>
            purK (extA 0 x59) fun x60 =>
            purK (extA 1 x59) fun x61 =>
            retK [x60, x61] H)
          (
            purK (binA P H .eql 3 x14 (.int .i64 5)) fun x63 =>
            condK x63
            (
              purK (nilChkA x0) fun x65 =>
              purK (fieldAddrA P 106 x65 2) fun x66 =>
              purK (loadA (Cx E) H 102 x66) fun x67 =>
              purK (nilChkA x67) fun x68 =>
              purK (fieldAddrA P 117 x68 0) fun x69 =>
              purK (loadA (Cx E) H 84 x69) fun x70 =>
              purK (fieldAddrA P 62 x3 2) fun x71 =>
              purK (loadA (Cx E) H 3 x71) fun x72 =>
              resK (E.call E.lim 45 [x70, x72] H) fun x73 H =>
              retK [(.int .i64 0), x73] H)
            (
              purK (binA P H .eql 3 x14 (.int .i64 6)) fun x75 =>
              condK x75
              (
                purK (nilChkA x0) fun x77 =>
                purK (fieldAddrA P 106 x77 2) fun x78 =>
                purK (loadA (Cx E) H 102 x78) fun x79 =>
                purK (nilChkA x79) fun x80 =>
                purK (fieldAddrA P 117 x80 0) fun x81 =>
                purK (loadA (Cx E) H 84 x81) fun x82 =>
                purK (fieldAddrA P 62 x3 2) fun x83 =>
                purK (loadA (Cx E) H 3 x83) fun x84 =>
                resK (E.call E.lim 46 [x82, x84] H) fun x85 H =>
                retK [(.int .i64 0), x85] H)
              (
                purK (binA P H .eql 3 x14 (.int .i64 7)) fun x87 =>
                condK x87
                (
                  purK (nilChkA x0) fun x89 =>
                  purK (fieldAddrA P 106 x89 2) fun x90 =>
                  purK (loadA (Cx E) H 102 x90) fun x91 =>
                  purK (nilChkA x91) fun x92 =>
                  purK (fieldAddrA P 117 x92 0) fun x93 =>
                  purK (loadA (Cx E) H 84 x93) fun x94 =>
                  purK (fieldAddrA P 62 x3 2) fun x95 =>
                  purK (loadA (Cx E) H 3 x95) fun x96 =>
                  resK (E.call E.lim 47 [x94, x96] H) fun x97 H =>
                  purK (extA 0 x97) fun x98 =>
                  purK (extA 1 x97) fun x99 =>
                  retK [x98, x99] H)
                (
                  purK (binA P H .eql 3 x14 (.int .i64 8)) fun x101 =>
                  condK x101
                  (
                    resK (E.call E.lim 48 [x0] H) fun x103 H =>
                    purK (extA 0 x103) fun x104 =>
                    purK (extA 1 x103) fun x105 =>
                    retK [x104, x105] H)
                  (
                    purK (binA P H .eql 3 x14 (.int .i64 9)) fun x107 =>
                    condK x107
                    (
                      purK (fieldAddrA P 62 x3 4) fun x109 =>
                      purK (loadA (Cx E) H 60 x109) fun x110 =>
                      resK (E.call E.lim 49 [x0, x110] H) fun x111 H =>
                      purK (extA 0 x111) fun x112 =>
                      purK (extA 1 x111) fun x113 =>
                      retK [x112, x113] H)
                    (
                      resK (E.call E.lim 50 [x0] H) fun x115 H =>
                      purK (extA 0 x115) fun x116 =>
                      purK (extA 1 x115) fun x117 =>
                      retK [x116, x117] H))))))))))
theorem G15 (E : LE) (x0 x1 : AV) (H : Heap) : jj E 15 c15 [x0, x1, (.tup []), (.tup []), (.tup []), (.tup []), (.tup []), (.tup []), (.tup []), (.tup []), (.tup []), (.tup []), (.tup []), (.tup []), (.tup []), (.tup []), (.tup []), (.tup []), (.tup []), (.tup []), (.tup []), (.tup []), (.tup []), (.tup []), (.tup []), (.tup []), (.tup []), (.tup []), (.tup []), (.tup []), (.tup []), (.tup []), (.tup []), (.tup []), (.tup []), (.tup []), (.tup []), (.tup []), (.tup []), (.tup []), (.tup []), (.tup []), (.tup []), (.tup []), (.tup []), (.tup []), (.tup []), (.tup []), (.tup []), (.tup []), (.tup []), (.tup []), (.tup []), (.tup []), (.tup []), (.tup []), (.tup []), (.tup []), (.tup []), (.tup []), (.tup []), (.tup []), (.tup []), (.tup []), (.tup []), (.tup []), (.tup []), (.tup []), (.tup []), (.tup []), (.tup []), (.tup []), (.tup []), (.tup []), (.tup []), (.tup []), (.tup []), (.tup []), (.tup []), (.tup []), (.tup []), (.tup []), (.tup []), (.tup []), (.tup []), (.tup []), (.tup []), (.tup []), (.tup []), (.tup []), (.tup []), (.tup []), (.tup []), (.tup []), (.tup []), (.tup []), (.tup []), (.tup []), (.tup []), (.tup []), (.tup []), (.tup []), (.tup []), (.tup []), (.tup []), (.tup []), (.tup []), (.tup []), (.tup []), (.tup []), (.tup []), (.tup []), (.tup []), (.tup []), (.tup []), (.tup []), (.tup []), (.tup [])] H (kk none (fun s H => retK (([4, 5] : List Nat).map fun t => s.getD t (.tup [])) H) [] retK [4, 5]) = L15 E x0 x1 H := by kernel_rfl
theorem E15 (ρ : Addr → Option Value) (k lim : Nat) (x0 x1 : AV) (H : Heap) : evCall (cx ρ) (k + 1) lim 15 [x0, x1] H = L15 ⟨ρ, evCall (cx ρ) k, (evCY (cx ρ) k).2, lim, k⟩ x0 x1 H := by
  rw [evCall_body (cx ρ) k lim 15 _ H Tryz.f15 c15 [4, 5] (by kernel_rfl) (by kernel_rfl) (by kernel_rfl) (by kernel_rfl) (by kernel_rfl)]
  have h := G15 ⟨ρ, evCall (cx ρ) k, (evCY (cx ρ) k).2, lim, k⟩ x0 x1 H
  unfold jj at h
  exact h
-- haycroft/audit.may
noncomputable def c16 : Code := Code.of Tryz.prog 16
noncomputable def L16 (E : LE) (x0 : AV) (H : Heap) : Res :=
  purK (binA P H .eql 48 x0 .nilp) fun x5 =>
  condK x5
  (
    retK [(.int .i64 2)] H)
  (
    resK (E.call E.lim 51 [x0] H) fun x8 H =>
    purK (unA .not x8) fun x9 =>
    condK x9
    (
      retK [(.int .i64 6)] H)
    (
      retK [(.int .i64 0)] H))
theorem G16 (E : LE) (x0 : AV) (H : Heap) : jj E 16 c16 [x0, (.tup []), (.tup []), (.tup []), (.tup []), (.tup []), (.tup []), (.tup []), (.tup []), (.tup [])] H (kk none (fun s H => retK (([2] : List Nat).map fun t => s.getD t (.tup [])) H) [] retK [2]) = L16 E x0 H := by kernel_rfl
theorem E16 (ρ : Addr → Option Value) (k lim : Nat) (x0 : AV) (H : Heap) : evCall (cx ρ) (k + 1) lim 16 [x0] H = L16 ⟨ρ, evCall (cx ρ) k, (evCY (cx ρ) k).2, lim, k⟩ x0 H := by
  rw [evCall_body (cx ρ) k lim 16 _ H Tryz.f16 c16 [2] (by kernel_rfl) (by kernel_rfl) (by kernel_rfl) (by kernel_rfl) (by kernel_rfl)]
  have h := G16 ⟨ρ, evCall (cx ρ) k, (evCY (cx ρ) k).2, lim, k⟩ x0 H
  unfold jj at h
  exact h
-- haycroft/place.Right
noncomputable def c17 : Code := Code.of Tryz.prog 17
noncomputable def L17 (E : LE) (x0 : AV) (H : Heap) : Res :=
  purK (binA P H .gtr 22 x0 (.int .u64 0)) fun x4 =>
  purK (gPur (wantV x4 true) (some x0)) fun x6 =>
  purK (gPur (wantV x4 true) (binA P H .leq 22 x6 (.int .u64 281474976710655))) fun x7 =>
  purK (pickA x4 x7 (.bool false)) fun x8 =>
  retK [x8] H
theorem G17 (E : LE) (x0 : AV) (H : Heap) : jj E 17 c17 [x0, (.tup []), (.tup []), (.tup []), (.tup []), (.tup []), (.tup []), (.tup []), (.tup [])] H (kk none (fun s H => retK (([2] : List Nat).map fun t => s.getD t (.tup [])) H) [] retK [2]) = L17 E x0 H := by kernel_rfl
theorem E17 (ρ : Addr → Option Value) (k lim : Nat) (x0 : AV) (H : Heap) : evCall (cx ρ) (k + 1) lim 17 [x0] H = L17 ⟨ρ, evCall (cx ρ) k, (evCY (cx ρ) k).2, lim, k⟩ x0 H := by
  rw [evCall_body (cx ρ) k lim 17 _ H Tryz.f17 c17 [2] (by kernel_rfl) (by kernel_rfl) (by kernel_rfl) (by kernel_rfl) (by kernel_rfl)]
  have h := G17 ⟨ρ, evCall (cx ρ) k, (evCY (cx ρ) k).2, lim, k⟩ x0 H
  unfold jj at h
  exact h
-- haycroft/audit.words
noncomputable def c18 : Code := Code.of Tryz.prog 18
noncomputable def L18 (E : LE) (x0 x1 : AV) (H : Heap) : Res :=
  resK (E.call E.lim 21 [x0] H) fun x15 H =>
  purK (fieldA P 52 x15 0) fun x16 =>
  resK (E.call E.lim 52 [x16, x1] H) fun x18 H =>
  resK (E.call E.lim 29 [x0] H) fun x21 H =>
  resK (E.call E.lim 53 [x21] H) fun x22 H =>
  resK (E.call E.lim 54 [x22, x18] H) fun x24 H =>
  purK (extA 0 x24) fun x25 =>
  purK (extA 1 x24) fun x26 =>
  purK (binA P H .eql 28 x26 (.int .i64 0)) fun x28 =>
  purK (gPur (wantV x28 true) (some x0)) fun x30 =>
  resK (gRes (wantV x28 true) H (E.call E.lim 29 [x30] H)) fun x31 H =>
  purK (gPur (wantV x28 true) (some x1)) fun x32 =>
  resK (gRes (wantV x28 true) H (E.call E.lim 30 [x31, x32] H)) fun x33 H =>
  purK (gPur (wantV x28 true) (binA P H .neq 3 x33 (.int .i64 4))) fun x34 =>
  purK (pickA x28 x34 (.bool false)) fun x35 =>
  condK x35
  (
    retK [x25, (.int .i64 0)] H)
  (
    resK (E.call E.lim 55 [x0] H) fun x39 H =>
    purK (buildA P 128 [(0, (.int .i64 0)), (1, x18)]) fun x41 =>
    resK (E.call E.lim 56 [x39, x41] H) fun x42 H =>
    purK (extA 0 x42) fun x43 =>
    purK (extA 1 x42) fun x44 =>
    purK (unA .not x44) fun x46 =>
    condK x46
    (
      retK [.nils, (.int .i64 7)] H)
    (
      resK (E.call E.lim 57 [x43] H) fun x49 H =>
      purK (extA 0 x49) fun x50 =>
      purK (extA 1 x49) fun x51 =>
      purK (extA 2 x49) fun x52 =>
      purK (binA P H .neq 28 x52 (.int .i64 0)) fun x54 =>
      purK (gPur (wantV x54 false) (some x50)) fun x56 =>
      purK (gPur (wantV x54 false) (some x18)) fun x57 =>
      purK (gPur (wantV x54 false) (binA P H .neq 3 x56 x57)) fun x58 =>
      purK (pickA x54 (.bool true) x58) fun x59 =>
      purK (gPur (wantV x59 false) (some x51)) fun x61 =>
      purK (gPur (wantV x59 false) (lenBA (Cx E) H 31 x61)) fun x62 =>
      purK (gPur (wantV x59 false) (some x0)) fun x63 =>
      resK (gRes (wantV x59 false) H (E.call E.lim 21 [x63] H)) fun x64 H =>
      purK (gPur (wantV x59 false) (fieldA P 52 x64 0)) fun x65 =>
      resK (gRes (wantV x59 false) H (E.call E.lim 58 [x65] H)) fun x66 H =>
      purK (gPur (wantV x59 false) (binA P H .neq 3 x62 x66)) fun x67 =>
      purK (pickA x59 (.bool true) x67) fun x68 =>
      condK x68
      (
        retK [.nils, (.int .i64 4)] H)
      (
        retK [x51, (.int .i64 0)] H)))
theorem G18 (E : LE) (x0 x1 : AV) (H : Heap) : jj E 18 c18 [x0, x1, (.tup []), (.tup []), (.tup []), (.tup []), (.tup []), (.tup []), (.tup []), (.tup []), (.tup []), (.tup []), (.tup []), (.tup []), (.tup []), (.tup []), (.tup []), (.tup []), (.tup []), (.tup []), (.tup []), (.tup []), (.tup []), (.tup []), (.tup []), (.tup []), (.tup []), (.tup []), (.tup []), (.tup []), (.tup []), (.tup []), (.tup []), (.tup []), (.tup []), (.tup []), (.tup []), (.tup []), (.tup []), (.tup []), (.tup []), (.tup []), (.tup []), (.tup []), (.tup []), (.tup []), (.tup []), (.tup []), (.tup []), (.tup []), (.tup []), (.tup []), (.tup []), (.tup []), (.tup []), (.tup []), (.tup []), (.tup []), (.tup []), (.tup []), (.tup []), (.tup []), (.tup []), (.tup []), (.tup []), (.tup []), (.tup []), (.tup []), (.tup []), (.tup [])] H (kk none (fun s H => retK (([4, 5] : List Nat).map fun t => s.getD t (.tup [])) H) [] retK [4, 5]) = L18 E x0 x1 H := by kernel_rfl
theorem E18 (ρ : Addr → Option Value) (k lim : Nat) (x0 x1 : AV) (H : Heap) : evCall (cx ρ) (k + 1) lim 18 [x0, x1] H = L18 ⟨ρ, evCall (cx ρ) k, (evCY (cx ρ) k).2, lim, k⟩ x0 x1 H := by
  rw [evCall_body (cx ρ) k lim 18 _ H Tryz.f18 c18 [4, 5] (by kernel_rfl) (by kernel_rfl) (by kernel_rfl) (by kernel_rfl) (by kernel_rfl)]
  have h := G18 ⟨ρ, evCall (cx ρ) k, (evCY (cx ρ) k).2, lim, k⟩ x0 x1 H
  unfold jj at h
  exact h
-- slices.Clone[[]uint64,uint64]
noncomputable def c19 : Code := Code.of Tryz.prog 19
noncomputable def L19 (E : LE) (x0 : AV) (H : Heap) : Res :=
  purK (binA P H .eql 31 x0 .nils) fun x4 =>
  condK x4
  (
    retK [.nils] H)
  (
    effK H (buildSliceA (Cx E) H 31 0 []) fun x5 H =>
    effK H (builtinA (Cx E) E.lim H .append #[31, 31] [x5, x0]) fun x7 H =>
    retK [x7] H)
theorem G19 (E : LE) (x0 : AV) (H : Heap) : jj E 19 c19 [x0, (.tup []), (.tup []), (.tup []), (.tup []), (.tup []), (.tup []), (.tup [])] H (kk none (fun s H => retK (([2] : List Nat).map fun t => s.getD t (.tup [])) H) [] retK [2]) = L19 E x0 H := by kernel_rfl
theorem E19 (ρ : Addr → Option Value) (k lim : Nat) (x0 : AV) (H : Heap) : evCall (cx ρ) (k + 1) lim 19 [x0] H = L19 ⟨ρ, evCall (cx ρ) k, (evCY (cx ρ) k).2, lim, k⟩ x0 H := by
  rw [evCall_body (cx ρ) k lim 19 _ H Tryz.f19 c19 [2] (by kernel_rfl) (by kernel_rfl) (by kernel_rfl) (by kernel_rfl) (by kernel_rfl)]
  have h := G19 ⟨ρ, evCall (cx ρ) k, (evCY (cx ρ) k).2, lim, k⟩ x0 H
  unfold jj at h
  exact h
-- haycroft/place.Offset
noncomputable def c20 : Code := Code.of Tryz.prog 20
noncomputable def L20 (E : LE) (x0 x1 : AV) (H : Heap) : Res :=
  resK (E.call E.lim 59 [x0, x1, (.int .i64 0), x0] H) fun x8 H =>
  retK [x8] H
theorem G20 (E : LE) (x0 x1 : AV) (H : Heap) : jj E 20 c20 [x0, x1, (.tup []), (.tup []), (.tup []), (.tup []), (.tup []), (.tup []), (.tup [])] H (kk none (fun s H => retK (([4] : List Nat).map fun t => s.getD t (.tup [])) H) [] retK [4]) = L20 E x0 x1 H := by kernel_rfl
theorem E20 (ρ : Addr → Option Value) (k lim : Nat) (x0 x1 : AV) (H : Heap) : evCall (cx ρ) (k + 1) lim 20 [x0, x1] H = L20 ⟨ρ, evCall (cx ρ) k, (evCY (cx ρ) k).2, lim, k⟩ x0 x1 H := by
  rw [evCall_body (cx ρ) k lim 20 _ H Tryz.f20 c20 [4] (by kernel_rfl) (by kernel_rfl) (by kernel_rfl) (by kernel_rfl) (by kernel_rfl)]
  have h := G20 ⟨ρ, evCall (cx ρ) k, (evCY (cx ρ) k).2, lim, k⟩ x0 x1 H
  unfold jj at h
  exact h
-- (*haycroft/store.Store).Config
noncomputable def c21 : Code := Code.of Tryz.prog 21
noncomputable def L21 (E : LE) (x0 : AV) (H : Heap) : Res :=
  effK H (allocA (Cx E) H 52) fun x2 H =>
  purK (binA P H .eql 48 x0 .nilp) fun x4 =>
  condK x4
  (
    purK (buildA P 52 []) fun x5 =>
    effK H ((storeA (Cx E) E.lim H 52 x2 x5).map skips) fun _ H =>
    (retC (Cx E) [some 52]) [x2] H)
  (
    purK (nilChkA x0) fun x7 =>
    purK (fieldAddrA P 106 x7 0) fun x8 =>
    purK (loadA (Cx E) H 52 x8) fun x9 =>
    effK H ((storeA (Cx E) E.lim H 52 x2 x9).map skips) fun _ H =>
    (retC (Cx E) [some 52]) [x2] H)
theorem G21 (E : LE) (x0 : AV) (H : Heap) : jj E 21 c21 [x0, (.tup []), (.tup []), (.tup []), (.tup []), (.tup []), (.tup []), (.tup []), (.tup []), (.tup [])] H (kk none (fun s H => (retC (Cx E) [some 52]) (([2] : List Nat).map fun t => s.getD t (.tup [])) H) [] (retC (Cx E) [some 52]) [2]) = L21 E x0 H := by kernel_rfl
theorem E21 (ρ : Addr → Option Value) (k lim : Nat) (x0 : AV) (H : Heap) : evCall (cx ρ) (k + 1) lim 21 [x0] H = L21 ⟨ρ, evCall (cx ρ) k, (evCY (cx ρ) k).2, lim, k⟩ x0 H := by
  rw [evCall_cells (cx ρ) k lim 21 _ H Tryz.f21 c21 [2] [some 52] (by kernel_rfl) (by kernel_rfl) (by kernel_rfl) (by kernel_rfl) (by kernel_rfl) (by kernel_rfl)]
  have h := G21 ⟨ρ, evCall (cx ρ) k, (evCY (cx ρ) k).2, lim, k⟩ x0 H
  unfold jj at h
  exact h
-- haycroft/record.Of
noncomputable def c22 : Code := Code.of Tryz.prog 22
noncomputable def L22 (E : LE) (x0 : AV) (H : Heap) : Res :=
  effK H (allocA (Cx E) H 27) fun x2 H =>
  resK (E.call E.lim 60 [x0] H) fun x18 H =>
  purK (extA 0 x18) fun x19 =>
  purK (extA 1 x18) fun x20 =>
  purK (extA 2 x18) fun x21 =>
  purK (binA P H .neq 28 x21 (.int .i64 0)) fun x23 =>
  condK x23
  (
    purK (buildA P 27 []) fun x24 =>
    effK H ((storeA (Cx E) E.lim H 27 x2 x24).map skips) fun _ H =>
    (retC (Cx E) [some 27, none, none]) [x2, (.int .i64 0), x21] H)
  (
    resK (E.call E.lim 61 [x19, x20] H) fun x28 H =>
    purK (lenBA (Cx E) H 31 x0) fun x30 =>
    purK (binA P H .lss 3 x30 x28) fun x32 =>
    condK x32
    (
      purK (buildA P 27 []) fun x33 =>
      effK H ((storeA (Cx E) E.lim H 27 x2 x33).map skips) fun _ H =>
      (retC (Cx E) [some 27, none, none]) [x2, (.int .i64 0), (.int .i64 3)] H)
    (
      purK (indexAddrA P 31 x0 (.int .i64 0)) fun x36 =>
      purK (loadA (Cx E) H 22 x36) fun x37 =>
      resK (E.call E.lim 62 [x37] H) fun x38 H =>
      purK (extA 0 x38) fun x39 =>
      purK (extA 1 x38) fun x40 =>
      effK H (allocA (Cx E) H 25) fun x9 H =>
      effK H ((storeA (Cx E) E.lim H 25 x9 x39).map skips) fun _ H =>
      resK (E.call E.lim 64 [x19] H) fun x44 H =>
      purK (sliceA P 31 x0 (some (.int .i64 3)) (some x44) none) fun x45 =>
      resK (E.call E.lim 63 [x45, x19] H) fun x47 H =>
      purK (extA 0 x47) fun x48 =>
      purK (extA 1 x47) fun x49 =>
      resK (E.call E.lim 64 [x19] H) fun x53 H =>
      purK (sliceA P 31 x0 (some x53) (some x28) none) fun x55 =>
      resK (E.call E.lim 63 [x55, x20] H) fun x57 H =>
      purK (extA 0 x57) fun x58 =>
      purK (extA 1 x57) fun x59 =>
      purK (loadA (Cx E) H 25 x9) fun x60 =>
      purK (buildA P 27 [(0, x60), (1, x48), (2, x58)]) fun x63 =>
      effK H (allocA (Cx E) H 27) fun x14 H =>
      effK H ((storeA (Cx E) E.lim H 27 x14 x63).map skips) fun _ H =>
      purK (indexAddrA P 31 x0 (.int .i64 1)) fun x65 =>
      purK (loadA (Cx E) H 22 x65) fun x66 =>
      purK (indexAddrA P 31 x0 (.int .i64 1)) fun x68 =>
      purK (loadA (Cx E) H 22 x68) fun x69 =>
      resK (E.call E.lim 65 [x69] H) fun x70 H => bif (agn (loadA (Cx E) H 22 x65) x66 && true) then
        purK (binA P H .eql 22 x66 x70) fun x71 =>
        purK (binA P H .neq 28 x40 (.int .i64 0)) fun x73 =>
        purK (gPur (wantV x73 false) (some x49)) fun x75 =>
        purK (gPur (wantV x73 false) (binA P H .neq 28 x75 (.int .i64 0))) fun x76 =>
        purK (pickA x73 (.bool true) x76) fun x77 =>
        purK (gPur (wantV x77 false) (some x59)) fun x79 =>
        purK (gPur (wantV x77 false) (binA P H .neq 28 x79 (.int .i64 0))) fun x80 =>
        purK (pickA x77 (.bool true) x80) fun x81 =>
        purK (gPur (wantV x81 false) (some x71)) fun x83 =>
        purK (gPur (wantV x81 false) (unA .not x83)) fun x84 =>
        purK (pickA x81 (.bool true) x84) fun x85 =>
        purK (gPur (wantV x85 false) (loadA (Cx E) H 27 x14)) fun x87 =>
        resK (gRes (wantV x85 false) H (E.call E.lim 66 [x87] H)) fun x88 H =>
        purK (gPur (wantV x85 false) (binA P H .neq 28 x88 (.int .i64 0))) fun x89 =>
        purK (pickA x85 (.bool true) x89) fun x90 =>
        condK x90
        (
          purK (buildA P 27 []) fun x91 =>
          effK H ((storeA (Cx E) E.lim H 27 x2 x91).map skips) fun _ H =>
          (retC (Cx E) [some 27, none, none]) [x2, (.int .i64 0), (.int .i64 4)] H)
        (
          purK (loadA (Cx E) H 27 x14) fun x92 =>
          effK H ((storeA (Cx E) E.lim H 27 x2 x92).map skips) fun _ H =>
          (retC (Cx E) [some 27, none, none]) [x2, x28, (.int .i64 0)] H)
      else none))
theorem G22 (E : LE) (x0 : AV) (H : Heap) : jj E 22 c22 [x0, (.tup []), (.tup []), (.tup []), (.tup []), (.tup []), (.tup []), (.tup []), (.tup []), (.tup []), (.tup []), (.tup []), (.tup []), (.tup []), (.tup []), (.tup []), (.tup []), (.tup []), (.tup []), (.tup []), (.tup []), (.tup []), (.tup []), (.tup []), (.tup []), (.tup []), (.tup []), (.tup []), (.tup []), (.tup []), (.tup []), (.tup []), (.tup []), (.tup []), (.tup []), (.tup []), (.tup []), (.tup []), (.tup []), (.tup []), (.tup []), (.tup []), (.tup []), (.tup []), (.tup []), (.tup []), (.tup []), (.tup []), (.tup []), (.tup []), (.tup []), (.tup []), (.tup []), (.tup []), (.tup []), (.tup []), (.tup []), (.tup []), (.tup []), (.tup []), (.tup []), (.tup []), (.tup []), (.tup []), (.tup []), (.tup []), (.tup []), (.tup []), (.tup []), (.tup []), (.tup []), (.tup []), (.tup []), (.tup []), (.tup []), (.tup []), (.tup []), (.tup []), (.tup []), (.tup []), (.tup []), (.tup []), (.tup []), (.tup []), (.tup []), (.tup []), (.tup []), (.tup []), (.tup []), (.tup []), (.tup []), (.tup []), (.tup []), (.tup [])] H (kk none (fun s H => (retC (Cx E) [some 27, none, none]) (([2, 3, 4] : List Nat).map fun t => s.getD t (.tup [])) H) [] (retC (Cx E) [some 27, none, none]) [2, 3, 4]) = L22 E x0 H := by kernel_rfl
theorem E22 (ρ : Addr → Option Value) (k lim : Nat) (x0 : AV) (H : Heap) : evCall (cx ρ) (k + 1) lim 22 [x0] H = L22 ⟨ρ, evCall (cx ρ) k, (evCY (cx ρ) k).2, lim, k⟩ x0 H := by
  rw [evCall_cells (cx ρ) k lim 22 _ H Tryz.f22 c22 [2, 3, 4] [some 27, none, none] (by kernel_rfl) (by kernel_rfl) (by kernel_rfl) (by kernel_rfl) (by kernel_rfl) (by kernel_rfl)]
  have h := G22 ⟨ρ, evCall (cx ρ) k, (evCY (cx ρ) k).2, lim, k⟩ x0 H
  unfold jj at h
  exact h
-- haycroft/audit.links
noncomputable def c23 : Code := Code.of Tryz.prog 23
noncomputable def N23_1_k (s : Slots) (H : Heap) (R : RK) (J : CodeF) : Res := J (Code.at [1, 1] c23) s H (kk none (fun s H => R (([4, 5] : List Nat).map fun t => s.getD t (.tup [])) H) [] R [4, 5])
noncomputable def N23_2_k (s : Slots) (H : Heap) (R : RK) (J : CodeF) : Res := J (Code.at [1, 1, 1] c23) s H (kk none (fun s H => R (([4, 5] : List Nat).map fun t => s.getD t (.tup [])) H) [] R [4, 5])
noncomputable def N23_2 (E : LE) (x6 : AV) (H : Heap) (R : RK) : Res :=
  R [x6, (.int .i64 0)] H
theorem N23_2_eq (E : LE) (x6 : AV) (H : Heap) (R : RK) : N23_2_k (sp 35 [(6, x6)]) H R (jj E 23) = N23_2 E x6 H R := by kernel_rfl
noncomputable def N23_3_k (s : Slots) (H : Heap) (kn k0 : KS) (R : RK) (J : CodeF) : Res := J (Code.at [1, 1, 0, 0] c23) s H (kk (some [6]) kn [(0, (some [6]), k0)] R [4, 5])
noncomputable def N23_3b_k (s : Slots) (H : Heap) (kn k0 : KS) (R : RK) (J : CodeF) : Res := J (Code.at [1, 1, 0, 0, 0] c23) s H (kk (some [0, 1, 6]) kn [(0, (some [6]), k0)] R [4, 5])
noncomputable def N23_3b (E : LE) (x0 x1 x6 : AV) (H : Heap) (kn : AV → AV → AV → Heap → Res) (k0 : AV → Heap → Res) (R : RK) : Res :=
  purK (binA P H .neq 22 x1 (.int .u64 0)) fun x10_1 =>
  condK x10_1
  (
    resK (E.call E.lim 5 [x0, x1] H) fun x14_1 H =>
    purK (extA 0 x14_1) fun x15_1 =>
    purK (extA 1 x14_1) fun x16_1 =>
    effK H (allocA (Cx E) H 27) fun x7_1 H =>
    effK H ((storeA (Cx E) E.lim H 27 x7_1 x15_1).map skips) fun _ H =>
    purK (binA P H .neq 28 x16_1 (.int .i64 0)) fun x18_1 =>
    condK x18_1
    (
      R [.nils, x16_1] H)
    (
      purK (fieldAddrA P 27 x7_1 0) fun x20_1 =>
      purK (fieldAddrA P 25 x20_1 0) fun x21_1 =>
      purK (loadA (Cx E) H 22 x21_1) fun x22_1 =>
      purK (binA P H .geq 22 x22_1 x1) fun x24_1 =>
      condK x24_1
      (
        R [.nils, (.int .i64 4)] H)
      (
        purK (loadA (Cx E) H 27 x7_1) fun x27_1 =>
        purK (buildA P 73 [(0, x1), (1, x27_1)]) fun x28_1 =>
        effK H (buildSliceA (Cx E) H 69 1 [(0, x28_1)]) fun x29_1 H =>
        effK H (builtinA (Cx E) E.lim H .append #[69, 69] [x6, x29_1]) fun x30_1 H =>
        purK (fieldAddrA P 27 x7_1 0) fun x31_1 =>
        purK (fieldAddrA P 25 x31_1 0) fun x32_1 =>
        purK (loadA (Cx E) H 22 x32_1) fun x33_1 =>
        kn x0 x33_1 x30_1 H)))
  (
    k0 x6 H)
theorem N23_3b_eq (E : LE) (x0 x1 x6 : AV) (H : Heap) (kn k0 : KS) (R : RK) : N23_3b_k (sp 35 [(0, x0), (1, x1), (6, x6)]) H kn k0 R (jj E 23) = N23_3b E x0 x1 x6 H (fun x0 x1 x6 H => kn (sp 35 [(0, x0), (1, x1), (6, x6)]) H) (fun x6 H => k0 (sp 35 [(6, x6)]) H) R := by kernel_rfl
noncomputable def N23_3 (E : LE) (x0 x1 x6 : AV) (H : Heap) (k0 : AV → Heap → Res) (R : RK) : Res :=
  loopL (fun (x : AV × AV) H kl => N23_3b E x0 x.1 x.2 H (fun _ x1 x6 H => kl (x1, x6) H) k0 R) E.k (x1, x6) H
theorem N23_3_eq (E : LE) (x0 x1 x6 : AV) (H : Heap) (kn k0 : KS) (R : RK) : N23_3_k (sp 35 [(0, x0), (1, x1), (6, x6)]) H kn k0 R (jj E 23) = N23_3 E x0 x1 x6 H (fun x6 H => k0 (sp 35 [(6, x6)]) H) R := by
  have e : Code.at [1, 1, 0, 0] c23 = Code.loop (Code.at [1, 1, 0, 0, 0] c23) := by kernel_rfl
  unfold N23_3_k N23_3 jj
  rw [e]
  exact loop_node [0, 1, 6] (fun x : AV × AV => (sp 35 [(0, x0), (1, (x.1)), (6, (x.2))])) (fun (x : AV × AV) H kl => N23_3b E x0 x.1 x.2 H (fun _ x1 x6 H => kl (x1, x6) H) (fun x6 H => k0 (sp 35 [(6, x6)]) H) R) (by kernel_rfl) (fun x => by kernel_rfl) (fun x H kl => by
    have h := N23_3b_eq E x0 (x.1) (x.2) H kl k0 R
    unfold N23_3b_k jj at h
    exact h) (x1, x6) (sp 35 [(0, x0), (1, x1), (6, x6)]) H (by kernel_rfl)
noncomputable def N23_1 (E : LE) (x0 x1 x6 : AV) (H : Heap) (R : RK) : Res :=
  N23_3 E x0 x1 x6 H (fun x6_1 H =>
    N23_2 E x6_1 H R) R
theorem N23_1_x (E : LE) (J : CodeF) (x0 x1 x6 : AV) (H : Heap) (R : RK) : N23_1_k (sp 35 [(0, x0), (1, x1), (6, x6)]) H R (jx E 23 J) =
  N23_3_k (sp 35 [(0, x0), (1, x1), (6, x6)]) H (fun s H => N23_2_k s H R J) (fun s H => N23_2_k s H R J) R J := by kernel_rfl
theorem N23_1_eq (E : LE) (x0 x1 x6 : AV) (H : Heap) (R : RK) : N23_1_k (sp 35 [(0, x0), (1, x1), (6, x6)]) H R (jj E 23) = N23_1 E x0 x1 x6 H R := (jj_X E 23 _ _ H _).trans ((N23_1_x E (jj E 23) x0 x1 x6 H R).trans (by simp only [N23_1, N23_2_eq, N23_3_eq]))
noncomputable def L23 (E : LE) (x0 x1 : AV) (H : Heap) : Res :=
  N23_1 E x0 x1 .nils H retK
theorem L23_x (E : LE) (J : CodeF) (x0 x1 : AV) (H : Heap) : jx E 23 J c23 [x0, x1, (.tup []), (.tup []), (.tup []), (.tup []), (.tup []), (.tup []), (.tup []), (.tup []), (.tup []), (.tup []), (.tup []), (.tup []), (.tup []), (.tup []), (.tup []), (.tup []), (.tup []), (.tup []), (.tup []), (.tup []), (.tup []), (.tup []), (.tup []), (.tup []), (.tup []), (.tup []), (.tup []), (.tup []), (.tup []), (.tup []), (.tup []), (.tup []), (.tup [])] H (kk none (fun s H => retK (([4, 5] : List Nat).map fun t => s.getD t (.tup [])) H) [] retK [4, 5]) =
  N23_1_k (sp 35 [(0, x0), (1, x1), (6, .nils)]) H retK J := by kernel_rfl
theorem G23 (E : LE) (x0 x1 : AV) (H : Heap) : jj E 23 c23 [x0, x1, (.tup []), (.tup []), (.tup []), (.tup []), (.tup []), (.tup []), (.tup []), (.tup []), (.tup []), (.tup []), (.tup []), (.tup []), (.tup []), (.tup []), (.tup []), (.tup []), (.tup []), (.tup []), (.tup []), (.tup []), (.tup []), (.tup []), (.tup []), (.tup []), (.tup []), (.tup []), (.tup []), (.tup []), (.tup []), (.tup []), (.tup []), (.tup []), (.tup [])] H (kk none (fun s H => retK (([4, 5] : List Nat).map fun t => s.getD t (.tup [])) H) [] retK [4, 5]) = L23 E x0 x1 H := (jj_X E 23 _ _ H _).trans ((L23_x E (jj E 23) x0 x1 H).trans (by simp only [L23, N23_1_eq]))
theorem E23 (ρ : Addr → Option Value) (k lim : Nat) (x0 x1 : AV) (H : Heap) : evCall (cx ρ) (k + 1) lim 23 [x0, x1] H = L23 ⟨ρ, evCall (cx ρ) k, (evCY (cx ρ) k).2, lim, k⟩ x0 x1 H := by
  rw [evCall_body (cx ρ) k lim 23 _ H Tryz.f23 c23 [4, 5] (by kernel_rfl) (by kernel_rfl) (by kernel_rfl) (by kernel_rfl) (by kernel_rfl)]
  have h := G23 ⟨ρ, evCall (cx ρ) k, (evCY (cx ρ) k).2, lim, k⟩ x0 x1 H
  unfold jj at h
  exact h
-- haycroft/audit.chains
noncomputable def c24 : Code := Code.of Tryz.prog 24
noncomputable def N24_1_k (s : Slots) (H : Heap) (R : RK) (J : CodeF) : Res := J (Code.at [1, 1, 1, 1] c24) s H (kk none (fun s H => R (([2, 3] : List Nat).map fun t => s.getD t (.tup [])) H) [] R [2, 3])
noncomputable def N24_1 (E : LE) (x5 : AV) (H : Heap) (R : RK) : Res :=
  R [x5, (.int .i64 0)] H
theorem N24_1_eq (E : LE) (x5 : AV) (H : Heap) (R : RK) : N24_1_k (sp 50 [(5, x5)]) H R (jj E 24) = N24_1 E x5 H R := by kernel_rfl
noncomputable def N24_2_k (s : Slots) (H : Heap) (kn : KS) (R : RK) (J : CodeF) : Res := J (Code.at [1, 1, 1, 0, 1] c24) s H (kk (some [5]) kn [] R [2, 3])
noncomputable def N24_2b_k (s : Slots) (H : Heap) (kn k0 : KS) (R : RK) (J : CodeF) : Res := J (Code.at [1, 1, 1, 0, 1, 0, 0] c24) s H (kk (some [0, 5, 18, 19, 20]) kn [(0, (some [5]), k0)] R [2, 3])
noncomputable def N24_3_k (s : Slots) (H : Heap) (kn k0 : KS) (R : RK) (J : CodeF) : Res := J (Code.at [1, 1, 1, 0, 1, 0, 0, 1, 1, 1] c24) s H (kk (some [0, 5, 18, 19, 20]) kn [(0, (some [5]), k0)] R [2, 3])
noncomputable def N24_3 (E : LE) (x0 x5 x18 x19 x20 : AV) (H : Heap) (kn : AV → AV → AV → AV → AV → Heap → Res) : Res :=
  purK (binA P H .add 3 x20 (.int .i64 1)) fun x48_1 =>
  kn x0 x5 x18 x19 x48_1 H
theorem N24_3_eq (E : LE) (x0 x5 x18 x19 x20 : AV) (H : Heap) (kn k0 : KS) (R : RK) : N24_3_k (sp 50 [(0, x0), (5, x5), (18, x18), (19, x19), (20, x20)]) H kn k0 R (jj E 24) = N24_3 E x0 x5 x18 x19 x20 H (fun x0 x5 x18 x19 x20 H => kn (sp 50 [(0, x0), (5, x5), (18, x18), (19, x19), (20, x20)]) H) := by kernel_rfl
noncomputable def N24_2b (E : LE) (x0 x5 x18 x19 x20 : AV) (H : Heap) (kn : AV → AV → AV → AV → AV → Heap → Res) (k0 : AV → Heap → Res) (R : RK) : Res :=
  purK (binA P H .lss 3 x20 x19) fun x21_1 =>
  condK x21_1
  (
    purK (indexAddrA P 31 x18 x20) fun x22_1 =>
    purK (loadA (Cx E) H 22 x22_1) fun x23_1 =>
    resK (E.call E.lim 36 [x23_1] H) fun x26_1 H =>
    purK (extA 0 x26_1) fun x27_1 =>
    purK (extA 1 x26_1) fun x28_1 =>
    effK H (allocA (Cx E) H 90) fun x8_1 H =>
    effK H ((storeA (Cx E) E.lim H 90 x8_1 x27_1).map skips) fun _ H =>
    purK (binA P H .neq 28 x28_1 (.int .i64 0)) fun x30_1 =>
    condK x30_1
    (
      R [.nils, (.int .i64 4)] H)
    (
      purK (fieldAddrA P 90 x8_1 0) fun x31_1 =>
      purK (loadA (Cx E) H 22 x31_1) fun x32_1 =>
      purK (binA P H .eql 22 x32_1 (.int .u64 0)) fun x33_1 =>
      condK x33_1
      (
        N24_3 E x0 x5 x18 x19 x20 H kn)
      (
        purK (fieldAddrA P 90 x8_1 0) fun x36_1 =>
        purK (loadA (Cx E) H 22 x36_1) fun x37_1 =>
        resK (E.call E.lim 23 [x0, x37_1] H) fun x38_1 H =>
        purK (extA 0 x38_1) fun x39_1 =>
        purK (extA 1 x38_1) fun x40_1 =>
        purK (binA P H .neq 28 x40_1 (.int .i64 0)) fun x42_1 =>
        condK x42_1
        (
          R [.nils, x40_1] H)
        (
          effK H (buildSliceA (Cx E) H 74 1 [(0, x39_1)]) fun x46_1 H =>
          effK H (builtinA (Cx E) E.lim H .append #[74, 74] [x5, x46_1]) fun x47_1 H =>
          N24_3 E x0 x47_1 x18 x19 x20 H kn))))
  (
    k0 x5 H)
theorem N24_2b_x (E : LE) (J : CodeF) (x0 x5 x18 x19 x20 : AV) (H : Heap) (kn k0 : KS) (R : RK) : N24_2b_k (sp 50 [(0, x0), (5, x5), (18, x18), (19, x19), (20, x20)]) H kn k0 R (jx E 24 J) =
  purK (binA P H .lss 3 x20 x19) fun x21_1 =>
  condK x21_1
  (
    purK (indexAddrA P 31 x18 x20) fun x22_1 =>
    purK (loadA (Cx E) H 22 x22_1) fun x23_1 =>
    resK (E.call E.lim 36 [x23_1] H) fun x26_1 H =>
    purK (extA 0 x26_1) fun x27_1 =>
    purK (extA 1 x26_1) fun x28_1 =>
    effK H (allocA (Cx E) H 90) fun x8_1 H =>
    effK H ((storeA (Cx E) E.lim H 90 x8_1 x27_1).map skips) fun _ H =>
    purK (binA P H .neq 28 x28_1 (.int .i64 0)) fun x30_1 =>
    condK x30_1
    (
      R [.nils, (.int .i64 4)] H)
    (
      purK (fieldAddrA P 90 x8_1 0) fun x31_1 =>
      purK (loadA (Cx E) H 22 x31_1) fun x32_1 =>
      purK (binA P H .eql 22 x32_1 (.int .u64 0)) fun x33_1 =>
      condK x33_1
      (
        N24_3_k (sp 50 [(0, x0), (5, x5), (18, x18), (19, x19), (20, x20)]) H kn k0 R J)
      (
        purK (fieldAddrA P 90 x8_1 0) fun x36_1 =>
        purK (loadA (Cx E) H 22 x36_1) fun x37_1 =>
        resK (E.call E.lim 23 [x0, x37_1] H) fun x38_1 H =>
        purK (extA 0 x38_1) fun x39_1 =>
        purK (extA 1 x38_1) fun x40_1 =>
        purK (binA P H .neq 28 x40_1 (.int .i64 0)) fun x42_1 =>
        condK x42_1
        (
          R [.nils, x40_1] H)
        (
          effK H (buildSliceA (Cx E) H 74 1 [(0, x39_1)]) fun x46_1 H =>
          effK H (builtinA (Cx E) E.lim H .append #[74, 74] [x5, x46_1]) fun x47_1 H =>
          N24_3_k (sp 50 [(0, x0), (5, x47_1), (18, x18), (19, x19), (20, x20)]) H kn k0 R J))))
  (
    k0 (sp 50 [(5, x5)]) H) := by kernel_rfl
theorem N24_2b_eq (E : LE) (x0 x5 x18 x19 x20 : AV) (H : Heap) (kn k0 : KS) (R : RK) : N24_2b_k (sp 50 [(0, x0), (5, x5), (18, x18), (19, x19), (20, x20)]) H kn k0 R (jj E 24) = N24_2b E x0 x5 x18 x19 x20 H (fun x0 x5 x18 x19 x20 H => kn (sp 50 [(0, x0), (5, x5), (18, x18), (19, x19), (20, x20)]) H) (fun x5 H => k0 (sp 50 [(5, x5)]) H) R := (jj_X E 24 _ _ H _).trans ((N24_2b_x E (jj E 24) x0 x5 x18 x19 x20 H kn k0 R).trans (by simp only [N24_2b, N24_3_eq]))
noncomputable def N24_2 (E : LE) (x0 x5 x18 x19 x20 : AV) (H : Heap) (kn : AV → Heap → Res) (R : RK) : Res :=
  loopL (fun (x : AV × AV) H kl => N24_2b E x0 x.1 x18 x19 x.2 H (fun _ x5 _ _ x20 H => kl (x5, x20) H) kn R) E.k (x5, x20) H
theorem N24_2_eq (E : LE) (x0 x5 x18 x19 x20 : AV) (H : Heap) (kn : KS) (R : RK) : N24_2_k (sp 50 [(0, x0), (5, x5), (18, x18), (19, x19), (20, x20)]) H kn R (jj E 24) = N24_2 E x0 x5 x18 x19 x20 H (fun x5 H => kn (sp 50 [(5, x5)]) H) R := by
  have e : Code.at [1, 1, 1, 0, 1] c24 = Code.block 0 (Code.loop (Code.at [1, 1, 1, 0, 1, 0, 0] c24)) := by kernel_rfl
  unfold N24_2_k N24_2 jj
  rw [e]
  rw [block_kk]
  exact loop_node [0, 5, 18, 19, 20] (fun x : AV × AV => (sp 50 [(0, x0), (5, (x.1)), (18, x18), (19, x19), (20, (x.2))])) (fun (x : AV × AV) H kl => N24_2b E x0 x.1 x18 x19 x.2 H (fun _ x5 _ _ x20 H => kl (x5, x20) H) (fun x5 H => kn (sp 50 [(5, x5)]) H) R) (by kernel_rfl) (fun x => by kernel_rfl) (fun x H kl => by
    have h := N24_2b_eq E x0 (x.1) x18 x19 (x.2) H kl kn R
    unfold N24_2b_k jj at h
    exact h) (x5, x20) (sp 50 [(0, x0), (5, x5), (18, x18), (19, x19), (20, x20)]) H (by kernel_rfl)
noncomputable def L24 (E : LE) (x0 : AV) (H : Heap) : Res :=
  resK (E.call E.lim 16 [x0] H) fun x12 H =>
  purK (binA P H .neq 28 x12 (.int .i64 0)) fun x14 =>
  condK x14
  (
    retK [.nils, x12] H)
  (
    resK (E.call E.lim 33 [x0] H) fun x17 H =>
    resK (E.call E.lim 67 [x17] H) fun x18 H =>
    purK (lenBA (Cx E) H 31 x18) fun x19 =>
    N24_2 E x0 .nils x18 x19 (.int .i64 0) H (fun x5 H =>
      N24_1 E x5 H retK) retK)
theorem L24_x (E : LE) (J : CodeF) (x0 : AV) (H : Heap) : jx E 24 J c24 [x0, (.tup []), (.tup []), (.tup []), (.tup []), (.tup []), (.tup []), (.tup []), (.tup []), (.tup []), (.tup []), (.tup []), (.tup []), (.tup []), (.tup []), (.tup []), (.tup []), (.tup []), (.tup []), (.tup []), (.tup []), (.tup []), (.tup []), (.tup []), (.tup []), (.tup []), (.tup []), (.tup []), (.tup []), (.tup []), (.tup []), (.tup []), (.tup []), (.tup []), (.tup []), (.tup []), (.tup []), (.tup []), (.tup []), (.tup []), (.tup []), (.tup []), (.tup []), (.tup []), (.tup []), (.tup []), (.tup []), (.tup []), (.tup []), (.tup [])] H (kk none (fun s H => retK (([2, 3] : List Nat).map fun t => s.getD t (.tup [])) H) [] retK [2, 3]) =
  resK (E.call E.lim 16 [x0] H) fun x12 H =>
  purK (binA P H .neq 28 x12 (.int .i64 0)) fun x14 =>
  condK x14
  (
    retK [.nils, x12] H)
  (
    resK (E.call E.lim 33 [x0] H) fun x17 H =>
    resK (E.call E.lim 67 [x17] H) fun x18 H =>
    purK (lenBA (Cx E) H 31 x18) fun x19 =>
    N24_2_k (sp 50 [(0, x0), (5, .nils), (18, x18), (19, x19), (20, (.int .i64 0))]) H (fun s H => N24_1_k s H retK J) retK J) := by kernel_rfl
theorem G24 (E : LE) (x0 : AV) (H : Heap) : jj E 24 c24 [x0, (.tup []), (.tup []), (.tup []), (.tup []), (.tup []), (.tup []), (.tup []), (.tup []), (.tup []), (.tup []), (.tup []), (.tup []), (.tup []), (.tup []), (.tup []), (.tup []), (.tup []), (.tup []), (.tup []), (.tup []), (.tup []), (.tup []), (.tup []), (.tup []), (.tup []), (.tup []), (.tup []), (.tup []), (.tup []), (.tup []), (.tup []), (.tup []), (.tup []), (.tup []), (.tup []), (.tup []), (.tup []), (.tup []), (.tup []), (.tup []), (.tup []), (.tup []), (.tup []), (.tup []), (.tup []), (.tup []), (.tup []), (.tup []), (.tup [])] H (kk none (fun s H => retK (([2, 3] : List Nat).map fun t => s.getD t (.tup [])) H) [] retK [2, 3]) = L24 E x0 H := (jj_X E 24 _ _ H _).trans ((L24_x E (jj E 24) x0 H).trans (by simp only [L24, N24_1_eq, N24_2_eq]))
theorem E24 (ρ : Addr → Option Value) (k lim : Nat) (x0 : AV) (H : Heap) : evCall (cx ρ) (k + 1) lim 24 [x0] H = L24 ⟨ρ, evCall (cx ρ) k, (evCY (cx ρ) k).2, lim, k⟩ x0 H := by
  rw [evCall_body (cx ρ) k lim 24 _ H Tryz.f24 c24 [2, 3] (by kernel_rfl) (by kernel_rfl) (by kernel_rfl) (by kernel_rfl) (by kernel_rfl)]
  have h := G24 ⟨ρ, evCall (cx ρ) k, (evCY (cx ρ) k).2, lim, k⟩ x0 H
  unfold jj at h
  exact h
-- haycroft/audit.newest
noncomputable def c25 : Code := Code.of Tryz.prog 25
noncomputable def N25_1_k (s : Slots) (H : Heap) (R : RK) (J : CodeF) : Res := J (Code.at [1, 1, 1] c25) s H (kk none (fun s H => R (([2] : List Nat).map fun t => s.getD t (.tup [])) H) [] R [2])
noncomputable def N25_1 (E : LE) (x3 : AV) (H : Heap) (R : RK) : Res :=
  R [x3] H
theorem N25_1_eq (E : LE) (x3 : AV) (H : Heap) (R : RK) : N25_1_k (sp 42 [(3, x3)]) H R (jj E 25) = N25_1 E x3 H R := by kernel_rfl
noncomputable def N25_2_k (s : Slots) (H : Heap) (kn : KS) (R : RK) (J : CodeF) : Res := J (Code.at [1, 1, 0, 1] c25) s H (kk (some [3]) kn [] R [2])
noncomputable def N25_2b_k (s : Slots) (H : Heap) (kn k0 : KS) (R : RK) (J : CodeF) : Res := J (Code.at [1, 1, 0, 1, 0, 0] c25) s H (kk (some [3, 11, 12, 13]) kn [(0, (some [3]), k0)] R [2])
noncomputable def N25_3_k (s : Slots) (H : Heap) (kn k0 : KS) (R : RK) (J : CodeF) : Res := J (Code.at [1, 1, 0, 1, 0, 0, 1, 1, 1] c25) s H (kk (some [3, 11, 12, 13]) kn [(0, (some [3]), k0)] R [2])
noncomputable def N25_3 (E : LE) (x3 x11 x12 x13 : AV) (H : Heap) (kn : AV → AV → AV → AV → Heap → Res) : Res :=
  purK (binA P H .add 3 x13 (.int .i64 1)) fun x40_1 =>
  kn x3 x11 x12 x40_1 H
theorem N25_3_eq (E : LE) (x3 x11 x12 x13 : AV) (H : Heap) (kn k0 : KS) (R : RK) : N25_3_k (sp 42 [(3, x3), (11, x11), (12, x12), (13, x13)]) H kn k0 R (jj E 25) = N25_3 E x3 x11 x12 x13 H (fun x3 x11 x12 x13 H => kn (sp 42 [(3, x3), (11, x11), (12, x12), (13, x13)]) H) := by kernel_rfl
noncomputable def N25_4_k (s : Slots) (H : Heap) (kn k1 k0 : KS) (R : RK) (J : CodeF) : Res := J (Code.at [1, 1, 0, 1, 0, 0, 1, 1, 0, 0, 1, 1] c25) s H (kk (some [3, 11, 12, 13]) kn [(1, (some [3, 11, 12, 13]), k1), (0, (some [3]), k0)] R [2])
noncomputable def N25_4b_k (s : Slots) (H : Heap) (kn k2 k1 k0 : KS) (R : RK) (J : CodeF) : Res := J (Code.at [1, 1, 0, 1, 0, 0, 1, 1, 0, 0, 1, 1, 0, 0] c25) s H (kk (some [3, 11, 12, 13, 17, 18, 19]) kn [(2, (some [3, 11, 12, 13]), k2), (1, (some [3, 11, 12, 13]), k1), (0, (some [3]), k0)] R [2])
noncomputable def N25_5_k (s : Slots) (H : Heap) (kn k2 k1 k0 : KS) (R : RK) (J : CodeF) : Res := J (Code.at [1, 1, 0, 1, 0, 0, 1, 1, 0, 0, 1, 1, 0, 0, 1, 1, 1] c25) s H (kk (some [3, 11, 12, 13, 17, 18, 19]) kn [(2, (some [3, 11, 12, 13]), k2), (1, (some [3, 11, 12, 13]), k1), (0, (some [3]), k0)] R [2])
noncomputable def N25_5 (E : LE) (x3 x11 x12 x13 x17 x18 x19 : AV) (H : Heap) (kn : AV → AV → AV → AV → AV → AV → AV → Heap → Res) : Res :=
  purK (binA P H .add 3 x19 (.int .i64 1)) fun x39_1 =>
  kn x3 x11 x12 x13 x17 x18 x39_1 H
theorem N25_5_eq (E : LE) (x3 x11 x12 x13 x17 x18 x19 : AV) (H : Heap) (kn k2 k1 k0 : KS) (R : RK) : N25_5_k (sp 42 [(3, x3), (11, x11), (12, x12), (13, x13), (17, x17), (18, x18), (19, x19)]) H kn k2 k1 k0 R (jj E 25) = N25_5 E x3 x11 x12 x13 x17 x18 x19 H (fun x3 x11 x12 x13 x17 x18 x19 H => kn (sp 42 [(3, x3), (11, x11), (12, x12), (13, x13), (17, x17), (18, x18), (19, x19)]) H) := by kernel_rfl
noncomputable def N25_4b (E : LE) (x3 x11 x12 x13 x17 x18 x19 : AV) (H : Heap) (kn : AV → AV → AV → AV → AV → AV → AV → Heap → Res) (k2 : AV → AV → AV → AV → Heap → Res) : Res :=
  purK (binA P H .lss 3 x19 x18) fun x20_1 =>
  condK x20_1
  (
    purK (indexAddrA P 69 x17 x19) fun x21_1 =>
    purK (loadA (Cx E) H 73 x21_1) fun x22_1 =>
    effK H (allocA (Cx E) H 73) fun x7_1 H =>
    effK H ((storeA (Cx E) E.lim H 73 x7_1 x22_1).map skips) fun _ H =>
    purK (fieldAddrA P 73 x7_1 1) fun x25_1 =>
    purK (fieldAddrA P 27 x25_1 1) fun x26_1 =>
    purK (loadA (Cx E) H 9 x26_1) fun x27_1 =>
    purK (lookupA (Cx E) H 77 x3 x27_1 true) fun x28_1 =>
    purK (extA 0 x28_1) fun x29_1 =>
    purK (extA 1 x28_1) fun x30_1 =>
    effK H (allocA (Cx E) H 27) fun x8_1 H =>
    effK H ((storeA (Cx E) E.lim H 27 x8_1 x29_1).map skips) fun _ H =>
    purK (unA .not x30_1) fun x32_1 =>
    condK x32_1
    (
      purK (fieldAddrA P 73 x7_1 1) fun x34_1 =>
      purK (fieldAddrA P 27 x34_1 1) fun x35_1 =>
      purK (loadA (Cx E) H 9 x35_1) fun x36_1 =>
      purK (fieldAddrA P 73 x7_1 1) fun x37_1 =>
      purK (loadA (Cx E) H 27 x37_1) fun x38_1 =>
      effK H ((mapPutA (Cx E) E.lim H 77 x3 x36_1 x38_1).map skips) fun _ H =>
      N25_5 E x3 x11 x12 x13 x17 x18 x19 H kn)
    (
      N25_5 E x3 x11 x12 x13 x17 x18 x19 H kn))
  (
    k2 x3 x11 x12 x13 H)
theorem N25_4b_x (E : LE) (J : CodeF) (x3 x11 x12 x13 x17 x18 x19 : AV) (H : Heap) (kn k2 k1 k0 : KS) (R : RK) : N25_4b_k (sp 42 [(3, x3), (11, x11), (12, x12), (13, x13), (17, x17), (18, x18), (19, x19)]) H kn k2 k1 k0 R (jx E 25 J) =
  purK (binA P H .lss 3 x19 x18) fun x20_1 =>
  condK x20_1
  (
    purK (indexAddrA P 69 x17 x19) fun x21_1 =>
    purK (loadA (Cx E) H 73 x21_1) fun x22_1 =>
    effK H (allocA (Cx E) H 73) fun x7_1 H =>
    effK H ((storeA (Cx E) E.lim H 73 x7_1 x22_1).map skips) fun _ H =>
    purK (fieldAddrA P 73 x7_1 1) fun x25_1 =>
    purK (fieldAddrA P 27 x25_1 1) fun x26_1 =>
    purK (loadA (Cx E) H 9 x26_1) fun x27_1 =>
    purK (lookupA (Cx E) H 77 x3 x27_1 true) fun x28_1 =>
    purK (extA 0 x28_1) fun x29_1 =>
    purK (extA 1 x28_1) fun x30_1 =>
    effK H (allocA (Cx E) H 27) fun x8_1 H =>
    effK H ((storeA (Cx E) E.lim H 27 x8_1 x29_1).map skips) fun _ H =>
    purK (unA .not x30_1) fun x32_1 =>
    condK x32_1
    (
      purK (fieldAddrA P 73 x7_1 1) fun x34_1 =>
      purK (fieldAddrA P 27 x34_1 1) fun x35_1 =>
      purK (loadA (Cx E) H 9 x35_1) fun x36_1 =>
      purK (fieldAddrA P 73 x7_1 1) fun x37_1 =>
      purK (loadA (Cx E) H 27 x37_1) fun x38_1 =>
      effK H ((mapPutA (Cx E) E.lim H 77 x3 x36_1 x38_1).map skips) fun _ H =>
      N25_5_k (sp 42 [(3, x3), (11, x11), (12, x12), (13, x13), (17, x17), (18, x18), (19, x19)]) H kn k2 k1 k0 R J)
    (
      N25_5_k (sp 42 [(3, x3), (11, x11), (12, x12), (13, x13), (17, x17), (18, x18), (19, x19)]) H kn k2 k1 k0 R J))
  (
    k2 (sp 42 [(3, x3), (11, x11), (12, x12), (13, x13)]) H) := by kernel_rfl
theorem N25_4b_eq (E : LE) (x3 x11 x12 x13 x17 x18 x19 : AV) (H : Heap) (kn k2 k1 k0 : KS) (R : RK) : N25_4b_k (sp 42 [(3, x3), (11, x11), (12, x12), (13, x13), (17, x17), (18, x18), (19, x19)]) H kn k2 k1 k0 R (jj E 25) = N25_4b E x3 x11 x12 x13 x17 x18 x19 H (fun x3 x11 x12 x13 x17 x18 x19 H => kn (sp 42 [(3, x3), (11, x11), (12, x12), (13, x13), (17, x17), (18, x18), (19, x19)]) H) (fun x3 x11 x12 x13 H => k2 (sp 42 [(3, x3), (11, x11), (12, x12), (13, x13)]) H) := (jj_X E 25 _ _ H _).trans ((N25_4b_x E (jj E 25) x3 x11 x12 x13 x17 x18 x19 H kn k2 k1 k0 R).trans (by simp only [N25_4b, N25_5_eq]))
noncomputable def N25_4 (E : LE) (x3 x11 x12 x13 x17 x18 x19 : AV) (H : Heap) (kn : AV → AV → AV → AV → Heap → Res) : Res :=
  loopL (fun (x : AV) H kl => N25_4b E x3 x11 x12 x13 x17 x18 x H (fun _ _ _ _ _ _ x19 H => kl x19 H) kn) E.k x19 H
theorem N25_4_eq (E : LE) (x3 x11 x12 x13 x17 x18 x19 : AV) (H : Heap) (kn k1 k0 : KS) (R : RK) : N25_4_k (sp 42 [(3, x3), (11, x11), (12, x12), (13, x13), (17, x17), (18, x18), (19, x19)]) H kn k1 k0 R (jj E 25) = N25_4 E x3 x11 x12 x13 x17 x18 x19 H (fun x3 x11 x12 x13 H => kn (sp 42 [(3, x3), (11, x11), (12, x12), (13, x13)]) H) := by
  have e : Code.at [1, 1, 0, 1, 0, 0, 1, 1, 0, 0, 1, 1] c25 = Code.block 2 (Code.loop (Code.at [1, 1, 0, 1, 0, 0, 1, 1, 0, 0, 1, 1, 0, 0] c25)) := by kernel_rfl
  unfold N25_4_k N25_4 jj
  rw [e]
  rw [block_kk]
  exact loop_node [3, 11, 12, 13, 17, 18, 19] (fun x : AV => (sp 42 [(3, x3), (11, x11), (12, x12), (13, x13), (17, x17), (18, x18), (19, (x))])) (fun (x : AV) H kl => N25_4b E x3 x11 x12 x13 x17 x18 x H (fun _ _ _ _ _ _ x19 H => kl x19 H) (fun x3 x11 x12 x13 H => kn (sp 42 [(3, x3), (11, x11), (12, x12), (13, x13)]) H)) (by kernel_rfl) (fun x => by kernel_rfl) (fun x H kl => by
    have h := N25_4b_eq E x3 x11 x12 x13 x17 x18 (x) H kl kn k1 k0 R
    unfold N25_4b_k jj at h
    exact h) x19 (sp 42 [(3, x3), (11, x11), (12, x12), (13, x13), (17, x17), (18, x18), (19, x19)]) H (by kernel_rfl)
noncomputable def N25_2b (E : LE) (x3 x11 x12 x13 : AV) (H : Heap) (kn : AV → AV → AV → AV → Heap → Res) (k0 : AV → Heap → Res) : Res :=
  purK (binA P H .lss 3 x13 x12) fun x14_1 =>
  condK x14_1
  (
    purK (indexAddrA P 74 x11 x13) fun x15_1 =>
    purK (loadA (Cx E) H 69 x15_1) fun x16_1 =>
    purK (lenBA (Cx E) H 69 x16_1) fun x18_1 =>
    N25_4 E x3 x11 x12 x13 x16_1 x18_1 (.int .i64 0) H (fun x3_1 x11_1 x12_1 x13_1 H =>
      N25_3 E x3_1 x11_1 x12_1 x13_1 H kn))
  (
    k0 x3 H)
theorem N25_2b_x (E : LE) (J : CodeF) (x3 x11 x12 x13 : AV) (H : Heap) (kn k0 : KS) (R : RK) : N25_2b_k (sp 42 [(3, x3), (11, x11), (12, x12), (13, x13)]) H kn k0 R (jx E 25 J) =
  purK (binA P H .lss 3 x13 x12) fun x14_1 =>
  condK x14_1
  (
    purK (indexAddrA P 74 x11 x13) fun x15_1 =>
    purK (loadA (Cx E) H 69 x15_1) fun x16_1 =>
    purK (lenBA (Cx E) H 69 x16_1) fun x18_1 =>
    N25_4_k (sp 42 [(3, x3), (11, x11), (12, x12), (13, x13), (17, x16_1), (18, x18_1), (19, (.int .i64 0))]) H (fun s H => N25_3_k s H kn k0 R J) (fun s H => N25_3_k s H kn k0 R J) k0 R J)
  (
    k0 (sp 42 [(3, x3)]) H) := by kernel_rfl
theorem N25_2b_eq (E : LE) (x3 x11 x12 x13 : AV) (H : Heap) (kn k0 : KS) (R : RK) : N25_2b_k (sp 42 [(3, x3), (11, x11), (12, x12), (13, x13)]) H kn k0 R (jj E 25) = N25_2b E x3 x11 x12 x13 H (fun x3 x11 x12 x13 H => kn (sp 42 [(3, x3), (11, x11), (12, x12), (13, x13)]) H) (fun x3 H => k0 (sp 42 [(3, x3)]) H) := (jj_X E 25 _ _ H _).trans ((N25_2b_x E (jj E 25) x3 x11 x12 x13 H kn k0 R).trans (by simp only [N25_2b, N25_3_eq, N25_4_eq]))
noncomputable def N25_2 (E : LE) (x3 x11 x12 x13 : AV) (H : Heap) (kn : AV → Heap → Res) : Res :=
  loopL (fun (x : AV) H kl => N25_2b E x3 x11 x12 x H (fun _ _ _ x13 H => kl x13 H) kn) E.k x13 H
theorem N25_2_eq (E : LE) (x3 x11 x12 x13 : AV) (H : Heap) (kn : KS) (R : RK) : N25_2_k (sp 42 [(3, x3), (11, x11), (12, x12), (13, x13)]) H kn R (jj E 25) = N25_2 E x3 x11 x12 x13 H (fun x3 H => kn (sp 42 [(3, x3)]) H) := by
  have e : Code.at [1, 1, 0, 1] c25 = Code.block 0 (Code.loop (Code.at [1, 1, 0, 1, 0, 0] c25)) := by kernel_rfl
  unfold N25_2_k N25_2 jj
  rw [e]
  rw [block_kk]
  exact loop_node [3, 11, 12, 13] (fun x : AV => (sp 42 [(3, x3), (11, x11), (12, x12), (13, (x))])) (fun (x : AV) H kl => N25_2b E x3 x11 x12 x H (fun _ _ _ x13 H => kl x13 H) (fun x3 H => kn (sp 42 [(3, x3)]) H)) (by kernel_rfl) (fun x => by kernel_rfl) (fun x H kl => by
    have h := N25_2b_eq E x3 x11 x12 (x) H kl kn R
    unfold N25_2b_k jj at h
    exact h) x13 (sp 42 [(3, x3), (11, x11), (12, x12), (13, x13)]) H (by kernel_rfl)
noncomputable def L25 (E : LE) (x0 : AV) (H : Heap) : Res :=
  effK H (some (makeMapA H)) fun x10 H =>
  purK (lenBA (Cx E) H 74 x0) fun x12 =>
  N25_2 E x10 x0 x12 (.int .i64 0) H (fun x3 H =>
    N25_1 E x3 H retK)
theorem L25_x (E : LE) (J : CodeF) (x0 : AV) (H : Heap) : jx E 25 J c25 [x0, (.tup []), (.tup []), (.tup []), (.tup []), (.tup []), (.tup []), (.tup []), (.tup []), (.tup []), (.tup []), (.tup []), (.tup []), (.tup []), (.tup []), (.tup []), (.tup []), (.tup []), (.tup []), (.tup []), (.tup []), (.tup []), (.tup []), (.tup []), (.tup []), (.tup []), (.tup []), (.tup []), (.tup []), (.tup []), (.tup []), (.tup []), (.tup []), (.tup []), (.tup []), (.tup []), (.tup []), (.tup []), (.tup []), (.tup []), (.tup []), (.tup [])] H (kk none (fun s H => retK (([2] : List Nat).map fun t => s.getD t (.tup [])) H) [] retK [2]) =
  effK H (some (makeMapA H)) fun x10 H =>
  purK (lenBA (Cx E) H 74 x0) fun x12 =>
  N25_2_k (sp 42 [(3, x10), (11, x0), (12, x12), (13, (.int .i64 0))]) H (fun s H => N25_1_k s H retK J) retK J := by kernel_rfl
theorem G25 (E : LE) (x0 : AV) (H : Heap) : jj E 25 c25 [x0, (.tup []), (.tup []), (.tup []), (.tup []), (.tup []), (.tup []), (.tup []), (.tup []), (.tup []), (.tup []), (.tup []), (.tup []), (.tup []), (.tup []), (.tup []), (.tup []), (.tup []), (.tup []), (.tup []), (.tup []), (.tup []), (.tup []), (.tup []), (.tup []), (.tup []), (.tup []), (.tup []), (.tup []), (.tup []), (.tup []), (.tup []), (.tup []), (.tup []), (.tup []), (.tup []), (.tup []), (.tup []), (.tup []), (.tup []), (.tup []), (.tup [])] H (kk none (fun s H => retK (([2] : List Nat).map fun t => s.getD t (.tup [])) H) [] retK [2]) = L25 E x0 H := (jj_X E 25 _ _ H _).trans ((L25_x E (jj E 25) x0 H).trans (by simp only [L25, N25_1_eq, N25_2_eq]))
theorem E25 (ρ : Addr → Option Value) (k lim : Nat) (x0 : AV) (H : Heap) : evCall (cx ρ) (k + 1) lim 25 [x0] H = L25 ⟨ρ, evCall (cx ρ) k, (evCY (cx ρ) k).2, lim, k⟩ x0 H := by
  rw [evCall_body (cx ρ) k lim 25 _ H Tryz.f25 c25 [2] (by kernel_rfl) (by kernel_rfl) (by kernel_rfl) (by kernel_rfl) (by kernel_rfl)]
  have h := G25 ⟨ρ, evCall (cx ρ) k, (evCY (cx ρ) k).2, lim, k⟩ x0 H
  unfold jj at h
  exact h
-- slices.SortFunc[[]haycroft/api.Pair,haycroft/api.Pair]
noncomputable def c26 : Code := Code.of Tryz.prog 26
noncomputable def L26 (E : LE) (x0 x1 : AV) (H : Heap) : Res :=
  purK (lenBA (Cx E) H 34 x0) fun x6 =>
  purK (convXA (Cx E) H 3 146 x6) fun x10 =>
  resK (E.call E.lim 69 [x10] H) fun x11 H =>
  resK (E.call E.lim 68 [x0, (.int .i64 0), x6, x11, x1] H) fun x13 H =>
  retK [] H
theorem G26 (E : LE) (x0 x1 : AV) (H : Heap) : jj E 26 c26 [x0, x1, (.tup []), (.tup []), (.tup []), (.tup []), (.tup []), (.tup []), (.tup []), (.tup []), (.tup []), (.tup []), (.tup []), (.tup [])] H (kk none (fun s H => retK (([] : List Nat).map fun t => s.getD t (.tup [])) H) [] retK []) = L26 E x0 x1 H := by kernel_rfl
theorem E26 (ρ : Addr → Option Value) (k lim : Nat) (x0 x1 : AV) (H : Heap) : evCall (cx ρ) (k + 1) lim 26 [x0, x1] H = L26 ⟨ρ, evCall (cx ρ) k, (evCY (cx ρ) k).2, lim, k⟩ x0 x1 H := by
  rw [evCall_body (cx ρ) k lim 26 _ H Tryz.f26 c26 [] (by kernel_rfl) (by kernel_rfl) (by kernel_rfl) (by kernel_rfl) (by kernel_rfl)]
  have h := G26 ⟨ρ, evCall (cx ρ) k, (evCY (cx ρ) k).2, lim, k⟩ x0 x1 H
  unfold jj at h
  exact h
-- (*haycroft/store.Store).Log
noncomputable def c29 : Code := Code.of Tryz.prog 29
noncomputable def L29 (E : LE) (x0 : AV) (H : Heap) : Res :=
  resK (E.call E.lim 51 [x0] H) fun x4 H =>
  purK (unA .not x4) fun x5 =>
  condK x5
  (
    retK [.nilp] H)
  (
    purK (nilChkA x0) fun x7 =>
    purK (fieldAddrA P 106 x7 2) fun x8 =>
    purK (loadA (Cx E) H 102 x8) fun x9 =>
    purK (nilChkA x9) fun x10 =>
    purK (fieldAddrA P 117 x10 0) fun x11 =>
    purK (loadA (Cx E) H 84 x11) fun x12 =>
    retK [x12] H)
theorem G29 (E : LE) (x0 : AV) (H : Heap) : jj E 29 c29 [x0, (.tup []), (.tup []), (.tup []), (.tup []), (.tup []), (.tup []), (.tup []), (.tup []), (.tup []), (.tup []), (.tup []), (.tup [])] H (kk none (fun s H => retK (([2] : List Nat).map fun t => s.getD t (.tup [])) H) [] retK [2]) = L29 E x0 H := by kernel_rfl
theorem E29 (ρ : Addr → Option Value) (k lim : Nat) (x0 : AV) (H : Heap) : evCall (cx ρ) (k + 1) lim 29 [x0] H = L29 ⟨ρ, evCall (cx ρ) k, (evCY (cx ρ) k).2, lim, k⟩ x0 H := by
  rw [evCall_body (cx ρ) k lim 29 _ H Tryz.f29 c29 [2] (by kernel_rfl) (by kernel_rfl) (by kernel_rfl) (by kernel_rfl) (by kernel_rfl)]
  have h := G29 ⟨ρ, evCall (cx ρ) k, (evCY (cx ρ) k).2, lim, k⟩ x0 H
  unfold jj at h
  exact h
-- (*haycroft/hlog.Log).Region
noncomputable def c30 : Code := Code.of Tryz.prog 30
noncomputable def L30 (E : LE) (x0 x1 : AV) (H : Heap) : Res :=
  purK (binA P H .eql 84 x0 .nilp) fun x6 =>
  purK (gPur (wantV x6 false) (some x1)) fun x8 =>
  purK (gPur (wantV x6 false) (binA P H .gtr 22 x8 (.int .u64 281474976710655))) fun x9 =>
  purK (pickA x6 (.bool true) x9) fun x10 =>
  condK x10
  (
    retK [(.int .i64 0)] H)
  (
    purK (nilChkA x0) fun x12 =>
    purK (fieldAddrA P 153 x12 2) fun x13 =>
    purK (loadA (Cx E) H 148 x13) fun x14 =>
    purK (nilChkA x0) fun x16 =>
    purK (fieldAddrA P 153 x16 1) fun x17 =>
    purK (loadA (Cx E) H 122 x17) fun x18 =>
    purK (nilChkA x0) fun x23 =>
    purK (fieldAddrA P 153 x23 0) fun x24 =>
    purK (loadA (Cx E) H 147 x24) fun x25 =>
    resK (E.call E.lim 72 [x18] H) fun x19 H => bif (agn (loadA (Cx E) H 147 x24) x25 && (agn (loadA (Cx E) H 148 x13) x14 && true)) then
      resK (E.call E.lim 52 [x19, x1] H) fun x21 H => bif (agn (loadA (Cx E) H 147 x24) x25 && (agn (loadA (Cx E) H 148 x13) x14 && true)) then
        resK (E.call E.lim 73 [x25] H) fun x26 H => bif (agn (loadA (Cx E) H 148 x13) x14 && true) then
          resK (E.call E.lim 71 [x14, x21, x26] H) fun x27 H =>
          retK [x27] H
        else none
      else none
    else none)
theorem G30 (E : LE) (x0 x1 : AV) (H : Heap) : jj E 30 c30 [x0, x1, (.tup []), (.tup []), (.tup []), (.tup []), (.tup []), (.tup []), (.tup []), (.tup []), (.tup []), (.tup []), (.tup []), (.tup []), (.tup []), (.tup []), (.tup []), (.tup []), (.tup []), (.tup []), (.tup []), (.tup []), (.tup []), (.tup []), (.tup []), (.tup []), (.tup []), (.tup [])] H (kk none (fun s H => retK (([4] : List Nat).map fun t => s.getD t (.tup [])) H) [] retK [4]) = L30 E x0 x1 H := by kernel_rfl
theorem E30 (ρ : Addr → Option Value) (k lim : Nat) (x0 x1 : AV) (H : Heap) : evCall (cx ρ) (k + 1) lim 30 [x0, x1] H = L30 ⟨ρ, evCall (cx ρ) k, (evCY (cx ρ) k).2, lim, k⟩ x0 x1 H := by
  rw [evCall_body (cx ρ) k lim 30 _ H Tryz.f30 c30 [4] (by kernel_rfl) (by kernel_rfl) (by kernel_rfl) (by kernel_rfl) (by kernel_rfl)]
  have h := G30 ⟨ρ, evCall (cx ρ) k, (evCY (cx ρ) k).2, lim, k⟩ x0 x1 H
  unfold jj at h
  exact h
-- (*haycroft/store.Store).Index
noncomputable def c33 : Code := Code.of Tryz.prog 33
noncomputable def L33 (E : LE) (x0 : AV) (H : Heap) : Res :=
  resK (E.call E.lim 51 [x0] H) fun x4 H =>
  purK (unA .not x4) fun x5 =>
  condK x5
  (
    retK [.nilp] H)
  (
    purK (nilChkA x0) fun x7 =>
    purK (fieldAddrA P 106 x7 2) fun x8 =>
    purK (loadA (Cx E) H 102 x8) fun x9 =>
    purK (nilChkA x9) fun x10 =>
    purK (fieldAddrA P 117 x10 1) fun x11 =>
    purK (loadA (Cx E) H 95 x11) fun x12 =>
    retK [x12] H)
theorem G33 (E : LE) (x0 : AV) (H : Heap) : jj E 33 c33 [x0, (.tup []), (.tup []), (.tup []), (.tup []), (.tup []), (.tup []), (.tup []), (.tup []), (.tup []), (.tup []), (.tup []), (.tup [])] H (kk none (fun s H => retK (([2] : List Nat).map fun t => s.getD t (.tup [])) H) [] retK [2]) = L33 E x0 H := by kernel_rfl
theorem E33 (ρ : Addr → Option Value) (k lim : Nat) (x0 : AV) (H : Heap) : evCall (cx ρ) (k + 1) lim 33 [x0] H = L33 ⟨ρ, evCall (cx ρ) k, (evCY (cx ρ) k).2, lim, k⟩ x0 H := by
  rw [evCall_body (cx ρ) k lim 33 _ H Tryz.f33 c33 [2] (by kernel_rfl) (by kernel_rfl) (by kernel_rfl) (by kernel_rfl) (by kernel_rfl)]
  have h := G33 ⟨ρ, evCall (cx ρ) k, (evCY (cx ρ) k).2, lim, k⟩ x0 H
  unfold jj at h
  exact h
-- (*haycroft/index.Index).Look
noncomputable def c34 : Code := Code.of Tryz.prog 34
noncomputable def L34 (E : LE) (x0 x1 : AV) (H : Heap) : Res :=
  effK H (boxA H 95 x0) fun x2 H =>
  effK H (boxA H 22 x1) fun x3 H =>
  effK H (allocA (Cx E) H 93) fun x4 H =>
  purK (loadA (Cx E) H 95 x2) fun x10 =>
  purK (binA P H .eql 95 x10 .nilp) fun x11 =>
  condK x11
  (
    purK (buildA P 93 []) fun x12 =>
    effK H ((storeA (Cx E) E.lim H 93 x4 x12).map skips) fun _ H =>
    (retC (Cx E) [some 93, none]) [x4, (.int .i64 2)] H)
  (
    purK (loadA (Cx E) H 95 x2) fun x13 =>
    purK (loadA (Cx E) H 22 x3) fun x14 =>
    purK (loadA (Cx E) H 95 x2) fun x15 =>
    purK (nilChkA x15) fun x16 =>
    purK (fieldAddrA P 162 x16 0) fun x17 =>
    purK (loadA (Cx E) H 3 x17) fun x18 =>
    resK (E.call E.lim 78 [x14, x18] H) fun x19 H => bif (agn (loadA (Cx E) H 95 x2) x13 && true) then
      resK (E.call E.lim 74 [x13, x19] H) fun x20 H =>
      purK (lenBA (Cx E) H 60 x20) fun x23 =>
      purK (binA P H .sub 3 x23 (.int .i64 1)) fun x24 =>
      purK (indexAddrA P 60 x20 x24) fun x25 =>
      purK (loadA (Cx E) H 3 x25) fun x26 =>
      resK (E.call E.lim 80 [x20] H) fun x28 H =>
      resK (E.call E.lim 81 [x28, (.fn (.func 82) [] [x2, x3])] H) fun x31 H =>
      purK (binA P H .geq 3 x31 (.int .i64 0)) fun x33 =>
      condK x33
      (
        purK (indexAddrA P 60 x28 x31) fun x36 =>
        purK (loadA (Cx E) H 3 x36) fun x37 =>
        purK (loadA (Cx E) H 95 x2) fun x38 =>
        purK (nilChkA x38) fun x39 =>
        purK (fieldAddrA P 162 x39 2) fun x40 =>
        purK (loadA (Cx E) H 160 x40) fun x41 =>
        purK (indexAddrA P 60 x28 x31) fun x44 =>
        purK (loadA (Cx E) H 3 x44) fun x45 =>
        resK (E.call E.lim 84 [x41, x45] H) fun x46 H => bif (agn (loadA (Cx E) H 3 x36) x37 && true) then
          purK (buildA P 93 [(0, (.int .i64 1)), (1, x37), (2, x46), (3, x26)]) fun x48 =>
          effK H ((storeA (Cx E) E.lim H 93 x4 x48).map skips) fun _ H =>
          (retC (Cx E) [some 93, none]) [x4, (.int .i64 0)] H
        else none)
      (
        resK (E.call E.lim 81 [x28, (.fn (.func 85) [] [x2])] H) fun x51 H =>
        purK (binA P H .geq 3 x51 (.int .i64 0)) fun x53 =>
        condK x53
        (
          purK (indexAddrA P 60 x28 x51) fun x56 =>
          purK (loadA (Cx E) H 3 x56) fun x57 =>
          purK (buildA P 93 [(0, (.int .i64 2)), (1, x57), (3, x26)]) fun x59 =>
          effK H ((storeA (Cx E) E.lim H 93 x4 x59).map skips) fun _ H =>
          (retC (Cx E) [some 93, none]) [x4, (.int .i64 0)] H)
        (
          purK (buildA P 93 [(0, (.int .i64 3)), (3, x26)]) fun x61 =>
          effK H ((storeA (Cx E) E.lim H 93 x4 x61).map skips) fun _ H =>
          (retC (Cx E) [some 93, none]) [x4, (.int .i64 0)] H))
    else none)
theorem G34 (E : LE) (x0 x1 : AV) (H : Heap) : jj E 34 c34 [x0, x1, (.tup []), (.tup []), (.tup []), (.tup []), (.tup []), (.tup []), (.tup []), (.tup []), (.tup []), (.tup []), (.tup []), (.tup []), (.tup []), (.tup []), (.tup []), (.tup []), (.tup []), (.tup []), (.tup []), (.tup []), (.tup []), (.tup []), (.tup []), (.tup []), (.tup []), (.tup []), (.tup []), (.tup []), (.tup []), (.tup []), (.tup []), (.tup []), (.tup []), (.tup []), (.tup []), (.tup []), (.tup []), (.tup []), (.tup []), (.tup []), (.tup []), (.tup []), (.tup []), (.tup []), (.tup []), (.tup []), (.tup []), (.tup []), (.tup []), (.tup []), (.tup []), (.tup []), (.tup []), (.tup []), (.tup []), (.tup []), (.tup []), (.tup []), (.tup []), (.tup [])] H (kk none (fun s H => (retC (Cx E) [some 93, none]) (([4, 5] : List Nat).map fun t => s.getD t (.tup [])) H) [] (retC (Cx E) [some 93, none]) [4, 5]) = L34 E x0 x1 H := by kernel_rfl
theorem E34 (ρ : Addr → Option Value) (k lim : Nat) (x0 x1 : AV) (H : Heap) : evCall (cx ρ) (k + 1) lim 34 [x0, x1] H = L34 ⟨ρ, evCall (cx ρ) k, (evCY (cx ρ) k).2, lim, k⟩ x0 x1 H := by
  rw [evCall_cells (cx ρ) k lim 34 _ H Tryz.f34 c34 [4, 5] [some 93, none] (by kernel_rfl) (by kernel_rfl) (by kernel_rfl) (by kernel_rfl) (by kernel_rfl) (by kernel_rfl)]
  have h := G34 ⟨ρ, evCall (cx ρ) k, (evCY (cx ρ) k).2, lim, k⟩ x0 x1 H
  unfold jj at h
  exact h
-- haycroft/mix.Key
noncomputable def c35 : Code := Code.of Tryz.prog 35
noncomputable def N35_1_k (s : Slots) (H : Heap) (R : RK) (J : CodeF) : Res := J (Code.at [1, 1, 1] c35) s H (kk none (fun s H => R (([2] : List Nat).map fun t => s.getD t (.tup [])) H) [] R [2])
noncomputable def N35_2_k (s : Slots) (H : Heap) (R : RK) (J : CodeF) : Res := J (Code.at [1, 1, 1, 1] c35) s H (kk none (fun s H => R (([2] : List Nat).map fun t => s.getD t (.tup [])) H) [] R [2])
noncomputable def N35_2 (E : LE) (x3 : AV) (H : Heap) (R : RK) : Res :=
  R [x3] H
theorem N35_2_eq (E : LE) (x3 : AV) (H : Heap) (R : RK) : N35_2_k (sp 32 [(3, x3)]) H R (jj E 35) = N35_2 E x3 H R := by kernel_rfl
noncomputable def N35_3_k (s : Slots) (H : Heap) (kn : KS) (R : RK) (J : CodeF) : Res := J (Code.at [1, 1, 1, 0, 1] c35) s H (kk (some [3]) kn [] R [2])
noncomputable def N35_3b_k (s : Slots) (H : Heap) (kn k2 : KS) (R : RK) (J : CodeF) : Res := J (Code.at [1, 1, 1, 0, 1, 0, 0] c35) s H (kk (some [3, 19]) kn [(2, (some [3]), k2)] R [2])
noncomputable def N35_4_k (s : Slots) (H : Heap) (kn k2 : KS) (R : RK) (J : CodeF) : Res := J (Code.at [1, 1, 1, 0, 1, 0, 0, 1, 1, 1] c35) s H (kk (some [3, 19]) kn [(2, (some [3]), k2)] R [2])
noncomputable def N35_4 (E : LE) (x3 x19 : AV) (H : Heap) (kn : AV → AV → Heap → Res) : Res :=
  purK (binA P H .add 3 x19 (.int .i64 1)) fun x30_1 =>
  kn x3 x30_1 H
theorem N35_4_eq (E : LE) (x3 x19 : AV) (H : Heap) (kn k2 : KS) (R : RK) : N35_4_k (sp 32 [(3, x3), (19, x19)]) H kn k2 R (jj E 35) = N35_4 E x3 x19 H (fun x3 x19 H => kn (sp 32 [(3, x3), (19, x19)]) H) := by kernel_rfl
noncomputable def N35_3b (E : LE) (x3 x19 : AV) (H : Heap) (kn : AV → AV → Heap → Res) (k2 : AV → Heap → Res) : Res :=
  purK (binA P H .lss 3 x19 (.int .i64 3)) fun x20_1 =>
  condK x20_1
  (
    purK (binA P H .shr 22 x3 (.int .u64 32)) fun x24_1 =>
    purK (binA P H .xor 22 x3 x24_1) fun x25_1 =>
    purK (binA P H .lss 3 x19 (.int .i64 2)) fun x27_1 =>
    condK x27_1
    (
      purK (binA P H .mul 22 x25_1 (.int .u64 15480190943371904987)) fun x29_1 =>
      N35_4 E x29_1 x19 H kn)
    (
      N35_4 E x25_1 x19 H kn))
  (
    k2 x3 H)
theorem N35_3b_x (E : LE) (J : CodeF) (x3 x19 : AV) (H : Heap) (kn k2 : KS) (R : RK) : N35_3b_k (sp 32 [(3, x3), (19, x19)]) H kn k2 R (jx E 35 J) =
  purK (binA P H .lss 3 x19 (.int .i64 3)) fun x20_1 =>
  condK x20_1
  (
    purK (binA P H .shr 22 x3 (.int .u64 32)) fun x24_1 =>
    purK (binA P H .xor 22 x3 x24_1) fun x25_1 =>
    purK (binA P H .lss 3 x19 (.int .i64 2)) fun x27_1 =>
    condK x27_1
    (
      purK (binA P H .mul 22 x25_1 (.int .u64 15480190943371904987)) fun x29_1 =>
      N35_4_k (sp 32 [(3, x29_1), (19, x19)]) H kn k2 R J)
    (
      N35_4_k (sp 32 [(3, x25_1), (19, x19)]) H kn k2 R J))
  (
    k2 (sp 32 [(3, x3)]) H) := by kernel_rfl
theorem N35_3b_eq (E : LE) (x3 x19 : AV) (H : Heap) (kn k2 : KS) (R : RK) : N35_3b_k (sp 32 [(3, x3), (19, x19)]) H kn k2 R (jj E 35) = N35_3b E x3 x19 H (fun x3 x19 H => kn (sp 32 [(3, x3), (19, x19)]) H) (fun x3 H => k2 (sp 32 [(3, x3)]) H) := (jj_X E 35 _ _ H _).trans ((N35_3b_x E (jj E 35) x3 x19 H kn k2 R).trans (by simp only [N35_3b, N35_4_eq]))
noncomputable def N35_3 (E : LE) (x3 x19 : AV) (H : Heap) (kn : AV → Heap → Res) : Res :=
  loopL (fun (x : AV × AV) H kl => N35_3b E x.1 x.2 H (fun x3 x19 H => kl (x3, x19) H) kn) E.k (x3, x19) H
theorem N35_3_eq (E : LE) (x3 x19 : AV) (H : Heap) (kn : KS) (R : RK) : N35_3_k (sp 32 [(3, x3), (19, x19)]) H kn R (jj E 35) = N35_3 E x3 x19 H (fun x3 H => kn (sp 32 [(3, x3)]) H) := by
  have e : Code.at [1, 1, 1, 0, 1] c35 = Code.block 2 (Code.loop (Code.at [1, 1, 1, 0, 1, 0, 0] c35)) := by kernel_rfl
  unfold N35_3_k N35_3 jj
  rw [e]
  rw [block_kk]
  exact loop_node [3, 19] (fun x : AV × AV => (sp 32 [(3, (x.1)), (19, (x.2))])) (fun (x : AV × AV) H kl => N35_3b E x.1 x.2 H (fun x3 x19 H => kl (x3, x19) H) (fun x3 H => kn (sp 32 [(3, x3)]) H)) (by kernel_rfl) (fun x => by kernel_rfl) (fun x H kl => by
    have h := N35_3b_eq E (x.1) (x.2) H kl kn R
    unfold N35_3b_k jj at h
    exact h) (x3, x19) (sp 32 [(3, x3), (19, x19)]) H (by kernel_rfl)
noncomputable def N35_1 (E : LE) (x3 : AV) (H : Heap) (R : RK) : Res :=
  N35_3 E x3 (.int .i64 0) H (fun x3_1 H =>
    N35_2 E x3_1 H R)
theorem N35_1_x (E : LE) (J : CodeF) (x3 : AV) (H : Heap) (R : RK) : N35_1_k (sp 32 [(3, x3)]) H R (jx E 35 J) =
  N35_3_k (sp 32 [(3, x3), (19, (.int .i64 0))]) H (fun s H => N35_2_k s H R J) R J := by kernel_rfl
theorem N35_1_eq (E : LE) (x3 : AV) (H : Heap) (R : RK) : N35_1_k (sp 32 [(3, x3)]) H R (jj E 35) = N35_1 E x3 H R := (jj_X E 35 _ _ H _).trans ((N35_1_x E (jj E 35) x3 H R).trans (by simp only [N35_1, N35_2_eq, N35_3_eq]))
noncomputable def N35_5_k (s : Slots) (H : Heap) (kn : KS) (R : RK) (J : CodeF) : Res := J (Code.at [1, 1, 0, 1] c35) s H (kk (some [3]) kn [] R [2])
noncomputable def N35_5b_k (s : Slots) (H : Heap) (kn k0 : KS) (R : RK) (J : CodeF) : Res := J (Code.at [1, 1, 0, 1, 0, 0] c35) s H (kk (some [0, 3, 7, 8]) kn [(0, (some [3]), k0)] R [2])
noncomputable def N35_5b (E : LE) (x0 x3 x7 x8 : AV) (H : Heap) (kn : AV → AV → AV → AV → Heap → Res) (k0 : AV → Heap → Res) : Res :=
  purK (binA P H .lss 3 x8 x7) fun x9_1 =>
  condK x9_1
  (
    purK (indexA P 9 x0 x8) fun x14_1 =>
    purK (convXA (Cx E) H 5 22 x14_1) fun x15_1 =>
    purK (binA P H .xor 22 x3 x15_1) fun x16_1 =>
    purK (binA P H .mul 22 x16_1 (.int .u64 1099511628211)) fun x17_1 =>
    purK (binA P H .add 3 x8 (.int .i64 1)) fun x18_1 =>
    kn x0 x17_1 x7 x18_1 H)
  (
    k0 x3 H)
theorem N35_5b_eq (E : LE) (x0 x3 x7 x8 : AV) (H : Heap) (kn k0 : KS) (R : RK) : N35_5b_k (sp 32 [(0, x0), (3, x3), (7, x7), (8, x8)]) H kn k0 R (jj E 35) = N35_5b E x0 x3 x7 x8 H (fun x0 x3 x7 x8 H => kn (sp 32 [(0, x0), (3, x3), (7, x7), (8, x8)]) H) (fun x3 H => k0 (sp 32 [(3, x3)]) H) := by kernel_rfl
noncomputable def N35_5 (E : LE) (x0 x3 x7 x8 : AV) (H : Heap) (kn : AV → Heap → Res) : Res :=
  loopL (fun (x : AV × AV) H kl => N35_5b E x0 x.1 x7 x.2 H (fun _ x3 _ x8 H => kl (x3, x8) H) kn) E.k (x3, x8) H
theorem N35_5_eq (E : LE) (x0 x3 x7 x8 : AV) (H : Heap) (kn : KS) (R : RK) : N35_5_k (sp 32 [(0, x0), (3, x3), (7, x7), (8, x8)]) H kn R (jj E 35) = N35_5 E x0 x3 x7 x8 H (fun x3 H => kn (sp 32 [(3, x3)]) H) := by
  have e : Code.at [1, 1, 0, 1] c35 = Code.block 0 (Code.loop (Code.at [1, 1, 0, 1, 0, 0] c35)) := by kernel_rfl
  unfold N35_5_k N35_5 jj
  rw [e]
  rw [block_kk]
  exact loop_node [0, 3, 7, 8] (fun x : AV × AV => (sp 32 [(0, x0), (3, (x.1)), (7, x7), (8, (x.2))])) (fun (x : AV × AV) H kl => N35_5b E x0 x.1 x7 x.2 H (fun _ x3 _ x8 H => kl (x3, x8) H) (fun x3 H => kn (sp 32 [(3, x3)]) H)) (by kernel_rfl) (fun x => by kernel_rfl) (fun x H kl => by
    have h := N35_5b_eq E x0 (x.1) x7 (x.2) H kl kn R
    unfold N35_5b_k jj at h
    exact h) (x3, x8) (sp 32 [(0, x0), (3, x3), (7, x7), (8, x8)]) H (by kernel_rfl)
noncomputable def L35 (E : LE) (x0 : AV) (H : Heap) : Res :=
  purK (lenBA (Cx E) H 9 x0) fun x7 =>
  N35_5 E x0 (.int .u64 14695981039346656037) x7 (.int .i64 0) H (fun x3 H =>
    N35_1 E x3 H retK)
theorem L35_x (E : LE) (J : CodeF) (x0 : AV) (H : Heap) : jx E 35 J c35 [x0, (.tup []), (.tup []), (.tup []), (.tup []), (.tup []), (.tup []), (.tup []), (.tup []), (.tup []), (.tup []), (.tup []), (.tup []), (.tup []), (.tup []), (.tup []), (.tup []), (.tup []), (.tup []), (.tup []), (.tup []), (.tup []), (.tup []), (.tup []), (.tup []), (.tup []), (.tup []), (.tup []), (.tup []), (.tup []), (.tup []), (.tup [])] H (kk none (fun s H => retK (([2] : List Nat).map fun t => s.getD t (.tup [])) H) [] retK [2]) =
  purK (lenBA (Cx E) H 9 x0) fun x7 =>
  N35_5_k (sp 32 [(0, x0), (3, (.int .u64 14695981039346656037)), (7, x7), (8, (.int .i64 0))]) H (fun s H => N35_1_k s H retK J) retK J := by kernel_rfl
theorem G35 (E : LE) (x0 : AV) (H : Heap) : jj E 35 c35 [x0, (.tup []), (.tup []), (.tup []), (.tup []), (.tup []), (.tup []), (.tup []), (.tup []), (.tup []), (.tup []), (.tup []), (.tup []), (.tup []), (.tup []), (.tup []), (.tup []), (.tup []), (.tup []), (.tup []), (.tup []), (.tup []), (.tup []), (.tup []), (.tup []), (.tup []), (.tup []), (.tup []), (.tup []), (.tup []), (.tup []), (.tup [])] H (kk none (fun s H => retK (([2] : List Nat).map fun t => s.getD t (.tup [])) H) [] retK [2]) = L35 E x0 H := (jj_X E 35 _ _ H _).trans ((L35_x E (jj E 35) x0 H).trans (by simp only [L35, N35_1_eq, N35_5_eq]))
theorem E35 (ρ : Addr → Option Value) (k lim : Nat) (x0 : AV) (H : Heap) : evCall (cx ρ) (k + 1) lim 35 [x0] H = L35 ⟨ρ, evCall (cx ρ) k, (evCY (cx ρ) k).2, lim, k⟩ x0 H := by
  rw [evCall_body (cx ρ) k lim 35 _ H Tryz.f35 c35 [2] (by kernel_rfl) (by kernel_rfl) (by kernel_rfl) (by kernel_rfl) (by kernel_rfl)]
  have h := G35 ⟨ρ, evCall (cx ρ) k, (evCY (cx ρ) k).2, lim, k⟩ x0 H
  unfold jj at h
  exact h
-- haycroft/entry.Unpack
noncomputable def c36 : Code := Code.of Tryz.prog 36
noncomputable def L36 (E : LE) (x0 : AV) (H : Heap) : Res :=
  effK H (allocA (Cx E) H 90) fun x2 H =>
  resK (E.call E.lim 86 [x0, (.int .i64 0), (.int .i64 48)] H) fun x6 H =>
  resK (E.call E.lim 86 [x0, (.int .i64 48), (.int .i64 14)] H) fun x8 H =>
  resK (E.call E.lim 87 [x0, (.int .i64 62)] H) fun x10 H =>
  purK (buildA P 90 [(0, x6), (1, x8), (2, x10)]) fun x11 =>
  effK H (allocA (Cx E) H 90) fun x4 H =>
  effK H ((storeA (Cx E) E.lim H 90 x4 x11).map skips) fun _ H =>
  purK (binA P H .eql 22 x0 (.int .u64 0)) fun x14 =>
  condK x14
  (
    purK (buildA P 90 []) fun x15 =>
    effK H ((storeA (Cx E) E.lim H 90 x2 x15).map skips) fun _ H =>
    (retC (Cx E) [some 90, none]) [x2, (.int .i64 7)] H)
  (
    resK (E.call E.lim 87 [x0, (.int .i64 63)] H) fun x18 H =>
    purK (unA .not x18) fun x19 =>
    purK (gPur (wantV x19 false) (loadA (Cx E) H 90 x4)) fun x21 =>
    resK (gRes (wantV x19 false) H (E.call E.lim 88 [x21] H)) fun x22 H =>
    purK (gPur (wantV x19 false) (unA .not x22)) fun x23 =>
    purK (pickA x19 (.bool true) x23) fun x24 =>
    condK x24
    (
      purK (buildA P 90 []) fun x25 =>
      effK H ((storeA (Cx E) E.lim H 90 x2 x25).map skips) fun _ H =>
      (retC (Cx E) [some 90, none]) [x2, (.int .i64 4)] H)
    (
      purK (loadA (Cx E) H 90 x4) fun x26 =>
      effK H ((storeA (Cx E) E.lim H 90 x2 x26).map skips) fun _ H =>
      (retC (Cx E) [some 90, none]) [x2, (.int .i64 0)] H))
theorem G36 (E : LE) (x0 : AV) (H : Heap) : jj E 36 c36 [x0, (.tup []), (.tup []), (.tup []), (.tup []), (.tup []), (.tup []), (.tup []), (.tup []), (.tup []), (.tup []), (.tup []), (.tup []), (.tup []), (.tup []), (.tup []), (.tup []), (.tup []), (.tup []), (.tup []), (.tup []), (.tup []), (.tup []), (.tup []), (.tup []), (.tup []), (.tup [])] H (kk none (fun s H => (retC (Cx E) [some 90, none]) (([2, 3] : List Nat).map fun t => s.getD t (.tup [])) H) [] (retC (Cx E) [some 90, none]) [2, 3]) = L36 E x0 H := by kernel_rfl
theorem E36 (ρ : Addr → Option Value) (k lim : Nat) (x0 : AV) (H : Heap) : evCall (cx ρ) (k + 1) lim 36 [x0] H = L36 ⟨ρ, evCall (cx ρ) k, (evCY (cx ρ) k).2, lim, k⟩ x0 H := by
  rw [evCall_cells (cx ρ) k lim 36 _ H Tryz.f36 c36 [2, 3] [some 90, none] (by kernel_rfl) (by kernel_rfl) (by kernel_rfl) (by kernel_rfl) (by kernel_rfl) (by kernel_rfl)]
  have h := G36 ⟨ρ, evCall (cx ρ) k, (evCY (cx ρ) k).2, lim, k⟩ x0 H
  unfold jj at h
  exact h
-- haycroft/store.Right
noncomputable def c37 : Code := Code.of Tryz.prog 37
noncomputable def L37 (E : LE) (x0 : AV) (H : Heap) : Res :=
  effK H (boxA H 52 x0) fun x1 H =>
  purK (fieldAddrA P 52 x1 0) fun x3 =>
  purK (loadA (Cx E) H 3 x3) fun x4 =>
  resK (E.call E.lim 89 [x4] H) fun x5 H =>
  purK (gPur (wantV x5 true) (fieldAddrA P 52 x1 1)) fun x7 =>
  purK (gPur (wantV x5 true) (loadA (Cx E) H 3 x7)) fun x8 =>
  resK (gRes (wantV x5 true) H (E.call E.lim 90 [x8, (.int .i64 2), (.int .i64 8)] H)) fun x9 H =>
  purK (pickA x5 x9 (.bool false)) fun x10 =>
  purK (gPur (wantV x10 true) (fieldAddrA P 52 x1 2)) fun x12 =>
  purK (gPur (wantV x10 true) (loadA (Cx E) H 3 x12)) fun x13 =>
  resK (gRes (wantV x10 true) H (E.call E.lim 90 [x13, (.int .i64 1), (.int .i64 64)] H)) fun x14 H =>
  purK (pickA x10 x14 (.bool false)) fun x15 =>
  purK (gPur (wantV x15 true) (fieldAddrA P 52 x1 3)) fun x17 =>
  purK (gPur (wantV x15 true) (loadA (Cx E) H 3 x17)) fun x18 =>
  resK (gRes (wantV x15 true) H (E.call E.lim 91 [x18] H)) fun x19 H =>
  purK (pickA x15 x19 (.bool false)) fun x20 =>
  purK (gPur (wantV x20 true) (fieldAddrA P 52 x1 4)) fun x22 =>
  purK (gPur (wantV x20 true) (loadA (Cx E) H 3 x22)) fun x23 =>
  resK (gRes (wantV x20 true) H (E.call E.lim 90 [x23, (.int .i64 0), (.int .i64 64)] H)) fun x24 H =>
  purK (pickA x20 x24 (.bool false)) fun x25 =>
  purK (gPur (wantV x25 true) (fieldAddrA P 52 x1 5)) fun x27 =>
  purK (gPur (wantV x25 true) (loadA (Cx E) H 3 x27)) fun x28 =>
  resK (gRes (wantV x25 true) H (E.call E.lim 90 [x28, (.int .i64 1), (.int .i64 8)] H)) fun x29 H =>
  purK (pickA x25 x29 (.bool false)) fun x30 =>
  retK [x30] H
theorem G37 (E : LE) (x0 : AV) (H : Heap) : jj E 37 c37 [x0, (.tup []), (.tup []), (.tup []), (.tup []), (.tup []), (.tup []), (.tup []), (.tup []), (.tup []), (.tup []), (.tup []), (.tup []), (.tup []), (.tup []), (.tup []), (.tup []), (.tup []), (.tup []), (.tup []), (.tup []), (.tup []), (.tup []), (.tup []), (.tup []), (.tup []), (.tup []), (.tup []), (.tup []), (.tup []), (.tup [])] H (kk none (fun s H => retK (([2] : List Nat).map fun t => s.getD t (.tup [])) H) [] retK [2]) = L37 E x0 H := by kernel_rfl
theorem E37 (ρ : Addr → Option Value) (k lim : Nat) (x0 : AV) (H : Heap) : evCall (cx ρ) (k + 1) lim 37 [x0] H = L37 ⟨ρ, evCall (cx ρ) k, (evCY (cx ρ) k).2, lim, k⟩ x0 H := by
  rw [evCall_body (cx ρ) k lim 37 _ H Tryz.f37 c37 [2] (by kernel_rfl) (by kernel_rfl) (by kernel_rfl) (by kernel_rfl) (by kernel_rfl)]
  have h := G37 ⟨ρ, evCall (cx ρ) k, (evCY (cx ρ) k).2, lim, k⟩ x0 H
  unfold jj at h
  exact h
-- (*haycroft/device.Device).On
noncomputable def c38 : Code := Code.of Tryz.prog 38
noncomputable def L38 (E : LE) (x0 : AV) (H : Heap) : Res :=
  resK (E.call E.lim 92 [x0] H) fun x4 H =>
  purK (binA P H .eql 28 x4 (.int .i64 0)) fun x5 =>
  retK [x5] H
theorem G38 (E : LE) (x0 : AV) (H : Heap) : jj E 38 c38 [x0, (.tup []), (.tup []), (.tup []), (.tup []), (.tup [])] H (kk none (fun s H => retK (([2] : List Nat).map fun t => s.getD t (.tup [])) H) [] retK [2]) = L38 E x0 H := by kernel_rfl
theorem E38 (ρ : Addr → Option Value) (k lim : Nat) (x0 : AV) (H : Heap) : evCall (cx ρ) (k + 1) lim 38 [x0] H = L38 ⟨ρ, evCall (cx ρ) k, (evCY (cx ρ) k).2, lim, k⟩ x0 H := by
  rw [evCall_body (cx ρ) k lim 38 _ H Tryz.f38 c38 [2] (by kernel_rfl) (by kernel_rfl) (by kernel_rfl) (by kernel_rfl) (by kernel_rfl)]
  have h := G38 ⟨ρ, evCall (cx ρ) k, (evCY (cx ρ) k).2, lim, k⟩ x0 H
  unfold jj at h
  exact h
-- haycroft/store.load
noncomputable def c39 : Code := Code.of Tryz.prog 39
noncomputable def N39_1_k (s : Slots) (H : Heap) (R : RK) (J : CodeF) : Res := J (Code.at [1, 1] c39) s H (kk none (fun s H => R (([4, 5] : List Nat).map fun t => s.getD t (.tup [])) H) [] R [4, 5])
noncomputable def N39_1 (E : LE) (x1 x2 : AV) (H : Heap) (R : RK) : Res :=
  purK (loadA (Cx E) H 52 x2) fun x25_1 =>
  resK (E.call E.lim 95 [x25_1, x1] H) fun x27_1 H =>
  purK (extA 0 x27_1) fun x28_1 =>
  purK (extA 1 x27_1) fun x29_1 =>
  R [x28_1, x29_1] H
theorem N39_1_eq (E : LE) (x1 x2 : AV) (H : Heap) (R : RK) : N39_1_k (sp 30 [(1, x1), (2, x2)]) H R (jj E 39) = N39_1 E x1 x2 H R := by kernel_rfl
noncomputable def L39 (E : LE) (x0 x1 : AV) (H : Heap) : Res :=
  effK H (boxA H 52 x0) fun x2 H =>
  resK (E.call E.lim 93 [x1] H) fun x12 H =>
  purK (extA 0 x12) fun x13 =>
  purK (extA 1 x12) fun x14 =>
  effK H (allocA (Cx E) H 173) fun x6 H =>
  effK H ((storeA (Cx E) E.lim H 173 x6 x13).map skips) fun _ H =>
  condK x14
  (
    purK (loadA (Cx E) H 52 x2) fun x17 =>
    purK (loadA (Cx E) H 173 x6) fun x19 =>
    resK (E.call E.lim 94 [x17, x1, x19] H) fun x20 H =>
    purK (extA 0 x20) fun x21 =>
    purK (extA 1 x20) fun x22 =>
    condK x22
    (
      retK [x21, (.int .i64 0)] H)
    (
      N39_1 E x1 x2 H retK))
  (
    N39_1 E x1 x2 H retK)
theorem L39_x (E : LE) (J : CodeF) (x0 x1 : AV) (H : Heap) : jx E 39 J c39 [x0, x1, (.tup []), (.tup []), (.tup []), (.tup []), (.tup []), (.tup []), (.tup []), (.tup []), (.tup []), (.tup []), (.tup []), (.tup []), (.tup []), (.tup []), (.tup []), (.tup []), (.tup []), (.tup []), (.tup []), (.tup []), (.tup []), (.tup []), (.tup []), (.tup []), (.tup []), (.tup []), (.tup []), (.tup [])] H (kk none (fun s H => retK (([4, 5] : List Nat).map fun t => s.getD t (.tup [])) H) [] retK [4, 5]) =
  effK H (boxA H 52 x0) fun x2 H =>
  resK (E.call E.lim 93 [x1] H) fun x12 H =>
  purK (extA 0 x12) fun x13 =>
  purK (extA 1 x12) fun x14 =>
  effK H (allocA (Cx E) H 173) fun x6 H =>
  effK H ((storeA (Cx E) E.lim H 173 x6 x13).map skips) fun _ H =>
  condK x14
  (
    purK (loadA (Cx E) H 52 x2) fun x17 =>
    purK (loadA (Cx E) H 173 x6) fun x19 =>
    resK (E.call E.lim 94 [x17, x1, x19] H) fun x20 H =>
    purK (extA 0 x20) fun x21 =>
    purK (extA 1 x20) fun x22 =>
    condK x22
    (
      retK [x21, (.int .i64 0)] H)
    (
      N39_1_k (sp 30 [(1, x1), (2, x2)]) H retK J))
  (
    N39_1_k (sp 30 [(1, x1), (2, x2)]) H retK J) := by kernel_rfl
theorem G39 (E : LE) (x0 x1 : AV) (H : Heap) : jj E 39 c39 [x0, x1, (.tup []), (.tup []), (.tup []), (.tup []), (.tup []), (.tup []), (.tup []), (.tup []), (.tup []), (.tup []), (.tup []), (.tup []), (.tup []), (.tup []), (.tup []), (.tup []), (.tup []), (.tup []), (.tup []), (.tup []), (.tup []), (.tup []), (.tup []), (.tup []), (.tup []), (.tup []), (.tup []), (.tup [])] H (kk none (fun s H => retK (([4, 5] : List Nat).map fun t => s.getD t (.tup [])) H) [] retK [4, 5]) = L39 E x0 x1 H := (jj_X E 39 _ _ H _).trans ((L39_x E (jj E 39) x0 x1 H).trans (by simp only [L39, N39_1_eq]))
theorem E39 (ρ : Addr → Option Value) (k lim : Nat) (x0 x1 : AV) (H : Heap) : evCall (cx ρ) (k + 1) lim 39 [x0, x1] H = L39 ⟨ρ, evCall (cx ρ) k, (evCY (cx ρ) k).2, lim, k⟩ x0 x1 H := by
  rw [evCall_body (cx ρ) k lim 39 _ H Tryz.f39 c39 [4, 5] (by kernel_rfl) (by kernel_rfl) (by kernel_rfl) (by kernel_rfl) (by kernel_rfl)]
  have h := G39 ⟨ρ, evCall (cx ρ) k, (evCY (cx ρ) k).2, lim, k⟩ x0 x1 H
  unfold jj at h
  exact h
end Go.Proofs.YtbnhlcgbigeceaaGreat
