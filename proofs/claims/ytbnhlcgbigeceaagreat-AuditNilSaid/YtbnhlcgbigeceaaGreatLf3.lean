/- Functions, lifted. Printed by a program of this repo. -/
import Derived.Test.YtbnhlcgbigeceaaGreatLfTab
set_option linter.unusedVariables false
set_option linter.unusedSimpArgs false
set_option maxRecDepth 100000
set_option maxHeartbeats 4000000
namespace Go.Proofs.YtbnhlcgbigeceaaGreat
open Go.Ev Go.RowKit
-- (*haycroft/task.Task).look
noncomputable def c233 : Code := Code.of Tryz.prog 233
noncomputable def L233 (E : LE) (x0 : AV) (H : Heap) : Res :=
  mkK H (allocA (Cx E) H 93) true fun x4 H =>
  purK (nilChkA x0) fun x8 =>
  purK (fieldAddrA P 258 x8 1) fun x9 =>
  purK (loadA (Cx E) H 95 x9) fun x10 =>
  purK (nilChkA x0) fun x12 =>
  purK (fieldAddrA P 258 x12 4) fun x13 =>
  purK (loadA (Cx E) H 22 x13) fun x14 =>
  resK (E.call E.lim 34 [x10, x14] H) fun x15 H =>
  purK (extA 0 x15) fun x16 =>
  purK (extA 1 x15) fun x17 =>
  effK H ((storeA (Cx E) E.lim H 93 x4 x16).map skips) fun _ H =>
  purK (binA P H .neq 28 x17 (.int .i64 0)) fun x19 =>
  condK x19
  (
    resK (E.call E.lim 169 [x17] H) fun x21 H =>
    purK (extA 0 x21) fun x22 =>
    purK (extA 1 x21) fun x23 =>
    retK [x22, x23] H)
  (
    purK (fieldAddrA P 93 x4 0) fun x24 =>
    purK (loadA (Cx E) H 3 x24) fun x25 =>
    purK (binA P H .neq 3 x25 (.int .i64 1)) fun x26 =>
    condK x26
    (
      purK (loadA (Cx E) H 93 x4) fun x28 =>
      resK (E.call E.lim 283 [x0, x28] H) fun x29 H =>
      purK (extA 0 x29) fun x30 =>
      purK (extA 1 x29) fun x31 =>
      retK [x30, x31] H)
    (
      purK (fieldAddrA P 93 x4 1) fun x34 =>
      purK (loadA (Cx E) H 3 x34) fun x35 =>
      purK (fieldAddrA P 93 x4 2) fun x36 =>
      purK (loadA (Cx E) H 22 x36) fun x37 =>
      purK (nilChkA x0) fun x38 =>
      purK (fieldAddrA P 258 x38 6) fun x39 =>
      effK H ((storeA (Cx E) E.lim H 3 x39 x35).map skips) fun _ H => bif (agn (loadA (Cx E) H 22 x36) x37 && true) then
        purK (nilChkA x0) fun x40 =>
        purK (fieldAddrA P 258 x40 7) fun x41 =>
        effK H ((storeA (Cx E) E.lim H 22 x41 x37).map skips) fun _ H =>
        purK (fieldAddrA P 93 x4 2) fun x43 =>
        purK (loadA (Cx E) H 22 x43) fun x44 =>
        resK (E.call E.lim 86 [x44, (.int .i64 0), (.int .i64 48)] H) fun x45 H =>
        purK (nilChkA x0) fun x46 =>
        purK (fieldAddrA P 258 x46 10) fun x47 =>
        effK H ((storeA (Cx E) E.lim H 22 x47 x45).map skips) fun _ H =>
        purK (nilChkA x0) fun x50 =>
        purK (fieldAddrA P 258 x50 10) fun x51 =>
        purK (loadA (Cx E) H 22 x51) fun x52 =>
        purK (nilChkA x0) fun x53 =>
        purK (fieldAddrA P 258 x53 11) fun x54 =>
        effK H ((storeA (Cx E) E.lim H 22 x54 x52).map skips) fun _ H =>
        purK (nilChkA x0) fun x57 =>
        purK (fieldAddrA P 258 x57 10) fun x58 =>
        purK (loadA (Cx E) H 22 x58) fun x59 =>
        purK (binA P H .eql 22 x59 (.int .u64 0)) fun x60 =>
        condK x60
        (
          resK (E.call E.lim 284 [x0] H) fun x62 H =>
          purK (extA 0 x62) fun x63 =>
          purK (extA 1 x62) fun x64 =>
          retK [x63, x64] H)
        (
          resK (E.call E.lim 239 [x0, (.int .i64 4)] H) fun x67 H =>
          condK x67
          (
            resK (E.call E.lim 241 [x0, (.fn (.func 242) [] [])] H) fun x69 H =>
            purK (extA 0 x69) fun x70 =>
            purK (extA 1 x69) fun x71 =>
            retK [x70, x71] H)
          (
            resK (E.call E.lim 241 [x0, (.fn (.func 285) [] [])] H) fun x73 H =>
            purK (extA 0 x73) fun x74 =>
            purK (extA 1 x73) fun x75 =>
            retK [x74, x75] H))
      else none))
theorem G233 (E : LE) (x0 : AV) (H : Heap) : jj E 233 c233 [x0, (.tup []), (.tup []), (.tup []), (.tup []), (.tup []), (.tup []), (.tup []), (.tup []), (.tup []), (.tup []), (.tup []), (.tup []), (.tup []), (.tup []), (.tup []), (.tup []), (.tup []), (.tup []), (.tup []), (.tup []), (.tup []), (.tup []), (.tup []), (.tup []), (.tup []), (.tup []), (.tup []), (.tup []), (.tup []), (.tup []), (.tup []), (.tup []), (.tup []), (.tup []), (.tup []), (.tup []), (.tup []), (.tup []), (.tup []), (.tup []), (.tup []), (.tup []), (.tup []), (.tup []), (.tup []), (.tup []), (.tup []), (.tup []), (.tup []), (.tup []), (.tup []), (.tup []), (.tup []), (.tup []), (.tup []), (.tup []), (.tup []), (.tup []), (.tup []), (.tup []), (.tup []), (.tup []), (.tup []), (.tup []), (.tup []), (.tup []), (.tup []), (.tup []), (.tup []), (.tup []), (.tup []), (.tup []), (.tup []), (.tup []), (.tup [])] H (kk none (fun s H => retK (([2, 3] : List Nat).map fun t => s.getD t (.tup [])) H) [] retK [2, 3]) = L233 E x0 H := by kernel_rfl
theorem E233 (ρ : Addr → Option Value) (k lim : Nat) (x0 : AV) (H : Heap) : evCall (cx ρ) (k + 1) lim 233 [x0] H = L233 ⟨ρ, evCall (cx ρ) k, (evCY (cx ρ) k).2, lim, k⟩ x0 H := by
  rw [evCall_body (cx ρ) k lim 233 _ H Tryz.f233 c233 [2, 3] (by kernel_rfl) (by kernel_rfl) (by kernel_rfl) (by kernel_rfl) (by kernel_rfl)]
  have h := G233 ⟨ρ, evCall (cx ρ) k, (evCY (cx ρ) k).2, lim, k⟩ x0 H
  unfold jj at h
  exact h
-- (*haycroft/cell.Row).Store
noncomputable def c234 : Code := Code.of Tryz.prog 234
noncomputable def N234_1_k (s : Slots) (H : Heap) (R : RK) (J : CodeF) : Res := J (Code.at [1, 1, 1] c234) s H (kk none (fun s H => R (([6] : List Nat).map fun t => s.getD t (.tup [])) H) [] R [6])
noncomputable def N234_1 (E : LE) (x7 : AV) (H : Heap) (R : RK) : Res :=
  R [x7] H
theorem N234_1_eq (E : LE) (x7 : AV) (H : Heap) (R : RK) : N234_1_k (sp 22 [(7, x7)]) H R (jj E 234) = N234_1 E x7 H R := by kernel_rfl
noncomputable def L234 (E : LE) (x0 x1 x2 : AV) (H : Heap) : Res :=
  resK (E.call E.lim 286 [x0, x1] H) fun x10 H =>
  purK (binA P H .eql 28 x10 (.int .i64 0)) fun x12 =>
  condK x12
  (
    purK (nilChkA x0) fun x14 =>
    purK (fieldAddrA P 232 x14 0) fun x15 =>
    purK (loadA (Cx E) H 228 x15) fun x16 =>
    purK (indexAddrA P 228 x16 x1) fun x18 =>
    resK (E.call E.lim 287 [x18, x2] H) fun x20 H =>
    N234_1 E x10 H retK)
  (
    N234_1 E x10 H retK)
theorem L234_x (E : LE) (J : CodeF) (x0 x1 x2 : AV) (H : Heap) : jx E 234 J c234 [x0, x1, x2, (.tup []), (.tup []), (.tup []), (.tup []), (.tup []), (.tup []), (.tup []), (.tup []), (.tup []), (.tup []), (.tup []), (.tup []), (.tup []), (.tup []), (.tup []), (.tup []), (.tup []), (.tup []), (.tup [])] H (kk none (fun s H => retK (([6] : List Nat).map fun t => s.getD t (.tup [])) H) [] retK [6]) =
  resK (E.call E.lim 286 [x0, x1] H) fun x10 H =>
  purK (binA P H .eql 28 x10 (.int .i64 0)) fun x12 =>
  condK x12
  (
    purK (nilChkA x0) fun x14 =>
    purK (fieldAddrA P 232 x14 0) fun x15 =>
    purK (loadA (Cx E) H 228 x15) fun x16 =>
    purK (indexAddrA P 228 x16 x1) fun x18 =>
    resK (E.call E.lim 287 [x18, x2] H) fun x20 H =>
    N234_1_k (sp 22 [(7, x10)]) H retK J)
  (
    N234_1_k (sp 22 [(7, x10)]) H retK J) := by kernel_rfl
theorem G234 (E : LE) (x0 x1 x2 : AV) (H : Heap) : jj E 234 c234 [x0, x1, x2, (.tup []), (.tup []), (.tup []), (.tup []), (.tup []), (.tup []), (.tup []), (.tup []), (.tup []), (.tup []), (.tup []), (.tup []), (.tup []), (.tup []), (.tup []), (.tup []), (.tup []), (.tup []), (.tup [])] H (kk none (fun s H => retK (([6] : List Nat).map fun t => s.getD t (.tup [])) H) [] retK [6]) = L234 E x0 x1 x2 H := (jj_X E 234 _ _ H _).trans ((L234_x E (jj E 234) x0 x1 x2 H).trans (by simp only [L234, N234_1_eq]))
theorem E234 (ρ : Addr → Option Value) (k lim : Nat) (x0 x1 x2 : AV) (H : Heap) : evCall (cx ρ) (k + 1) lim 234 [x0, x1, x2] H = L234 ⟨ρ, evCall (cx ρ) k, (evCY (cx ρ) k).2, lim, k⟩ x0 x1 x2 H := by
  rw [evCall_body (cx ρ) k lim 234 _ H Tryz.f234 c234 [6] (by kernel_rfl) (by kernel_rfl) (by kernel_rfl) (by kernel_rfl) (by kernel_rfl)]
  have h := G234 ⟨ρ, evCall (cx ρ) k, (evCY (cx ρ) k).2, lim, k⟩ x0 x1 x2 H
  unfold jj at h
  exact h
-- (*haycroft/epoch.Table).In
noncomputable def c235 : Code := Code.of Tryz.prog 235
noncomputable def N235_1_k (s : Slots) (H : Heap) (R : RK) (J : CodeF) : Res := J (Code.at [1, 1, 1] c235) s H (kk none (fun s H => R (([2] : List Nat).map fun t => s.getD t (.tup [])) H) [] R [2])
noncomputable def N235_1 (E : LE) (x3 : AV) (H : Heap) (R : RK) : Res :=
  R [x3] H
theorem N235_1_eq (E : LE) (x3 : AV) (H : Heap) (R : RK) : N235_1_k (sp 19 [(3, x3)]) H R (jj E 235) = N235_1 E x3 H R := by kernel_rfl
noncomputable def N235_2_k (s : Slots) (H : Heap) (kn : KS) (R : RK) (J : CodeF) : Res := J (Code.at [1, 1, 0, 1] c235) s H (kk (some [3]) kn [] R [2])
noncomputable def N235_2b_k (s : Slots) (H : Heap) (kn k0 : KS) (R : RK) (J : CodeF) : Res := J (Code.at [1, 1, 0, 1, 0, 0] c235) s H (kk (some [0, 3, 4]) kn [(0, (some [3]), k0)] R [2])
noncomputable def N235_3_k (s : Slots) (H : Heap) (kn k0 : KS) (R : RK) (J : CodeF) : Res := J (Code.at [1, 1, 0, 1, 0, 0, 1, 1] c235) s H (kk (some [0, 3, 4]) kn [(0, (some [3]), k0)] R [2])
noncomputable def N235_3 (E : LE) (x0 x3 x4 : AV) (H : Heap) (kn : AV → AV → AV → Heap → Res) : Res :=
  purK (binA P H .add 3 x4 (.int .i64 1)) fun x9_1 =>
  kn x0 x3 x9_1 H
theorem N235_3_eq (E : LE) (x0 x3 x4 : AV) (H : Heap) (kn k0 : KS) (R : RK) : N235_3_k (sp 19 [(0, x0), (3, x3), (4, x4)]) H kn k0 R (jj E 235) = N235_3 E x0 x3 x4 H (fun x0 x3 x4 H => kn (sp 19 [(0, x0), (3, x3), (4, x4)]) H) := by kernel_rfl
noncomputable def N235_2b (E : LE) (x0 x3 x4 : AV) (H : Heap) (kn : AV → AV → AV → Heap → Res) (k0 : AV → Heap → Res) : Res :=
  resK (E.call E.lim 166 [x0, x4] H) fun x7_1 H =>
  condK x7_1
  (
    resK (E.call E.lim 100 [x0, x4] H) fun x12_1 H =>
    purK (binA P H .gtr 22 x12_1 (.int .u64 0)) fun x13_1 =>
    condK x13_1
    (
      effK H (buildSliceA (Cx E) H 60 1 [(0, x4)]) fun x16_1 H =>
      effK H (builtinA (Cx E) E.lim H .append #[60, 60] [x3, x16_1]) fun x17_1 H =>
      N235_3 E x0 x17_1 x4 H kn)
    (
      N235_3 E x0 x3 x4 H kn))
  (
    k0 x3 H)
theorem N235_2b_x (E : LE) (J : CodeF) (x0 x3 x4 : AV) (H : Heap) (kn k0 : KS) (R : RK) : N235_2b_k (sp 19 [(0, x0), (3, x3), (4, x4)]) H kn k0 R (jx E 235 J) =
  resK (E.call E.lim 166 [x0, x4] H) fun x7_1 H =>
  condK x7_1
  (
    resK (E.call E.lim 100 [x0, x4] H) fun x12_1 H =>
    purK (binA P H .gtr 22 x12_1 (.int .u64 0)) fun x13_1 =>
    condK x13_1
    (
      effK H (buildSliceA (Cx E) H 60 1 [(0, x4)]) fun x16_1 H =>
      effK H (builtinA (Cx E) E.lim H .append #[60, 60] [x3, x16_1]) fun x17_1 H =>
      N235_3_k (sp 19 [(0, x0), (3, x17_1), (4, x4)]) H kn k0 R J)
    (
      N235_3_k (sp 19 [(0, x0), (3, x3), (4, x4)]) H kn k0 R J))
  (
    k0 (sp 19 [(3, x3)]) H) := by kernel_rfl
theorem N235_2b_eq (E : LE) (x0 x3 x4 : AV) (H : Heap) (kn k0 : KS) (R : RK) : N235_2b_k (sp 19 [(0, x0), (3, x3), (4, x4)]) H kn k0 R (jj E 235) = N235_2b E x0 x3 x4 H (fun x0 x3 x4 H => kn (sp 19 [(0, x0), (3, x3), (4, x4)]) H) (fun x3 H => k0 (sp 19 [(3, x3)]) H) := (jj_X E 235 _ _ H _).trans ((N235_2b_x E (jj E 235) x0 x3 x4 H kn k0 R).trans (by simp only [N235_2b, N235_3_eq]))
noncomputable def N235_2 (E : LE) (x0 x3 x4 : AV) (H : Heap) (kn : AV → Heap → Res) : Res :=
  loopL (fun (x : AV × AV) H kl => N235_2b E x0 x.1 x.2 H (fun _ x3 x4 H => kl (x3, x4) H) kn) E.k (x3, x4) H
theorem N235_2_eq (E : LE) (x0 x3 x4 : AV) (H : Heap) (kn : KS) (R : RK) : N235_2_k (sp 19 [(0, x0), (3, x3), (4, x4)]) H kn R (jj E 235) = N235_2 E x0 x3 x4 H (fun x3 H => kn (sp 19 [(3, x3)]) H) := by
  have e : Code.at [1, 1, 0, 1] c235 = Code.block 0 (Code.loop (Code.at [1, 1, 0, 1, 0, 0] c235)) := by kernel_rfl
  unfold N235_2_k N235_2 jj
  rw [e]
  rw [block_kk]
  exact loop_node [0, 3, 4] (fun x : AV × AV => (sp 19 [(0, x0), (3, (x.1)), (4, (x.2))])) (fun (x : AV × AV) H kl => N235_2b E x0 x.1 x.2 H (fun _ x3 x4 H => kl (x3, x4) H) (fun x3 H => kn (sp 19 [(3, x3)]) H)) (by kernel_rfl) (fun x => by kernel_rfl) (fun x H kl => by
    have h := N235_2b_eq E x0 (x.1) (x.2) H kl kn R
    unfold N235_2b_k jj at h
    exact h) (x3, x4) (sp 19 [(0, x0), (3, x3), (4, x4)]) H (by kernel_rfl)
noncomputable def L235 (E : LE) (x0 : AV) (H : Heap) : Res :=
  N235_2 E x0 .nils (.int .i64 0) H (fun x3 H =>
    N235_1 E x3 H retK)
theorem L235_x (E : LE) (J : CodeF) (x0 : AV) (H : Heap) : jx E 235 J c235 [x0, (.tup []), (.tup []), (.tup []), (.tup []), (.tup []), (.tup []), (.tup []), (.tup []), (.tup []), (.tup []), (.tup []), (.tup []), (.tup []), (.tup []), (.tup []), (.tup []), (.tup []), (.tup [])] H (kk none (fun s H => retK (([2] : List Nat).map fun t => s.getD t (.tup [])) H) [] retK [2]) =
  N235_2_k (sp 19 [(0, x0), (3, .nils), (4, (.int .i64 0))]) H (fun s H => N235_1_k s H retK J) retK J := by kernel_rfl
theorem G235 (E : LE) (x0 : AV) (H : Heap) : jj E 235 c235 [x0, (.tup []), (.tup []), (.tup []), (.tup []), (.tup []), (.tup []), (.tup []), (.tup []), (.tup []), (.tup []), (.tup []), (.tup []), (.tup []), (.tup []), (.tup []), (.tup []), (.tup []), (.tup [])] H (kk none (fun s H => retK (([2] : List Nat).map fun t => s.getD t (.tup [])) H) [] retK [2]) = L235 E x0 H := (jj_X E 235 _ _ H _).trans ((L235_x E (jj E 235) x0 H).trans (by simp only [L235, N235_1_eq, N235_2_eq]))
theorem E235 (ρ : Addr → Option Value) (k lim : Nat) (x0 : AV) (H : Heap) : evCall (cx ρ) (k + 1) lim 235 [x0] H = L235 ⟨ρ, evCall (cx ρ) k, (evCY (cx ρ) k).2, lim, k⟩ x0 H := by
  rw [evCall_body (cx ρ) k lim 235 _ H Tryz.f235 c235 [2] (by kernel_rfl) (by kernel_rfl) (by kernel_rfl) (by kernel_rfl) (by kernel_rfl)]
  have h := G235 ⟨ρ, evCall (cx ρ) k, (evCY (cx ρ) k).2, lim, k⟩ x0 H
  unfold jj at h
  exact h
-- (*haycroft/task.Task).is
noncomputable def c239 : Code := Code.of Tryz.prog 239
noncomputable def L239 (E : LE) (x0 x1 : AV) (H : Heap) : Res :=
  purK (nilChkA x0) fun x6 =>
  purK (fieldAddrA P 258 x6 3) fun x7 =>
  purK (fieldAddrA P 59 x7 0) fun x8 =>
  purK (loadA (Cx E) H 3 x8) fun x9 =>
  purK (binA P H .eql 3 x9 x1) fun x11 =>
  retK [x11] H
theorem G239 (E : LE) (x0 x1 : AV) (H : Heap) : jj E 239 c239 [x0, x1, (.tup []), (.tup []), (.tup []), (.tup []), (.tup []), (.tup []), (.tup []), (.tup []), (.tup []), (.tup [])] H (kk none (fun s H => retK (([4] : List Nat).map fun t => s.getD t (.tup [])) H) [] retK [4]) = L239 E x0 x1 H := by kernel_rfl
theorem E239 (ρ : Addr → Option Value) (k lim : Nat) (x0 x1 : AV) (H : Heap) : evCall (cx ρ) (k + 1) lim 239 [x0, x1] H = L239 ⟨ρ, evCall (cx ρ) k, (evCY (cx ρ) k).2, lim, k⟩ x0 x1 H := by
  rw [evCall_body (cx ρ) k lim 239 _ H Tryz.f239 c239 [4] (by kernel_rfl) (by kernel_rfl) (by kernel_rfl) (by kernel_rfl) (by kernel_rfl)]
  have h := G239 ⟨ρ, evCall (cx ρ) k, (evCY (cx ρ) k).2, lim, k⟩ x0 x1 H
  unfold jj at h
  exact h
-- (*haycroft/task.Task).ends
noncomputable def c240 : Code := Code.of Tryz.prog 240
noncomputable def L240 (E : LE) (x0 x1 x2 : AV) (H : Heap) : Res :=
  purK (buildA P 256 [(0, x1), (1, x2)]) fun x12 =>
  purK (nilChkA x0) fun x13 =>
  purK (fieldAddrA P 258 x13 17) fun x14 =>
  effK H ((storeA (Cx E) E.lim H 4 x14 (.bool true)).map skips) fun _ H =>
  purK (nilChkA x0) fun x15 =>
  purK (fieldAddrA P 258 x15 18) fun x16 =>
  effK H ((storeA (Cx E) E.lim H 256 x16 x12).map skips) fun _ H =>
  retK [(.int .i64 2), (.int .i64 0)] H
theorem G240 (E : LE) (x0 x1 x2 : AV) (H : Heap) : jj E 240 c240 [x0, x1, x2, (.tup []), (.tup []), (.tup []), (.tup []), (.tup []), (.tup []), (.tup []), (.tup []), (.tup []), (.tup []), (.tup []), (.tup []), (.tup []), (.tup [])] H (kk none (fun s H => retK (([6, 7] : List Nat).map fun t => s.getD t (.tup [])) H) [] retK [6, 7]) = L240 E x0 x1 x2 H := by kernel_rfl
theorem E240 (ρ : Addr → Option Value) (k lim : Nat) (x0 x1 x2 : AV) (H : Heap) : evCall (cx ρ) (k + 1) lim 240 [x0, x1, x2] H = L240 ⟨ρ, evCall (cx ρ) k, (evCY (cx ρ) k).2, lim, k⟩ x0 x1 x2 H := by
  rw [evCall_body (cx ρ) k lim 240 _ H Tryz.f240 c240 [6, 7] (by kernel_rfl) (by kernel_rfl) (by kernel_rfl) (by kernel_rfl) (by kernel_rfl)]
  have h := G240 ⟨ρ, evCall (cx ρ) k, (evCY (cx ρ) k).2, lim, k⟩ x0 x1 x2 H
  unfold jj at h
  exact h
-- (*haycroft/task.Task).more
noncomputable def c241 : Code := Code.of Tryz.prog 241
noncomputable def L241 (E : LE) (x0 x1 : AV) (H : Heap) : Res :=
  purK (nilChkA x0) fun x8 =>
  purK (fieldAddrA P 258 x8 5) fun x9 =>
  effK H ((storeA (Cx E) E.lim H 252 x9 x1).map skips) fun _ H =>
  retK [(.int .i64 1), (.int .i64 0)] H
theorem G241 (E : LE) (x0 x1 : AV) (H : Heap) : jj E 241 c241 [x0, x1, (.tup []), (.tup []), (.tup []), (.tup []), (.tup []), (.tup []), (.tup []), (.tup [])] H (kk none (fun s H => retK (([4, 5] : List Nat).map fun t => s.getD t (.tup [])) H) [] retK [4, 5]) = L241 E x0 x1 H := by kernel_rfl
theorem E241 (ρ : Addr → Option Value) (k lim : Nat) (x0 x1 : AV) (H : Heap) : evCall (cx ρ) (k + 1) lim 241 [x0, x1] H = L241 ⟨ρ, evCall (cx ρ) k, (evCY (cx ρ) k).2, lim, k⟩ x0 x1 H := by
  rw [evCall_body (cx ρ) k lim 241 _ H Tryz.f241 c241 [4, 5] (by kernel_rfl) (by kernel_rfl) (by kernel_rfl) (by kernel_rfl) (by kernel_rfl)]
  have h := G241 ⟨ρ, evCall (cx ρ) k, (evCY (cx ρ) k).2, lim, k⟩ x0 x1 H
  unfold jj at h
  exact h
-- (*haycroft/task.Task).take
noncomputable def c242 : Code := Code.of Tryz.prog 242
noncomputable def L242 (E : LE) (x0 : AV) (H : Heap) : Res :=
  resK (E.call E.lim 288 [x0] H) fun x9 H =>
  effK H (allocA (Cx E) H 27) fun x4 H =>
  effK H ((storeA (Cx E) E.lim H 27 x4 x9).map skips) fun _ H =>
  purK (nilChkA x0) fun x12 =>
  purK (fieldAddrA P 258 x12 0) fun x13 =>
  purK (loadA (Cx E) H 84 x13) fun x14 =>
  purK (fieldAddrA P 27 x4 1) fun x15 =>
  purK (loadA (Cx E) H 9 x15) fun x16 =>
  purK (lenBA (Cx E) H 9 x16) fun x17 =>
  purK (fieldAddrA P 27 x4 2) fun x18 =>
  purK (loadA (Cx E) H 9 x18) fun x19 =>
  purK (lenBA (Cx E) H 9 x19) fun x20 =>
  resK (E.call E.lim 61 [x17, x20] H) fun x21 H => bif (agn (loadA (Cx E) H 84 x13) x14 && true) then
    resK (E.call E.lim 289 [x14, x21] H) fun x22 H =>
    purK (extA 0 x22) fun x23 =>
    purK (extA 1 x22) fun x24 =>
    purK (extA 2 x22) fun x25 =>
    purK (binA P H .neq 28 x25 (.int .i64 0)) fun x27 =>
    condK x27
    (
      resK (E.call E.lim 169 [x25] H) fun x29 H =>
      purK (extA 0 x29) fun x30 =>
      purK (extA 1 x29) fun x31 =>
      retK [x30, x31] H)
    (
      purK (binA P H .eql 3 x24 (.int .i64 1)) fun x34 =>
      condK x34
      (
        purK (nilChkA x0) fun x37 =>
        purK (fieldAddrA P 258 x37 12) fun x38 =>
        effK H ((storeA (Cx E) E.lim H 22 x38 x23).map skips) fun _ H =>
        resK (E.call E.lim 241 [x0, (.fn (.func 290) [] [])] H) fun x40 H =>
        purK (extA 0 x40) fun x41 =>
        purK (extA 1 x40) fun x42 =>
        retK [x41, x42] H)
      (
        purK (binA P H .eql 3 x24 (.int .i64 2)) fun x44 =>
        condK x44
        (
          resK (E.call E.lim 241 [x0, (.fn (.func 291) [] [])] H) fun x46 H =>
          purK (extA 0 x46) fun x47 =>
          purK (extA 1 x46) fun x48 =>
          retK [x47, x48] H)
        (
          purK (binA P H .eql 3 x24 (.int .i64 4)) fun x50 =>
          condK x50
          (
            resK (E.call E.lim 240 [x0, (.int .i64 9), (.str (ByteArray.mk #[]))] H) fun x52 H =>
            purK (extA 0 x52) fun x53 =>
            purK (extA 1 x52) fun x54 =>
            retK [x53, x54] H)
          (
            resK (E.call E.lim 292 [x0, (.fn (.func 242) [] [])] H) fun x56 H =>
            purK (extA 0 x56) fun x57 =>
            purK (extA 1 x56) fun x58 =>
            retK [x57, x58] H))))
  else none
theorem G242 (E : LE) (x0 : AV) (H : Heap) : jj E 242 c242 [x0, (.tup []), (.tup []), (.tup []), (.tup []), (.tup []), (.tup []), (.tup []), (.tup []), (.tup []), (.tup []), (.tup []), (.tup []), (.tup []), (.tup []), (.tup []), (.tup []), (.tup []), (.tup []), (.tup []), (.tup []), (.tup []), (.tup []), (.tup []), (.tup []), (.tup []), (.tup []), (.tup []), (.tup []), (.tup []), (.tup []), (.tup []), (.tup []), (.tup []), (.tup []), (.tup []), (.tup []), (.tup []), (.tup []), (.tup []), (.tup []), (.tup []), (.tup []), (.tup []), (.tup []), (.tup []), (.tup []), (.tup []), (.tup []), (.tup []), (.tup []), (.tup []), (.tup []), (.tup []), (.tup []), (.tup []), (.tup []), (.tup []), (.tup [])] H (kk none (fun s H => retK (([2, 3] : List Nat).map fun t => s.getD t (.tup [])) H) [] retK [2, 3]) = L242 E x0 H := by kernel_rfl
theorem E242 (ρ : Addr → Option Value) (k lim : Nat) (x0 : AV) (H : Heap) : evCall (cx ρ) (k + 1) lim 242 [x0] H = L242 ⟨ρ, evCall (cx ρ) k, (evCY (cx ρ) k).2, lim, k⟩ x0 H := by
  rw [evCall_body (cx ρ) k lim 242 _ H Tryz.f242 c242 [2, 3] (by kernel_rfl) (by kernel_rfl) (by kernel_rfl) (by kernel_rfl) (by kernel_rfl)]
  have h := G242 ⟨ρ, evCall (cx ρ) k, (evCY (cx ρ) k).2, lim, k⟩ x0 H
  unfold jj at h
  exact h
-- (*haycroft/cell.Row).Add
noncomputable def c246 : Code := Code.of Tryz.prog 246
noncomputable def L246 (E : LE) (x0 x1 x2 : AV) (H : Heap) : Res :=
  resK (E.call E.lim 286 [x0, x1] H) fun x11 H =>
  purK (binA P H .neq 28 x11 (.int .i64 0)) fun x13 =>
  condK x13
  (
    retK [(.int .u64 0), x11] H)
  (
    purK (nilChkA x0) fun x16 =>
    purK (fieldAddrA P 232 x16 0) fun x17 =>
    purK (loadA (Cx E) H 228 x17) fun x18 =>
    purK (indexAddrA P 228 x18 x1) fun x20 =>
    resK (E.call E.lim 295 [x20, x2] H) fun x22 H =>
    purK (binA P H .sub 22 x22 x2) fun x24 =>
    retK [x24, (.int .i64 0)] H)
theorem G246 (E : LE) (x0 x1 x2 : AV) (H : Heap) : jj E 246 c246 [x0, x1, x2, (.tup []), (.tup []), (.tup []), (.tup []), (.tup []), (.tup []), (.tup []), (.tup []), (.tup []), (.tup []), (.tup []), (.tup []), (.tup []), (.tup []), (.tup []), (.tup []), (.tup []), (.tup []), (.tup []), (.tup []), (.tup []), (.tup [])] H (kk none (fun s H => retK (([6, 7] : List Nat).map fun t => s.getD t (.tup [])) H) [] retK [6, 7]) = L246 E x0 x1 x2 H := by kernel_rfl
theorem E246 (ρ : Addr → Option Value) (k lim : Nat) (x0 x1 x2 : AV) (H : Heap) : evCall (cx ρ) (k + 1) lim 246 [x0, x1, x2] H = L246 ⟨ρ, evCall (cx ρ) k, (evCY (cx ρ) k).2, lim, k⟩ x0 x1 x2 H := by
  rw [evCall_body (cx ρ) k lim 246 _ H Tryz.f246 c246 [6, 7] (by kernel_rfl) (by kernel_rfl) (by kernel_rfl) (by kernel_rfl) (by kernel_rfl)]
  have h := G246 ⟨ρ, evCall (cx ρ) k, (evCY (cx ρ) k).2, lim, k⟩ x0 x1 x2 H
  unfold jj at h
  exact h
-- haycroft/field.fit
noncomputable def c270 : Code := Code.of Tryz.prog 270
noncomputable def N270_1_k (s : Slots) (H : Heap) (R : RK) (J : CodeF) : Res := J (Code.at [1, 1, 1] c270) s H (kk none (fun s H => R (([2] : List Nat).map fun t => s.getD t (.tup [])) H) [] R [2])
noncomputable def N270_1 (E : LE) (H : Heap) (R : RK) : Res :=
  R [(.bool true)] H
theorem N270_1_eq (E : LE) (H : Heap) (R : RK) : N270_1_k (sp 23 []) H R (jj E 270) = N270_1 E H R := by kernel_rfl
noncomputable def N270_2_k (s : Slots) (H : Heap) (kn : KS) (R : RK) (J : CodeF) : Res := J (Code.at [1, 1, 0, 1] c270) s H (kk (some []) kn [] R [2])
noncomputable def N270_2b_k (s : Slots) (H : Heap) (kn k0 : KS) (R : RK) (J : CodeF) : Res := J (Code.at [1, 1, 0, 1, 0, 0] c270) s H (kk (some [3, 6, 7, 8]) kn [(0, (some []), k0)] R [2])
noncomputable def N270_2b (E : LE) (x3 x6 x7 x8 : AV) (H : Heap) (kn : AV → AV → AV → AV → Heap → Res) (k0 : Heap → Res) (R : RK) : Res :=
  purK (binA P H .lss 3 x8 x7) fun x9_1 =>
  condK x9_1
  (
    purK (indexAddrA P 60 x6 x8) fun x10_1 =>
    purK (loadA (Cx E) H 3 x10_1) fun x11_1 =>
    purK (binA P H .lss 3 x11_1 (.int .i64 1)) fun x13_1 =>
    purK (gPur (wantV x13_1 false) (some x11_1)) fun x15_1 =>
    purK (gPur (wantV x13_1 false) (some x3)) fun x16_1 =>
    purK (gPur (wantV x13_1 false) (binA P H .gtr 3 x15_1 x16_1)) fun x17_1 =>
    purK (pickA x13_1 (.bool true) x17_1) fun x18_1 =>
    condK x18_1
    (
      R [(.bool false)] H)
    (
      purK (binA P H .sub 3 x3 x11_1) fun x21_1 =>
      purK (binA P H .add 3 x8 (.int .i64 1)) fun x22_1 =>
      kn x21_1 x6 x7 x22_1 H))
  (
    k0 H)
theorem N270_2b_eq (E : LE) (x3 x6 x7 x8 : AV) (H : Heap) (kn k0 : KS) (R : RK) : N270_2b_k (sp 23 [(3, x3), (6, x6), (7, x7), (8, x8)]) H kn k0 R (jj E 270) = N270_2b E x3 x6 x7 x8 H (fun x3 x6 x7 x8 H => kn (sp 23 [(3, x3), (6, x6), (7, x7), (8, x8)]) H) (fun H => k0 (sp 23 []) H) R := by kernel_rfl
noncomputable def N270_2 (E : LE) (x3 x6 x7 x8 : AV) (H : Heap) (kn : Heap → Res) (R : RK) : Res :=
  loopL (fun (x : AV × AV) H kl => N270_2b E x.1 x6 x7 x.2 H (fun x3 _ _ x8 H => kl (x3, x8) H) kn R) E.k (x3, x8) H
theorem N270_2_eq (E : LE) (x3 x6 x7 x8 : AV) (H : Heap) (kn : KS) (R : RK) : N270_2_k (sp 23 [(3, x3), (6, x6), (7, x7), (8, x8)]) H kn R (jj E 270) = N270_2 E x3 x6 x7 x8 H (fun H => kn (sp 23 []) H) R := by
  have e : Code.at [1, 1, 0, 1] c270 = Code.block 0 (Code.loop (Code.at [1, 1, 0, 1, 0, 0] c270)) := by kernel_rfl
  unfold N270_2_k N270_2 jj
  rw [e]
  rw [block_kk]
  exact loop_node [3, 6, 7, 8] (fun x : AV × AV => (sp 23 [(3, (x.1)), (6, x6), (7, x7), (8, (x.2))])) (fun (x : AV × AV) H kl => N270_2b E x.1 x6 x7 x.2 H (fun x3 _ _ x8 H => kl (x3, x8) H) (fun H => kn (sp 23 []) H) R) (by kernel_rfl) (fun x => by kernel_rfl) (fun x H kl => by
    have h := N270_2b_eq E (x.1) x6 x7 (x.2) H kl kn R
    unfold N270_2b_k jj at h
    exact h) (x3, x8) (sp 23 [(3, x3), (6, x6), (7, x7), (8, x8)]) H (by kernel_rfl)
noncomputable def L270 (E : LE) (x0 : AV) (H : Heap) : Res :=
  purK (lenBA (Cx E) H 60 x0) fun x7 =>
  N270_2 E (.int .i64 64) x0 x7 (.int .i64 0) H (fun H =>
    N270_1 E H retK) retK
theorem L270_x (E : LE) (J : CodeF) (x0 : AV) (H : Heap) : jx E 270 J c270 [x0, (.tup []), (.tup []), (.tup []), (.tup []), (.tup []), (.tup []), (.tup []), (.tup []), (.tup []), (.tup []), (.tup []), (.tup []), (.tup []), (.tup []), (.tup []), (.tup []), (.tup []), (.tup []), (.tup []), (.tup []), (.tup []), (.tup [])] H (kk none (fun s H => retK (([2] : List Nat).map fun t => s.getD t (.tup [])) H) [] retK [2]) =
  purK (lenBA (Cx E) H 60 x0) fun x7 =>
  N270_2_k (sp 23 [(3, (.int .i64 64)), (6, x0), (7, x7), (8, (.int .i64 0))]) H (fun s H => N270_1_k s H retK J) retK J := by kernel_rfl
theorem G270 (E : LE) (x0 : AV) (H : Heap) : jj E 270 c270 [x0, (.tup []), (.tup []), (.tup []), (.tup []), (.tup []), (.tup []), (.tup []), (.tup []), (.tup []), (.tup []), (.tup []), (.tup []), (.tup []), (.tup []), (.tup []), (.tup []), (.tup []), (.tup []), (.tup []), (.tup []), (.tup []), (.tup [])] H (kk none (fun s H => retK (([2] : List Nat).map fun t => s.getD t (.tup [])) H) [] retK [2]) = L270 E x0 H := (jj_X E 270 _ _ H _).trans ((L270_x E (jj E 270) x0 H).trans (by simp only [L270, N270_1_eq, N270_2_eq]))
theorem E270 (ρ : Addr → Option Value) (k lim : Nat) (x0 : AV) (H : Heap) : evCall (cx ρ) (k + 1) lim 270 [x0] H = L270 ⟨ρ, evCall (cx ρ) k, (evCY (cx ρ) k).2, lim, k⟩ x0 H := by
  rw [evCall_body (cx ρ) k lim 270 _ H Tryz.f270 c270 [2] (by kernel_rfl) (by kernel_rfl) (by kernel_rfl) (by kernel_rfl) (by kernel_rfl)]
  have h := G270 ⟨ρ, evCall (cx ρ) k, (evCY (cx ρ) k).2, lim, k⟩ x0 H
  unfold jj at h
  exact h
-- haycroft/field.Put
noncomputable def c271 : Code := Code.of Tryz.prog 271
noncomputable def L271 (E : LE) (x0 x1 x2 x3 : AV) (H : Heap) : Res :=
  resK (E.call E.lim 151 [x1, x2] H) fun x13 H =>
  purK (unA .not x13) fun x14 =>
  condK x14
  (
    retK [(.int .u64 0), (.int .i64 1)] H)
  (
    resK (E.call E.lim 131 [x2] H) fun x18 H =>
    purK (binA P H .gtr 22 x3 x18) fun x19 =>
    condK x19
    (
      retK [(.int .u64 0), (.int .i64 13)] H)
    (
      purK (binA P H .shl 22 x3 x1) fun x28 =>
      resK (E.call E.lim 131 [x2] H) fun x22 H => bif (agn (binA P H .shl 22 x3 x1) x28 && true) then
        purK (binA P H .shl 22 x22 x1) fun x24 =>
        purK (binA P H .andNot 22 x0 x24) fun x25 =>
        purK (binA P H .or 22 x25 x28) fun x29 =>
        retK [x29, (.int .i64 0)] H
      else none))
theorem G271 (E : LE) (x0 x1 x2 x3 : AV) (H : Heap) : jj E 271 c271 [x0, x1, x2, x3, (.tup []), (.tup []), (.tup []), (.tup []), (.tup []), (.tup []), (.tup []), (.tup []), (.tup []), (.tup []), (.tup []), (.tup []), (.tup []), (.tup []), (.tup []), (.tup []), (.tup []), (.tup []), (.tup []), (.tup []), (.tup []), (.tup []), (.tup []), (.tup []), (.tup []), (.tup [])] H (kk none (fun s H => retK (([8, 9] : List Nat).map fun t => s.getD t (.tup [])) H) [] retK [8, 9]) = L271 E x0 x1 x2 x3 H := by kernel_rfl
theorem E271 (ρ : Addr → Option Value) (k lim : Nat) (x0 x1 x2 x3 : AV) (H : Heap) : evCall (cx ρ) (k + 1) lim 271 [x0, x1, x2, x3] H = L271 ⟨ρ, evCall (cx ρ) k, (evCY (cx ρ) k).2, lim, k⟩ x0 x1 x2 x3 H := by
  rw [evCall_body (cx ρ) k lim 271 _ H Tryz.f271 c271 [8, 9] (by kernel_rfl) (by kernel_rfl) (by kernel_rfl) (by kernel_rfl) (by kernel_rfl)]
  have h := G271 ⟨ρ, evCall (cx ρ) k, (evCY (cx ρ) k).2, lim, k⟩ x0 x1 x2 x3 H
  unfold jj at h
  exact h
-- slices.insertionSortCmpFunc[haycroft/api.Commit]
noncomputable def c274 : Code := Code.of Tryz.prog 274
noncomputable def N274_1_k (s : Slots) (H : Heap) (R : RK) (J : CodeF) : Res := J (Code.at [1] c274) s H (kk none (fun s H => R (([] : List Nat).map fun t => s.getD t (.tup [])) H) [] R [])
noncomputable def N274_1b_k (s : Slots) (H : Heap) (kn : KS) (R : RK) (J : CodeF) : Res := J (Code.at [1, 0, 0] c274) s H (kk (some [0, 1, 2, 3, 8]) kn [(0, none, (fun s H => R (([] : List Nat).map fun t => s.getD t (.tup [])) H))] R [])
noncomputable def N274_2_k (s : Slots) (H : Heap) (kn : KS) (R : RK) (J : CodeF) : Res := J (Code.at [1, 0, 0, 1, 1] c274) s H (kk (some [0, 1, 2, 3, 8]) kn [(0, none, (fun s H => R (([] : List Nat).map fun t => s.getD t (.tup [])) H))] R [])
noncomputable def N274_2 (E : LE) (x0 x1 x2 x3 x8 : AV) (H : Heap) (kn : AV → AV → AV → AV → AV → Heap → Res) : Res :=
  purK (binA P H .add 3 x8 (.int .i64 1)) fun x16_1 =>
  kn x0 x1 x2 x3 x16_1 H
theorem N274_2_eq (E : LE) (x0 x1 x2 x3 x8 : AV) (H : Heap) (kn : KS) (R : RK) : N274_2_k (sp 53 [(0, x0), (1, x1), (2, x2), (3, x3), (8, x8)]) H kn R (jj E 274) = N274_2 E x0 x1 x2 x3 x8 H (fun x0 x1 x2 x3 x8 H => kn (sp 53 [(0, x0), (1, x1), (2, x2), (3, x3), (8, x8)]) H) := by kernel_rfl
noncomputable def N274_3_k (s : Slots) (H : Heap) (kn k1 : KS) (R : RK) (J : CodeF) : Res := J (Code.at [1, 0, 0, 1, 0, 0, 1] c274) s H (kk (some [0, 1, 2, 3, 8]) kn [(1, (some [0, 1, 2, 3, 8]), k1), (0, none, (fun s H => R (([] : List Nat).map fun t => s.getD t (.tup [])) H))] R [])
noncomputable def N274_3b_k (s : Slots) (H : Heap) (kn k2 k1 : KS) (R : RK) (J : CodeF) : Res := J (Code.at [1, 0, 0, 1, 0, 0, 1, 0, 0] c274) s H (kk (some [0, 1, 2, 3, 8, 9]) kn [(2, (some [0, 1, 2, 3, 8]), k2), (1, (some [0, 1, 2, 3, 8]), k1), (0, none, (fun s H => R (([] : List Nat).map fun t => s.getD t (.tup [])) H))] R [])
noncomputable def N274_3b (E : LE) (x0 x1 x2 x3 x8 x9 : AV) (H : Heap) (kn : AV → AV → AV → AV → AV → AV → Heap → Res) (k2 : AV → AV → AV → AV → AV → Heap → Res) : Res :=
  purK (binA P H .gtr 3 x9 x1) fun x20_1 =>
  boolK (wantV x20_1 true) fun b1 => purK (bif b1 then some x3 else some (.tup [])) fun x22_1 =>
  boolK (wantV x20_1 true) fun b2 => purK (bif b2 then some x0 else some (.tup [])) fun x23_1 =>
  boolK (wantV x20_1 true) fun b3 => purK (bif b3 then some x9 else some (.tup [])) fun x24_1 =>
  boolK (wantV x20_1 true) fun b4 => purK (bif b4 then indexAddrA P 234 x23_1 x24_1 else some (.tup [])) fun x25_1 =>
  boolK (wantV x20_1 true) fun b5 => purK (bif b5 then loadA (Cx E) H 236 x25_1 else some (.tup [])) fun x26_1 =>
  boolK (wantV x20_1 true) fun b6 => purK (bif b6 then some x0 else some (.tup [])) fun x27_1 =>
  boolK (wantV x20_1 true) fun b7 => purK (bif b7 then some x9 else some (.tup [])) fun x28_1 =>
  boolK (wantV x20_1 true) fun b8 => purK (bif b8 then binA P H .sub 3 x28_1 (.int .i64 1) else some (.tup [])) fun x29_1 =>
  boolK (wantV x20_1 true) fun b9 => purK (bif b9 then indexAddrA P 234 x27_1 x29_1 else some (.tup [])) fun x30_1 =>
  boolK (wantV x20_1 true) fun b10 => purK (bif b10 then loadA (Cx E) H 236 x30_1 else some (.tup [])) fun x31_1 =>
  boolK (wantV x20_1 true) fun b11 => resK (gRes (some b11) H (valR E.call noY E.lim x22_1 [x26_1, x31_1] H)) fun x32_1 H => bif !b11 || ((!b10 || true) && ((!b8 || true) && ((!b5 || true) && true))) then
    purK (gPur (wantV x20_1 true) (binA P H .lss 3 x32_1 (.int .i64 0))) fun x33_1 =>
    purK (pickA x20_1 x33_1 (.bool false)) fun x34_1 =>
    condK x34_1
    (
      purK (binA P H .sub 3 x9 (.int .i64 1)) fun x41_1 =>
      purK (binA P H .sub 3 x9 (.int .i64 1)) fun x44_1 =>
      purK (indexAddrA P 234 x0 x44_1) fun x45_1 =>
      purK (loadA (Cx E) H 236 x45_1) fun x46_1 =>
      purK (indexAddrA P 234 x0 x9) fun x49_1 =>
      purK (loadA (Cx E) H 236 x49_1) fun x50_1 =>
      purK (indexAddrA P 234 x0 x9) fun x51_1 =>
      effK H ((storeA (Cx E) E.lim H 236 x51_1 x46_1).map skips) fun _ H => bif (agn (binA P H .sub 3 x9 (.int .i64 1)) x41_1 && true) then
        purK (indexAddrA P 234 x0 x41_1) fun x52_1 =>
        effK H ((storeA (Cx E) E.lim H 236 x52_1 x50_1).map skips) fun _ H =>
        purK (binA P H .sub 3 x9 (.int .i64 1)) fun x36_1 =>
        kn x0 x1 x2 x3 x8 x36_1 H
      else none)
    (
      k2 x0 x1 x2 x3 x8 H)
  else none
theorem N274_3b_eq (E : LE) (x0 x1 x2 x3 x8 x9 : AV) (H : Heap) (kn k2 k1 : KS) (R : RK) : N274_3b_k (sp 53 [(0, x0), (1, x1), (2, x2), (3, x3), (8, x8), (9, x9)]) H kn k2 k1 R (jj E 274) = N274_3b E x0 x1 x2 x3 x8 x9 H (fun x0 x1 x2 x3 x8 x9 H => kn (sp 53 [(0, x0), (1, x1), (2, x2), (3, x3), (8, x8), (9, x9)]) H) (fun x0 x1 x2 x3 x8 H => k2 (sp 53 [(0, x0), (1, x1), (2, x2), (3, x3), (8, x8)]) H) := by kernel_rfl
noncomputable def N274_3 (E : LE) (x0 x1 x2 x3 x8 x9 : AV) (H : Heap) (kn : AV → AV → AV → AV → AV → Heap → Res) : Res :=
  loopL (fun (x : AV) H kl => N274_3b E x0 x1 x2 x3 x8 x H (fun _ _ _ _ _ x9 H => kl x9 H) kn) E.k x9 H
theorem N274_3_eq (E : LE) (x0 x1 x2 x3 x8 x9 : AV) (H : Heap) (kn k1 : KS) (R : RK) : N274_3_k (sp 53 [(0, x0), (1, x1), (2, x2), (3, x3), (8, x8), (9, x9)]) H kn k1 R (jj E 274) = N274_3 E x0 x1 x2 x3 x8 x9 H (fun x0 x1 x2 x3 x8 H => kn (sp 53 [(0, x0), (1, x1), (2, x2), (3, x3), (8, x8)]) H) := by
  have e : Code.at [1, 0, 0, 1, 0, 0, 1] c274 = Code.block 2 (Code.loop (Code.at [1, 0, 0, 1, 0, 0, 1, 0, 0] c274)) := by kernel_rfl
  unfold N274_3_k N274_3 jj
  rw [e]
  rw [block_kk]
  exact loop_node [0, 1, 2, 3, 8, 9] (fun x : AV => (sp 53 [(0, x0), (1, x1), (2, x2), (3, x3), (8, x8), (9, (x))])) (fun (x : AV) H kl => N274_3b E x0 x1 x2 x3 x8 x H (fun _ _ _ _ _ x9 H => kl x9 H) (fun x0 x1 x2 x3 x8 H => kn (sp 53 [(0, x0), (1, x1), (2, x2), (3, x3), (8, x8)]) H)) (by kernel_rfl) (fun x => by kernel_rfl) (fun x H kl => by
    have h := N274_3b_eq E x0 x1 x2 x3 x8 (x) H kl kn k1 R
    unfold N274_3b_k jj at h
    exact h) x9 (sp 53 [(0, x0), (1, x1), (2, x2), (3, x3), (8, x8), (9, x9)]) H (by kernel_rfl)
noncomputable def N274_1b (E : LE) (x0 x1 x2 x3 x8 : AV) (H : Heap) (kn : AV → AV → AV → AV → AV → Heap → Res) (R : RK) : Res :=
  purK (binA P H .lss 3 x8 x2) fun x14_1 =>
  condK x14_1
  (
    N274_3 E x0 x1 x2 x3 x8 x8 H (fun x0_1 x1_1 x2_1 x3_1 x8_1 H =>
      N274_2 E x0_1 x1_1 x2_1 x3_1 x8_1 H kn))
  (
    R [] H)
theorem N274_1b_x (E : LE) (J : CodeF) (x0 x1 x2 x3 x8 : AV) (H : Heap) (kn : KS) (R : RK) : N274_1b_k (sp 53 [(0, x0), (1, x1), (2, x2), (3, x3), (8, x8)]) H kn R (jx E 274 J) =
  purK (binA P H .lss 3 x8 x2) fun x14_1 =>
  condK x14_1
  (
    N274_3_k (sp 53 [(0, x0), (1, x1), (2, x2), (3, x3), (8, x8), (9, x8)]) H (fun s H => N274_2_k s H kn R J) (fun s H => N274_2_k s H kn R J) R J)
  (
    R [] H) := by kernel_rfl
theorem N274_1b_eq (E : LE) (x0 x1 x2 x3 x8 : AV) (H : Heap) (kn : KS) (R : RK) : N274_1b_k (sp 53 [(0, x0), (1, x1), (2, x2), (3, x3), (8, x8)]) H kn R (jj E 274) = N274_1b E x0 x1 x2 x3 x8 H (fun x0 x1 x2 x3 x8 H => kn (sp 53 [(0, x0), (1, x1), (2, x2), (3, x3), (8, x8)]) H) R := (jj_X E 274 _ _ H _).trans ((N274_1b_x E (jj E 274) x0 x1 x2 x3 x8 H kn R).trans (by simp only [N274_1b, N274_2_eq, N274_3_eq]))
noncomputable def N274_1 (E : LE) (x0 x1 x2 x3 x8 : AV) (H : Heap) (R : RK) : Res :=
  loopL (fun (x : AV) H kl => N274_1b E x0 x1 x2 x3 x H (fun _ _ _ _ x8 H => kl x8 H) R) E.k x8 H
theorem N274_1_eq (E : LE) (x0 x1 x2 x3 x8 : AV) (H : Heap) (R : RK) : N274_1_k (sp 53 [(0, x0), (1, x1), (2, x2), (3, x3), (8, x8)]) H R (jj E 274) = N274_1 E x0 x1 x2 x3 x8 H R := by
  have e : Code.at [1] c274 = Code.block 0 (Code.loop (Code.at [1, 0, 0] c274)) := by kernel_rfl
  unfold N274_1_k N274_1 jj
  rw [e]
  rw [block_kk]
  exact loop_node [0, 1, 2, 3, 8] (fun x : AV => (sp 53 [(0, x0), (1, x1), (2, x2), (3, x3), (8, (x))])) (fun (x : AV) H kl => N274_1b E x0 x1 x2 x3 x H (fun _ _ _ _ x8 H => kl x8 H) R) (by kernel_rfl) (fun x => by kernel_rfl) (fun x H kl => by
    have h := N274_1b_eq E x0 x1 x2 x3 (x) H kl R
    unfold N274_1b_k jj at h
    exact h) x8 (sp 53 [(0, x0), (1, x1), (2, x2), (3, x3), (8, x8)]) H (by kernel_rfl)
noncomputable def L274 (E : LE) (x0 x1 x2 x3 : AV) (H : Heap) : Res :=
  purK (binA P H .add 3 x1 (.int .i64 1)) fun x11 =>
  N274_1 E x0 x1 x2 x3 x11 H retK
theorem L274_x (E : LE) (J : CodeF) (x0 x1 x2 x3 : AV) (H : Heap) : jx E 274 J c274 [x0, x1, x2, x3, (.tup []), (.tup []), (.tup []), (.tup []), (.tup []), (.tup []), (.tup []), (.tup []), (.tup []), (.tup []), (.tup []), (.tup []), (.tup []), (.tup []), (.tup []), (.tup []), (.tup []), (.tup []), (.tup []), (.tup []), (.tup []), (.tup []), (.tup []), (.tup []), (.tup []), (.tup []), (.tup []), (.tup []), (.tup []), (.tup []), (.tup []), (.tup []), (.tup []), (.tup []), (.tup []), (.tup []), (.tup []), (.tup []), (.tup []), (.tup []), (.tup []), (.tup []), (.tup []), (.tup []), (.tup []), (.tup []), (.tup []), (.tup []), (.tup [])] H (kk none (fun s H => retK (([] : List Nat).map fun t => s.getD t (.tup [])) H) [] retK []) =
  purK (binA P H .add 3 x1 (.int .i64 1)) fun x11 =>
  N274_1_k (sp 53 [(0, x0), (1, x1), (2, x2), (3, x3), (8, x11)]) H retK J := by kernel_rfl
theorem G274 (E : LE) (x0 x1 x2 x3 : AV) (H : Heap) : jj E 274 c274 [x0, x1, x2, x3, (.tup []), (.tup []), (.tup []), (.tup []), (.tup []), (.tup []), (.tup []), (.tup []), (.tup []), (.tup []), (.tup []), (.tup []), (.tup []), (.tup []), (.tup []), (.tup []), (.tup []), (.tup []), (.tup []), (.tup []), (.tup []), (.tup []), (.tup []), (.tup []), (.tup []), (.tup []), (.tup []), (.tup []), (.tup []), (.tup []), (.tup []), (.tup []), (.tup []), (.tup []), (.tup []), (.tup []), (.tup []), (.tup []), (.tup []), (.tup []), (.tup []), (.tup []), (.tup []), (.tup []), (.tup []), (.tup []), (.tup []), (.tup []), (.tup [])] H (kk none (fun s H => retK (([] : List Nat).map fun t => s.getD t (.tup [])) H) [] retK []) = L274 E x0 x1 x2 x3 H := (jj_X E 274 _ _ H _).trans ((L274_x E (jj E 274) x0 x1 x2 x3 H).trans (by simp only [L274, N274_1_eq]))
theorem E274 (ρ : Addr → Option Value) (k lim : Nat) (x0 x1 x2 x3 : AV) (H : Heap) : evCall (cx ρ) (k + 1) lim 274 [x0, x1, x2, x3] H = L274 ⟨ρ, evCall (cx ρ) k, (evCY (cx ρ) k).2, lim, k⟩ x0 x1 x2 x3 H := by
  rw [evCall_body (cx ρ) k lim 274 _ H Tryz.f274 c274 [] (by kernel_rfl) (by kernel_rfl) (by kernel_rfl) (by kernel_rfl) (by kernel_rfl)]
  have h := G274 ⟨ρ, evCall (cx ρ) k, (evCY (cx ρ) k).2, lim, k⟩ x0 x1 x2 x3 H
  unfold jj at h
  exact h
-- (*haycroft/tail.Tail).Begin
noncomputable def c278 : Code := Code.of Tryz.prog 278
noncomputable def L278 (E : LE) (x0 x1 : AV) (H : Heap) : Res :=
  purK (binA P H .eql 147 x0 .nilp) fun x7 =>
  condK x7
  (
    retK [(.int .i64 2)] H)
  (
    purK (binA P H .lss 3 x1 (.int .i64 0)) fun x10 =>
    purK (gPur (wantV x10 false) (some x1)) fun x12 =>
    purK (gPur (wantV x10 false) (some x0)) fun x13 =>
    purK (gPur (wantV x10 false) (nilChkA x13)) fun x14 =>
    purK (gPur (wantV x10 false) (fieldAddrA P 307 x14 1)) fun x15 =>
    purK (gPur (wantV x10 false) (loadA (Cx E) H 3 x15)) fun x16 =>
    purK (gPur (wantV x10 false) (binA P H .geq 3 x12 x16)) fun x17 =>
    purK (pickA x10 (.bool true) x17) fun x18 =>
    condK x18
    (
      retK [(.int .i64 1)] H)
    (
      purK (nilChkA x0) fun x20 =>
      purK (fieldAddrA P 307 x20 2) fun x21 =>
      purK (loadA (Cx E) H 160 x21) fun x22 =>
      resK (E.call E.lim 308 [x1] H) fun x25 H => bif (agn (loadA (Cx E) H 160 x21) x22 && true) then
        resK (E.call E.lim 307 [x1, x25] H) fun x26 H => bif (agn (loadA (Cx E) H 160 x21) x22 && true) then
          resK (E.call E.lim 234 [x22, (.int .i64 0), x26] H) fun x27 H =>
          retK [x27] H
        else none
      else none))
theorem G278 (E : LE) (x0 x1 : AV) (H : Heap) : jj E 278 c278 [x0, x1, (.tup []), (.tup []), (.tup []), (.tup []), (.tup []), (.tup []), (.tup []), (.tup []), (.tup []), (.tup []), (.tup []), (.tup []), (.tup []), (.tup []), (.tup []), (.tup []), (.tup []), (.tup []), (.tup []), (.tup []), (.tup []), (.tup []), (.tup []), (.tup []), (.tup []), (.tup [])] H (kk none (fun s H => retK (([4] : List Nat).map fun t => s.getD t (.tup [])) H) [] retK [4]) = L278 E x0 x1 H := by kernel_rfl
theorem E278 (ρ : Addr → Option Value) (k lim : Nat) (x0 x1 : AV) (H : Heap) : evCall (cx ρ) (k + 1) lim 278 [x0, x1] H = L278 ⟨ρ, evCall (cx ρ) k, (evCY (cx ρ) k).2, lim, k⟩ x0 x1 H := by
  rw [evCall_body (cx ρ) k lim 278 _ H Tryz.f278 c278 [4] (by kernel_rfl) (by kernel_rfl) (by kernel_rfl) (by kernel_rfl) (by kernel_rfl)]
  have h := G278 ⟨ρ, evCall (cx ρ) k, (evCY (cx ρ) k).2, lim, k⟩ x0 x1 H
  unfold jj at h
  exact h
-- (*haycroft/cell.Row).Fill
noncomputable def c281 : Code := Code.of Tryz.prog 281
noncomputable def N281_1_k (s : Slots) (H : Heap) (R : RK) (J : CodeF) : Res := J (Code.at [1, 1, 1] c281) s H (kk none (fun s H => R (([6] : List Nat).map fun t => s.getD t (.tup [])) H) [] R [6])
noncomputable def N281_1 (E : LE) (H : Heap) (R : RK) : Res :=
  R [(.int .i64 0)] H
theorem N281_1_eq (E : LE) (H : Heap) (R : RK) : N281_1_k (sp 36 []) H R (jj E 281) = N281_1 E H R := by kernel_rfl
noncomputable def N281_2_k (s : Slots) (H : Heap) (kn : KS) (R : RK) (J : CodeF) : Res := J (Code.at [1, 1, 0, 1] c281) s H (kk (some []) kn [] R [6])
noncomputable def N281_2b_k (s : Slots) (H : Heap) (kn k0 : KS) (R : RK) (J : CodeF) : Res := J (Code.at [1, 1, 0, 1, 0, 0] c281) s H (kk (some [0, 1, 18, 19, 20]) kn [(0, (some []), k0)] R [6])
noncomputable def N281_2b (E : LE) (x0 x1 x18 x19 x20 : AV) (H : Heap) (kn : AV → AV → AV → AV → AV → Heap → Res) (k0 : Heap → Res) : Res :=
  purK (binA P H .lss 3 x20 x19) fun x21_1 =>
  condK x21_1
  (
    purK (indexAddrA P 31 x18 x20) fun x23_1 =>
    purK (loadA (Cx E) H 22 x23_1) fun x24_1 =>
    purK (nilChkA x0) fun x26_1 =>
    purK (fieldAddrA P 232 x26_1 0) fun x27_1 =>
    purK (loadA (Cx E) H 228 x27_1) fun x28_1 =>
    purK (binA P H .add 3 x1 x20) fun x31_1 =>
    purK (indexAddrA P 228 x28_1 x31_1) fun x32_1 =>
    resK (E.call E.lim 287 [x32_1, x24_1] H) fun x34_1 H =>
    purK (binA P H .add 3 x20 (.int .i64 1)) fun x35_1 =>
    kn x0 x1 x18 x19 x35_1 H)
  (
    k0 H)
theorem N281_2b_eq (E : LE) (x0 x1 x18 x19 x20 : AV) (H : Heap) (kn k0 : KS) (R : RK) : N281_2b_k (sp 36 [(0, x0), (1, x1), (18, x18), (19, x19), (20, x20)]) H kn k0 R (jj E 281) = N281_2b E x0 x1 x18 x19 x20 H (fun x0 x1 x18 x19 x20 H => kn (sp 36 [(0, x0), (1, x1), (18, x18), (19, x19), (20, x20)]) H) (fun H => k0 (sp 36 []) H) := by kernel_rfl
noncomputable def N281_2 (E : LE) (x0 x1 x18 x19 x20 : AV) (H : Heap) (kn : Heap → Res) : Res :=
  loopL (fun (x : AV) H kl => N281_2b E x0 x1 x18 x19 x H (fun _ _ _ _ x20 H => kl x20 H) kn) E.k x20 H
theorem N281_2_eq (E : LE) (x0 x1 x18 x19 x20 : AV) (H : Heap) (kn : KS) (R : RK) : N281_2_k (sp 36 [(0, x0), (1, x1), (18, x18), (19, x19), (20, x20)]) H kn R (jj E 281) = N281_2 E x0 x1 x18 x19 x20 H (fun H => kn (sp 36 []) H) := by
  have e : Code.at [1, 1, 0, 1] c281 = Code.block 0 (Code.loop (Code.at [1, 1, 0, 1, 0, 0] c281)) := by kernel_rfl
  unfold N281_2_k N281_2 jj
  rw [e]
  rw [block_kk]
  exact loop_node [0, 1, 18, 19, 20] (fun x : AV => (sp 36 [(0, x0), (1, x1), (18, x18), (19, x19), (20, (x))])) (fun (x : AV) H kl => N281_2b E x0 x1 x18 x19 x H (fun _ _ _ _ x20 H => kl x20 H) (fun H => kn (sp 36 []) H)) (by kernel_rfl) (fun x => by kernel_rfl) (fun x H kl => by
    have h := N281_2b_eq E x0 x1 x18 x19 (x) H kl kn R
    unfold N281_2b_k jj at h
    exact h) x20 (sp 36 [(0, x0), (1, x1), (18, x18), (19, x19), (20, x20)]) H (by kernel_rfl)
noncomputable def L281 (E : LE) (x0 x1 x2 : AV) (H : Heap) : Res :=
  purK (lenBA (Cx E) H 31 x2) fun x13 =>
  resK (E.call E.lim 201 [x0, x1, x13] H) fun x14 H =>
  purK (binA P H .neq 28 x14 (.int .i64 0)) fun x16 =>
  condK x16
  (
    retK [x14] H)
  (
    purK (lenBA (Cx E) H 31 x2) fun x19 =>
    N281_2 E x0 x1 x2 x19 (.int .i64 0) H (fun H =>
      N281_1 E H retK))
theorem L281_x (E : LE) (J : CodeF) (x0 x1 x2 : AV) (H : Heap) : jx E 281 J c281 [x0, x1, x2, (.tup []), (.tup []), (.tup []), (.tup []), (.tup []), (.tup []), (.tup []), (.tup []), (.tup []), (.tup []), (.tup []), (.tup []), (.tup []), (.tup []), (.tup []), (.tup []), (.tup []), (.tup []), (.tup []), (.tup []), (.tup []), (.tup []), (.tup []), (.tup []), (.tup []), (.tup []), (.tup []), (.tup []), (.tup []), (.tup []), (.tup []), (.tup []), (.tup [])] H (kk none (fun s H => retK (([6] : List Nat).map fun t => s.getD t (.tup [])) H) [] retK [6]) =
  purK (lenBA (Cx E) H 31 x2) fun x13 =>
  resK (E.call E.lim 201 [x0, x1, x13] H) fun x14 H =>
  purK (binA P H .neq 28 x14 (.int .i64 0)) fun x16 =>
  condK x16
  (
    retK [x14] H)
  (
    purK (lenBA (Cx E) H 31 x2) fun x19 =>
    N281_2_k (sp 36 [(0, x0), (1, x1), (18, x2), (19, x19), (20, (.int .i64 0))]) H (fun s H => N281_1_k s H retK J) retK J) := by kernel_rfl
theorem G281 (E : LE) (x0 x1 x2 : AV) (H : Heap) : jj E 281 c281 [x0, x1, x2, (.tup []), (.tup []), (.tup []), (.tup []), (.tup []), (.tup []), (.tup []), (.tup []), (.tup []), (.tup []), (.tup []), (.tup []), (.tup []), (.tup []), (.tup []), (.tup []), (.tup []), (.tup []), (.tup []), (.tup []), (.tup []), (.tup []), (.tup []), (.tup []), (.tup []), (.tup []), (.tup []), (.tup []), (.tup []), (.tup []), (.tup []), (.tup []), (.tup [])] H (kk none (fun s H => retK (([6] : List Nat).map fun t => s.getD t (.tup [])) H) [] retK [6]) = L281 E x0 x1 x2 H := (jj_X E 281 _ _ H _).trans ((L281_x E (jj E 281) x0 x1 x2 H).trans (by simp only [L281, N281_1_eq, N281_2_eq]))
theorem E281 (ρ : Addr → Option Value) (k lim : Nat) (x0 x1 x2 : AV) (H : Heap) : evCall (cx ρ) (k + 1) lim 281 [x0, x1, x2] H = L281 ⟨ρ, evCall (cx ρ) k, (evCY (cx ρ) k).2, lim, k⟩ x0 x1 x2 H := by
  rw [evCall_body (cx ρ) k lim 281 _ H Tryz.f281 c281 [6] (by kernel_rfl) (by kernel_rfl) (by kernel_rfl) (by kernel_rfl) (by kernel_rfl)]
  have h := G281 ⟨ρ, evCall (cx ρ) k, (evCY (cx ρ) k).2, lim, k⟩ x0 x1 x2 H
  unfold jj at h
  exact h
-- (*haycroft/cell.Row).CAS
noncomputable def c282 : Code := Code.of Tryz.prog 282
noncomputable def N282_1_k (s : Slots) (H : Heap) (R : RK) (J : CodeF) : Res := J (Code.at [1, 1, 1, 1] c282) s H (kk none (fun s H => R (([8, 9] : List Nat).map fun t => s.getD t (.tup [])) H) [] R [8, 9])
noncomputable def N282_1 (E : LE) (x11 : AV) (H : Heap) (R : RK) : Res :=
  R [x11, (.int .i64 0)] H
theorem N282_1_eq (E : LE) (x11 : AV) (H : Heap) (R : RK) : N282_1_k (sp 37 [(11, x11)]) H R (jj E 282) = N282_1 E x11 H R := by kernel_rfl
noncomputable def L282 (E : LE) (x0 x1 x2 x3 : AV) (H : Heap) : Res :=
  resK (E.call E.lim 286 [x0, x1] H) fun x14 H =>
  purK (binA P H .neq 28 x14 (.int .i64 0)) fun x16 =>
  condK x16
  (
    retK [(.bool false), x14] H)
  (
    purK (nilChkA x0) fun x19 =>
    purK (fieldAddrA P 232 x19 0) fun x20 =>
    purK (loadA (Cx E) H 228 x20) fun x21 =>
    purK (indexAddrA P 228 x21 x1) fun x23 =>
    resK (E.call E.lim 310 [x23, x2, x3] H) fun x26 H =>
    condK x26
    (
      purK (nilChkA x0) fun x29 =>
      purK (fieldAddrA P 232 x29 1) fun x30 =>
      resK (E.call E.lim 311 [x30, (.int .i64 1)] H) fun x31 H =>
      N282_1 E x26 H retK)
    (
      purK (nilChkA x0) fun x33 =>
      purK (fieldAddrA P 232 x33 2) fun x34 =>
      resK (E.call E.lim 311 [x34, (.int .i64 1)] H) fun x35 H =>
      N282_1 E x26 H retK))
theorem L282_x (E : LE) (J : CodeF) (x0 x1 x2 x3 : AV) (H : Heap) : jx E 282 J c282 [x0, x1, x2, x3, (.tup []), (.tup []), (.tup []), (.tup []), (.tup []), (.tup []), (.tup []), (.tup []), (.tup []), (.tup []), (.tup []), (.tup []), (.tup []), (.tup []), (.tup []), (.tup []), (.tup []), (.tup []), (.tup []), (.tup []), (.tup []), (.tup []), (.tup []), (.tup []), (.tup []), (.tup []), (.tup []), (.tup []), (.tup []), (.tup []), (.tup []), (.tup []), (.tup [])] H (kk none (fun s H => retK (([8, 9] : List Nat).map fun t => s.getD t (.tup [])) H) [] retK [8, 9]) =
  resK (E.call E.lim 286 [x0, x1] H) fun x14 H =>
  purK (binA P H .neq 28 x14 (.int .i64 0)) fun x16 =>
  condK x16
  (
    retK [(.bool false), x14] H)
  (
    purK (nilChkA x0) fun x19 =>
    purK (fieldAddrA P 232 x19 0) fun x20 =>
    purK (loadA (Cx E) H 228 x20) fun x21 =>
    purK (indexAddrA P 228 x21 x1) fun x23 =>
    resK (E.call E.lim 310 [x23, x2, x3] H) fun x26 H =>
    condK x26
    (
      purK (nilChkA x0) fun x29 =>
      purK (fieldAddrA P 232 x29 1) fun x30 =>
      resK (E.call E.lim 311 [x30, (.int .i64 1)] H) fun x31 H =>
      N282_1_k (sp 37 [(11, x26)]) H retK J)
    (
      purK (nilChkA x0) fun x33 =>
      purK (fieldAddrA P 232 x33 2) fun x34 =>
      resK (E.call E.lim 311 [x34, (.int .i64 1)] H) fun x35 H =>
      N282_1_k (sp 37 [(11, x26)]) H retK J)) := by kernel_rfl
theorem G282 (E : LE) (x0 x1 x2 x3 : AV) (H : Heap) : jj E 282 c282 [x0, x1, x2, x3, (.tup []), (.tup []), (.tup []), (.tup []), (.tup []), (.tup []), (.tup []), (.tup []), (.tup []), (.tup []), (.tup []), (.tup []), (.tup []), (.tup []), (.tup []), (.tup []), (.tup []), (.tup []), (.tup []), (.tup []), (.tup []), (.tup []), (.tup []), (.tup []), (.tup []), (.tup []), (.tup []), (.tup []), (.tup []), (.tup []), (.tup []), (.tup []), (.tup [])] H (kk none (fun s H => retK (([8, 9] : List Nat).map fun t => s.getD t (.tup [])) H) [] retK [8, 9]) = L282 E x0 x1 x2 x3 H := (jj_X E 282 _ _ H _).trans ((L282_x E (jj E 282) x0 x1 x2 x3 H).trans (by simp only [L282, N282_1_eq]))
theorem E282 (ρ : Addr → Option Value) (k lim : Nat) (x0 x1 x2 x3 : AV) (H : Heap) : evCall (cx ρ) (k + 1) lim 282 [x0, x1, x2, x3] H = L282 ⟨ρ, evCall (cx ρ) k, (evCY (cx ρ) k).2, lim, k⟩ x0 x1 x2 x3 H := by
  rw [evCall_body (cx ρ) k lim 282 _ H Tryz.f282 c282 [8, 9] (by kernel_rfl) (by kernel_rfl) (by kernel_rfl) (by kernel_rfl) (by kernel_rfl)]
  have h := G282 ⟨ρ, evCall (cx ρ) k, (evCY (cx ρ) k).2, lim, k⟩ x0 x1 x2 x3 H
  unfold jj at h
  exact h
-- (*haycroft/task.Task).missing
noncomputable def c283 : Code := Code.of Tryz.prog 283
noncomputable def L283 (E : LE) (x0 x1 : AV) (H : Heap) : Res :=
  effK H (boxA H 93 x1) fun x3 H =>
  resK (E.call E.lim 239 [x0, (.int .i64 1)] H) fun x7 H =>
  purK (gPur (wantV x7 false) (some x0)) fun x9 =>
  resK (gRes (wantV x7 false) H (E.call E.lim 239 [x9, (.int .i64 4)] H)) fun x10 H =>
  purK (pickA x7 (.bool true) x10) fun x11 =>
  condK x11
  (
    resK (E.call E.lim 284 [x0] H) fun x13 H =>
    purK (extA 0 x13) fun x14 =>
    purK (extA 1 x13) fun x15 =>
    retK [x14, x15] H)
  (
    purK (fieldAddrA P 93 x3 1) fun x18 =>
    purK (loadA (Cx E) H 3 x18) fun x19 =>
    purK (fieldAddrA P 93 x3 3) fun x20 =>
    purK (loadA (Cx E) H 3 x20) fun x21 =>
    purK (nilChkA x0) fun x22 =>
    purK (fieldAddrA P 258 x22 6) fun x23 =>
    effK H ((storeA (Cx E) E.lim H 3 x23 x19).map skips) fun _ H => bif (agn (loadA (Cx E) H 3 x20) x21 && true) then
      purK (nilChkA x0) fun x24 =>
      purK (fieldAddrA P 258 x24 8) fun x25 =>
      effK H ((storeA (Cx E) E.lim H 3 x25 x21).map skips) fun _ H =>
      purK (fieldAddrA P 93 x3 0) fun x27 =>
      purK (loadA (Cx E) H 3 x27) fun x28 =>
      purK (binA P H .eql 3 x28 (.int .i64 2)) fun x29 =>
      condK x29
      (
        resK (E.call E.lim 241 [x0, (.fn (.func 312) [] [])] H) fun x31 H =>
        purK (extA 0 x31) fun x32 =>
        purK (extA 1 x31) fun x33 =>
        retK [x32, x33] H)
      (
        purK (nilChkA x0) fun x36 =>
        purK (fieldAddrA P 258 x36 9) fun x37 =>
        purK (loadA (Cx E) H 3 x37) fun x38 =>
        purK (binA P H .gtr 3 x38 (.int .i64 0)) fun x39 =>
        condK x39
        (
          resK (E.call E.lim 241 [x0, (.fn (.func 313) [] [])] H) fun x41 H =>
          purK (extA 0 x41) fun x42 =>
          purK (extA 1 x41) fun x43 =>
          retK [x42, x43] H)
        (
          resK (E.call E.lim 241 [x0, (.fn (.func 314) [] [])] H) fun x45 H =>
          purK (extA 0 x45) fun x46 =>
          purK (extA 1 x45) fun x47 =>
          retK [x46, x47] H))
    else none)
theorem G283 (E : LE) (x0 x1 : AV) (H : Heap) : jj E 283 c283 [x0, x1, (.tup []), (.tup []), (.tup []), (.tup []), (.tup []), (.tup []), (.tup []), (.tup []), (.tup []), (.tup []), (.tup []), (.tup []), (.tup []), (.tup []), (.tup []), (.tup []), (.tup []), (.tup []), (.tup []), (.tup []), (.tup []), (.tup []), (.tup []), (.tup []), (.tup []), (.tup []), (.tup []), (.tup []), (.tup []), (.tup []), (.tup []), (.tup []), (.tup []), (.tup []), (.tup []), (.tup []), (.tup []), (.tup []), (.tup []), (.tup []), (.tup []), (.tup []), (.tup []), (.tup []), (.tup []), (.tup [])] H (kk none (fun s H => retK (([4, 5] : List Nat).map fun t => s.getD t (.tup [])) H) [] retK [4, 5]) = L283 E x0 x1 H := by kernel_rfl
theorem E283 (ρ : Addr → Option Value) (k lim : Nat) (x0 x1 : AV) (H : Heap) : evCall (cx ρ) (k + 1) lim 283 [x0, x1] H = L283 ⟨ρ, evCall (cx ρ) k, (evCY (cx ρ) k).2, lim, k⟩ x0 x1 H := by
  rw [evCall_body (cx ρ) k lim 283 _ H Tryz.f283 c283 [4, 5] (by kernel_rfl) (by kernel_rfl) (by kernel_rfl) (by kernel_rfl) (by kernel_rfl)]
  have h := G283 ⟨ρ, evCall (cx ρ) k, (evCY (cx ρ) k).2, lim, k⟩ x0 x1 H
  unfold jj at h
  exact h
-- (*haycroft/task.Task).absent
noncomputable def c284 : Code := Code.of Tryz.prog 284
noncomputable def L284 (E : LE) (x0 : AV) (H : Heap) : Res :=
  purK (nilChkA x0) fun x5 =>
  purK (fieldAddrA P 258 x5 3) fun x6 =>
  purK (fieldAddrA P 59 x6 0) fun x7 =>
  purK (loadA (Cx E) H 3 x7) fun x8 =>
  purK (binA P H .eql 3 x8 (.int .i64 1)) fun x10 =>
  condK x10
  (
    resK (E.call E.lim 240 [x0, (.int .i64 7), (.str (ByteArray.mk #[]))] H) fun x12 H =>
    purK (extA 0 x12) fun x13 =>
    purK (extA 1 x12) fun x14 =>
    retK [x13, x14] H)
  (
    purK (binA P H .eql 3 x8 (.int .i64 4)) fun x16 =>
    condK x16
    (
      resK (E.call E.lim 240 [x0, (.int .i64 0), (.str (ByteArray.mk #[]))] H) fun x18 H =>
      purK (extA 0 x18) fun x19 =>
      purK (extA 1 x18) fun x20 =>
      retK [x19, x20] H)
    (
      purK (nilChkA x0) fun x22 =>
      purK (fieldAddrA P 258 x22 13) fun x23 =>
      effK H ((storeA (Cx E) E.lim H 9 x23 (.str (ByteArray.mk #[]))).map skips) fun _ H =>
      resK (E.call E.lim 241 [x0, (.fn (.func 242) [] [])] H) fun x25 H =>
      purK (extA 0 x25) fun x26 =>
      purK (extA 1 x25) fun x27 =>
      retK [x26, x27] H))
theorem G284 (E : LE) (x0 : AV) (H : Heap) : jj E 284 c284 [x0, (.tup []), (.tup []), (.tup []), (.tup []), (.tup []), (.tup []), (.tup []), (.tup []), (.tup []), (.tup []), (.tup []), (.tup []), (.tup []), (.tup []), (.tup []), (.tup []), (.tup []), (.tup []), (.tup []), (.tup []), (.tup []), (.tup []), (.tup []), (.tup []), (.tup []), (.tup []), (.tup [])] H (kk none (fun s H => retK (([2, 3] : List Nat).map fun t => s.getD t (.tup [])) H) [] retK [2, 3]) = L284 E x0 H := by kernel_rfl
theorem E284 (ρ : Addr → Option Value) (k lim : Nat) (x0 : AV) (H : Heap) : evCall (cx ρ) (k + 1) lim 284 [x0] H = L284 ⟨ρ, evCall (cx ρ) k, (evCY (cx ρ) k).2, lim, k⟩ x0 H := by
  rw [evCall_body (cx ρ) k lim 284 _ H Tryz.f284 c284 [2, 3] (by kernel_rfl) (by kernel_rfl) (by kernel_rfl) (by kernel_rfl) (by kernel_rfl)]
  have h := G284 ⟨ρ, evCall (cx ρ) k, (evCY (cx ρ) k).2, lim, k⟩ x0 H
  unfold jj at h
  exact h
-- (*haycroft/cell.Row).may
noncomputable def c286 : Code := Code.of Tryz.prog 286
noncomputable def L286 (E : LE) (x0 x1 : AV) (H : Heap) : Res :=
  purK (binA P H .eql 160 x0 .nilp) fun x7 =>
  condK x7
  (
    retK [(.int .i64 2)] H)
  (
    resK (E.call E.lim 149 [x0, x1] H) fun x11 H =>
    purK (unA .not x11) fun x12 =>
    condK x12
    (
      retK [(.int .i64 1)] H)
    (
      retK [(.int .i64 0)] H))
theorem G286 (E : LE) (x0 x1 : AV) (H : Heap) : jj E 286 c286 [x0, x1, (.tup []), (.tup []), (.tup []), (.tup []), (.tup []), (.tup []), (.tup []), (.tup []), (.tup []), (.tup []), (.tup [])] H (kk none (fun s H => retK (([4] : List Nat).map fun t => s.getD t (.tup [])) H) [] retK [4]) = L286 E x0 x1 H := by kernel_rfl
theorem E286 (ρ : Addr → Option Value) (k lim : Nat) (x0 x1 : AV) (H : Heap) : evCall (cx ρ) (k + 1) lim 286 [x0, x1] H = L286 ⟨ρ, evCall (cx ρ) k, (evCY (cx ρ) k).2, lim, k⟩ x0 x1 H := by
  rw [evCall_body (cx ρ) k lim 286 _ H Tryz.f286 c286 [4] (by kernel_rfl) (by kernel_rfl) (by kernel_rfl) (by kernel_rfl) (by kernel_rfl)]
  have h := G286 ⟨ρ, evCall (cx ρ) k, (evCY (cx ρ) k).2, lim, k⟩ x0 x1 H
  unfold jj at h
  exact h
-- (*sync/atomic.Uint64).Store
noncomputable def c287 : Code := Code.of Tryz.prog 287
noncomputable def L287 (E : LE) (x0 x1 : AV) (H : Heap) : Res :=
  purK (nilChkA x0) fun x5 =>
  purK (fieldAddrA P 227 x5 2) fun x6 =>
  resK (E.call E.lim 317 [x6, x1] H) fun x8 H =>
  retK [] H
theorem G287 (E : LE) (x0 x1 : AV) (H : Heap) : jj E 287 c287 [x0, x1, (.tup []), (.tup []), (.tup []), (.tup []), (.tup []), (.tup []), (.tup [])] H (kk none (fun s H => retK (([] : List Nat).map fun t => s.getD t (.tup [])) H) [] retK []) = L287 E x0 x1 H := by kernel_rfl
theorem E287 (ρ : Addr → Option Value) (k lim : Nat) (x0 x1 : AV) (H : Heap) : evCall (cx ρ) (k + 1) lim 287 [x0, x1] H = L287 ⟨ρ, evCall (cx ρ) k, (evCY (cx ρ) k).2, lim, k⟩ x0 x1 H := by
  rw [evCall_body (cx ρ) k lim 287 _ H Tryz.f287 c287 [] (by kernel_rfl) (by kernel_rfl) (by kernel_rfl) (by kernel_rfl) (by kernel_rfl)]
  have h := G287 ⟨ρ, evCall (cx ρ) k, (evCY (cx ρ) k).2, lim, k⟩ x0 x1 H
  unfold jj at h
  exact h
-- (*haycroft/task.Task).record
noncomputable def c288 : Code := Code.of Tryz.prog 288
noncomputable def N288_1_k (s : Slots) (H : Heap) (R : RK) (J : CodeF) : Res := J (Code.at [1, 1, 1] c288) s H (kk none (fun s H => R (([2] : List Nat).map fun t => s.getD t (.tup [])) H) [] R [2])
noncomputable def N288_1 (E : LE) (x2 x3 : AV) (H : Heap) (R : RK) : Res :=
  purK (loadA (Cx E) H 27 x3) fun x43_1 =>
  effK H ((storeA (Cx E) E.lim H 27 x2 x43_1).map skips) fun _ H =>
  R [x2] H
theorem N288_1_eq (E : LE) (x2 x3 : AV) (H : Heap) (R : RK) : N288_1_k (sp 44 [(2, x2), (3, x3)]) H R (jj E 288) = N288_1 E x2 x3 H R := by kernel_rfl
noncomputable def L288 (E : LE) (x0 : AV) (H : Heap) : Res :=
  effK H (allocA (Cx E) H 27) fun x2 H =>
  purK (nilChkA x0) fun x5 =>
  purK (fieldAddrA P 258 x5 11) fun x6 =>
  purK (loadA (Cx E) H 22 x6) fun x7 =>
  purK (buildA P 25 [(0, x7)]) fun x8 =>
  purK (nilChkA x0) fun x10 =>
  purK (fieldAddrA P 258 x10 3) fun x11 =>
  purK (fieldAddrA P 59 x11 1) fun x12 =>
  purK (loadA (Cx E) H 9 x12) fun x13 =>
  purK (buildA P 27 [(0, x8), (1, x13)]) fun x14 =>
  mkK H (allocA (Cx E) H 27) true fun x3 H => bif (agn (loadA (Cx E) H 9 x12) x13 && (agn (loadA (Cx E) H 22 x6) x7 && true)) then
    effK H ((storeA (Cx E) E.lim H 27 x3 x14).map skips) fun _ H =>
    purK (nilChkA x0) fun x16 =>
    purK (fieldAddrA P 258 x16 3) fun x17 =>
    purK (fieldAddrA P 59 x17 0) fun x18 =>
    purK (loadA (Cx E) H 3 x18) fun x19 =>
    purK (binA P H .eql 3 x19 (.int .i64 2)) fun x23 =>
    condK x23
    (
      purK (nilChkA x0) fun x25 =>
      purK (fieldAddrA P 258 x25 3) fun x26 =>
      purK (fieldAddrA P 59 x26 2) fun x27 =>
      purK (loadA (Cx E) H 9 x27) fun x28 =>
      purK (fieldAddrA P 27 x3 2) fun x29 =>
      effK H ((storeA (Cx E) E.lim H 9 x29 x28).map skips) fun _ H =>
      N288_1 E x2 x3 H (retC (Cx E) [some 27]))
    (
      purK (binA P H .eql 3 x19 (.int .i64 3)) fun x31 =>
      condK x31
      (
        purK (nilChkA x0) fun x33 =>
        purK (fieldAddrA P 258 x33 13) fun x34 =>
        purK (loadA (Cx E) H 9 x34) fun x35 =>
        purK (nilChkA x0) fun x37 =>
        purK (fieldAddrA P 258 x37 3) fun x38 =>
        purK (fieldAddrA P 59 x38 3) fun x39 =>
        purK (loadA (Cx E) H 22 x39) fun x40 =>
        resK (E.call E.lim 318 [x35, x40] H) fun x41 H =>
        purK (fieldAddrA P 27 x3 2) fun x42 =>
        effK H ((storeA (Cx E) E.lim H 9 x42 x41).map skips) fun _ H =>
        N288_1 E x2 x3 H (retC (Cx E) [some 27]))
      (
        purK (fieldAddrA P 27 x3 0) fun x20 =>
        purK (fieldAddrA P 25 x20 1) fun x21 =>
        effK H ((storeA (Cx E) E.lim H 4 x21 (.bool true)).map skips) fun _ H =>
        N288_1 E x2 x3 H (retC (Cx E) [some 27])))
  else none
theorem L288_x (E : LE) (J : CodeF) (x0 : AV) (H : Heap) : jx E 288 J c288 [x0, (.tup []), (.tup []), (.tup []), (.tup []), (.tup []), (.tup []), (.tup []), (.tup []), (.tup []), (.tup []), (.tup []), (.tup []), (.tup []), (.tup []), (.tup []), (.tup []), (.tup []), (.tup []), (.tup []), (.tup []), (.tup []), (.tup []), (.tup []), (.tup []), (.tup []), (.tup []), (.tup []), (.tup []), (.tup []), (.tup []), (.tup []), (.tup []), (.tup []), (.tup []), (.tup []), (.tup []), (.tup []), (.tup []), (.tup []), (.tup []), (.tup []), (.tup []), (.tup [])] H (kk none (fun s H => (retC (Cx E) [some 27]) (([2] : List Nat).map fun t => s.getD t (.tup [])) H) [] (retC (Cx E) [some 27]) [2]) =
  effK H (allocA (Cx E) H 27) fun x2 H =>
  purK (nilChkA x0) fun x5 =>
  purK (fieldAddrA P 258 x5 11) fun x6 =>
  purK (loadA (Cx E) H 22 x6) fun x7 =>
  purK (buildA P 25 [(0, x7)]) fun x8 =>
  purK (nilChkA x0) fun x10 =>
  purK (fieldAddrA P 258 x10 3) fun x11 =>
  purK (fieldAddrA P 59 x11 1) fun x12 =>
  purK (loadA (Cx E) H 9 x12) fun x13 =>
  purK (buildA P 27 [(0, x8), (1, x13)]) fun x14 =>
  mkK H (allocA (Cx E) H 27) true fun x3 H => bif (agn (loadA (Cx E) H 9 x12) x13 && (agn (loadA (Cx E) H 22 x6) x7 && true)) then
    effK H ((storeA (Cx E) E.lim H 27 x3 x14).map skips) fun _ H =>
    purK (nilChkA x0) fun x16 =>
    purK (fieldAddrA P 258 x16 3) fun x17 =>
    purK (fieldAddrA P 59 x17 0) fun x18 =>
    purK (loadA (Cx E) H 3 x18) fun x19 =>
    purK (binA P H .eql 3 x19 (.int .i64 2)) fun x23 =>
    condK x23
    (
      purK (nilChkA x0) fun x25 =>
      purK (fieldAddrA P 258 x25 3) fun x26 =>
      purK (fieldAddrA P 59 x26 2) fun x27 =>
      purK (loadA (Cx E) H 9 x27) fun x28 =>
      purK (fieldAddrA P 27 x3 2) fun x29 =>
      effK H ((storeA (Cx E) E.lim H 9 x29 x28).map skips) fun _ H =>
      N288_1_k (sp 44 [(2, x2), (3, x3)]) H (retC (Cx E) [some 27]) J)
    (
      purK (binA P H .eql 3 x19 (.int .i64 3)) fun x31 =>
      condK x31
      (
        purK (nilChkA x0) fun x33 =>
        purK (fieldAddrA P 258 x33 13) fun x34 =>
        purK (loadA (Cx E) H 9 x34) fun x35 =>
        purK (nilChkA x0) fun x37 =>
        purK (fieldAddrA P 258 x37 3) fun x38 =>
        purK (fieldAddrA P 59 x38 3) fun x39 =>
        purK (loadA (Cx E) H 22 x39) fun x40 =>
        resK (E.call E.lim 318 [x35, x40] H) fun x41 H =>
        purK (fieldAddrA P 27 x3 2) fun x42 =>
        effK H ((storeA (Cx E) E.lim H 9 x42 x41).map skips) fun _ H =>
        N288_1_k (sp 44 [(2, x2), (3, x3)]) H (retC (Cx E) [some 27]) J)
      (
        purK (fieldAddrA P 27 x3 0) fun x20 =>
        purK (fieldAddrA P 25 x20 1) fun x21 =>
        effK H ((storeA (Cx E) E.lim H 4 x21 (.bool true)).map skips) fun _ H =>
        N288_1_k (sp 44 [(2, x2), (3, x3)]) H (retC (Cx E) [some 27]) J))
  else none := by kernel_rfl
theorem G288 (E : LE) (x0 : AV) (H : Heap) : jj E 288 c288 [x0, (.tup []), (.tup []), (.tup []), (.tup []), (.tup []), (.tup []), (.tup []), (.tup []), (.tup []), (.tup []), (.tup []), (.tup []), (.tup []), (.tup []), (.tup []), (.tup []), (.tup []), (.tup []), (.tup []), (.tup []), (.tup []), (.tup []), (.tup []), (.tup []), (.tup []), (.tup []), (.tup []), (.tup []), (.tup []), (.tup []), (.tup []), (.tup []), (.tup []), (.tup []), (.tup []), (.tup []), (.tup []), (.tup []), (.tup []), (.tup []), (.tup []), (.tup []), (.tup [])] H (kk none (fun s H => (retC (Cx E) [some 27]) (([2] : List Nat).map fun t => s.getD t (.tup [])) H) [] (retC (Cx E) [some 27]) [2]) = L288 E x0 H := (jj_X E 288 _ _ H _).trans ((L288_x E (jj E 288) x0 H).trans (by simp only [L288, N288_1_eq]))
theorem E288 (ρ : Addr → Option Value) (k lim : Nat) (x0 : AV) (H : Heap) : evCall (cx ρ) (k + 1) lim 288 [x0] H = L288 ⟨ρ, evCall (cx ρ) k, (evCY (cx ρ) k).2, lim, k⟩ x0 H := by
  rw [evCall_cells (cx ρ) k lim 288 _ H Tryz.f288 c288 [2] [some 27] (by kernel_rfl) (by kernel_rfl) (by kernel_rfl) (by kernel_rfl) (by kernel_rfl) (by kernel_rfl)]
  have h := G288 ⟨ρ, evCall (cx ρ) k, (evCY (cx ρ) k).2, lim, k⟩ x0 H
  unfold jj at h
  exact h
-- (*haycroft/hlog.Log).Take
noncomputable def c289 : Code := Code.of Tryz.prog 289
noncomputable def L289 (E : LE) (x0 x1 : AV) (H : Heap) : Res :=
  purK (binA P H .eql 84 x0 .nilp) fun x8 =>
  condK x8
  (
    retK [(.int .u64 0), (.int .i64 0), (.int .i64 2)] H)
  (
    purK (nilChkA x0) fun x10 =>
    purK (fieldAddrA P 153 x10 0) fun x11 =>
    purK (loadA (Cx E) H 147 x11) fun x12 =>
    resK (E.call E.lim 319 [x12, x1] H) fun x14 H =>
    purK (extA 0 x14) fun x15 =>
    purK (extA 1 x14) fun x16 =>
    purK (extA 2 x14) fun x17 =>
    retK [x15, x16, x17] H)
theorem G289 (E : LE) (x0 x1 : AV) (H : Heap) : jj E 289 c289 [x0, x1, (.tup []), (.tup []), (.tup []), (.tup []), (.tup []), (.tup []), (.tup []), (.tup []), (.tup []), (.tup []), (.tup []), (.tup []), (.tup []), (.tup []), (.tup []), (.tup [])] H (kk none (fun s H => retK (([4, 5, 6] : List Nat).map fun t => s.getD t (.tup [])) H) [] retK [4, 5, 6]) = L289 E x0 x1 H := by kernel_rfl
theorem E289 (ρ : Addr → Option Value) (k lim : Nat) (x0 x1 : AV) (H : Heap) : evCall (cx ρ) (k + 1) lim 289 [x0, x1] H = L289 ⟨ρ, evCall (cx ρ) k, (evCY (cx ρ) k).2, lim, k⟩ x0 x1 H := by
  rw [evCall_body (cx ρ) k lim 289 _ H Tryz.f289 c289 [4, 5, 6] (by kernel_rfl) (by kernel_rfl) (by kernel_rfl) (by kernel_rfl) (by kernel_rfl)]
  have h := G289 ⟨ρ, evCall (cx ρ) k, (evCY (cx ρ) k).2, lim, k⟩ x0 x1 H
  unfold jj at h
  exact h
-- (*haycroft/task.Task).fill
noncomputable def c290 : Code := Code.of Tryz.prog 290
noncomputable def L290 (E : LE) (x0 : AV) (H : Heap) : Res :=
  resK (E.call E.lim 288 [x0] H) fun x9 H =>
  resK (E.call E.lim 320 [x9] H) fun x10 H =>
  purK (extA 0 x10) fun x11 =>
  purK (extA 1 x10) fun x12 =>
  purK (binA P H .neq 28 x12 (.int .i64 0)) fun x14 =>
  condK x14
  (
    resK (E.call E.lim 169 [x12] H) fun x16 H =>
    purK (extA 0 x16) fun x17 =>
    purK (extA 1 x16) fun x18 =>
    retK [x17, x18] H)
  (
    purK (nilChkA x0) fun x20 =>
    purK (fieldAddrA P 258 x20 0) fun x21 =>
    purK (loadA (Cx E) H 84 x21) fun x22 =>
    purK (nilChkA x0) fun x25 =>
    purK (fieldAddrA P 258 x25 12) fun x26 =>
    purK (loadA (Cx E) H 22 x26) fun x27 =>
    resK (E.call E.lim 53 [x22] H) fun x23 H => bif (agn (loadA (Cx E) H 22 x26) x27 && true) then
      resK (E.call E.lim 321 [x23, x27, x11] H) fun x29 H =>
      purK (binA P H .neq 28 x29 (.int .i64 0)) fun x31 =>
      condK x31
      (
        resK (E.call E.lim 169 [x29] H) fun x33 H =>
        purK (extA 0 x33) fun x34 =>
        purK (extA 1 x33) fun x35 =>
        retK [x34, x35] H)
      (
        resK (E.call E.lim 241 [x0, (.fn (.func 322) [] [])] H) fun x37 H =>
        purK (extA 0 x37) fun x38 =>
        purK (extA 1 x37) fun x39 =>
        retK [x38, x39] H)
    else none)
theorem G290 (E : LE) (x0 : AV) (H : Heap) : jj E 290 c290 [x0, (.tup []), (.tup []), (.tup []), (.tup []), (.tup []), (.tup []), (.tup []), (.tup []), (.tup []), (.tup []), (.tup []), (.tup []), (.tup []), (.tup []), (.tup []), (.tup []), (.tup []), (.tup []), (.tup []), (.tup []), (.tup []), (.tup []), (.tup []), (.tup []), (.tup []), (.tup []), (.tup []), (.tup []), (.tup []), (.tup []), (.tup []), (.tup []), (.tup []), (.tup []), (.tup []), (.tup []), (.tup []), (.tup []), (.tup [])] H (kk none (fun s H => retK (([2, 3] : List Nat).map fun t => s.getD t (.tup [])) H) [] retK [2, 3]) = L290 E x0 H := by kernel_rfl
theorem E290 (ρ : Addr → Option Value) (k lim : Nat) (x0 : AV) (H : Heap) : evCall (cx ρ) (k + 1) lim 290 [x0] H = L290 ⟨ρ, evCall (cx ρ) k, (evCY (cx ρ) k).2, lim, k⟩ x0 H := by
  rw [evCall_body (cx ρ) k lim 290 _ H Tryz.f290 c290 [2, 3] (by kernel_rfl) (by kernel_rfl) (by kernel_rfl) (by kernel_rfl) (by kernel_rfl)]
  have h := G290 ⟨ρ, evCall (cx ρ) k, (evCY (cx ρ) k).2, lim, k⟩ x0 H
  unfold jj at h
  exact h
-- (*sync/atomic.Uint64).Add
noncomputable def c295 : Code := Code.of Tryz.prog 295
noncomputable def L295 (E : LE) (x0 x1 : AV) (H : Heap) : Res :=
  purK (nilChkA x0) fun x6 =>
  purK (fieldAddrA P 227 x6 2) fun x7 =>
  resK (E.call E.lim 334 [x7, x1] H) fun x9 H =>
  retK [x9] H
theorem G295 (E : LE) (x0 x1 : AV) (H : Heap) : jj E 295 c295 [x0, x1, (.tup []), (.tup []), (.tup []), (.tup []), (.tup []), (.tup []), (.tup []), (.tup [])] H (kk none (fun s H => retK (([4] : List Nat).map fun t => s.getD t (.tup [])) H) [] retK [4]) = L295 E x0 x1 H := by kernel_rfl
theorem E295 (ρ : Addr → Option Value) (k lim : Nat) (x0 x1 : AV) (H : Heap) : evCall (cx ρ) (k + 1) lim 295 [x0, x1] H = L295 ⟨ρ, evCall (cx ρ) k, (evCY (cx ρ) k).2, lim, k⟩ x0 x1 H := by
  rw [evCall_body (cx ρ) k lim 295 _ H Tryz.f295 c295 [4] (by kernel_rfl) (by kernel_rfl) (by kernel_rfl) (by kernel_rfl) (by kernel_rfl)]
  have h := G295 ⟨ρ, evCall (cx ρ) k, (evCY (cx ρ) k).2, lim, k⟩ x0 x1 H
  unfold jj at h
  exact h
-- haycroft/place.First
noncomputable def c306 : Code := Code.of Tryz.prog 306
noncomputable def L306 (E : LE) (x0 x1 : AV) (H : Heap) : Res :=
  resK (E.call E.lim 342 [x0, x1, (.int .i64 0)] H) fun x10 H =>
  purK (extA 0 x10) fun x11 =>
  purK (extA 1 x10) fun x12 =>
  retK [x11] H
theorem G306 (E : LE) (x0 x1 : AV) (H : Heap) : jj E 306 c306 [x0, x1, (.tup []), (.tup []), (.tup []), (.tup []), (.tup []), (.tup []), (.tup []), (.tup []), (.tup []), (.tup []), (.tup []), (.tup [])] H (kk none (fun s H => retK (([4] : List Nat).map fun t => s.getD t (.tup [])) H) [] retK [4]) = L306 E x0 x1 H := by kernel_rfl
theorem E306 (ρ : Addr → Option Value) (k lim : Nat) (x0 x1 : AV) (H : Heap) : evCall (cx ρ) (k + 1) lim 306 [x0, x1] H = L306 ⟨ρ, evCall (cx ρ) k, (evCY (cx ρ) k).2, lim, k⟩ x0 x1 H := by
  rw [evCall_body (cx ρ) k lim 306 _ H Tryz.f306 c306 [4] (by kernel_rfl) (by kernel_rfl) (by kernel_rfl) (by kernel_rfl) (by kernel_rfl)]
  have h := G306 ⟨ρ, evCall (cx ρ) k, (evCY (cx ρ) k).2, lim, k⟩ x0 x1 H
  unfold jj at h
  exact h
-- haycroft/tail.pack
noncomputable def c307 : Code := Code.of Tryz.prog 307
noncomputable def L307 (E : LE) (x0 x1 : AV) (H : Heap) : Res :=
  purK (convXA (Cx E) H 3 22 x0) fun x6 =>
  purK (binA P H .shl 22 x6 (.int .u64 32)) fun x7 =>
  purK (convXA (Cx E) H 3 22 x1) fun x9 =>
  purK (binA P H .or 22 x7 x9) fun x10 =>
  retK [x10] H
theorem G307 (E : LE) (x0 x1 : AV) (H : Heap) : jj E 307 c307 [x0, x1, (.tup []), (.tup []), (.tup []), (.tup []), (.tup []), (.tup []), (.tup []), (.tup []), (.tup [])] H (kk none (fun s H => retK (([4] : List Nat).map fun t => s.getD t (.tup [])) H) [] retK [4]) = L307 E x0 x1 H := by kernel_rfl
theorem E307 (ρ : Addr → Option Value) (k lim : Nat) (x0 x1 : AV) (H : Heap) : evCall (cx ρ) (k + 1) lim 307 [x0, x1] H = L307 ⟨ρ, evCall (cx ρ) k, (evCY (cx ρ) k).2, lim, k⟩ x0 x1 H := by
  rw [evCall_body (cx ρ) k lim 307 _ H Tryz.f307 c307 [4] (by kernel_rfl) (by kernel_rfl) (by kernel_rfl) (by kernel_rfl) (by kernel_rfl)]
  have h := G307 ⟨ρ, evCall (cx ρ) k, (evCY (cx ρ) k).2, lim, k⟩ x0 x1 H
  unfold jj at h
  exact h
-- haycroft/tail.first
noncomputable def c308 : Code := Code.of Tryz.prog 308
noncomputable def L308 (E : LE) (x0 : AV) (H : Heap) : Res :=
  purK (binA P H .eql 3 x0 (.int .i64 0)) fun x4 =>
  condK x4
  (
    retK [(.int .i64 1)] H)
  (
    retK [(.int .i64 0)] H)
theorem G308 (E : LE) (x0 : AV) (H : Heap) : jj E 308 c308 [x0, (.tup []), (.tup []), (.tup []), (.tup [])] H (kk none (fun s H => retK (([2] : List Nat).map fun t => s.getD t (.tup [])) H) [] retK [2]) = L308 E x0 H := by kernel_rfl
theorem E308 (ρ : Addr → Option Value) (k lim : Nat) (x0 : AV) (H : Heap) : evCall (cx ρ) (k + 1) lim 308 [x0] H = L308 ⟨ρ, evCall (cx ρ) k, (evCY (cx ρ) k).2, lim, k⟩ x0 H := by
  rw [evCall_body (cx ρ) k lim 308 _ H Tryz.f308 c308 [2] (by kernel_rfl) (by kernel_rfl) (by kernel_rfl) (by kernel_rfl) (by kernel_rfl)]
  have h := G308 ⟨ρ, evCall (cx ρ) k, (evCY (cx ρ) k).2, lim, k⟩ x0 H
  unfold jj at h
  exact h
-- (*sync/atomic.Uint64).CompareAndSwap
noncomputable def c310 : Code := Code.of Tryz.prog 310
noncomputable def L310 (E : LE) (x0 x1 x2 : AV) (H : Heap) : Res :=
  purK (nilChkA x0) fun x8 =>
  purK (fieldAddrA P 227 x8 2) fun x9 =>
  resK (E.call E.lim 343 [x9, x1, x2] H) fun x12 H =>
  retK [x12] H
theorem G310 (E : LE) (x0 x1 x2 : AV) (H : Heap) : jj E 310 c310 [x0, x1, x2, (.tup []), (.tup []), (.tup []), (.tup []), (.tup []), (.tup []), (.tup []), (.tup []), (.tup []), (.tup [])] H (kk none (fun s H => retK (([6] : List Nat).map fun t => s.getD t (.tup [])) H) [] retK [6]) = L310 E x0 x1 x2 H := by kernel_rfl
theorem E310 (ρ : Addr → Option Value) (k lim : Nat) (x0 x1 x2 : AV) (H : Heap) : evCall (cx ρ) (k + 1) lim 310 [x0, x1, x2] H = L310 ⟨ρ, evCall (cx ρ) k, (evCY (cx ρ) k).2, lim, k⟩ x0 x1 x2 H := by
  rw [evCall_body (cx ρ) k lim 310 _ H Tryz.f310 c310 [6] (by kernel_rfl) (by kernel_rfl) (by kernel_rfl) (by kernel_rfl) (by kernel_rfl)]
  have h := G310 ⟨ρ, evCall (cx ρ) k, (evCY (cx ρ) k).2, lim, k⟩ x0 x1 x2 H
  unfold jj at h
  exact h
-- (*sync/atomic.Int64).Add
noncomputable def c311 : Code := Code.of Tryz.prog 311
noncomputable def L311 (E : LE) (x0 x1 : AV) (H : Heap) : Res :=
  purK (nilChkA x0) fun x6 =>
  purK (fieldAddrA P 230 x6 2) fun x7 =>
  resK (E.call E.lim 344 [x7, x1] H) fun x9 H =>
  retK [x9] H
theorem G311 (E : LE) (x0 x1 : AV) (H : Heap) : jj E 311 c311 [x0, x1, (.tup []), (.tup []), (.tup []), (.tup []), (.tup []), (.tup []), (.tup []), (.tup [])] H (kk none (fun s H => retK (([4] : List Nat).map fun t => s.getD t (.tup [])) H) [] retK [4]) = L311 E x0 x1 H := by kernel_rfl
theorem E311 (ρ : Addr → Option Value) (k lim : Nat) (x0 x1 : AV) (H : Heap) : evCall (cx ρ) (k + 1) lim 311 [x0, x1] H = L311 ⟨ρ, evCall (cx ρ) k, (evCY (cx ρ) k).2, lim, k⟩ x0 x1 H := by
  rw [evCall_body (cx ρ) k lim 311 _ H Tryz.f311 c311 [4] (by kernel_rfl) (by kernel_rfl) (by kernel_rfl) (by kernel_rfl) (by kernel_rfl)]
  have h := G311 ⟨ρ, evCall (cx ρ) k, (evCY (cx ρ) k).2, lim, k⟩ x0 x1 H
  unfold jj at h
  exact h
-- (*haycroft/task.Task).claim
noncomputable def c312 : Code := Code.of Tryz.prog 312
noncomputable def L312 (E : LE) (x0 : AV) (H : Heap) : Res :=
  purK (nilChkA x0) fun x8 =>
  purK (fieldAddrA P 258 x8 1) fun x9 =>
  purK (loadA (Cx E) H 95 x9) fun x10 =>
  purK (nilChkA x0) fun x12 =>
  purK (fieldAddrA P 258 x12 6) fun x13 =>
  purK (loadA (Cx E) H 3 x13) fun x14 =>
  purK (nilChkA x0) fun x16 =>
  purK (fieldAddrA P 258 x16 4) fun x17 =>
  purK (loadA (Cx E) H 22 x17) fun x18 =>
  resK (E.call E.lim 345 [x10, x14, x18] H) fun x19 H =>
  purK (extA 0 x19) fun x20 =>
  purK (extA 1 x19) fun x21 =>
  purK (binA P H .neq 28 x21 (.int .i64 0)) fun x23 =>
  condK x23
  (
    resK (E.call E.lim 169 [x21] H) fun x25 H =>
    purK (extA 0 x25) fun x26 =>
    purK (extA 1 x25) fun x27 =>
    retK [x26, x27] H)
  (
    resK (E.call E.lim 241 [x0, (.fn (.func 233) [] [])] H) fun x29 H =>
    purK (extA 0 x29) fun x30 =>
    purK (extA 1 x29) fun x31 =>
    retK [x30, x31] H)
theorem G312 (E : LE) (x0 : AV) (H : Heap) : jj E 312 c312 [x0, (.tup []), (.tup []), (.tup []), (.tup []), (.tup []), (.tup []), (.tup []), (.tup []), (.tup []), (.tup []), (.tup []), (.tup []), (.tup []), (.tup []), (.tup []), (.tup []), (.tup []), (.tup []), (.tup []), (.tup []), (.tup []), (.tup []), (.tup []), (.tup []), (.tup []), (.tup []), (.tup []), (.tup []), (.tup []), (.tup []), (.tup [])] H (kk none (fun s H => retK (([2, 3] : List Nat).map fun t => s.getD t (.tup [])) H) [] retK [2, 3]) = L312 E x0 H := by kernel_rfl
theorem E312 (ρ : Addr → Option Value) (k lim : Nat) (x0 : AV) (H : Heap) : evCall (cx ρ) (k + 1) lim 312 [x0] H = L312 ⟨ρ, evCall (cx ρ) k, (evCY (cx ρ) k).2, lim, k⟩ x0 H := by
  rw [evCall_body (cx ρ) k lim 312 _ H Tryz.f312 c312 [2, 3] (by kernel_rfl) (by kernel_rfl) (by kernel_rfl) (by kernel_rfl) (by kernel_rfl)]
  have h := G312 ⟨ρ, evCall (cx ρ) k, (evCY (cx ρ) k).2, lim, k⟩ x0 H
  unfold jj at h
  exact h
-- (*haycroft/tail.Tail).Take
noncomputable def c319 : Code := Code.of Tryz.prog 319
noncomputable def L319 (E : LE) (x0 x1 : AV) (H : Heap) : Res :=
  purK (binA P H .eql 147 x0 .nilp) fun x12 =>
  condK x12
  (
    retK [(.int .u64 0), (.int .i64 0), (.int .i64 2)] H)
  (
    purK (binA P H .lss 3 x1 (.int .i64 1)) fun x15 =>
    condK x15
    (
      retK [(.int .u64 0), (.int .i64 0), (.int .i64 1)] H)
    (
      resK (E.call E.lim 335 [x0] H) fun x19 H =>
      purK (binA P H .gtr 3 x1 x19) fun x20 =>
      condK x20
      (
        retK [(.int .u64 0), (.int .i64 0), (.int .i64 5)] H)
      (
        resK (E.call E.lim 356 [x0] H) fun x23 H =>
        condK x23
        (
          resK (E.call E.lim 357 [x0, (.int .i64 3)] H) fun x25 H =>
          retK [(.int .u64 0), x25, (.int .i64 0)] H)
        (
          purK (nilChkA x0) fun x28 =>
          purK (fieldAddrA P 307 x28 2) fun x29 =>
          purK (loadA (Cx E) H 160 x29) fun x30 =>
          purK (convXA (Cx E) H 3 22 x1) fun x32 =>
          resK (E.call E.lim 246 [x30, (.int .i64 0), x32] H) fun x33 H =>
          purK (extA 0 x33) fun x34 =>
          purK (extA 1 x33) fun x35 =>
          purK (binA P H .neq 28 x35 (.int .i64 0)) fun x37 =>
          condK x37
          (
            retK [(.int .u64 0), (.int .i64 0), x35] H)
          (
            resK (E.call E.lim 131 [(.int .i64 32)] H) fun x40 H =>
            purK (binA P H .and 22 x34 x40) fun x41 =>
            purK (convXA (Cx E) H 22 3 x41) fun x42 =>
            purK (binA P H .add 3 x42 x1) fun x45 =>
            resK (E.call E.lim 335 [x0] H) fun x47 H =>
            purK (binA P H .gtr 3 x45 x47) fun x48 =>
            condK x48
            (
              resK (E.call E.lim 357 [x0, (.int .i64 2)] H) fun x50 H =>
              retK [(.int .u64 0), x50, (.int .i64 0)] H)
            (
              purK (nilChkA x0) fun x52 =>
              purK (fieldAddrA P 307 x52 0) fun x53 =>
              purK (loadA (Cx E) H 3 x53) fun x54 =>
              purK (binA P H .shr 22 x34 (.int .u64 32)) fun x56 =>
              purK (convXA (Cx E) H 22 3 x56) fun x57 =>
              resK (E.call E.lim 306 [x54, x57] H) fun x58 H =>
              purK (convXA (Cx E) H 3 22 x42) fun x60 =>
              purK (binA P H .add 22 x58 x60) fun x61 =>
              retK [x61, (.int .i64 1), (.int .i64 0)] H))))))
theorem G319 (E : LE) (x0 x1 : AV) (H : Heap) : jj E 319 c319 [x0, x1, (.tup []), (.tup []), (.tup []), (.tup []), (.tup []), (.tup []), (.tup []), (.tup []), (.tup []), (.tup []), (.tup []), (.tup []), (.tup []), (.tup []), (.tup []), (.tup []), (.tup []), (.tup []), (.tup []), (.tup []), (.tup []), (.tup []), (.tup []), (.tup []), (.tup []), (.tup []), (.tup []), (.tup []), (.tup []), (.tup []), (.tup []), (.tup []), (.tup []), (.tup []), (.tup []), (.tup []), (.tup []), (.tup []), (.tup []), (.tup []), (.tup []), (.tup []), (.tup []), (.tup []), (.tup []), (.tup []), (.tup []), (.tup []), (.tup []), (.tup []), (.tup []), (.tup []), (.tup []), (.tup []), (.tup []), (.tup []), (.tup []), (.tup []), (.tup []), (.tup [])] H (kk none (fun s H => retK (([4, 5, 6] : List Nat).map fun t => s.getD t (.tup [])) H) [] retK [4, 5, 6]) = L319 E x0 x1 H := by kernel_rfl
theorem E319 (ρ : Addr → Option Value) (k lim : Nat) (x0 x1 : AV) (H : Heap) : evCall (cx ρ) (k + 1) lim 319 [x0, x1] H = L319 ⟨ρ, evCall (cx ρ) k, (evCY (cx ρ) k).2, lim, k⟩ x0 x1 H := by
  rw [evCall_body (cx ρ) k lim 319 _ H Tryz.f319 c319 [4, 5, 6] (by kernel_rfl) (by kernel_rfl) (by kernel_rfl) (by kernel_rfl) (by kernel_rfl)]
  have h := G319 ⟨ρ, evCall (cx ρ) k, (evCY (cx ρ) k).2, lim, k⟩ x0 x1 H
  unfold jj at h
  exact h
-- haycroft/record.Words
noncomputable def c320 : Code := Code.of Tryz.prog 320
noncomputable def L320 (E : LE) (x0 : AV) (H : Heap) : Res :=
  effK H (boxA H 27 x0) fun x1 H =>
  purK (loadA (Cx E) H 27 x1) fun x10 =>
  resK (E.call E.lim 66 [x10] H) fun x11 H =>
  purK (binA P H .neq 28 x11 (.int .i64 0)) fun x13 =>
  condK x13
  (
    retK [.nils, x11] H)
  (
    purK (fieldAddrA P 27 x1 0) fun x16 =>
    purK (loadA (Cx E) H 25 x16) fun x17 =>
    resK (E.call E.lim 132 [x17] H) fun x18 H =>
    purK (extA 0 x18) fun x19 =>
    purK (extA 1 x18) fun x20 =>
    purK (fieldAddrA P 27 x1 1) fun x22 =>
    purK (loadA (Cx E) H 9 x22) fun x23 =>
    purK (lenBA (Cx E) H 9 x23) fun x24 =>
    purK (fieldAddrA P 27 x1 2) fun x25 =>
    purK (loadA (Cx E) H 9 x25) fun x26 =>
    purK (lenBA (Cx E) H 9 x26) fun x27 =>
    resK (E.call E.lim 129 [x24, x27] H) fun x28 H =>
    purK (extA 0 x28) fun x29 =>
    purK (extA 1 x28) fun x30 =>
    effK H (buildSliceA (Cx E) H 31 3 [(0, x19), (1, (.int .u64 0)), (2, x29)]) fun x33 H =>
    purK (fieldAddrA P 27 x1 1) fun x34 =>
    purK (loadA (Cx E) H 9 x34) fun x35 =>
    resK (E.call E.lim 126 [x35] H) fun x36 H =>
    effK H (builtinA (Cx E) E.lim H .append #[31, 31] [x33, x36]) fun x37 H =>
    purK (fieldAddrA P 27 x1 2) fun x39 =>
    purK (loadA (Cx E) H 9 x39) fun x40 =>
    resK (E.call E.lim 126 [x40] H) fun x41 H =>
    effK H (builtinA (Cx E) E.lim H .append #[31, 31] [x37, x41]) fun x42 H =>
    retK [x42, (.int .i64 0)] H)
theorem G320 (E : LE) (x0 : AV) (H : Heap) : jj E 320 c320 [x0, (.tup []), (.tup []), (.tup []), (.tup []), (.tup []), (.tup []), (.tup []), (.tup []), (.tup []), (.tup []), (.tup []), (.tup []), (.tup []), (.tup []), (.tup []), (.tup []), (.tup []), (.tup []), (.tup []), (.tup []), (.tup []), (.tup []), (.tup []), (.tup []), (.tup []), (.tup []), (.tup []), (.tup []), (.tup []), (.tup []), (.tup []), (.tup []), (.tup []), (.tup []), (.tup []), (.tup []), (.tup []), (.tup []), (.tup []), (.tup []), (.tup []), (.tup [])] H (kk none (fun s H => retK (([2, 3] : List Nat).map fun t => s.getD t (.tup [])) H) [] retK [2, 3]) = L320 E x0 H := by kernel_rfl
theorem E320 (ρ : Addr → Option Value) (k lim : Nat) (x0 : AV) (H : Heap) : evCall (cx ρ) (k + 1) lim 320 [x0] H = L320 ⟨ρ, evCall (cx ρ) k, (evCY (cx ρ) k).2, lim, k⟩ x0 H := by
  rw [evCall_body (cx ρ) k lim 320 _ H Tryz.f320 c320 [2, 3] (by kernel_rfl) (by kernel_rfl) (by kernel_rfl) (by kernel_rfl) (by kernel_rfl)]
  have h := G320 ⟨ρ, evCall (cx ρ) k, (evCY (cx ρ) k).2, lim, k⟩ x0 H
  unfold jj at h
  exact h
-- (*haycroft/pages.Buffer).Fill
noncomputable def c321 : Code := Code.of Tryz.prog 321
noncomputable def L321 (E : LE) (x0 x1 x2 : AV) (H : Heap) : Res :=
  purK (lenBA (Cx E) H 31 x2) fun x13 =>
  resK (E.call E.lim 347 [x0, x1, x13] H) fun x14 H =>
  purK (extA 0 x14) fun x15 =>
  purK (extA 1 x14) fun x16 =>
  purK (binA P H .neq 28 x16 (.int .i64 0)) fun x18 =>
  condK x18
  (
    retK [x16] H)
  (
    purK (nilChkA x0) fun x21 =>
    purK (fieldAddrA P 199 x21 1) fun x22 =>
    purK (loadA (Cx E) H 160 x22) fun x23 =>
    resK (E.call E.lim 281 [x23, x15, x2] H) fun x26 H =>
    retK [x26] H)
theorem G321 (E : LE) (x0 x1 x2 : AV) (H : Heap) : jj E 321 c321 [x0, x1, x2, (.tup []), (.tup []), (.tup []), (.tup []), (.tup []), (.tup []), (.tup []), (.tup []), (.tup []), (.tup []), (.tup []), (.tup []), (.tup []), (.tup []), (.tup []), (.tup []), (.tup []), (.tup []), (.tup []), (.tup []), (.tup []), (.tup []), (.tup []), (.tup [])] H (kk none (fun s H => retK (([6] : List Nat).map fun t => s.getD t (.tup [])) H) [] retK [6]) = L321 E x0 x1 x2 H := by kernel_rfl
theorem E321 (ρ : Addr → Option Value) (k lim : Nat) (x0 x1 x2 : AV) (H : Heap) : evCall (cx ρ) (k + 1) lim 321 [x0, x1, x2] H = L321 ⟨ρ, evCall (cx ρ) k, (evCY (cx ρ) k).2, lim, k⟩ x0 x1 x2 H := by
  rw [evCall_body (cx ρ) k lim 321 _ H Tryz.f321 c321 [6] (by kernel_rfl) (by kernel_rfl) (by kernel_rfl) (by kernel_rfl) (by kernel_rfl)]
  have h := G321 ⟨ρ, evCall (cx ρ) k, (evCY (cx ρ) k).2, lim, k⟩ x0 x1 x2 H
  unfold jj at h
  exact h
-- (*haycroft/task.Task).publish
noncomputable def c322 : Code := Code.of Tryz.prog 322
noncomputable def L322 (E : LE) (x0 : AV) (H : Heap) : Res :=
  purK (nilChkA x0) fun x11 =>
  purK (fieldAddrA P 258 x11 1) fun x12 =>
  purK (loadA (Cx E) H 95 x12) fun x13 =>
  purK (nilChkA x0) fun x15 =>
  purK (fieldAddrA P 258 x15 6) fun x16 =>
  purK (loadA (Cx E) H 3 x16) fun x17 =>
  purK (nilChkA x0) fun x19 =>
  purK (fieldAddrA P 258 x19 7) fun x20 =>
  purK (loadA (Cx E) H 22 x20) fun x21 =>
  purK (nilChkA x0) fun x23 =>
  purK (fieldAddrA P 258 x23 12) fun x24 =>
  purK (loadA (Cx E) H 22 x24) fun x25 =>
  resK (E.call E.lim 358 [x13, x17, x21, x25] H) fun x26 H =>
  purK (extA 0 x26) fun x27 =>
  purK (extA 1 x26) fun x28 =>
  purK (binA P H .neq 28 x28 (.int .i64 0)) fun x30 =>
  condK x30
  (
    resK (E.call E.lim 169 [x28] H) fun x32 H =>
    purK (extA 0 x32) fun x33 =>
    purK (extA 1 x32) fun x34 =>
    retK [x33, x34] H)
  (
    condK x27
    (
      resK (E.call E.lim 240 [x0, (.int .i64 0), (.str (ByteArray.mk #[]))] H) fun x37 H =>
      purK (extA 0 x37) fun x38 =>
      purK (extA 1 x37) fun x39 =>
      retK [x38, x39] H)
    (
      resK (E.call E.lim 288 [x0] H) fun x41 H =>
      effK H (allocA (Cx E) H 27) fun x6 H =>
      effK H ((storeA (Cx E) E.lim H 27 x6 x41).map skips) fun _ H =>
      purK (fieldAddrA P 27 x6 0) fun x42 =>
      purK (fieldAddrA P 25 x42 2) fun x43 =>
      effK H ((storeA (Cx E) E.lim H 4 x43 (.bool true)).map skips) fun _ H =>
      purK (fieldAddrA P 27 x6 0) fun x45 =>
      purK (loadA (Cx E) H 25 x45) fun x46 =>
      resK (E.call E.lim 132 [x46] H) fun x47 H =>
      purK (extA 0 x47) fun x48 =>
      purK (extA 1 x47) fun x49 =>
      purK (binA P H .neq 28 x49 (.int .i64 0)) fun x51 =>
      condK x51
      (
        resK (E.call E.lim 169 [x49] H) fun x53 H =>
        purK (extA 0 x53) fun x54 =>
        purK (extA 1 x53) fun x55 =>
        retK [x54, x55] H)
      (
        purK (nilChkA x0) fun x57 =>
        purK (fieldAddrA P 258 x57 0) fun x58 =>
        purK (loadA (Cx E) H 84 x58) fun x59 =>
        purK (nilChkA x0) fun x62 =>
        purK (fieldAddrA P 258 x62 12) fun x63 =>
        purK (loadA (Cx E) H 22 x63) fun x64 =>
        resK (E.call E.lim 53 [x59] H) fun x60 H => bif (agn (loadA (Cx E) H 22 x63) x64 && true) then
          resK (E.call E.lim 359 [x60, x64, x48] H) fun x66 H =>
          purK (binA P H .neq 28 x66 (.int .i64 0)) fun x68 =>
          condK x68
          (
            resK (E.call E.lim 169 [x66] H) fun x70 H =>
            purK (extA 0 x70) fun x71 =>
            purK (extA 1 x70) fun x72 =>
            retK [x71, x72] H)
          (
            purK (nilChkA x0) fun x74 =>
            purK (fieldAddrA P 258 x74 19) fun x75 =>
            purK (loadA (Cx E) H 3 x75) fun x76 =>
            purK (binA P H .add 3 x76 (.int .i64 1)) fun x77 =>
            purK (nilChkA x0) fun x78 =>
            purK (fieldAddrA P 258 x78 19) fun x79 =>
            effK H ((storeA (Cx E) E.lim H 3 x79 x77).map skips) fun _ H =>
            resK (E.call E.lim 324 [x0] H) fun x81 H =>
            resK (E.call E.lim 241 [x0, (.fn (.func 233) [] [])] H) fun x83 H =>
            purK (extA 0 x83) fun x84 =>
            purK (extA 1 x83) fun x85 =>
            retK [x84, x85] H)
        else none)))
theorem G322 (E : LE) (x0 : AV) (H : Heap) : jj E 322 c322 [x0, (.tup []), (.tup []), (.tup []), (.tup []), (.tup []), (.tup []), (.tup []), (.tup []), (.tup []), (.tup []), (.tup []), (.tup []), (.tup []), (.tup []), (.tup []), (.tup []), (.tup []), (.tup []), (.tup []), (.tup []), (.tup []), (.tup []), (.tup []), (.tup []), (.tup []), (.tup []), (.tup []), (.tup []), (.tup []), (.tup []), (.tup []), (.tup []), (.tup []), (.tup []), (.tup []), (.tup []), (.tup []), (.tup []), (.tup []), (.tup []), (.tup []), (.tup []), (.tup []), (.tup []), (.tup []), (.tup []), (.tup []), (.tup []), (.tup []), (.tup []), (.tup []), (.tup []), (.tup []), (.tup []), (.tup []), (.tup []), (.tup []), (.tup []), (.tup []), (.tup []), (.tup []), (.tup []), (.tup []), (.tup []), (.tup []), (.tup []), (.tup []), (.tup []), (.tup []), (.tup []), (.tup []), (.tup []), (.tup []), (.tup []), (.tup []), (.tup []), (.tup []), (.tup []), (.tup []), (.tup []), (.tup []), (.tup []), (.tup []), (.tup []), (.tup [])] H (kk none (fun s H => retK (([2, 3] : List Nat).map fun t => s.getD t (.tup [])) H) [] retK [2, 3]) = L322 E x0 H := by kernel_rfl
theorem E322 (ρ : Addr → Option Value) (k lim : Nat) (x0 : AV) (H : Heap) : evCall (cx ρ) (k + 1) lim 322 [x0] H = L322 ⟨ρ, evCall (cx ρ) k, (evCY (cx ρ) k).2, lim, k⟩ x0 H := by
  rw [evCall_body (cx ρ) k lim 322 _ H Tryz.f322 c322 [2, 3] (by kernel_rfl) (by kernel_rfl) (by kernel_rfl) (by kernel_rfl) (by kernel_rfl)]
  have h := G322 ⟨ρ, evCall (cx ρ) k, (evCY (cx ρ) k).2, lim, k⟩ x0 H
  unfold jj at h
  exact h
-- (*haycroft/tail.Tail).size
noncomputable def c335 : Code := Code.of Tryz.prog 335
noncomputable def L335 (E : LE) (x0 : AV) (H : Heap) : Res :=
  purK (nilChkA x0) fun x4 =>
  purK (fieldAddrA P 307 x4 0) fun x5 =>
  purK (loadA (Cx E) H 3 x5) fun x6 =>
  resK (E.call E.lim 58 [x6] H) fun x7 H =>
  retK [x7] H
theorem G335 (E : LE) (x0 : AV) (H : Heap) : jj E 335 c335 [x0, (.tup []), (.tup []), (.tup []), (.tup []), (.tup []), (.tup []), (.tup [])] H (kk none (fun s H => retK (([2] : List Nat).map fun t => s.getD t (.tup [])) H) [] retK [2]) = L335 E x0 H := by kernel_rfl
theorem E335 (ρ : Addr → Option Value) (k lim : Nat) (x0 : AV) (H : Heap) : evCall (cx ρ) (k + 1) lim 335 [x0] H = L335 ⟨ρ, evCall (cx ρ) k, (evCY (cx ρ) k).2, lim, k⟩ x0 H := by
  rw [evCall_body (cx ρ) k lim 335 _ H Tryz.f335 c335 [2] (by kernel_rfl) (by kernel_rfl) (by kernel_rfl) (by kernel_rfl) (by kernel_rfl)]
  have h := G335 ⟨ρ, evCall (cx ρ) k, (evCY (cx ρ) k).2, lim, k⟩ x0 H
  unfold jj at h
  exact h
-- haycroft/place.Of
noncomputable def c342 : Code := Code.of Tryz.prog 342
noncomputable def N342_1_k (s : Slots) (H : Heap) (R : RK) (J : CodeF) : Res := J (Code.at [1, 1] c342) s H (kk none (fun s H => R (([6, 7] : List Nat).map fun t => s.getD t (.tup [])) H) [] R [6, 7])
noncomputable def N342_1 (E : LE) (x0 x1 x2 : AV) (H : Heap) (R : RK) : Res :=
  purK (convXA (Cx E) H 3 22 x1) fun x27_1 =>
  purK (binA P H .shl 22 x27_1 x0) fun x29_1 =>
  purK (convXA (Cx E) H 3 22 x2) fun x31_1 =>
  purK (binA P H .or 22 x29_1 x31_1) fun x32_1 =>
  R [x32_1, (.int .i64 0)] H
theorem N342_1_eq (E : LE) (x0 x1 x2 : AV) (H : Heap) (R : RK) : N342_1_k (sp 33 [(0, x0), (1, x1), (2, x2)]) H R (jj E 342) = N342_1 E x0 x1 x2 H R := by kernel_rfl
noncomputable def N342_2_k (s : Slots) (H : Heap) (kn k0 : KS) (R : RK) (J : CodeF) : Res := J (Code.at [1, 0, 0, 1] c342) s H (kk (some [0, 1, 2]) kn [(0, (some [0, 1, 2]), k0)] R [6, 7])
noncomputable def N342_2 (E : LE) (x0 x1 x2 x8 : AV) (H : Heap) (kn : AV → AV → AV → Heap → Res) (R : RK) : Res :=
  condK x8
  (
    R [(.int .u64 0), (.int .i64 1)] H)
  (
    purK (convXA (Cx E) H 3 22 x1) fun x22_1 =>
    purK (binA P H .shr 22 (.int .u64 281474976710655) x0) fun x24_1 =>
    purK (binA P H .gtr 22 x22_1 x24_1) fun x25_1 =>
    condK x25_1
    (
      R [(.int .u64 0), (.int .i64 13)] H)
    (
      kn x0 x1 x2 H))
theorem N342_2_eq (E : LE) (x0 x1 x2 x8 : AV) (H : Heap) (kn k0 : KS) (R : RK) : N342_2_k (sp 33 [(0, x0), (1, x1), (2, x2), (8, x8)]) H kn k0 R (jj E 342) = N342_2 E x0 x1 x2 x8 H (fun x0 x1 x2 H => kn (sp 33 [(0, x0), (1, x1), (2, x2)]) H) R := by kernel_rfl
noncomputable def L342 (E : LE) (x0 x1 x2 : AV) (H : Heap) : Res :=
  resK (E.call E.lim 89 [x0] H) fun x10 H =>
  purK (unA .not x10) fun x11 =>
  condK x11
  (
    N342_2 E x0 x1 x2 x11 H (fun x0_1 x1_1 x2_1 H =>
      N342_1 E x0_1 x1_1 x2_1 H retK) retK)
  (
    purK (binA P H .lss 3 x1 (.int .i64 0)) fun x13 =>
    condK x13
    (
      N342_2 E x0 x1 x2 x13 H (fun x0_2 x1_2 x2_2 H =>
        N342_1 E x0_2 x1_2 x2_2 H retK) retK)
    (
      purK (binA P H .lss 3 x2 (.int .i64 0)) fun x15 =>
      condK x15
      (
        N342_2 E x0 x1 x2 x15 H (fun x0_3 x1_3 x2_3 H =>
          N342_1 E x0_3 x1_3 x2_3 H retK) retK)
      (
        resK (E.call E.lim 58 [x0] H) fun x18 H =>
        purK (binA P H .geq 3 x2 x18) fun x19 =>
        N342_2 E x0 x1 x2 x19 H (fun x0_4 x1_4 x2_4 H =>
          N342_1 E x0_4 x1_4 x2_4 H retK) retK)))
theorem L342_x (E : LE) (J : CodeF) (x0 x1 x2 : AV) (H : Heap) : jx E 342 J c342 [x0, x1, x2, (.tup []), (.tup []), (.tup []), (.tup []), (.tup []), (.tup []), (.tup []), (.tup []), (.tup []), (.tup []), (.tup []), (.tup []), (.tup []), (.tup []), (.tup []), (.tup []), (.tup []), (.tup []), (.tup []), (.tup []), (.tup []), (.tup []), (.tup []), (.tup []), (.tup []), (.tup []), (.tup []), (.tup []), (.tup []), (.tup [])] H (kk none (fun s H => retK (([6, 7] : List Nat).map fun t => s.getD t (.tup [])) H) [] retK [6, 7]) =
  resK (E.call E.lim 89 [x0] H) fun x10 H =>
  purK (unA .not x10) fun x11 =>
  condK x11
  (
    N342_2_k (sp 33 [(0, x0), (1, x1), (2, x2), (8, x11)]) H (fun s H => N342_1_k s H retK J) (fun s H => N342_1_k s H retK J) retK J)
  (
    purK (binA P H .lss 3 x1 (.int .i64 0)) fun x13 =>
    condK x13
    (
      N342_2_k (sp 33 [(0, x0), (1, x1), (2, x2), (8, x13)]) H (fun s H => N342_1_k s H retK J) (fun s H => N342_1_k s H retK J) retK J)
    (
      purK (binA P H .lss 3 x2 (.int .i64 0)) fun x15 =>
      condK x15
      (
        N342_2_k (sp 33 [(0, x0), (1, x1), (2, x2), (8, x15)]) H (fun s H => N342_1_k s H retK J) (fun s H => N342_1_k s H retK J) retK J)
      (
        resK (E.call E.lim 58 [x0] H) fun x18 H =>
        purK (binA P H .geq 3 x2 x18) fun x19 =>
        N342_2_k (sp 33 [(0, x0), (1, x1), (2, x2), (8, x19)]) H (fun s H => N342_1_k s H retK J) (fun s H => N342_1_k s H retK J) retK J))) := by kernel_rfl
theorem G342 (E : LE) (x0 x1 x2 : AV) (H : Heap) : jj E 342 c342 [x0, x1, x2, (.tup []), (.tup []), (.tup []), (.tup []), (.tup []), (.tup []), (.tup []), (.tup []), (.tup []), (.tup []), (.tup []), (.tup []), (.tup []), (.tup []), (.tup []), (.tup []), (.tup []), (.tup []), (.tup []), (.tup []), (.tup []), (.tup []), (.tup []), (.tup []), (.tup []), (.tup []), (.tup []), (.tup []), (.tup []), (.tup [])] H (kk none (fun s H => retK (([6, 7] : List Nat).map fun t => s.getD t (.tup [])) H) [] retK [6, 7]) = L342 E x0 x1 x2 H := (jj_X E 342 _ _ H _).trans ((L342_x E (jj E 342) x0 x1 x2 H).trans (by simp only [L342, N342_1_eq, N342_2_eq]))
theorem E342 (ρ : Addr → Option Value) (k lim : Nat) (x0 x1 x2 : AV) (H : Heap) : evCall (cx ρ) (k + 1) lim 342 [x0, x1, x2] H = L342 ⟨ρ, evCall (cx ρ) k, (evCY (cx ρ) k).2, lim, k⟩ x0 x1 x2 H := by
  rw [evCall_body (cx ρ) k lim 342 _ H Tryz.f342 c342 [6, 7] (by kernel_rfl) (by kernel_rfl) (by kernel_rfl) (by kernel_rfl) (by kernel_rfl)]
  have h := G342 ⟨ρ, evCall (cx ρ) k, (evCY (cx ρ) k).2, lim, k⟩ x0 x1 x2 H
  unfold jj at h
  exact h
-- (*haycroft/index.Index).Claim
noncomputable def c345 : Code := Code.of Tryz.prog 345
noncomputable def L345 (E : LE) (x0 x1 x2 : AV) (H : Heap) : Res :=
  resK (E.call E.lim 366 [x0, x1] H) fun x13 H =>
  purK (binA P H .neq 28 x13 (.int .i64 0)) fun x15 =>
  condK x15
  (
    retK [(.bool false), x13] H)
  (
    resK (E.call E.lim 77 [x2] H) fun x19 H =>
    resK (E.call E.lim 367 [x19] H) fun x20 H =>
    purK (extA 0 x20) fun x21 =>
    purK (extA 1 x20) fun x22 =>
    purK (binA P H .neq 28 x22 (.int .i64 0)) fun x24 =>
    condK x24
    (
      retK [(.bool false), x22] H)
    (
      purK (nilChkA x0) fun x27 =>
      purK (fieldAddrA P 162 x27 2) fun x28 =>
      purK (loadA (Cx E) H 160 x28) fun x29 =>
      resK (E.call E.lim 282 [x29, x1, (.int .u64 0), x21] H) fun x32 H =>
      purK (extA 0 x32) fun x33 =>
      purK (extA 1 x32) fun x34 =>
      retK [x33, x34] H))
theorem G345 (E : LE) (x0 x1 x2 : AV) (H : Heap) : jj E 345 c345 [x0, x1, x2, (.tup []), (.tup []), (.tup []), (.tup []), (.tup []), (.tup []), (.tup []), (.tup []), (.tup []), (.tup []), (.tup []), (.tup []), (.tup []), (.tup []), (.tup []), (.tup []), (.tup []), (.tup []), (.tup []), (.tup []), (.tup []), (.tup []), (.tup []), (.tup []), (.tup []), (.tup []), (.tup []), (.tup []), (.tup []), (.tup []), (.tup []), (.tup [])] H (kk none (fun s H => retK (([6, 7] : List Nat).map fun t => s.getD t (.tup [])) H) [] retK [6, 7]) = L345 E x0 x1 x2 H := by kernel_rfl
theorem E345 (ρ : Addr → Option Value) (k lim : Nat) (x0 x1 x2 : AV) (H : Heap) : evCall (cx ρ) (k + 1) lim 345 [x0, x1, x2] H = L345 ⟨ρ, evCall (cx ρ) k, (evCY (cx ρ) k).2, lim, k⟩ x0 x1 x2 H := by
  rw [evCall_body (cx ρ) k lim 345 _ H Tryz.f345 c345 [6, 7] (by kernel_rfl) (by kernel_rfl) (by kernel_rfl) (by kernel_rfl) (by kernel_rfl)]
  have h := G345 ⟨ρ, evCall (cx ρ) k, (evCY (cx ρ) k).2, lim, k⟩ x0 x1 x2 H
  unfold jj at h
  exact h
-- (*haycroft/pages.Buffer).run
noncomputable def c347 : Code := Code.of Tryz.prog 347
noncomputable def L347 (E : LE) (x0 x1 x2 : AV) (H : Heap) : Res :=
  resK (E.call E.lim 369 [x0, x1] H) fun x13 H =>
  purK (extA 0 x13) fun x14 =>
  purK (extA 1 x13) fun x15 =>
  purK (binA P H .neq 28 x15 (.int .i64 0)) fun x18 =>
  condK x18
  (
    retK [(.int .i64 0), x15] H)
  (
    purK (nilChkA x0) fun x22 =>
    purK (fieldAddrA P 199 x22 0) fun x23 =>
    purK (loadA (Cx E) H 3 x23) fun x24 =>
    resK (E.call E.lim 370 [x24, x1, x2] H) fun x27 H =>
    purK (unA .not x27) fun x28 =>
    condK x28
    (
      retK [(.int .i64 0), (.int .i64 1)] H)
    (
      retK [x14, (.int .i64 0)] H))
theorem G347 (E : LE) (x0 x1 x2 : AV) (H : Heap) : jj E 347 c347 [x0, x1, x2, (.tup []), (.tup []), (.tup []), (.tup []), (.tup []), (.tup []), (.tup []), (.tup []), (.tup []), (.tup []), (.tup []), (.tup []), (.tup []), (.tup []), (.tup []), (.tup []), (.tup []), (.tup []), (.tup []), (.tup []), (.tup []), (.tup []), (.tup []), (.tup []), (.tup []), (.tup []), (.tup [])] H (kk none (fun s H => retK (([6, 7] : List Nat).map fun t => s.getD t (.tup [])) H) [] retK [6, 7]) = L347 E x0 x1 x2 H := by kernel_rfl
theorem E347 (ρ : Addr → Option Value) (k lim : Nat) (x0 x1 x2 : AV) (H : Heap) : evCall (cx ρ) (k + 1) lim 347 [x0, x1, x2] H = L347 ⟨ρ, evCall (cx ρ) k, (evCY (cx ρ) k).2, lim, k⟩ x0 x1 x2 H := by
  rw [evCall_body (cx ρ) k lim 347 _ H Tryz.f347 c347 [6, 7] (by kernel_rfl) (by kernel_rfl) (by kernel_rfl) (by kernel_rfl) (by kernel_rfl)]
  have h := G347 ⟨ρ, evCall (cx ρ) k, (evCY (cx ρ) k).2, lim, k⟩ x0 x1 x2 H
  unfold jj at h
  exact h
-- (*haycroft/tail.Tail).Over
noncomputable def c356 : Code := Code.of Tryz.prog 356
noncomputable def L356 (E : LE) (x0 : AV) (H : Heap) : Res :=
  purK (binA P H .eql 147 x0 .nilp) fun x6 =>
  condK x6
  (
    retK [(.bool false)] H)
  (
    resK (E.call E.lim 144 [x0] H) fun x9 H =>
    purK (extA 0 x9) fun x10 =>
    purK (extA 1 x9) fun x11 =>
    resK (E.call E.lim 335 [x0] H) fun x14 H =>
    purK (binA P H .gtr 3 x11 x14) fun x15 =>
    retK [x15] H)
theorem G356 (E : LE) (x0 : AV) (H : Heap) : jj E 356 c356 [x0, (.tup []), (.tup []), (.tup []), (.tup []), (.tup []), (.tup []), (.tup []), (.tup []), (.tup []), (.tup []), (.tup []), (.tup []), (.tup []), (.tup []), (.tup [])] H (kk none (fun s H => retK (([2] : List Nat).map fun t => s.getD t (.tup [])) H) [] retK [2]) = L356 E x0 H := by kernel_rfl
theorem E356 (ρ : Addr → Option Value) (k lim : Nat) (x0 : AV) (H : Heap) : evCall (cx ρ) (k + 1) lim 356 [x0] H = L356 ⟨ρ, evCall (cx ρ) k, (evCY (cx ρ) k).2, lim, k⟩ x0 H := by
  rw [evCall_body (cx ρ) k lim 356 _ H Tryz.f356 c356 [2] (by kernel_rfl) (by kernel_rfl) (by kernel_rfl) (by kernel_rfl) (by kernel_rfl)]
  have h := G356 ⟨ρ, evCall (cx ρ) k, (evCY (cx ρ) k).2, lim, k⟩ x0 H
  unfold jj at h
  exact h
-- (*haycroft/index.Index).Turn
noncomputable def c358 : Code := Code.of Tryz.prog 358
noncomputable def L358 (E : LE) (x0 x1 x2 x3 : AV) (H : Heap) : Res :=
  resK (E.call E.lim 366 [x0, x1] H) fun x15 H =>
  purK (binA P H .neq 28 x15 (.int .i64 0)) fun x17 =>
  condK x17
  (
    retK [(.bool false), x15] H)
  (
    resK (E.call E.lim 375 [x2, x3] H) fun x22 H =>
    purK (extA 0 x22) fun x23 =>
    purK (extA 1 x22) fun x24 =>
    purK (binA P H .neq 28 x24 (.int .i64 0)) fun x26 =>
    condK x26
    (
      retK [(.bool false), x24] H)
    (
      purK (nilChkA x0) fun x29 =>
      purK (fieldAddrA P 162 x29 2) fun x30 =>
      purK (loadA (Cx E) H 160 x30) fun x31 =>
      resK (E.call E.lim 282 [x31, x1, x2, x23] H) fun x35 H =>
      purK (extA 0 x35) fun x36 =>
      purK (extA 1 x35) fun x37 =>
      retK [x36, x37] H))
theorem G358 (E : LE) (x0 x1 x2 x3 : AV) (H : Heap) : jj E 358 c358 [x0, x1, x2, x3, (.tup []), (.tup []), (.tup []), (.tup []), (.tup []), (.tup []), (.tup []), (.tup []), (.tup []), (.tup []), (.tup []), (.tup []), (.tup []), (.tup []), (.tup []), (.tup []), (.tup []), (.tup []), (.tup []), (.tup []), (.tup []), (.tup []), (.tup []), (.tup []), (.tup []), (.tup []), (.tup []), (.tup []), (.tup []), (.tup []), (.tup []), (.tup []), (.tup []), (.tup [])] H (kk none (fun s H => retK (([8, 9] : List Nat).map fun t => s.getD t (.tup [])) H) [] retK [8, 9]) = L358 E x0 x1 x2 x3 H := by kernel_rfl
theorem E358 (ρ : Addr → Option Value) (k lim : Nat) (x0 x1 x2 x3 : AV) (H : Heap) : evCall (cx ρ) (k + 1) lim 358 [x0, x1, x2, x3] H = L358 ⟨ρ, evCall (cx ρ) k, (evCY (cx ρ) k).2, lim, k⟩ x0 x1 x2 x3 H := by
  rw [evCall_body (cx ρ) k lim 358 _ H Tryz.f358 c358 [8, 9] (by kernel_rfl) (by kernel_rfl) (by kernel_rfl) (by kernel_rfl) (by kernel_rfl)]
  have h := G358 ⟨ρ, evCall (cx ρ) k, (evCY (cx ρ) k).2, lim, k⟩ x0 x1 x2 x3 H
  unfold jj at h
  exact h
-- (*haycroft/index.Index).may
noncomputable def c366 : Code := Code.of Tryz.prog 366
noncomputable def L366 (E : LE) (x0 x1 : AV) (H : Heap) : Res :=
  purK (binA P H .eql 95 x0 .nilp) fun x7 =>
  condK x7
  (
    retK [(.int .i64 2)] H)
  (
    resK (E.call E.lim 147 [x0, x1] H) fun x11 H =>
    purK (unA .not x11) fun x12 =>
    condK x12
    (
      retK [(.int .i64 1)] H)
    (
      retK [(.int .i64 0)] H))
theorem G366 (E : LE) (x0 x1 : AV) (H : Heap) : jj E 366 c366 [x0, x1, (.tup []), (.tup []), (.tup []), (.tup []), (.tup []), (.tup []), (.tup []), (.tup []), (.tup []), (.tup []), (.tup [])] H (kk none (fun s H => retK (([4] : List Nat).map fun t => s.getD t (.tup [])) H) [] retK [4]) = L366 E x0 x1 H := by kernel_rfl
theorem E366 (ρ : Addr → Option Value) (k lim : Nat) (x0 x1 : AV) (H : Heap) : evCall (cx ρ) (k + 1) lim 366 [x0, x1] H = L366 ⟨ρ, evCall (cx ρ) k, (evCY (cx ρ) k).2, lim, k⟩ x0 x1 H := by
  rw [evCall_body (cx ρ) k lim 366 _ H Tryz.f366 c366 [4] (by kernel_rfl) (by kernel_rfl) (by kernel_rfl) (by kernel_rfl) (by kernel_rfl)]
  have h := G366 ⟨ρ, evCall (cx ρ) k, (evCY (cx ρ) k).2, lim, k⟩ x0 x1 H
  unfold jj at h
  exact h
-- haycroft/entry.Fresh
noncomputable def c367 : Code := Code.of Tryz.prog 367
noncomputable def L367 (E : LE) (x0 : AV) (H : Heap) : Res :=
  purK (buildA P 90 [(1, x0), (2, (.bool true))]) fun x5 =>
  resK (E.call E.lim 377 [x5] H) fun x6 H =>
  purK (extA 0 x6) fun x7 =>
  purK (extA 1 x6) fun x8 =>
  retK [x7, x8] H
theorem G367 (E : LE) (x0 : AV) (H : Heap) : jj E 367 c367 [x0, (.tup []), (.tup []), (.tup []), (.tup []), (.tup []), (.tup []), (.tup []), (.tup [])] H (kk none (fun s H => retK (([2, 3] : List Nat).map fun t => s.getD t (.tup [])) H) [] retK [2, 3]) = L367 E x0 H := by kernel_rfl
theorem E367 (ρ : Addr → Option Value) (k lim : Nat) (x0 : AV) (H : Heap) : evCall (cx ρ) (k + 1) lim 367 [x0] H = L367 ⟨ρ, evCall (cx ρ) k, (evCY (cx ρ) k).2, lim, k⟩ x0 H := by
  rw [evCall_body (cx ρ) k lim 367 _ H Tryz.f367 c367 [2, 3] (by kernel_rfl) (by kernel_rfl) (by kernel_rfl) (by kernel_rfl) (by kernel_rfl)]
  have h := G367 ⟨ρ, evCall (cx ρ) k, (evCY (cx ρ) k).2, lim, k⟩ x0 H
  unfold jj at h
  exact h
-- (*haycroft/pages.Buffer).at
noncomputable def c369 : Code := Code.of Tryz.prog 369
noncomputable def N369_1_k (s : Slots) (H : Heap) (R : RK) (J : CodeF) : Res := J (Code.at [1, 1] c369) s H (kk none (fun s H => R (([4, 5] : List Nat).map fun t => s.getD t (.tup [])) H) [] R [4, 5])
noncomputable def N369_1 (E : LE) (x0 x1 : AV) (H : Heap) (R : RK) : Res :=
  purK (nilChkA x0) fun x23_1 =>
  purK (fieldAddrA P 199 x23_1 0) fun x24_1 =>
  purK (loadA (Cx E) H 3 x24_1) fun x25_1 =>
  purK (nilChkA x0) fun x30_1 =>
  purK (fieldAddrA P 199 x30_1 0) fun x31_1 =>
  purK (loadA (Cx E) H 3 x31_1) fun x32_1 =>
  purK (nilChkA x0) fun x36_1 =>
  purK (fieldAddrA P 199 x36_1 0) fun x37_1 =>
  purK (loadA (Cx E) H 3 x37_1) fun x38_1 =>
  resK (E.call E.lim 52 [x25_1, x1] H) fun x27_1 H => bif (agn (loadA (Cx E) H 3 x37_1) x38_1 && (agn (loadA (Cx E) H 3 x31_1) x32_1 && true)) then
    resK (E.call E.lim 124 [x0, x27_1] H) fun x28_1 H => bif (agn (loadA (Cx E) H 3 x37_1) x38_1 && (agn (loadA (Cx E) H 3 x31_1) x32_1 && true)) then
      resK (E.call E.lim 58 [x32_1] H) fun x33_1 H => bif (agn (loadA (Cx E) H 3 x37_1) x38_1 && true) then
        purK (binA P H .mul 3 x28_1 x33_1) fun x34_1 =>
        resK (E.call E.lim 20 [x38_1, x1] H) fun x40_1 H => bif (agn (binA P H .mul 3 x28_1 x33_1) x34_1 && true) then
          purK (binA P H .add 3 x34_1 x40_1) fun x41_1 =>
          R [x41_1, (.int .i64 0)] H
        else none
      else none
    else none
  else none
theorem N369_1_eq (E : LE) (x0 x1 : AV) (H : Heap) (R : RK) : N369_1_k (sp 42 [(0, x0), (1, x1)]) H R (jj E 369) = N369_1 E x0 x1 H R := by kernel_rfl
noncomputable def N369_2_k (s : Slots) (H : Heap) (kn k0 : KS) (R : RK) (J : CodeF) : Res := J (Code.at [1, 0, 0, 1, 1, 1] c369) s H (kk (some [0, 1]) kn [(0, (some [0, 1]), k0)] R [4, 5])
noncomputable def N369_2 (E : LE) (x0 x1 x9 : AV) (H : Heap) (kn : AV → AV → Heap → Res) (R : RK) : Res :=
  condK x9
  (
    R [(.int .i64 0), (.int .i64 7)] H)
  (
    kn x0 x1 H)
theorem N369_2_eq (E : LE) (x0 x1 x9 : AV) (H : Heap) (kn k0 : KS) (R : RK) : N369_2_k (sp 42 [(0, x0), (1, x1), (9, x9)]) H kn k0 R (jj E 369) = N369_2 E x0 x1 x9 H (fun x0 x1 H => kn (sp 42 [(0, x0), (1, x1)]) H) R := by kernel_rfl
noncomputable def L369 (E : LE) (x0 x1 : AV) (H : Heap) : Res :=
  purK (binA P H .eql 122 x0 .nilp) fun x8 =>
  condK x8
  (
    retK [(.int .i64 0), (.int .i64 2)] H)
  (
    purK (binA P H .gtr 22 x1 (.int .u64 281474976710655)) fun x11 =>
    condK x11
    (
      N369_2 E x0 x1 x11 H (fun x0_1 x1_1 H =>
        N369_1 E x0_1 x1_1 H retK) retK)
    (
      purK (nilChkA x0) fun x14 =>
      purK (fieldAddrA P 199 x14 0) fun x15 =>
      purK (loadA (Cx E) H 3 x15) fun x16 =>
      resK (E.call E.lim 52 [x16, x1] H) fun x18 H =>
      resK (E.call E.lim 122 [x0, x18] H) fun x19 H =>
      purK (unA .not x19) fun x20 =>
      N369_2 E x0 x1 x20 H (fun x0_2 x1_2 H =>
        N369_1 E x0_2 x1_2 H retK) retK))
theorem L369_x (E : LE) (J : CodeF) (x0 x1 : AV) (H : Heap) : jx E 369 J c369 [x0, x1, (.tup []), (.tup []), (.tup []), (.tup []), (.tup []), (.tup []), (.tup []), (.tup []), (.tup []), (.tup []), (.tup []), (.tup []), (.tup []), (.tup []), (.tup []), (.tup []), (.tup []), (.tup []), (.tup []), (.tup []), (.tup []), (.tup []), (.tup []), (.tup []), (.tup []), (.tup []), (.tup []), (.tup []), (.tup []), (.tup []), (.tup []), (.tup []), (.tup []), (.tup []), (.tup []), (.tup []), (.tup []), (.tup []), (.tup []), (.tup [])] H (kk none (fun s H => retK (([4, 5] : List Nat).map fun t => s.getD t (.tup [])) H) [] retK [4, 5]) =
  purK (binA P H .eql 122 x0 .nilp) fun x8 =>
  condK x8
  (
    retK [(.int .i64 0), (.int .i64 2)] H)
  (
    purK (binA P H .gtr 22 x1 (.int .u64 281474976710655)) fun x11 =>
    condK x11
    (
      N369_2_k (sp 42 [(0, x0), (1, x1), (9, x11)]) H (fun s H => N369_1_k s H retK J) (fun s H => N369_1_k s H retK J) retK J)
    (
      purK (nilChkA x0) fun x14 =>
      purK (fieldAddrA P 199 x14 0) fun x15 =>
      purK (loadA (Cx E) H 3 x15) fun x16 =>
      resK (E.call E.lim 52 [x16, x1] H) fun x18 H =>
      resK (E.call E.lim 122 [x0, x18] H) fun x19 H =>
      purK (unA .not x19) fun x20 =>
      N369_2_k (sp 42 [(0, x0), (1, x1), (9, x20)]) H (fun s H => N369_1_k s H retK J) (fun s H => N369_1_k s H retK J) retK J)) := by kernel_rfl
theorem G369 (E : LE) (x0 x1 : AV) (H : Heap) : jj E 369 c369 [x0, x1, (.tup []), (.tup []), (.tup []), (.tup []), (.tup []), (.tup []), (.tup []), (.tup []), (.tup []), (.tup []), (.tup []), (.tup []), (.tup []), (.tup []), (.tup []), (.tup []), (.tup []), (.tup []), (.tup []), (.tup []), (.tup []), (.tup []), (.tup []), (.tup []), (.tup []), (.tup []), (.tup []), (.tup []), (.tup []), (.tup []), (.tup []), (.tup []), (.tup []), (.tup []), (.tup []), (.tup []), (.tup []), (.tup []), (.tup []), (.tup [])] H (kk none (fun s H => retK (([4, 5] : List Nat).map fun t => s.getD t (.tup [])) H) [] retK [4, 5]) = L369 E x0 x1 H := (jj_X E 369 _ _ H _).trans ((L369_x E (jj E 369) x0 x1 H).trans (by simp only [L369, N369_1_eq, N369_2_eq]))
theorem E369 (ρ : Addr → Option Value) (k lim : Nat) (x0 x1 : AV) (H : Heap) : evCall (cx ρ) (k + 1) lim 369 [x0, x1] H = L369 ⟨ρ, evCall (cx ρ) k, (evCY (cx ρ) k).2, lim, k⟩ x0 x1 H := by
  rw [evCall_body (cx ρ) k lim 369 _ H Tryz.f369 c369 [4, 5] (by kernel_rfl) (by kernel_rfl) (by kernel_rfl) (by kernel_rfl) (by kernel_rfl)]
  have h := G369 ⟨ρ, evCall (cx ρ) k, (evCY (cx ρ) k).2, lim, k⟩ x0 x1 H
  unfold jj at h
  exact h
-- haycroft/place.Fits
noncomputable def c370 : Code := Code.of Tryz.prog 370
noncomputable def L370 (E : LE) (x0 x1 x2 : AV) (H : Heap) : Res :=
  purK (binA P H .geq 3 x2 (.int .i64 1)) fun x8 =>
  purK (gPur (wantV x8 true) (some x2)) fun x10 =>
  purK (gPur (wantV x8 true) (some x0)) fun x11 =>
  purK (gPur (wantV x8 true) (some x1)) fun x12 =>
  resK (gRes (wantV x8 true) H (E.call E.lim 378 [x11, x12] H)) fun x13 H =>
  purK (gPur (wantV x8 true) (binA P H .leq 3 x10 x13)) fun x14 =>
  purK (pickA x8 x14 (.bool false)) fun x15 =>
  retK [x15] H
theorem G370 (E : LE) (x0 x1 x2 : AV) (H : Heap) : jj E 370 c370 [x0, x1, x2, (.tup []), (.tup []), (.tup []), (.tup []), (.tup []), (.tup []), (.tup []), (.tup []), (.tup []), (.tup []), (.tup []), (.tup []), (.tup [])] H (kk none (fun s H => retK (([6] : List Nat).map fun t => s.getD t (.tup [])) H) [] retK [6]) = L370 E x0 x1 x2 H := by kernel_rfl
theorem E370 (ρ : Addr → Option Value) (k lim : Nat) (x0 x1 x2 : AV) (H : Heap) : evCall (cx ρ) (k + 1) lim 370 [x0, x1, x2] H = L370 ⟨ρ, evCall (cx ρ) k, (evCY (cx ρ) k).2, lim, k⟩ x0 x1 x2 H := by
  rw [evCall_body (cx ρ) k lim 370 _ H Tryz.f370 c370 [6] (by kernel_rfl) (by kernel_rfl) (by kernel_rfl) (by kernel_rfl) (by kernel_rfl)]
  have h := G370 ⟨ρ, evCall (cx ρ) k, (evCY (cx ρ) k).2, lim, k⟩ x0 x1 x2 H
  unfold jj at h
  exact h
-- haycroft/entry.To
noncomputable def c375 : Code := Code.of Tryz.prog 375
noncomputable def L375 (E : LE) (x0 x1 : AV) (H : Heap) : Res :=
  resK (E.call E.lim 36 [x0] H) fun x10 H =>
  purK (extA 0 x10) fun x11 =>
  purK (extA 1 x10) fun x12 =>
  effK H (allocA (Cx E) H 90) fun x6 H =>
  effK H ((storeA (Cx E) E.lim H 90 x6 x11).map skips) fun _ H =>
  purK (binA P H .neq 28 x12 (.int .i64 0)) fun x14 =>
  condK x14
  (
    retK [(.int .u64 0), x12] H)
  (
    purK (fieldAddrA P 90 x6 0) fun x17 =>
    effK H ((storeA (Cx E) E.lim H 22 x17 x1).map skips) fun _ H =>
    purK (fieldAddrA P 90 x6 2) fun x18 =>
    effK H ((storeA (Cx E) E.lim H 4 x18 (.bool false)).map skips) fun _ H =>
    purK (loadA (Cx E) H 90 x6) fun x19 =>
    resK (E.call E.lim 377 [x19] H) fun x20 H =>
    purK (extA 0 x20) fun x21 =>
    purK (extA 1 x20) fun x22 =>
    retK [x21, x22] H)
theorem G375 (E : LE) (x0 x1 : AV) (H : Heap) : jj E 375 c375 [x0, x1, (.tup []), (.tup []), (.tup []), (.tup []), (.tup []), (.tup []), (.tup []), (.tup []), (.tup []), (.tup []), (.tup []), (.tup []), (.tup []), (.tup []), (.tup []), (.tup []), (.tup []), (.tup []), (.tup []), (.tup []), (.tup [])] H (kk none (fun s H => retK (([4, 5] : List Nat).map fun t => s.getD t (.tup [])) H) [] retK [4, 5]) = L375 E x0 x1 H := by kernel_rfl
theorem E375 (ρ : Addr → Option Value) (k lim : Nat) (x0 x1 : AV) (H : Heap) : evCall (cx ρ) (k + 1) lim 375 [x0, x1] H = L375 ⟨ρ, evCall (cx ρ) k, (evCY (cx ρ) k).2, lim, k⟩ x0 x1 H := by
  rw [evCall_body (cx ρ) k lim 375 _ H Tryz.f375 c375 [4, 5] (by kernel_rfl) (by kernel_rfl) (by kernel_rfl) (by kernel_rfl) (by kernel_rfl)]
  have h := G375 ⟨ρ, evCall (cx ρ) k, (evCY (cx ρ) k).2, lim, k⟩ x0 x1 H
  unfold jj at h
  exact h
-- haycroft/entry.Pack
noncomputable def c377 : Code := Code.of Tryz.prog 377
noncomputable def L377 (E : LE) (x0 : AV) (H : Heap) : Res :=
  effK H (boxA H 90 x0) fun x1 H =>
  purK (loadA (Cx E) H 90 x1) fun x6 =>
  resK (E.call E.lim 88 [x6] H) fun x7 H =>
  purK (unA .not x7) fun x8 =>
  condK x8
  (
    retK [(.int .u64 0), (.int .i64 1)] H)
  (
    purK (fieldAddrA P 90 x1 0) fun x10 =>
    purK (loadA (Cx E) H 22 x10) fun x11 =>
    purK (fieldAddrA P 90 x1 1) fun x12 =>
    purK (loadA (Cx E) H 22 x12) fun x13 =>
    effK H (buildSliceA (Cx E) H 31 2 [(0, x11), (1, x13)]) fun x14 H =>
    effK H (buildSliceA (Cx E) H 60 2 [(0, (.int .i64 48)), (1, (.int .i64 14))]) fun x15 H =>
    resK (E.call E.lim 206 [x14, x15] H) fun x16 H =>
    purK (extA 0 x16) fun x17 =>
    purK (extA 1 x16) fun x18 =>
    purK (fieldAddrA P 90 x1 2) fun x20 =>
    purK (loadA (Cx E) H 4 x20) fun x21 =>
    resK (E.call E.lim 386 [x17, (.int .i64 62), x21] H) fun x22 H =>
    resK (E.call E.lim 386 [x22, (.int .i64 63), (.bool true)] H) fun x23 H =>
    retK [x23, x18] H)
theorem G377 (E : LE) (x0 : AV) (H : Heap) : jj E 377 c377 [x0, (.tup []), (.tup []), (.tup []), (.tup []), (.tup []), (.tup []), (.tup []), (.tup []), (.tup []), (.tup []), (.tup []), (.tup []), (.tup []), (.tup []), (.tup []), (.tup []), (.tup []), (.tup []), (.tup []), (.tup []), (.tup []), (.tup []), (.tup []), (.tup [])] H (kk none (fun s H => retK (([2, 3] : List Nat).map fun t => s.getD t (.tup [])) H) [] retK [2, 3]) = L377 E x0 H := by kernel_rfl
theorem E377 (ρ : Addr → Option Value) (k lim : Nat) (x0 : AV) (H : Heap) : evCall (cx ρ) (k + 1) lim 377 [x0] H = L377 ⟨ρ, evCall (cx ρ) k, (evCY (cx ρ) k).2, lim, k⟩ x0 H := by
  rw [evCall_body (cx ρ) k lim 377 _ H Tryz.f377 c377 [2, 3] (by kernel_rfl) (by kernel_rfl) (by kernel_rfl) (by kernel_rfl) (by kernel_rfl)]
  have h := G377 ⟨ρ, evCall (cx ρ) k, (evCY (cx ρ) k).2, lim, k⟩ x0 H
  unfold jj at h
  exact h
-- haycroft/place.Room
noncomputable def c378 : Code := Code.of Tryz.prog 378
noncomputable def L378 (E : LE) (x0 x1 : AV) (H : Heap) : Res :=
  resK (E.call E.lim 89 [x0] H) fun x6 H =>
  purK (unA .not x6) fun x7 =>
  purK (gPur (wantV x7 false) (some x1)) fun x9 =>
  purK (gPur (wantV x7 false) (binA P H .gtr 22 x9 (.int .u64 281474976710655))) fun x10 =>
  purK (pickA x7 (.bool true) x10) fun x11 =>
  condK x11
  (
    retK [(.int .i64 0)] H)
  (
    resK (E.call E.lim 58 [x0] H) fun x13 H =>
    resK (E.call E.lim 20 [x0, x1] H) fun x16 H =>
    purK (binA P H .sub 3 x13 x16) fun x17 =>
    retK [x17] H)
theorem G378 (E : LE) (x0 x1 : AV) (H : Heap) : jj E 378 c378 [x0, x1, (.tup []), (.tup []), (.tup []), (.tup []), (.tup []), (.tup []), (.tup []), (.tup []), (.tup []), (.tup []), (.tup []), (.tup []), (.tup []), (.tup []), (.tup []), (.tup [])] H (kk none (fun s H => retK (([4] : List Nat).map fun t => s.getD t (.tup [])) H) [] retK [4]) = L378 E x0 x1 H := by kernel_rfl
theorem E378 (ρ : Addr → Option Value) (k lim : Nat) (x0 x1 : AV) (H : Heap) : evCall (cx ρ) (k + 1) lim 378 [x0, x1] H = L378 ⟨ρ, evCall (cx ρ) k, (evCY (cx ρ) k).2, lim, k⟩ x0 x1 H := by
  rw [evCall_body (cx ρ) k lim 378 _ H Tryz.f378 c378 [4] (by kernel_rfl) (by kernel_rfl) (by kernel_rfl) (by kernel_rfl) (by kernel_rfl)]
  have h := G378 ⟨ρ, evCall (cx ρ) k, (evCY (cx ρ) k).2, lim, k⟩ x0 x1 H
  unfold jj at h
  exact h
-- haycroft/field.Set
noncomputable def c386 : Code := Code.of Tryz.prog 386
noncomputable def N386_1_k (s : Slots) (H : Heap) (R : RK) (J : CodeF) : Res := J (Code.at [1, 1, 1] c386) s H (kk none (fun s H => R (([6] : List Nat).map fun t => s.getD t (.tup [])) H) [] R [6])
noncomputable def N386_1 (E : LE) (x0 x1 x7 : AV) (H : Heap) (R : RK) : Res :=
  resK (E.call E.lim 271 [x0, x1, (.int .i64 1), x7] H) fun x15_1 H =>
  purK (extA 0 x15_1) fun x16_1 =>
  purK (extA 1 x15_1) fun x17_1 =>
  purK (binA P H .neq 28 x17_1 (.int .i64 0)) fun x19_1 =>
  condK x19_1
  (
    R [x0] H)
  (
    R [x16_1] H)
theorem N386_1_eq (E : LE) (x0 x1 x7 : AV) (H : Heap) (R : RK) : N386_1_k (sp 22 [(0, x0), (1, x1), (7, x7)]) H R (jj E 386) = N386_1 E x0 x1 x7 H R := by kernel_rfl
noncomputable def L386 (E : LE) (x0 x1 x2 : AV) (H : Heap) : Res :=
  condK x2
  (
    N386_1 E x0 x1 (.int .u64 1) H retK)
  (
    N386_1 E x0 x1 (.int .u64 0) H retK)
theorem L386_x (E : LE) (J : CodeF) (x0 x1 x2 : AV) (H : Heap) : jx E 386 J c386 [x0, x1, x2, (.tup []), (.tup []), (.tup []), (.tup []), (.tup []), (.tup []), (.tup []), (.tup []), (.tup []), (.tup []), (.tup []), (.tup []), (.tup []), (.tup []), (.tup []), (.tup []), (.tup []), (.tup []), (.tup [])] H (kk none (fun s H => retK (([6] : List Nat).map fun t => s.getD t (.tup [])) H) [] retK [6]) =
  condK x2
  (
    N386_1_k (sp 22 [(0, x0), (1, x1), (7, (.int .u64 1))]) H retK J)
  (
    N386_1_k (sp 22 [(0, x0), (1, x1), (7, (.int .u64 0))]) H retK J) := by kernel_rfl
theorem G386 (E : LE) (x0 x1 x2 : AV) (H : Heap) : jj E 386 c386 [x0, x1, x2, (.tup []), (.tup []), (.tup []), (.tup []), (.tup []), (.tup []), (.tup []), (.tup []), (.tup []), (.tup []), (.tup []), (.tup []), (.tup []), (.tup []), (.tup []), (.tup []), (.tup []), (.tup []), (.tup [])] H (kk none (fun s H => retK (([6] : List Nat).map fun t => s.getD t (.tup [])) H) [] retK [6]) = L386 E x0 x1 x2 H := (jj_X E 386 _ _ H _).trans ((L386_x E (jj E 386) x0 x1 x2 H).trans (by simp only [L386, N386_1_eq]))
theorem E386 (ρ : Addr → Option Value) (k lim : Nat) (x0 x1 x2 : AV) (H : Heap) : evCall (cx ρ) (k + 1) lim 386 [x0, x1, x2] H = L386 ⟨ρ, evCall (cx ρ) k, (evCY (cx ρ) k).2, lim, k⟩ x0 x1 x2 H := by
  rw [evCall_body (cx ρ) k lim 386 _ H Tryz.f386 c386 [6] (by kernel_rfl) (by kernel_rfl) (by kernel_rfl) (by kernel_rfl) (by kernel_rfl)]
  have h := G386 ⟨ρ, evCall (cx ρ) k, (evCY (cx ρ) k).2, lim, k⟩ x0 x1 x2 H
  unfold jj at h
  exact h
end Go.Proofs.YtbnhlcgbigeceaaGreat
