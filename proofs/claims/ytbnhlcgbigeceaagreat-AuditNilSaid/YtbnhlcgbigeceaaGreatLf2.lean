/- Functions, lifted. Printed by a program of this repo. -/
import Derived.Test.YtbnhlcgbigeceaaGreatLfTab
set_option linter.unusedVariables false
set_option linter.unusedSimpArgs false
set_option maxRecDepth 100000
set_option maxHeartbeats 4000000
namespace Go.Proofs.YtbnhlcgbigeceaaGreat
open Go.Ev Go.RowKit
-- (*haycroft/epoch.Table).Leave
noncomputable def c103 : Code := Code.of Tryz.prog 103
noncomputable def L103 (E : LE) (x0 x1 : AV) (H : Heap) : Res :=
  resK (E.call E.lim 167 [x0, x1, (.bool true), (.int .u64 0), (.int .i64 7)] H) fun x7 H =>
  retK [x7] H
theorem G103 (E : LE) (x0 x1 : AV) (H : Heap) : jj E 103 c103 [x0, x1, (.tup []), (.tup []), (.tup []), (.tup []), (.tup []), (.tup [])] H (kk none (fun s H => retK (([4] : List Nat).map fun t => s.getD t (.tup [])) H) [] retK [4]) = L103 E x0 x1 H := by kernel_rfl
theorem E103 (ρ : Addr → Option Value) (k lim : Nat) (x0 x1 : AV) (H : Heap) : evCall (cx ρ) (k + 1) lim 103 [x0, x1] H = L103 ⟨ρ, evCall (cx ρ) k, (evCY (cx ρ) k).2, lim, k⟩ x0 x1 H := by
  rw [evCall_body (cx ρ) k lim 103 _ H Tryz.f103 c103 [4] (by kernel_rfl) (by kernel_rfl) (by kernel_rfl) (by kernel_rfl) (by kernel_rfl)]
  have h := G103 ⟨ρ, evCall (cx ρ) k, (evCY (cx ρ) k).2, lim, k⟩ x0 x1 H
  unfold jj at h
  exact h
-- (*haycroft/hlog.Log).Settle
noncomputable def c104 : Code := Code.of Tryz.prog 104
noncomputable def N104_1_k (s : Slots) (H : Heap) (R : RK) (J : CodeF) : Res := J (Code.at [1, 1, 1, 1] c104) s H (kk none (fun s H => R (([2] : List Nat).map fun t => s.getD t (.tup [])) H) [] R [2])
noncomputable def N104_1 (E : LE) (x3 : AV) (H : Heap) (R : RK) : Res :=
  purK (lenBA (Cx E) H 265 x3) fun x53_1 =>
  R [x53_1] H
theorem N104_1_eq (E : LE) (x3 : AV) (H : Heap) (R : RK) : N104_1_k (sp 54 [(3, x3)]) H R (jj E 104) = N104_1 E x3 H R := by kernel_rfl
noncomputable def N104_2_k (s : Slots) (H : Heap) (kn : KS) (R : RK) (J : CodeF) : Res := J (Code.at [1, 1, 1, 0, 1] c104) s H (kk (some [3]) kn [] R [2])
noncomputable def N104_2b_k (s : Slots) (H : Heap) (kn k0 : KS) (R : RK) (J : CodeF) : Res := J (Code.at [1, 1, 1, 0, 1, 0, 0] c104) s H (kk (some [0, 3, 18, 19, 20]) kn [(0, (some [3]), k0)] R [2])
noncomputable def N104_3_k (s : Slots) (H : Heap) (kn k0 : KS) (R : RK) (J : CodeF) : Res := J (Code.at [1, 1, 1, 0, 1, 0, 0, 1, 1, 1] c104) s H (kk (some [0, 3, 18, 19, 20]) kn [(0, (some [3]), k0)] R [2])
noncomputable def N104_3 (E : LE) (x0 x3 x18 x19 x20 : AV) (H : Heap) (kn : AV → AV → AV → AV → AV → Heap → Res) : Res :=
  purK (binA P H .add 3 x20 (.int .i64 1)) fun x51_1 =>
  kn x0 x3 x18 x19 x51_1 H
theorem N104_3_eq (E : LE) (x0 x3 x18 x19 x20 : AV) (H : Heap) (kn k0 : KS) (R : RK) : N104_3_k (sp 54 [(0, x0), (3, x3), (18, x18), (19, x19), (20, x20)]) H kn k0 R (jj E 104) = N104_3 E x0 x3 x18 x19 x20 H (fun x0 x3 x18 x19 x20 H => kn (sp 54 [(0, x0), (3, x3), (18, x18), (19, x19), (20, x20)]) H) := by kernel_rfl
noncomputable def N104_2b (E : LE) (x0 x3 x18 x19 x20 : AV) (H : Heap) (kn : AV → AV → AV → AV → AV → Heap → Res) (k0 : AV → Heap → Res) : Res :=
  purK (binA P H .lss 3 x20 x19) fun x21_1 =>
  condK x21_1
  (
    purK (indexAddrA P 265 x18 x20) fun x22_1 =>
    purK (loadA (Cx E) H 268 x22_1) fun x23_1 =>
    effK H (allocA (Cx E) H 268) fun x5_1 H =>
    effK H ((storeA (Cx E) E.lim H 268 x5_1 x23_1).map skips) fun _ H =>
    purK (fieldAddrA P 268 x5_1 1) fun x24_1 =>
    purK (loadA (Cx E) H 3 x24_1) fun x25_1 =>
    purK (binA P H .eql 3 x25_1 (.int .i64 1)) fun x26_1 =>
    condK x26_1
    (
      purK (nilChkA x0) fun x28_1 =>
      purK (fieldAddrA P 153 x28_1 2) fun x29_1 =>
      purK (loadA (Cx E) H 148 x29_1) fun x30_1 =>
      purK (fieldAddrA P 268 x5_1 2) fun x31_1 =>
      purK (loadA (Cx E) H 3 x31_1) fun x32_1 =>
      purK (nilChkA x0) fun x34_1 =>
      purK (fieldAddrA P 153 x34_1 0) fun x35_1 =>
      purK (loadA (Cx E) H 147 x35_1) fun x36_1 =>
      resK (E.call E.lim 73 [x36_1] H) fun x37_1 H => bif (agn (loadA (Cx E) H 3 x31_1) x32_1 && (agn (loadA (Cx E) H 148 x29_1) x30_1 && true)) then
        resK (E.call E.lim 172 [x30_1, (.int .i64 1), x32_1, x37_1] H) fun x38_1 H =>
        N104_3 E x0 x3 x18 x19 x20 H kn
      else none)
    (
      purK (nilChkA x0) fun x40_1 =>
      purK (fieldAddrA P 153 x40_1 2) fun x41_1 =>
      purK (loadA (Cx E) H 148 x41_1) fun x42_1 =>
      purK (fieldAddrA P 268 x5_1 2) fun x43_1 =>
      purK (loadA (Cx E) H 3 x43_1) fun x44_1 =>
      purK (nilChkA x0) fun x46_1 =>
      purK (fieldAddrA P 153 x46_1 0) fun x47_1 =>
      purK (loadA (Cx E) H 147 x47_1) fun x48_1 =>
      resK (E.call E.lim 73 [x48_1] H) fun x49_1 H => bif (agn (loadA (Cx E) H 3 x43_1) x44_1 && (agn (loadA (Cx E) H 148 x41_1) x42_1 && true)) then
        resK (E.call E.lim 172 [x42_1, (.int .i64 4), x44_1, x49_1] H) fun x50_1 H =>
        N104_3 E x0 x3 x18 x19 x20 H kn
      else none))
  (
    k0 x3 H)
theorem N104_2b_x (E : LE) (J : CodeF) (x0 x3 x18 x19 x20 : AV) (H : Heap) (kn k0 : KS) (R : RK) : N104_2b_k (sp 54 [(0, x0), (3, x3), (18, x18), (19, x19), (20, x20)]) H kn k0 R (jx E 104 J) =
  purK (binA P H .lss 3 x20 x19) fun x21_1 =>
  condK x21_1
  (
    purK (indexAddrA P 265 x18 x20) fun x22_1 =>
    purK (loadA (Cx E) H 268 x22_1) fun x23_1 =>
    effK H (allocA (Cx E) H 268) fun x5_1 H =>
    effK H ((storeA (Cx E) E.lim H 268 x5_1 x23_1).map skips) fun _ H =>
    purK (fieldAddrA P 268 x5_1 1) fun x24_1 =>
    purK (loadA (Cx E) H 3 x24_1) fun x25_1 =>
    purK (binA P H .eql 3 x25_1 (.int .i64 1)) fun x26_1 =>
    condK x26_1
    (
      purK (nilChkA x0) fun x28_1 =>
      purK (fieldAddrA P 153 x28_1 2) fun x29_1 =>
      purK (loadA (Cx E) H 148 x29_1) fun x30_1 =>
      purK (fieldAddrA P 268 x5_1 2) fun x31_1 =>
      purK (loadA (Cx E) H 3 x31_1) fun x32_1 =>
      purK (nilChkA x0) fun x34_1 =>
      purK (fieldAddrA P 153 x34_1 0) fun x35_1 =>
      purK (loadA (Cx E) H 147 x35_1) fun x36_1 =>
      resK (E.call E.lim 73 [x36_1] H) fun x37_1 H => bif (agn (loadA (Cx E) H 3 x31_1) x32_1 && (agn (loadA (Cx E) H 148 x29_1) x30_1 && true)) then
        resK (E.call E.lim 172 [x30_1, (.int .i64 1), x32_1, x37_1] H) fun x38_1 H =>
        N104_3_k (sp 54 [(0, x0), (3, x3), (18, x18), (19, x19), (20, x20)]) H kn k0 R J
      else none)
    (
      purK (nilChkA x0) fun x40_1 =>
      purK (fieldAddrA P 153 x40_1 2) fun x41_1 =>
      purK (loadA (Cx E) H 148 x41_1) fun x42_1 =>
      purK (fieldAddrA P 268 x5_1 2) fun x43_1 =>
      purK (loadA (Cx E) H 3 x43_1) fun x44_1 =>
      purK (nilChkA x0) fun x46_1 =>
      purK (fieldAddrA P 153 x46_1 0) fun x47_1 =>
      purK (loadA (Cx E) H 147 x47_1) fun x48_1 =>
      resK (E.call E.lim 73 [x48_1] H) fun x49_1 H => bif (agn (loadA (Cx E) H 3 x43_1) x44_1 && (agn (loadA (Cx E) H 148 x41_1) x42_1 && true)) then
        resK (E.call E.lim 172 [x42_1, (.int .i64 4), x44_1, x49_1] H) fun x50_1 H =>
        N104_3_k (sp 54 [(0, x0), (3, x3), (18, x18), (19, x19), (20, x20)]) H kn k0 R J
      else none))
  (
    k0 (sp 54 [(3, x3)]) H) := by kernel_rfl
theorem N104_2b_eq (E : LE) (x0 x3 x18 x19 x20 : AV) (H : Heap) (kn k0 : KS) (R : RK) : N104_2b_k (sp 54 [(0, x0), (3, x3), (18, x18), (19, x19), (20, x20)]) H kn k0 R (jj E 104) = N104_2b E x0 x3 x18 x19 x20 H (fun x0 x3 x18 x19 x20 H => kn (sp 54 [(0, x0), (3, x3), (18, x18), (19, x19), (20, x20)]) H) (fun x3 H => k0 (sp 54 [(3, x3)]) H) := (jj_X E 104 _ _ H _).trans ((N104_2b_x E (jj E 104) x0 x3 x18 x19 x20 H kn k0 R).trans (by simp only [N104_2b, N104_3_eq]))
noncomputable def N104_2 (E : LE) (x0 x3 x18 x19 x20 : AV) (H : Heap) (kn : AV → Heap → Res) : Res :=
  loopL (fun (x : AV) H kl => N104_2b E x0 x3 x18 x19 x H (fun _ _ _ _ x20 H => kl x20 H) kn) E.k x20 H
theorem N104_2_eq (E : LE) (x0 x3 x18 x19 x20 : AV) (H : Heap) (kn : KS) (R : RK) : N104_2_k (sp 54 [(0, x0), (3, x3), (18, x18), (19, x19), (20, x20)]) H kn R (jj E 104) = N104_2 E x0 x3 x18 x19 x20 H (fun x3 H => kn (sp 54 [(3, x3)]) H) := by
  have e : Code.at [1, 1, 1, 0, 1] c104 = Code.block 0 (Code.loop (Code.at [1, 1, 1, 0, 1, 0, 0] c104)) := by kernel_rfl
  unfold N104_2_k N104_2 jj
  rw [e]
  rw [block_kk]
  exact loop_node [0, 3, 18, 19, 20] (fun x : AV => (sp 54 [(0, x0), (3, x3), (18, x18), (19, x19), (20, (x))])) (fun (x : AV) H kl => N104_2b E x0 x3 x18 x19 x H (fun _ _ _ _ x20 H => kl x20 H) (fun x3 H => kn (sp 54 [(3, x3)]) H)) (by kernel_rfl) (fun x => by kernel_rfl) (fun x H kl => by
    have h := N104_2b_eq E x0 x3 x18 x19 (x) H kl kn R
    unfold N104_2b_k jj at h
    exact h) x20 (sp 54 [(0, x0), (3, x3), (18, x18), (19, x19), (20, x20)]) H (by kernel_rfl)
noncomputable def L104 (E : LE) (x0 : AV) (H : Heap) : Res :=
  purK (binA P H .eql 84 x0 .nilp) fun x7 =>
  condK x7
  (
    retK [(.int .i64 0)] H)
  (
    purK (nilChkA x0) fun x9 =>
    purK (fieldAddrA P 153 x9 4) fun x10 =>
    purK (loadA (Cx E) H 150 x10) fun x11 =>
    purK (nilChkA x0) fun x13 =>
    purK (fieldAddrA P 153 x13 3) fun x14 =>
    purK (loadA (Cx E) H 149 x14) fun x15 =>
    resK (E.call E.lim 171 [x15] H) fun x16 H => bif (agn (loadA (Cx E) H 150 x10) x11 && true) then
      resK (E.call E.lim 170 [x11, x16] H) fun x17 H =>
      purK (lenBA (Cx E) H 265 x17) fun x19 =>
      N104_2 E x0 x17 x17 x19 (.int .i64 0) H (fun x3_1 H =>
        N104_1 E x3_1 H retK)
    else none)
theorem L104_x (E : LE) (J : CodeF) (x0 : AV) (H : Heap) : jx E 104 J c104 [x0, (.tup []), (.tup []), (.tup []), (.tup []), (.tup []), (.tup []), (.tup []), (.tup []), (.tup []), (.tup []), (.tup []), (.tup []), (.tup []), (.tup []), (.tup []), (.tup []), (.tup []), (.tup []), (.tup []), (.tup []), (.tup []), (.tup []), (.tup []), (.tup []), (.tup []), (.tup []), (.tup []), (.tup []), (.tup []), (.tup []), (.tup []), (.tup []), (.tup []), (.tup []), (.tup []), (.tup []), (.tup []), (.tup []), (.tup []), (.tup []), (.tup []), (.tup []), (.tup []), (.tup []), (.tup []), (.tup []), (.tup []), (.tup []), (.tup []), (.tup []), (.tup []), (.tup []), (.tup [])] H (kk none (fun s H => retK (([2] : List Nat).map fun t => s.getD t (.tup [])) H) [] retK [2]) =
  purK (binA P H .eql 84 x0 .nilp) fun x7 =>
  condK x7
  (
    retK [(.int .i64 0)] H)
  (
    purK (nilChkA x0) fun x9 =>
    purK (fieldAddrA P 153 x9 4) fun x10 =>
    purK (loadA (Cx E) H 150 x10) fun x11 =>
    purK (nilChkA x0) fun x13 =>
    purK (fieldAddrA P 153 x13 3) fun x14 =>
    purK (loadA (Cx E) H 149 x14) fun x15 =>
    resK (E.call E.lim 171 [x15] H) fun x16 H => bif (agn (loadA (Cx E) H 150 x10) x11 && true) then
      resK (E.call E.lim 170 [x11, x16] H) fun x17 H =>
      purK (lenBA (Cx E) H 265 x17) fun x19 =>
      N104_2_k (sp 54 [(0, x0), (3, x17), (18, x17), (19, x19), (20, (.int .i64 0))]) H (fun s H => N104_1_k s H retK J) retK J
    else none) := by kernel_rfl
theorem G104 (E : LE) (x0 : AV) (H : Heap) : jj E 104 c104 [x0, (.tup []), (.tup []), (.tup []), (.tup []), (.tup []), (.tup []), (.tup []), (.tup []), (.tup []), (.tup []), (.tup []), (.tup []), (.tup []), (.tup []), (.tup []), (.tup []), (.tup []), (.tup []), (.tup []), (.tup []), (.tup []), (.tup []), (.tup []), (.tup []), (.tup []), (.tup []), (.tup []), (.tup []), (.tup []), (.tup []), (.tup []), (.tup []), (.tup []), (.tup []), (.tup []), (.tup []), (.tup []), (.tup []), (.tup []), (.tup []), (.tup []), (.tup []), (.tup []), (.tup []), (.tup []), (.tup []), (.tup []), (.tup []), (.tup []), (.tup []), (.tup []), (.tup []), (.tup [])] H (kk none (fun s H => retK (([2] : List Nat).map fun t => s.getD t (.tup [])) H) [] retK [2]) = L104 E x0 H := (jj_X E 104 _ _ H _).trans ((L104_x E (jj E 104) x0 H).trans (by simp only [L104, N104_1_eq, N104_2_eq]))
theorem E104 (ρ : Addr → Option Value) (k lim : Nat) (x0 : AV) (H : Heap) : evCall (cx ρ) (k + 1) lim 104 [x0] H = L104 ⟨ρ, evCall (cx ρ) k, (evCY (cx ρ) k).2, lim, k⟩ x0 H := by
  rw [evCall_body (cx ρ) k lim 104 _ H Tryz.f104 c104 [2] (by kernel_rfl) (by kernel_rfl) (by kernel_rfl) (by kernel_rfl) (by kernel_rfl)]
  have h := G104 ⟨ρ, evCall (cx ρ) k, (evCY (cx ρ) k).2, lim, k⟩ x0 H
  unfold jj at h
  exact h
-- (*haycroft/marks.Set).At
noncomputable def c112 : Code := Code.of Tryz.prog 112
noncomputable def L112 (E : LE) (x0 x1 : AV) (H : Heap) : Res :=
  purK (binA P H .eql 148 x0 .nilp) fun x6 =>
  purK (gPur (wantV x6 false) (some x1)) fun x8 =>
  resK (gRes (wantV x6 false) H (E.call E.lim 181 [x8] H)) fun x9 H =>
  purK (gPur (wantV x6 false) (unA .not x9)) fun x10 =>
  purK (pickA x6 (.bool true) x10) fun x11 =>
  condK x11
  (
    retK [(.int .i64 0)] H)
  (
    purK (nilChkA x0) fun x13 =>
    purK (fieldAddrA P 285 x13 0) fun x14 =>
    purK (loadA (Cx E) H 160 x14) fun x15 =>
    resK (E.call E.lim 84 [x15, x1] H) fun x17 H =>
    purK (convXA (Cx E) H 22 3 x17) fun x18 =>
    retK [x18] H)
theorem G112 (E : LE) (x0 x1 : AV) (H : Heap) : jj E 112 c112 [x0, x1, (.tup []), (.tup []), (.tup []), (.tup []), (.tup []), (.tup []), (.tup []), (.tup []), (.tup []), (.tup []), (.tup []), (.tup []), (.tup []), (.tup []), (.tup []), (.tup []), (.tup [])] H (kk none (fun s H => retK (([4] : List Nat).map fun t => s.getD t (.tup [])) H) [] retK [4]) = L112 E x0 x1 H := by kernel_rfl
theorem E112 (ρ : Addr → Option Value) (k lim : Nat) (x0 x1 : AV) (H : Heap) : evCall (cx ρ) (k + 1) lim 112 [x0, x1] H = L112 ⟨ρ, evCall (cx ρ) k, (evCY (cx ρ) k).2, lim, k⟩ x0 x1 H := by
  rw [evCall_body (cx ρ) k lim 112 _ H Tryz.f112 c112 [4] (by kernel_rfl) (by kernel_rfl) (by kernel_rfl) (by kernel_rfl) (by kernel_rfl)]
  have h := G112 ⟨ρ, evCall (cx ρ) k, (evCY (cx ρ) k).2, lim, k⟩ x0 x1 H
  unfold jj at h
  exact h
-- (*haycroft/pages.Buffer).Has
noncomputable def c122 : Code := Code.of Tryz.prog 122
noncomputable def L122 (E : LE) (x0 x1 : AV) (H : Heap) : Res :=
  purK (binA P H .neq 122 x0 .nilp) fun x6 =>
  boolK (wantV x6 true) fun b1 => purK (bif b1 then some x1 else some (.tup [])) fun x8 =>
  boolK (wantV x6 true) fun b2 => purK (bif b2 then binA P H .geq 3 x8 (.int .i64 0) else some (.tup [])) fun x9 =>
  purK (pickA x6 x9 (.bool false)) fun x10 =>
  boolK (wantV x10 true) fun b3 => purK (bif b3 then some x0 else some (.tup [])) fun x12 =>
  boolK (wantV x10 true) fun b4 => purK (bif b4 then nilChkA x12 else some (.tup [])) fun x13 =>
  boolK (wantV x10 true) fun b5 => purK (bif b5 then fieldAddrA P 199 x13 2 else some (.tup [])) fun x14 =>
  boolK (wantV x10 true) fun b6 => purK (bif b6 then loadA (Cx E) H 160 x14 else some (.tup [])) fun x15 =>
  boolK (wantV x10 true) fun b7 => purK (bif b7 then some x0 else some (.tup [])) fun x16 =>
  boolK (wantV x10 true) fun b8 => purK (bif b8 then some x1 else some (.tup [])) fun x17 =>
  boolK (wantV x10 true) fun b9 => purK (bif b9 then some x1 else some (.tup [])) fun x20 =>
  boolK (wantV x10 true) fun b10 => resK (gRes (some b10) H (E.call E.lim 124 [x16, x17] H)) fun x18 H => bif !b10 || ((!b6 || agn (loadA (Cx E) H 160 x14) x15) && ((!b2 || true) && true)) then
    boolK (wantV x10 true) fun b11 => resK (gRes (some b11) H (E.call E.lim 84 [x15, x18] H)) fun x19 H => bif !b11 || ((!b6 || true) && ((!b2 || true) && true)) then
      boolK (wantV x10 true) fun b12 => resK (gRes (some b12) H (E.call E.lim 200 [x20] H)) fun x21 H => bif !b12 || ((!b6 || true) && ((!b2 || true) && true)) then
        purK (gPur (wantV x10 true) (binA P H .eql 22 x19 x21)) fun x22 =>
        purK (pickA x10 x22 (.bool false)) fun x23 =>
        retK [x23] H
      else none
    else none
  else none
theorem G122 (E : LE) (x0 x1 : AV) (H : Heap) : jj E 122 c122 [x0, x1, (.tup []), (.tup []), (.tup []), (.tup []), (.tup []), (.tup []), (.tup []), (.tup []), (.tup []), (.tup []), (.tup []), (.tup []), (.tup []), (.tup []), (.tup []), (.tup []), (.tup []), (.tup []), (.tup []), (.tup []), (.tup []), (.tup [])] H (kk none (fun s H => retK (([4] : List Nat).map fun t => s.getD t (.tup [])) H) [] retK [4]) = L122 E x0 x1 H := by kernel_rfl
theorem E122 (ρ : Addr → Option Value) (k lim : Nat) (x0 x1 : AV) (H : Heap) : evCall (cx ρ) (k + 1) lim 122 [x0, x1] H = L122 ⟨ρ, evCall (cx ρ) k, (evCY (cx ρ) k).2, lim, k⟩ x0 x1 H := by
  rw [evCall_body (cx ρ) k lim 122 _ H Tryz.f122 c122 [4] (by kernel_rfl) (by kernel_rfl) (by kernel_rfl) (by kernel_rfl) (by kernel_rfl)]
  have h := G122 ⟨ρ, evCall (cx ρ) k, (evCY (cx ρ) k).2, lim, k⟩ x0 x1 H
  unfold jj at h
  exact h
-- (*haycroft/cell.Row).Words
noncomputable def c123 : Code := Code.of Tryz.prog 123
noncomputable def N123_1_k (s : Slots) (H : Heap) (R : RK) (J : CodeF) : Res := J (Code.at [1, 1, 1, 1] c123) s H (kk none (fun s H => R (([6, 7] : List Nat).map fun t => s.getD t (.tup [])) H) [] R [6, 7])
noncomputable def N123_1 (E : LE) (x9 : AV) (H : Heap) (R : RK) : Res :=
  R [x9, (.int .i64 0)] H
theorem N123_1_eq (E : LE) (x9 : AV) (H : Heap) (R : RK) : N123_1_k (sp 39 [(9, x9)]) H R (jj E 123) = N123_1 E x9 H R := by kernel_rfl
noncomputable def N123_2_k (s : Slots) (H : Heap) (kn : KS) (R : RK) (J : CodeF) : Res := J (Code.at [1, 1, 1, 0, 1] c123) s H (kk (some [9]) kn [] R [6, 7])
noncomputable def N123_2b_k (s : Slots) (H : Heap) (kn k0 : KS) (R : RK) (J : CodeF) : Res := J (Code.at [1, 1, 1, 0, 1, 0, 0] c123) s H (kk (some [0, 1, 9, 21, 22]) kn [(0, (some [9]), k0)] R [6, 7])
noncomputable def N123_2b (E : LE) (x0 x1 x9 x21 x22 : AV) (H : Heap) (kn : AV → AV → AV → AV → AV → Heap → Res) (k0 : AV → Heap → Res) : Res :=
  purK (binA P H .lss 3 x22 x21) fun x23_1 =>
  condK x23_1
  (
    purK (nilChkA x0) fun x28_1 =>
    purK (fieldAddrA P 232 x28_1 0) fun x29_1 =>
    purK (loadA (Cx E) H 228 x29_1) fun x30_1 =>
    purK (binA P H .add 3 x1 x22) fun x33_1 =>
    purK (indexAddrA P 228 x30_1 x33_1) fun x34_1 =>
    resK (E.call E.lim 150 [x34_1] H) fun x35_1 H =>
    purK (indexAddrA P 31 x9 x22) fun x36_1 =>
    effK H ((storeA (Cx E) E.lim H 22 x36_1 x35_1).map skips) fun _ H =>
    purK (binA P H .add 3 x22 (.int .i64 1)) fun x37_1 =>
    kn x0 x1 x9 x21 x37_1 H)
  (
    k0 x9 H)
theorem N123_2b_eq (E : LE) (x0 x1 x9 x21 x22 : AV) (H : Heap) (kn k0 : KS) (R : RK) : N123_2b_k (sp 39 [(0, x0), (1, x1), (9, x9), (21, x21), (22, x22)]) H kn k0 R (jj E 123) = N123_2b E x0 x1 x9 x21 x22 H (fun x0 x1 x9 x21 x22 H => kn (sp 39 [(0, x0), (1, x1), (9, x9), (21, x21), (22, x22)]) H) (fun x9 H => k0 (sp 39 [(9, x9)]) H) := by kernel_rfl
noncomputable def N123_2 (E : LE) (x0 x1 x9 x21 x22 : AV) (H : Heap) (kn : AV → Heap → Res) : Res :=
  loopL (fun (x : AV) H kl => N123_2b E x0 x1 x9 x21 x H (fun _ _ _ _ x22 H => kl x22 H) kn) E.k x22 H
theorem N123_2_eq (E : LE) (x0 x1 x9 x21 x22 : AV) (H : Heap) (kn : KS) (R : RK) : N123_2_k (sp 39 [(0, x0), (1, x1), (9, x9), (21, x21), (22, x22)]) H kn R (jj E 123) = N123_2 E x0 x1 x9 x21 x22 H (fun x9 H => kn (sp 39 [(9, x9)]) H) := by
  have e : Code.at [1, 1, 1, 0, 1] c123 = Code.block 0 (Code.loop (Code.at [1, 1, 1, 0, 1, 0, 0] c123)) := by kernel_rfl
  unfold N123_2_k N123_2 jj
  rw [e]
  rw [block_kk]
  exact loop_node [0, 1, 9, 21, 22] (fun x : AV => (sp 39 [(0, x0), (1, x1), (9, x9), (21, x21), (22, (x))])) (fun (x : AV) H kl => N123_2b E x0 x1 x9 x21 x H (fun _ _ _ _ x22 H => kl x22 H) (fun x9 H => kn (sp 39 [(9, x9)]) H)) (by kernel_rfl) (fun x => by kernel_rfl) (fun x H kl => by
    have h := N123_2b_eq E x0 x1 x9 x21 (x) H kl kn R
    unfold N123_2b_k jj at h
    exact h) x22 (sp 39 [(0, x0), (1, x1), (9, x9), (21, x21), (22, x22)]) H (by kernel_rfl)
noncomputable def L123 (E : LE) (x0 x1 x2 : AV) (H : Heap) : Res :=
  resK (E.call E.lim 201 [x0, x1, x2] H) fun x14 H =>
  purK (binA P H .neq 28 x14 (.int .i64 0)) fun x16 =>
  condK x16
  (
    retK [.nils, x14] H)
  (
    effK H (makeSliceA (Cx E) H 31 x2 x2) fun x19 H =>
    purK (lenBA (Cx E) H 31 x19) fun x21 =>
    N123_2 E x0 x1 x19 x21 (.int .i64 0) H (fun x9 H =>
      N123_1 E x9 H retK))
theorem L123_x (E : LE) (J : CodeF) (x0 x1 x2 : AV) (H : Heap) : jx E 123 J c123 [x0, x1, x2, (.tup []), (.tup []), (.tup []), (.tup []), (.tup []), (.tup []), (.tup []), (.tup []), (.tup []), (.tup []), (.tup []), (.tup []), (.tup []), (.tup []), (.tup []), (.tup []), (.tup []), (.tup []), (.tup []), (.tup []), (.tup []), (.tup []), (.tup []), (.tup []), (.tup []), (.tup []), (.tup []), (.tup []), (.tup []), (.tup []), (.tup []), (.tup []), (.tup []), (.tup []), (.tup []), (.tup [])] H (kk none (fun s H => retK (([6, 7] : List Nat).map fun t => s.getD t (.tup [])) H) [] retK [6, 7]) =
  resK (E.call E.lim 201 [x0, x1, x2] H) fun x14 H =>
  purK (binA P H .neq 28 x14 (.int .i64 0)) fun x16 =>
  condK x16
  (
    retK [.nils, x14] H)
  (
    effK H (makeSliceA (Cx E) H 31 x2 x2) fun x19 H =>
    purK (lenBA (Cx E) H 31 x19) fun x21 =>
    N123_2_k (sp 39 [(0, x0), (1, x1), (9, x19), (21, x21), (22, (.int .i64 0))]) H (fun s H => N123_1_k s H retK J) retK J) := by kernel_rfl
theorem G123 (E : LE) (x0 x1 x2 : AV) (H : Heap) : jj E 123 c123 [x0, x1, x2, (.tup []), (.tup []), (.tup []), (.tup []), (.tup []), (.tup []), (.tup []), (.tup []), (.tup []), (.tup []), (.tup []), (.tup []), (.tup []), (.tup []), (.tup []), (.tup []), (.tup []), (.tup []), (.tup []), (.tup []), (.tup []), (.tup []), (.tup []), (.tup []), (.tup []), (.tup []), (.tup []), (.tup []), (.tup []), (.tup []), (.tup []), (.tup []), (.tup []), (.tup []), (.tup []), (.tup [])] H (kk none (fun s H => retK (([6, 7] : List Nat).map fun t => s.getD t (.tup [])) H) [] retK [6, 7]) = L123 E x0 x1 x2 H := (jj_X E 123 _ _ H _).trans ((L123_x E (jj E 123) x0 x1 x2 H).trans (by simp only [L123, N123_1_eq, N123_2_eq]))
theorem E123 (ρ : Addr → Option Value) (k lim : Nat) (x0 x1 x2 : AV) (H : Heap) : evCall (cx ρ) (k + 1) lim 123 [x0, x1, x2] H = L123 ⟨ρ, evCall (cx ρ) k, (evCY (cx ρ) k).2, lim, k⟩ x0 x1 x2 H := by
  rw [evCall_body (cx ρ) k lim 123 _ H Tryz.f123 c123 [6, 7] (by kernel_rfl) (by kernel_rfl) (by kernel_rfl) (by kernel_rfl) (by kernel_rfl)]
  have h := G123 ⟨ρ, evCall (cx ρ) k, (evCY (cx ρ) k).2, lim, k⟩ x0 x1 x2 H
  unfold jj at h
  exact h
-- (*haycroft/pages.Buffer).frame
noncomputable def c124 : Code := Code.of Tryz.prog 124
noncomputable def L124 (E : LE) (x0 x1 : AV) (H : Heap) : Res :=
  purK (nilChkA x0) fun x7 =>
  purK (fieldAddrA P 199 x7 2) fun x8 =>
  purK (loadA (Cx E) H 160 x8) fun x9 =>
  resK (E.call E.lim 202 [x9] H) fun x10 H =>
  purK (binA P H .rem 3 x1 x10) fun x11 =>
  retK [x11] H
theorem G124 (E : LE) (x0 x1 : AV) (H : Heap) : jj E 124 c124 [x0, x1, (.tup []), (.tup []), (.tup []), (.tup []), (.tup []), (.tup []), (.tup []), (.tup []), (.tup []), (.tup [])] H (kk none (fun s H => retK (([4] : List Nat).map fun t => s.getD t (.tup [])) H) [] retK [4]) = L124 E x0 x1 H := by kernel_rfl
theorem E124 (ρ : Addr → Option Value) (k lim : Nat) (x0 x1 : AV) (H : Heap) : evCall (cx ρ) (k + 1) lim 124 [x0, x1] H = L124 ⟨ρ, evCall (cx ρ) k, (evCY (cx ρ) k).2, lim, k⟩ x0 x1 H := by
  rw [evCall_body (cx ρ) k lim 124 _ H Tryz.f124 c124 [4] (by kernel_rfl) (by kernel_rfl) (by kernel_rfl) (by kernel_rfl) (by kernel_rfl)]
  have h := G124 ⟨ρ, evCall (cx ρ) k, (evCY (cx ρ) k).2, lim, k⟩ x0 x1 H
  unfold jj at h
  exact h
-- haycroft/field.Words
noncomputable def c126 : Code := Code.of Tryz.prog 126
noncomputable def N126_1_k (s : Slots) (H : Heap) (R : RK) (J : CodeF) : Res := J (Code.at [1, 1, 1] c126) s H (kk none (fun s H => R (([2] : List Nat).map fun t => s.getD t (.tup [])) H) [] R [2])
noncomputable def N126_1 (E : LE) (x3 : AV) (H : Heap) (R : RK) : Res :=
  R [x3] H
theorem N126_1_eq (E : LE) (x3 : AV) (H : Heap) (R : RK) : N126_1_k (sp 33 [(3, x3)]) H R (jj E 126) = N126_1 E x3 H R := by kernel_rfl
noncomputable def N126_2_k (s : Slots) (H : Heap) (kn : KS) (R : RK) (J : CodeF) : Res := J (Code.at [1, 1, 0, 1] c126) s H (kk (some [3]) kn [] R [2])
noncomputable def N126_2b_k (s : Slots) (H : Heap) (kn k0 : KS) (R : RK) (J : CodeF) : Res := J (Code.at [1, 1, 0, 1, 0, 0] c126) s H (kk (some [0, 3, 12, 13]) kn [(0, (some [3]), k0)] R [2])
noncomputable def N126_2b (E : LE) (x0 x3 x12 x13 : AV) (H : Heap) (kn : AV → AV → AV → AV → Heap → Res) (k0 : AV → Heap → Res) : Res :=
  purK (binA P H .lss 3 x13 x12) fun x14_1 =>
  condK x14_1
  (
    purK (binA P H .quo 3 x13 (.int .i64 8)) fun x18_1 =>
    purK (indexAddrA P 31 x3 x18_1) fun x19_1 =>
    purK (loadA (Cx E) H 22 x19_1) fun x20_1 =>
    purK (indexA P 9 x0 x13) fun x23_1 =>
    purK (convXA (Cx E) H 5 22 x23_1) fun x24_1 =>
    purK (binA P H .rem 3 x13 (.int .i64 8)) fun x26_1 =>
    purK (binA P H .mul 3 x26_1 (.int .i64 8)) fun x27_1 =>
    purK (binA P H .shl 22 x24_1 x27_1) fun x28_1 =>
    purK (binA P H .or 22 x20_1 x28_1) fun x29_1 =>
    purK (indexAddrA P 31 x3 x18_1) fun x30_1 =>
    effK H ((storeA (Cx E) E.lim H 22 x30_1 x29_1).map skips) fun _ H =>
    purK (binA P H .add 3 x13 (.int .i64 1)) fun x31_1 =>
    kn x0 x3 x12 x31_1 H)
  (
    k0 x3 H)
theorem N126_2b_eq (E : LE) (x0 x3 x12 x13 : AV) (H : Heap) (kn k0 : KS) (R : RK) : N126_2b_k (sp 33 [(0, x0), (3, x3), (12, x12), (13, x13)]) H kn k0 R (jj E 126) = N126_2b E x0 x3 x12 x13 H (fun x0 x3 x12 x13 H => kn (sp 33 [(0, x0), (3, x3), (12, x12), (13, x13)]) H) (fun x3 H => k0 (sp 33 [(3, x3)]) H) := by kernel_rfl
noncomputable def N126_2 (E : LE) (x0 x3 x12 x13 : AV) (H : Heap) (kn : AV → Heap → Res) : Res :=
  loopL (fun (x : AV) H kl => N126_2b E x0 x3 x12 x H (fun _ _ _ x13 H => kl x13 H) kn) E.k x13 H
theorem N126_2_eq (E : LE) (x0 x3 x12 x13 : AV) (H : Heap) (kn : KS) (R : RK) : N126_2_k (sp 33 [(0, x0), (3, x3), (12, x12), (13, x13)]) H kn R (jj E 126) = N126_2 E x0 x3 x12 x13 H (fun x3 H => kn (sp 33 [(3, x3)]) H) := by
  have e : Code.at [1, 1, 0, 1] c126 = Code.block 0 (Code.loop (Code.at [1, 1, 0, 1, 0, 0] c126)) := by kernel_rfl
  unfold N126_2_k N126_2 jj
  rw [e]
  rw [block_kk]
  exact loop_node [0, 3, 12, 13] (fun x : AV => (sp 33 [(0, x0), (3, x3), (12, x12), (13, (x))])) (fun (x : AV) H kl => N126_2b E x0 x3 x12 x H (fun _ _ _ x13 H => kl x13 H) (fun x3 H => kn (sp 33 [(3, x3)]) H)) (by kernel_rfl) (fun x => by kernel_rfl) (fun x H kl => by
    have h := N126_2b_eq E x0 x3 x12 (x) H kl kn R
    unfold N126_2b_k jj at h
    exact h) x13 (sp 33 [(0, x0), (3, x3), (12, x12), (13, x13)]) H (by kernel_rfl)
noncomputable def L126 (E : LE) (x0 : AV) (H : Heap) : Res :=
  purK (lenBA (Cx E) H 9 x0) fun x6 =>
  purK (binA P H .add 3 x6 (.int .i64 8)) fun x7 =>
  purK (binA P H .sub 3 x7 (.int .i64 1)) fun x8 =>
  purK (binA P H .quo 3 x8 (.int .i64 8)) fun x9 =>
  effK H (makeSliceA (Cx E) H 31 x9 x9) fun x10 H =>
  purK (lenBA (Cx E) H 9 x0) fun x12 =>
  N126_2 E x0 x10 x12 (.int .i64 0) H (fun x3 H =>
    N126_1 E x3 H retK)
theorem L126_x (E : LE) (J : CodeF) (x0 : AV) (H : Heap) : jx E 126 J c126 [x0, (.tup []), (.tup []), (.tup []), (.tup []), (.tup []), (.tup []), (.tup []), (.tup []), (.tup []), (.tup []), (.tup []), (.tup []), (.tup []), (.tup []), (.tup []), (.tup []), (.tup []), (.tup []), (.tup []), (.tup []), (.tup []), (.tup []), (.tup []), (.tup []), (.tup []), (.tup []), (.tup []), (.tup []), (.tup []), (.tup []), (.tup []), (.tup [])] H (kk none (fun s H => retK (([2] : List Nat).map fun t => s.getD t (.tup [])) H) [] retK [2]) =
  purK (lenBA (Cx E) H 9 x0) fun x6 =>
  purK (binA P H .add 3 x6 (.int .i64 8)) fun x7 =>
  purK (binA P H .sub 3 x7 (.int .i64 1)) fun x8 =>
  purK (binA P H .quo 3 x8 (.int .i64 8)) fun x9 =>
  effK H (makeSliceA (Cx E) H 31 x9 x9) fun x10 H =>
  purK (lenBA (Cx E) H 9 x0) fun x12 =>
  N126_2_k (sp 33 [(0, x0), (3, x10), (12, x12), (13, (.int .i64 0))]) H (fun s H => N126_1_k s H retK J) retK J := by kernel_rfl
theorem G126 (E : LE) (x0 : AV) (H : Heap) : jj E 126 c126 [x0, (.tup []), (.tup []), (.tup []), (.tup []), (.tup []), (.tup []), (.tup []), (.tup []), (.tup []), (.tup []), (.tup []), (.tup []), (.tup []), (.tup []), (.tup []), (.tup []), (.tup []), (.tup []), (.tup []), (.tup []), (.tup []), (.tup []), (.tup []), (.tup []), (.tup []), (.tup []), (.tup []), (.tup []), (.tup []), (.tup []), (.tup []), (.tup [])] H (kk none (fun s H => retK (([2] : List Nat).map fun t => s.getD t (.tup [])) H) [] retK [2]) = L126 E x0 H := (jj_X E 126 _ _ H _).trans ((L126_x E (jj E 126) x0 H).trans (by simp only [L126, N126_1_eq, N126_2_eq]))
theorem E126 (ρ : Addr → Option Value) (k lim : Nat) (x0 : AV) (H : Heap) : evCall (cx ρ) (k + 1) lim 126 [x0] H = L126 ⟨ρ, evCall (cx ρ) k, (evCY (cx ρ) k).2, lim, k⟩ x0 H := by
  rw [evCall_body (cx ρ) k lim 126 _ H Tryz.f126 c126 [2] (by kernel_rfl) (by kernel_rfl) (by kernel_rfl) (by kernel_rfl) (by kernel_rfl)]
  have h := G126 ⟨ρ, evCall (cx ρ) k, (evCY (cx ρ) k).2, lim, k⟩ x0 H
  unfold jj at h
  exact h
-- haycroft/header.Told
noncomputable def c128 : Code := Code.of Tryz.prog 128
noncomputable def L128 (E : LE) (x0 : AV) (H : Heap) : Res :=
  effK H (buildSliceA (Cx E) H 60 4 [(0, (.int .i64 16)), (1, (.int .i64 16)), (2, (.int .i64 16)), (3, (.int .i64 16))]) fun x9 H =>
  resK (E.call E.lim 205 [x0, x9] H) fun x10 H =>
  purK (extA 0 x10) fun x11 =>
  purK (extA 1 x10) fun x12 =>
  purK (indexAddrA P 31 x11 (.int .i64 0)) fun x14 =>
  purK (loadA (Cx E) H 22 x14) fun x15 =>
  purK (binA P H .gtr 22 x15 (.int .u64 64)) fun x16 =>
  purK (gPur (wantV x16 false) (some x11)) fun x18 =>
  purK (gPur (wantV x16 false) (indexAddrA P 31 x18 (.int .i64 1))) fun x19 =>
  purK (gPur (wantV x16 false) (loadA (Cx E) H 22 x19)) fun x20 =>
  purK (gPur (wantV x16 false) (binA P H .gtr 22 x20 (.int .u64 128))) fun x21 =>
  purK (pickA x16 (.bool true) x21) fun x22 =>
  purK (gPur (wantV x22 false) (some x11)) fun x24 =>
  purK (gPur (wantV x22 false) (indexAddrA P 31 x24 (.int .i64 2))) fun x25 =>
  purK (gPur (wantV x22 false) (loadA (Cx E) H 22 x25)) fun x26 =>
  purK (gPur (wantV x22 false) (binA P H .neq 22 x26 (.int .u64 44203))) fun x27 =>
  purK (pickA x22 (.bool true) x27) fun x28 =>
  purK (gPur (wantV x28 false) (some x11)) fun x30 =>
  purK (gPur (wantV x28 false) (indexAddrA P 31 x30 (.int .i64 3))) fun x31 =>
  purK (gPur (wantV x28 false) (loadA (Cx E) H 22 x31)) fun x32 =>
  purK (gPur (wantV x28 false) (binA P H .neq 22 x32 (.int .u64 0))) fun x33 =>
  purK (pickA x28 (.bool true) x33) fun x34 =>
  condK x34
  (
    retK [(.int .i64 0), (.int .i64 0), (.int .i64 4)] H)
  (
    purK (indexAddrA P 31 x11 (.int .i64 0)) fun x36 =>
    purK (loadA (Cx E) H 22 x36) fun x37 =>
    purK (convXA (Cx E) H 22 3 x37) fun x38 =>
    purK (indexAddrA P 31 x11 (.int .i64 1)) fun x40 =>
    purK (loadA (Cx E) H 22 x40) fun x41 =>
    purK (convXA (Cx E) H 22 3 x41) fun x42 =>
    retK [x38, x42, (.int .i64 0)] H)
theorem G128 (E : LE) (x0 : AV) (H : Heap) : jj E 128 c128 [x0, (.tup []), (.tup []), (.tup []), (.tup []), (.tup []), (.tup []), (.tup []), (.tup []), (.tup []), (.tup []), (.tup []), (.tup []), (.tup []), (.tup []), (.tup []), (.tup []), (.tup []), (.tup []), (.tup []), (.tup []), (.tup []), (.tup []), (.tup []), (.tup []), (.tup []), (.tup []), (.tup []), (.tup []), (.tup []), (.tup []), (.tup []), (.tup []), (.tup []), (.tup []), (.tup []), (.tup []), (.tup []), (.tup []), (.tup []), (.tup []), (.tup []), (.tup [])] H (kk none (fun s H => retK (([2, 3, 4] : List Nat).map fun t => s.getD t (.tup [])) H) [] retK [2, 3, 4]) = L128 E x0 H := by kernel_rfl
theorem E128 (ρ : Addr → Option Value) (k lim : Nat) (x0 : AV) (H : Heap) : evCall (cx ρ) (k + 1) lim 128 [x0] H = L128 ⟨ρ, evCall (cx ρ) k, (evCY (cx ρ) k).2, lim, k⟩ x0 H := by
  rw [evCall_body (cx ρ) k lim 128 _ H Tryz.f128 c128 [2, 3, 4] (by kernel_rfl) (by kernel_rfl) (by kernel_rfl) (by kernel_rfl) (by kernel_rfl)]
  have h := G128 ⟨ρ, evCall (cx ρ) k, (evCY (cx ρ) k).2, lim, k⟩ x0 H
  unfold jj at h
  exact h
-- haycroft/header.Lengths
noncomputable def c129 : Code := Code.of Tryz.prog 129
noncomputable def L129 (E : LE) (x0 x1 : AV) (H : Heap) : Res :=
  purK (binA P H .lss 3 x0 (.int .i64 0)) fun x8 =>
  purK (gPur (wantV x8 false) (some x1)) fun x10 =>
  purK (gPur (wantV x8 false) (binA P H .lss 3 x10 (.int .i64 0))) fun x11 =>
  purK (pickA x8 (.bool true) x11) fun x12 =>
  condK x12
  (
    retK [(.int .u64 0), (.int .i64 1)] H)
  (
    purK (binA P H .gtr 3 x0 (.int .i64 64)) fun x15 =>
    purK (gPur (wantV x15 false) (some x1)) fun x17 =>
    purK (gPur (wantV x15 false) (binA P H .gtr 3 x17 (.int .i64 128))) fun x18 =>
    purK (pickA x15 (.bool true) x18) fun x19 =>
    condK x19
    (
      retK [(.int .u64 0), (.int .i64 5)] H)
    (
      purK (convXA (Cx E) H 3 22 x0) fun x21 =>
      purK (convXA (Cx E) H 3 22 x1) fun x23 =>
      effK H (buildSliceA (Cx E) H 31 3 [(0, x21), (1, x23), (2, (.int .u64 44203))]) fun x24 H =>
      effK H (buildSliceA (Cx E) H 60 3 [(0, (.int .i64 16)), (1, (.int .i64 16)), (2, (.int .i64 16))]) fun x25 H =>
      resK (E.call E.lim 206 [x24, x25] H) fun x26 H =>
      purK (extA 0 x26) fun x27 =>
      purK (extA 1 x26) fun x28 =>
      retK [x27, x28] H))
theorem G129 (E : LE) (x0 x1 : AV) (H : Heap) : jj E 129 c129 [x0, x1, (.tup []), (.tup []), (.tup []), (.tup []), (.tup []), (.tup []), (.tup []), (.tup []), (.tup []), (.tup []), (.tup []), (.tup []), (.tup []), (.tup []), (.tup []), (.tup []), (.tup []), (.tup []), (.tup []), (.tup []), (.tup []), (.tup []), (.tup []), (.tup []), (.tup []), (.tup []), (.tup [])] H (kk none (fun s H => retK (([4, 5] : List Nat).map fun t => s.getD t (.tup [])) H) [] retK [4, 5]) = L129 E x0 x1 H := by kernel_rfl
theorem E129 (ρ : Addr → Option Value) (k lim : Nat) (x0 x1 : AV) (H : Heap) : evCall (cx ρ) (k + 1) lim 129 [x0, x1] H = L129 ⟨ρ, evCall (cx ρ) k, (evCY (cx ρ) k).2, lim, k⟩ x0 x1 H := by
  rw [evCall_body (cx ρ) k lim 129 _ H Tryz.f129 c129 [4, 5] (by kernel_rfl) (by kernel_rfl) (by kernel_rfl) (by kernel_rfl) (by kernel_rfl)]
  have h := G129 ⟨ρ, evCall (cx ρ) k, (evCY (cx ρ) k).2, lim, k⟩ x0 x1 H
  unfold jj at h
  exact h
-- haycroft/record.words
noncomputable def c130 : Code := Code.of Tryz.prog 130
noncomputable def L130 (E : LE) (x0 : AV) (H : Heap) : Res :=
  purK (binA P H .add 3 x0 (.int .i64 8)) fun x4 =>
  purK (binA P H .sub 3 x4 (.int .i64 1)) fun x5 =>
  purK (binA P H .quo 3 x5 (.int .i64 8)) fun x6 =>
  retK [x6] H
theorem G130 (E : LE) (x0 : AV) (H : Heap) : jj E 130 c130 [x0, (.tup []), (.tup []), (.tup []), (.tup []), (.tup []), (.tup [])] H (kk none (fun s H => retK (([2] : List Nat).map fun t => s.getD t (.tup [])) H) [] retK [2]) = L130 E x0 H := by kernel_rfl
theorem E130 (ρ : Addr → Option Value) (k lim : Nat) (x0 : AV) (H : Heap) : evCall (cx ρ) (k + 1) lim 130 [x0] H = L130 ⟨ρ, evCall (cx ρ) k, (evCY (cx ρ) k).2, lim, k⟩ x0 H := by
  rw [evCall_body (cx ρ) k lim 130 _ H Tryz.f130 c130 [2] (by kernel_rfl) (by kernel_rfl) (by kernel_rfl) (by kernel_rfl) (by kernel_rfl)]
  have h := G130 ⟨ρ, evCall (cx ρ) k, (evCY (cx ρ) k).2, lim, k⟩ x0 H
  unfold jj at h
  exact h
-- haycroft/field.Most
noncomputable def c131 : Code := Code.of Tryz.prog 131
noncomputable def L131 (E : LE) (x0 : AV) (H : Heap) : Res :=
  purK (binA P H .lss 3 x0 (.int .i64 1)) fun x5 =>
  condK x5
  (
    retK [(.int .u64 0)] H)
  (
    purK (binA P H .geq 3 x0 (.int .i64 64)) fun x8 =>
    condK x8
    (
      retK [(.int .u64 18446744073709551615)] H)
    (
      purK (binA P H .shl 22 (.int .u64 1) x0) fun x10 =>
      purK (binA P H .sub 22 x10 (.int .u64 1)) fun x11 =>
      retK [x11] H))
theorem G131 (E : LE) (x0 : AV) (H : Heap) : jj E 131 c131 [x0, (.tup []), (.tup []), (.tup []), (.tup []), (.tup []), (.tup []), (.tup []), (.tup []), (.tup []), (.tup []), (.tup [])] H (kk none (fun s H => retK (([2] : List Nat).map fun t => s.getD t (.tup [])) H) [] retK [2]) = L131 E x0 H := by kernel_rfl
theorem E131 (ρ : Addr → Option Value) (k lim : Nat) (x0 : AV) (H : Heap) : evCall (cx ρ) (k + 1) lim 131 [x0] H = L131 ⟨ρ, evCall (cx ρ) k, (evCY (cx ρ) k).2, lim, k⟩ x0 H := by
  rw [evCall_body (cx ρ) k lim 131 _ H Tryz.f131 c131 [2] (by kernel_rfl) (by kernel_rfl) (by kernel_rfl) (by kernel_rfl) (by kernel_rfl)]
  have h := G131 ⟨ρ, evCall (cx ρ) k, (evCY (cx ρ) k).2, lim, k⟩ x0 H
  unfold jj at h
  exact h
-- haycroft/header.Pack
noncomputable def c132 : Code := Code.of Tryz.prog 132
noncomputable def L132 (E : LE) (x0 : AV) (H : Heap) : Res :=
  effK H (boxA H 25 x0) fun x1 H =>
  purK (fieldAddrA P 25 x1 0) fun x4 =>
  purK (loadA (Cx E) H 22 x4) fun x5 =>
  purK (binA P H .gtr 22 x5 (.int .u64 281474976710655)) fun x6 =>
  condK x6
  (
    retK [(.int .u64 0), (.int .i64 1)] H)
  (
    mkK H (buildSliceA (Cx E) H 60 3 [(0, (.int .i64 48)), (1, (.int .i64 1)), (2, (.int .i64 1))]) true fun x16 H =>
    purK (fieldAddrA P 25 x1 0) fun x7 =>
    purK (loadA (Cx E) H 22 x7) fun x8 =>
    purK (fieldAddrA P 25 x1 1) fun x9 =>
    purK (loadA (Cx E) H 4 x9) fun x10 =>
    purK (fieldAddrA P 25 x1 2) fun x12 =>
    purK (loadA (Cx E) H 4 x12) fun x13 =>
    resK (E.call E.lim 207 [x10] H) fun x11 H => bif (agn (loadA (Cx E) H 4 x12) x13 && (agn (loadA (Cx E) H 22 x7) x8 && true)) then
      resK (E.call E.lim 207 [x13] H) fun x14 H => bif (agn (loadA (Cx E) H 22 x7) x8 && true) then
        mkK H (buildSliceA (Cx E) H 31 3 [(0, x8), (1, x11), (2, x14)]) true fun x15 H => bif (agn (loadA (Cx E) H 4 x12) x13 && (agn (loadA (Cx E) H 4 x9) x10 && (agn (loadA (Cx E) H 22 x7) x8 && true))) then
          resK (E.call E.lim 206 [x15, x16] H) fun x17 H =>
          purK (extA 0 x17) fun x18 =>
          purK (extA 1 x17) fun x19 =>
          retK [x18, x19] H
        else none
      else none
    else none)
theorem G132 (E : LE) (x0 : AV) (H : Heap) : jj E 132 c132 [x0, (.tup []), (.tup []), (.tup []), (.tup []), (.tup []), (.tup []), (.tup []), (.tup []), (.tup []), (.tup []), (.tup []), (.tup []), (.tup []), (.tup []), (.tup []), (.tup []), (.tup []), (.tup []), (.tup [])] H (kk none (fun s H => retK (([2, 3] : List Nat).map fun t => s.getD t (.tup [])) H) [] retK [2, 3]) = L132 E x0 H := by kernel_rfl
theorem E132 (ρ : Addr → Option Value) (k lim : Nat) (x0 : AV) (H : Heap) : evCall (cx ρ) (k + 1) lim 132 [x0] H = L132 ⟨ρ, evCall (cx ρ) k, (evCY (cx ρ) k).2, lim, k⟩ x0 H := by
  rw [evCall_body (cx ρ) k lim 132 _ H Tryz.f132 c132 [2, 3] (by kernel_rfl) (by kernel_rfl) (by kernel_rfl) (by kernel_rfl) (by kernel_rfl)]
  have h := G132 ⟨ρ, evCall (cx ρ) k, (evCY (cx ρ) k).2, lim, k⟩ x0 H
  unfold jj at h
  exact h
-- slices.insertionSortCmpFunc[haycroft/api.Pair]
noncomputable def c133 : Code := Code.of Tryz.prog 133
noncomputable def N133_1_k (s : Slots) (H : Heap) (R : RK) (J : CodeF) : Res := J (Code.at [1] c133) s H (kk none (fun s H => R (([] : List Nat).map fun t => s.getD t (.tup [])) H) [] R [])
noncomputable def N133_1b_k (s : Slots) (H : Heap) (kn : KS) (R : RK) (J : CodeF) : Res := J (Code.at [1, 0, 0] c133) s H (kk (some [0, 1, 2, 3, 8]) kn [(0, none, (fun s H => R (([] : List Nat).map fun t => s.getD t (.tup [])) H))] R [])
noncomputable def N133_2_k (s : Slots) (H : Heap) (kn : KS) (R : RK) (J : CodeF) : Res := J (Code.at [1, 0, 0, 1, 1] c133) s H (kk (some [0, 1, 2, 3, 8]) kn [(0, none, (fun s H => R (([] : List Nat).map fun t => s.getD t (.tup [])) H))] R [])
noncomputable def N133_2 (E : LE) (x0 x1 x2 x3 x8 : AV) (H : Heap) (kn : AV → AV → AV → AV → AV → Heap → Res) : Res :=
  purK (binA P H .add 3 x8 (.int .i64 1)) fun x16_1 =>
  kn x0 x1 x2 x3 x16_1 H
theorem N133_2_eq (E : LE) (x0 x1 x2 x3 x8 : AV) (H : Heap) (kn : KS) (R : RK) : N133_2_k (sp 53 [(0, x0), (1, x1), (2, x2), (3, x3), (8, x8)]) H kn R (jj E 133) = N133_2 E x0 x1 x2 x3 x8 H (fun x0 x1 x2 x3 x8 H => kn (sp 53 [(0, x0), (1, x1), (2, x2), (3, x3), (8, x8)]) H) := by kernel_rfl
noncomputable def N133_3_k (s : Slots) (H : Heap) (kn k1 : KS) (R : RK) (J : CodeF) : Res := J (Code.at [1, 0, 0, 1, 0, 0, 1] c133) s H (kk (some [0, 1, 2, 3, 8]) kn [(1, (some [0, 1, 2, 3, 8]), k1), (0, none, (fun s H => R (([] : List Nat).map fun t => s.getD t (.tup [])) H))] R [])
noncomputable def N133_3b_k (s : Slots) (H : Heap) (kn k2 k1 : KS) (R : RK) (J : CodeF) : Res := J (Code.at [1, 0, 0, 1, 0, 0, 1, 0, 0] c133) s H (kk (some [0, 1, 2, 3, 8, 9]) kn [(2, (some [0, 1, 2, 3, 8]), k2), (1, (some [0, 1, 2, 3, 8]), k1), (0, none, (fun s H => R (([] : List Nat).map fun t => s.getD t (.tup [])) H))] R [])
noncomputable def N133_3b (E : LE) (x0 x1 x2 x3 x8 x9 : AV) (H : Heap) (kn : AV → AV → AV → AV → AV → AV → Heap → Res) (k2 : AV → AV → AV → AV → AV → Heap → Res) : Res :=
  purK (binA P H .gtr 3 x9 x1) fun x20_1 =>
  boolK (wantV x20_1 true) fun b1 => purK (bif b1 then some x3 else some (.tup [])) fun x22_1 =>
  boolK (wantV x20_1 true) fun b2 => purK (bif b2 then some x0 else some (.tup [])) fun x23_1 =>
  boolK (wantV x20_1 true) fun b3 => purK (bif b3 then some x9 else some (.tup [])) fun x24_1 =>
  boolK (wantV x20_1 true) fun b4 => purK (bif b4 then indexAddrA P 34 x23_1 x24_1 else some (.tup [])) fun x25_1 =>
  boolK (wantV x20_1 true) fun b5 => purK (bif b5 then loadA (Cx E) H 80 x25_1 else some (.tup [])) fun x26_1 =>
  boolK (wantV x20_1 true) fun b6 => purK (bif b6 then some x0 else some (.tup [])) fun x27_1 =>
  boolK (wantV x20_1 true) fun b7 => purK (bif b7 then some x9 else some (.tup [])) fun x28_1 =>
  boolK (wantV x20_1 true) fun b8 => purK (bif b8 then binA P H .sub 3 x28_1 (.int .i64 1) else some (.tup [])) fun x29_1 =>
  boolK (wantV x20_1 true) fun b9 => purK (bif b9 then indexAddrA P 34 x27_1 x29_1 else some (.tup [])) fun x30_1 =>
  boolK (wantV x20_1 true) fun b10 => purK (bif b10 then loadA (Cx E) H 80 x30_1 else some (.tup [])) fun x31_1 =>
  boolK (wantV x20_1 true) fun b11 => resK (gRes (some b11) H (valR E.call noY E.lim x22_1 [x26_1, x31_1] H)) fun x32_1 H => bif !b11 || ((!b10 || true) && ((!b8 || true) && ((!b5 || true) && true))) then
    purK (gPur (wantV x20_1 true) (binA P H .lss 3 x32_1 (.int .i64 0))) fun x33_1 =>
    purK (pickA x20_1 x33_1 (.bool false)) fun x34_1 =>
    condK x34_1
    (
      purK (binA P H .sub 3 x9 (.int .i64 1)) fun x41_1 =>
      purK (binA P H .sub 3 x9 (.int .i64 1)) fun x44_1 =>
      purK (indexAddrA P 34 x0 x44_1) fun x45_1 =>
      purK (loadA (Cx E) H 80 x45_1) fun x46_1 =>
      purK (indexAddrA P 34 x0 x9) fun x49_1 =>
      purK (loadA (Cx E) H 80 x49_1) fun x50_1 =>
      purK (indexAddrA P 34 x0 x9) fun x51_1 =>
      effK H ((storeA (Cx E) E.lim H 80 x51_1 x46_1).map skips) fun _ H => bif (agn (binA P H .sub 3 x9 (.int .i64 1)) x41_1 && true) then
        purK (indexAddrA P 34 x0 x41_1) fun x52_1 =>
        effK H ((storeA (Cx E) E.lim H 80 x52_1 x50_1).map skips) fun _ H =>
        purK (binA P H .sub 3 x9 (.int .i64 1)) fun x36_1 =>
        kn x0 x1 x2 x3 x8 x36_1 H
      else none)
    (
      k2 x0 x1 x2 x3 x8 H)
  else none
theorem N133_3b_eq (E : LE) (x0 x1 x2 x3 x8 x9 : AV) (H : Heap) (kn k2 k1 : KS) (R : RK) : N133_3b_k (sp 53 [(0, x0), (1, x1), (2, x2), (3, x3), (8, x8), (9, x9)]) H kn k2 k1 R (jj E 133) = N133_3b E x0 x1 x2 x3 x8 x9 H (fun x0 x1 x2 x3 x8 x9 H => kn (sp 53 [(0, x0), (1, x1), (2, x2), (3, x3), (8, x8), (9, x9)]) H) (fun x0 x1 x2 x3 x8 H => k2 (sp 53 [(0, x0), (1, x1), (2, x2), (3, x3), (8, x8)]) H) := by kernel_rfl
noncomputable def N133_3 (E : LE) (x0 x1 x2 x3 x8 x9 : AV) (H : Heap) (kn : AV → AV → AV → AV → AV → Heap → Res) : Res :=
  loopL (fun (x : AV) H kl => N133_3b E x0 x1 x2 x3 x8 x H (fun _ _ _ _ _ x9 H => kl x9 H) kn) E.k x9 H
theorem N133_3_eq (E : LE) (x0 x1 x2 x3 x8 x9 : AV) (H : Heap) (kn k1 : KS) (R : RK) : N133_3_k (sp 53 [(0, x0), (1, x1), (2, x2), (3, x3), (8, x8), (9, x9)]) H kn k1 R (jj E 133) = N133_3 E x0 x1 x2 x3 x8 x9 H (fun x0 x1 x2 x3 x8 H => kn (sp 53 [(0, x0), (1, x1), (2, x2), (3, x3), (8, x8)]) H) := by
  have e : Code.at [1, 0, 0, 1, 0, 0, 1] c133 = Code.block 2 (Code.loop (Code.at [1, 0, 0, 1, 0, 0, 1, 0, 0] c133)) := by kernel_rfl
  unfold N133_3_k N133_3 jj
  rw [e]
  rw [block_kk]
  exact loop_node [0, 1, 2, 3, 8, 9] (fun x : AV => (sp 53 [(0, x0), (1, x1), (2, x2), (3, x3), (8, x8), (9, (x))])) (fun (x : AV) H kl => N133_3b E x0 x1 x2 x3 x8 x H (fun _ _ _ _ _ x9 H => kl x9 H) (fun x0 x1 x2 x3 x8 H => kn (sp 53 [(0, x0), (1, x1), (2, x2), (3, x3), (8, x8)]) H)) (by kernel_rfl) (fun x => by kernel_rfl) (fun x H kl => by
    have h := N133_3b_eq E x0 x1 x2 x3 x8 (x) H kl kn k1 R
    unfold N133_3b_k jj at h
    exact h) x9 (sp 53 [(0, x0), (1, x1), (2, x2), (3, x3), (8, x8), (9, x9)]) H (by kernel_rfl)
noncomputable def N133_1b (E : LE) (x0 x1 x2 x3 x8 : AV) (H : Heap) (kn : AV → AV → AV → AV → AV → Heap → Res) (R : RK) : Res :=
  purK (binA P H .lss 3 x8 x2) fun x14_1 =>
  condK x14_1
  (
    N133_3 E x0 x1 x2 x3 x8 x8 H (fun x0_1 x1_1 x2_1 x3_1 x8_1 H =>
      N133_2 E x0_1 x1_1 x2_1 x3_1 x8_1 H kn))
  (
    R [] H)
theorem N133_1b_x (E : LE) (J : CodeF) (x0 x1 x2 x3 x8 : AV) (H : Heap) (kn : KS) (R : RK) : N133_1b_k (sp 53 [(0, x0), (1, x1), (2, x2), (3, x3), (8, x8)]) H kn R (jx E 133 J) =
  purK (binA P H .lss 3 x8 x2) fun x14_1 =>
  condK x14_1
  (
    N133_3_k (sp 53 [(0, x0), (1, x1), (2, x2), (3, x3), (8, x8), (9, x8)]) H (fun s H => N133_2_k s H kn R J) (fun s H => N133_2_k s H kn R J) R J)
  (
    R [] H) := by kernel_rfl
theorem N133_1b_eq (E : LE) (x0 x1 x2 x3 x8 : AV) (H : Heap) (kn : KS) (R : RK) : N133_1b_k (sp 53 [(0, x0), (1, x1), (2, x2), (3, x3), (8, x8)]) H kn R (jj E 133) = N133_1b E x0 x1 x2 x3 x8 H (fun x0 x1 x2 x3 x8 H => kn (sp 53 [(0, x0), (1, x1), (2, x2), (3, x3), (8, x8)]) H) R := (jj_X E 133 _ _ H _).trans ((N133_1b_x E (jj E 133) x0 x1 x2 x3 x8 H kn R).trans (by simp only [N133_1b, N133_2_eq, N133_3_eq]))
noncomputable def N133_1 (E : LE) (x0 x1 x2 x3 x8 : AV) (H : Heap) (R : RK) : Res :=
  loopL (fun (x : AV) H kl => N133_1b E x0 x1 x2 x3 x H (fun _ _ _ _ x8 H => kl x8 H) R) E.k x8 H
theorem N133_1_eq (E : LE) (x0 x1 x2 x3 x8 : AV) (H : Heap) (R : RK) : N133_1_k (sp 53 [(0, x0), (1, x1), (2, x2), (3, x3), (8, x8)]) H R (jj E 133) = N133_1 E x0 x1 x2 x3 x8 H R := by
  have e : Code.at [1] c133 = Code.block 0 (Code.loop (Code.at [1, 0, 0] c133)) := by kernel_rfl
  unfold N133_1_k N133_1 jj
  rw [e]
  rw [block_kk]
  exact loop_node [0, 1, 2, 3, 8] (fun x : AV => (sp 53 [(0, x0), (1, x1), (2, x2), (3, x3), (8, (x))])) (fun (x : AV) H kl => N133_1b E x0 x1 x2 x3 x H (fun _ _ _ _ x8 H => kl x8 H) R) (by kernel_rfl) (fun x => by kernel_rfl) (fun x H kl => by
    have h := N133_1b_eq E x0 x1 x2 x3 (x) H kl R
    unfold N133_1b_k jj at h
    exact h) x8 (sp 53 [(0, x0), (1, x1), (2, x2), (3, x3), (8, x8)]) H (by kernel_rfl)
noncomputable def L133 (E : LE) (x0 x1 x2 x3 : AV) (H : Heap) : Res :=
  purK (binA P H .add 3 x1 (.int .i64 1)) fun x11 =>
  N133_1 E x0 x1 x2 x3 x11 H retK
theorem L133_x (E : LE) (J : CodeF) (x0 x1 x2 x3 : AV) (H : Heap) : jx E 133 J c133 [x0, x1, x2, x3, (.tup []), (.tup []), (.tup []), (.tup []), (.tup []), (.tup []), (.tup []), (.tup []), (.tup []), (.tup []), (.tup []), (.tup []), (.tup []), (.tup []), (.tup []), (.tup []), (.tup []), (.tup []), (.tup []), (.tup []), (.tup []), (.tup []), (.tup []), (.tup []), (.tup []), (.tup []), (.tup []), (.tup []), (.tup []), (.tup []), (.tup []), (.tup []), (.tup []), (.tup []), (.tup []), (.tup []), (.tup []), (.tup []), (.tup []), (.tup []), (.tup []), (.tup []), (.tup []), (.tup []), (.tup []), (.tup []), (.tup []), (.tup []), (.tup [])] H (kk none (fun s H => retK (([] : List Nat).map fun t => s.getD t (.tup [])) H) [] retK []) =
  purK (binA P H .add 3 x1 (.int .i64 1)) fun x11 =>
  N133_1_k (sp 53 [(0, x0), (1, x1), (2, x2), (3, x3), (8, x11)]) H retK J := by kernel_rfl
theorem G133 (E : LE) (x0 x1 x2 x3 : AV) (H : Heap) : jj E 133 c133 [x0, x1, x2, x3, (.tup []), (.tup []), (.tup []), (.tup []), (.tup []), (.tup []), (.tup []), (.tup []), (.tup []), (.tup []), (.tup []), (.tup []), (.tup []), (.tup []), (.tup []), (.tup []), (.tup []), (.tup []), (.tup []), (.tup []), (.tup []), (.tup []), (.tup []), (.tup []), (.tup []), (.tup []), (.tup []), (.tup []), (.tup []), (.tup []), (.tup []), (.tup []), (.tup []), (.tup []), (.tup []), (.tup []), (.tup []), (.tup []), (.tup []), (.tup []), (.tup []), (.tup []), (.tup []), (.tup []), (.tup []), (.tup []), (.tup []), (.tup []), (.tup [])] H (kk none (fun s H => retK (([] : List Nat).map fun t => s.getD t (.tup [])) H) [] retK []) = L133 E x0 x1 x2 x3 H := (jj_X E 133 _ _ H _).trans ((L133_x E (jj E 133) x0 x1 x2 x3 H).trans (by simp only [L133, N133_1_eq]))
theorem E133 (ρ : Addr → Option Value) (k lim : Nat) (x0 x1 x2 x3 : AV) (H : Heap) : evCall (cx ρ) (k + 1) lim 133 [x0, x1, x2, x3] H = L133 ⟨ρ, evCall (cx ρ) k, (evCY (cx ρ) k).2, lim, k⟩ x0 x1 x2 x3 H := by
  rw [evCall_body (cx ρ) k lim 133 _ H Tryz.f133 c133 [] (by kernel_rfl) (by kernel_rfl) (by kernel_rfl) (by kernel_rfl) (by kernel_rfl)]
  have h := G133 ⟨ρ, evCall (cx ρ) k, (evCY (cx ρ) k).2, lim, k⟩ x0 x1 x2 x3 H
  unfold jj at h
  exact h
-- math/bits.Len64
noncomputable def c142 : Code := Code.of Tryz.prog 142
noncomputable def N142_1_k (s : Slots) (H : Heap) (R : RK) (J : CodeF) : Res := J (Code.at [1, 1] c142) s H (kk none (fun s H => R (([2] : List Nat).map fun t => s.getD t (.tup [])) H) [] R [2])
noncomputable def N142_2_k (s : Slots) (H : Heap) (R : RK) (J : CodeF) : Res := J (Code.at [1, 1, 1] c142) s H (kk none (fun s H => R (([2] : List Nat).map fun t => s.getD t (.tup [])) H) [] R [2])
noncomputable def N142_3_k (s : Slots) (H : Heap) (R : RK) (J : CodeF) : Res := J (Code.at [1, 1, 1, 1] c142) s H (kk none (fun s H => R (([2] : List Nat).map fun t => s.getD t (.tup [])) H) [] R [2])
noncomputable def N142_3 (E : LE) (x0 x2 : AV) (H : Heap) (R : RK) : Res :=
  purK (convXA (Cx E) H 22 5 x0) fun x21_1 =>
  purK (indexA P 9 (.str (ByteArray.mk #[0, 1, 2, 2, 3, 3, 3, 3, 4, 4, 4, 4, 4, 4, 4, 4, 5, 5, 5, 5, 5, 5, 5, 5, 5, 5, 5, 5, 5, 5, 5, 5, 6, 6, 6, 6, 6, 6, 6, 6, 6, 6, 6, 6, 6, 6, 6, 6, 6, 6, 6, 6, 6, 6, 6, 6, 6, 6, 6, 6, 6, 6, 6, 6, 7, 7, 7, 7, 7, 7, 7, 7, 7, 7, 7, 7, 7, 7, 7, 7, 7, 7, 7, 7, 7, 7, 7, 7, 7, 7, 7, 7, 7, 7, 7, 7, 7, 7, 7, 7, 7, 7, 7, 7, 7, 7, 7, 7, 7, 7, 7, 7, 7, 7, 7, 7, 7, 7, 7, 7, 7, 7, 7, 7, 7, 7, 7, 7, 8, 8, 8, 8, 8, 8, 8, 8, 8, 8, 8, 8, 8, 8, 8, 8, 8, 8, 8, 8, 8, 8, 8, 8, 8, 8, 8, 8, 8, 8, 8, 8, 8, 8, 8, 8, 8, 8, 8, 8, 8, 8, 8, 8, 8, 8, 8, 8, 8, 8, 8, 8, 8, 8, 8, 8, 8, 8, 8, 8, 8, 8, 8, 8, 8, 8, 8, 8, 8, 8, 8, 8, 8, 8, 8, 8, 8, 8, 8, 8, 8, 8, 8, 8, 8, 8, 8, 8, 8, 8, 8, 8, 8, 8, 8, 8, 8, 8, 8, 8, 8, 8, 8, 8, 8, 8, 8, 8, 8, 8, 8, 8, 8, 8, 8, 8, 8, 8, 8, 8, 8, 8, 8, 8, 8, 8, 8, 8])) x21_1) fun x22_1 =>
  purK (convXA (Cx E) H 5 3 x22_1) fun x23_1 =>
  purK (binA P H .add 3 x2 x23_1) fun x24_1 =>
  R [x24_1] H
theorem N142_3_eq (E : LE) (x0 x2 : AV) (H : Heap) (R : RK) : N142_3_k (sp 25 [(0, x0), (2, x2)]) H R (jj E 142) = N142_3 E x0 x2 H R := by kernel_rfl
noncomputable def N142_2 (E : LE) (x0 x2 : AV) (H : Heap) (R : RK) : Res :=
  purK (binA P H .geq 22 x0 (.int .u64 256)) fun x14_1 =>
  condK x14_1
  (
    purK (binA P H .shr 22 x0 (.int .u64 8)) fun x16_1 =>
    purK (binA P H .add 3 x2 (.int .i64 8)) fun x18_1 =>
    N142_3 E x16_1 x18_1 H R)
  (
    N142_3 E x0 x2 H R)
theorem N142_2_x (E : LE) (J : CodeF) (x0 x2 : AV) (H : Heap) (R : RK) : N142_2_k (sp 25 [(0, x0), (2, x2)]) H R (jx E 142 J) =
  purK (binA P H .geq 22 x0 (.int .u64 256)) fun x14_1 =>
  condK x14_1
  (
    purK (binA P H .shr 22 x0 (.int .u64 8)) fun x16_1 =>
    purK (binA P H .add 3 x2 (.int .i64 8)) fun x18_1 =>
    N142_3_k (sp 25 [(0, x16_1), (2, x18_1)]) H R J)
  (
    N142_3_k (sp 25 [(0, x0), (2, x2)]) H R J) := by kernel_rfl
theorem N142_2_eq (E : LE) (x0 x2 : AV) (H : Heap) (R : RK) : N142_2_k (sp 25 [(0, x0), (2, x2)]) H R (jj E 142) = N142_2 E x0 x2 H R := (jj_X E 142 _ _ H _).trans ((N142_2_x E (jj E 142) x0 x2 H R).trans (by simp only [N142_2, N142_3_eq]))
noncomputable def N142_1 (E : LE) (x0 x2 : AV) (H : Heap) (R : RK) : Res :=
  purK (binA P H .geq 22 x0 (.int .u64 65536)) fun x8_1 =>
  condK x8_1
  (
    purK (binA P H .shr 22 x0 (.int .u64 16)) fun x10_1 =>
    purK (binA P H .add 3 x2 (.int .i64 16)) fun x12_1 =>
    N142_2 E x10_1 x12_1 H R)
  (
    N142_2 E x0 x2 H R)
theorem N142_1_x (E : LE) (J : CodeF) (x0 x2 : AV) (H : Heap) (R : RK) : N142_1_k (sp 25 [(0, x0), (2, x2)]) H R (jx E 142 J) =
  purK (binA P H .geq 22 x0 (.int .u64 65536)) fun x8_1 =>
  condK x8_1
  (
    purK (binA P H .shr 22 x0 (.int .u64 16)) fun x10_1 =>
    purK (binA P H .add 3 x2 (.int .i64 16)) fun x12_1 =>
    N142_2_k (sp 25 [(0, x10_1), (2, x12_1)]) H R J)
  (
    N142_2_k (sp 25 [(0, x0), (2, x2)]) H R J) := by kernel_rfl
theorem N142_1_eq (E : LE) (x0 x2 : AV) (H : Heap) (R : RK) : N142_1_k (sp 25 [(0, x0), (2, x2)]) H R (jj E 142) = N142_1 E x0 x2 H R := (jj_X E 142 _ _ H _).trans ((N142_1_x E (jj E 142) x0 x2 H R).trans (by simp only [N142_1, N142_2_eq]))
noncomputable def L142 (E : LE) (x0 : AV) (H : Heap) : Res :=
  purK (binA P H .geq 22 x0 (.int .u64 4294967296)) fun x4 =>
  condK x4
  (
    purK (binA P H .shr 22 x0 (.int .u64 32)) fun x6 =>
    N142_1 E x6 (.int .i64 32) H retK)
  (
    N142_1 E x0 (.int .i64 0) H retK)
theorem L142_x (E : LE) (J : CodeF) (x0 : AV) (H : Heap) : jx E 142 J c142 [x0, (.tup []), (.tup []), (.tup []), (.tup []), (.tup []), (.tup []), (.tup []), (.tup []), (.tup []), (.tup []), (.tup []), (.tup []), (.tup []), (.tup []), (.tup []), (.tup []), (.tup []), (.tup []), (.tup []), (.tup []), (.tup []), (.tup []), (.tup []), (.tup [])] H (kk none (fun s H => retK (([2] : List Nat).map fun t => s.getD t (.tup [])) H) [] retK [2]) =
  purK (binA P H .geq 22 x0 (.int .u64 4294967296)) fun x4 =>
  condK x4
  (
    purK (binA P H .shr 22 x0 (.int .u64 32)) fun x6 =>
    N142_1_k (sp 25 [(0, x6), (2, (.int .i64 32))]) H retK J)
  (
    N142_1_k (sp 25 [(0, x0), (2, (.int .i64 0))]) H retK J) := by kernel_rfl
theorem G142 (E : LE) (x0 : AV) (H : Heap) : jj E 142 c142 [x0, (.tup []), (.tup []), (.tup []), (.tup []), (.tup []), (.tup []), (.tup []), (.tup []), (.tup []), (.tup []), (.tup []), (.tup []), (.tup []), (.tup []), (.tup []), (.tup []), (.tup []), (.tup []), (.tup []), (.tup []), (.tup []), (.tup []), (.tup []), (.tup [])] H (kk none (fun s H => retK (([2] : List Nat).map fun t => s.getD t (.tup [])) H) [] retK [2]) = L142 E x0 H := (jj_X E 142 _ _ H _).trans ((L142_x E (jj E 142) x0 H).trans (by simp only [L142, N142_1_eq]))
theorem E142 (ρ : Addr → Option Value) (k lim : Nat) (x0 : AV) (H : Heap) : evCall (cx ρ) (k + 1) lim 142 [x0] H = L142 ⟨ρ, evCall (cx ρ) k, (evCY (cx ρ) k).2, lim, k⟩ x0 H := by
  rw [evCall_body (cx ρ) k lim 142 _ H Tryz.f142 c142 [2] (by kernel_rfl) (by kernel_rfl) (by kernel_rfl) (by kernel_rfl) (by kernel_rfl)]
  have h := G142 ⟨ρ, evCall (cx ρ) k, (evCY (cx ρ) k).2, lim, k⟩ x0 H
  unfold jj at h
  exact h
-- (*haycroft/tail.Tail).now
noncomputable def c144 : Code := Code.of Tryz.prog 144
noncomputable def L144 (E : LE) (x0 : AV) (H : Heap) : Res :=
  purK (nilChkA x0) fun x6 =>
  purK (fieldAddrA P 307 x6 2) fun x7 =>
  purK (loadA (Cx E) H 160 x7) fun x8 =>
  resK (E.call E.lim 84 [x8, (.int .i64 0)] H) fun x9 H =>
  purK (binA P H .shr 22 x9 (.int .u64 32)) fun x11 =>
  purK (convXA (Cx E) H 22 3 x11) fun x12 =>
  resK (E.call E.lim 131 [(.int .i64 32)] H) fun x14 H =>
  purK (binA P H .and 22 x9 x14) fun x15 =>
  purK (convXA (Cx E) H 22 3 x15) fun x16 =>
  retK [x12, x16] H
theorem G144 (E : LE) (x0 : AV) (H : Heap) : jj E 144 c144 [x0, (.tup []), (.tup []), (.tup []), (.tup []), (.tup []), (.tup []), (.tup []), (.tup []), (.tup []), (.tup []), (.tup []), (.tup []), (.tup []), (.tup []), (.tup []), (.tup [])] H (kk none (fun s H => retK (([2, 3] : List Nat).map fun t => s.getD t (.tup [])) H) [] retK [2, 3]) = L144 E x0 H := by kernel_rfl
theorem E144 (ρ : Addr → Option Value) (k lim : Nat) (x0 : AV) (H : Heap) : evCall (cx ρ) (k + 1) lim 144 [x0] H = L144 ⟨ρ, evCall (cx ρ) k, (evCY (cx ρ) k).2, lim, k⟩ x0 H := by
  rw [evCall_body (cx ρ) k lim 144 _ H Tryz.f144 c144 [2, 3] (by kernel_rfl) (by kernel_rfl) (by kernel_rfl) (by kernel_rfl) (by kernel_rfl)]
  have h := G144 ⟨ρ, evCall (cx ρ) k, (evCY (cx ρ) k).2, lim, k⟩ x0 H
  unfold jj at h
  exact h
-- (*haycroft/index.Index).all
noncomputable def c145 : Code := Code.of Tryz.prog 145
noncomputable def L145 (E : LE) (x0 : AV) (H : Heap) : Res :=
  purK (binA P H .eql 95 x0 .nilp) fun x4 =>
  condK x4
  (
    retK [(.int .i64 0)] H)
  (
    purK (nilChkA x0) fun x6 =>
    purK (fieldAddrA P 162 x6 0) fun x7 =>
    purK (loadA (Cx E) H 3 x7) fun x8 =>
    purK (nilChkA x0) fun x10 =>
    purK (fieldAddrA P 162 x10 1) fun x11 =>
    purK (loadA (Cx E) H 3 x11) fun x12 =>
    purK (binA P H .add 3 x8 x12) fun x13 =>
    retK [x13] H)
theorem G145 (E : LE) (x0 : AV) (H : Heap) : jj E 145 c145 [x0, (.tup []), (.tup []), (.tup []), (.tup []), (.tup []), (.tup []), (.tup []), (.tup []), (.tup []), (.tup []), (.tup []), (.tup []), (.tup [])] H (kk none (fun s H => retK (([2] : List Nat).map fun t => s.getD t (.tup [])) H) [] retK [2]) = L145 E x0 H := by kernel_rfl
theorem E145 (ρ : Addr → Option Value) (k lim : Nat) (x0 : AV) (H : Heap) : evCall (cx ρ) (k + 1) lim 145 [x0] H = L145 ⟨ρ, evCall (cx ρ) k, (evCY (cx ρ) k).2, lim, k⟩ x0 H := by
  rw [evCall_body (cx ρ) k lim 145 _ H Tryz.f145 c145 [2] (by kernel_rfl) (by kernel_rfl) (by kernel_rfl) (by kernel_rfl) (by kernel_rfl)]
  have h := G145 ⟨ρ, evCall (cx ρ) k, (evCY (cx ρ) k).2, lim, k⟩ x0 H
  unfold jj at h
  exact h
-- (*haycroft/index.Index).link
noncomputable def c146 : Code := Code.of Tryz.prog 146
noncomputable def L146 (E : LE) (x0 x1 : AV) (H : Heap) : Res :=
  purK (nilChkA x0) fun x8 =>
  purK (fieldAddrA P 162 x8 2) fun x9 =>
  purK (loadA (Cx E) H 160 x9) fun x10 =>
  purK (binA P H .mul 3 x1 (.int .i64 8)) fun x12 =>
  purK (binA P H .add 3 x12 (.int .i64 7)) fun x13 =>
  resK (E.call E.lim 84 [x10, x13] H) fun x14 H =>
  purK (convXA (Cx E) H 22 3 x14) fun x16 =>
  purK (binA P H .sub 3 x16 (.int .i64 1)) fun x17 =>
  purK (binA P H .gtr 22 x14 (.int .u64 0)) fun x19 =>
  retK [x17, x19] H
theorem G146 (E : LE) (x0 x1 : AV) (H : Heap) : jj E 146 c146 [x0, x1, (.tup []), (.tup []), (.tup []), (.tup []), (.tup []), (.tup []), (.tup []), (.tup []), (.tup []), (.tup []), (.tup []), (.tup []), (.tup []), (.tup []), (.tup []), (.tup []), (.tup []), (.tup [])] H (kk none (fun s H => retK (([4, 5] : List Nat).map fun t => s.getD t (.tup [])) H) [] retK [4, 5]) = L146 E x0 x1 H := by kernel_rfl
theorem E146 (ρ : Addr → Option Value) (k lim : Nat) (x0 x1 : AV) (H : Heap) : evCall (cx ρ) (k + 1) lim 146 [x0, x1] H = L146 ⟨ρ, evCall (cx ρ) k, (evCY (cx ρ) k).2, lim, k⟩ x0 x1 H := by
  rw [evCall_body (cx ρ) k lim 146 _ H Tryz.f146 c146 [4, 5] (by kernel_rfl) (by kernel_rfl) (by kernel_rfl) (by kernel_rfl) (by kernel_rfl)]
  have h := G146 ⟨ρ, evCall (cx ρ) k, (evCY (cx ρ) k).2, lim, k⟩ x0 x1 H
  unfold jj at h
  exact h
-- (*haycroft/index.Index).slot
noncomputable def c147 : Code := Code.of Tryz.prog 147
noncomputable def L147 (E : LE) (x0 x1 : AV) (H : Heap) : Res :=
  purK (binA P H .neq 95 x0 .nilp) fun x6 =>
  purK (gPur (wantV x6 true) (some x1)) fun x8 =>
  purK (gPur (wantV x6 true) (binA P H .geq 3 x8 (.int .i64 0))) fun x9 =>
  purK (pickA x6 x9 (.bool false)) fun x10 =>
  purK (gPur (wantV x10 true) (some x1)) fun x12 =>
  purK (gPur (wantV x10 true) (some x0)) fun x13 =>
  purK (gPur (wantV x10 true) (nilChkA x13)) fun x14 =>
  purK (gPur (wantV x10 true) (fieldAddrA P 162 x14 2)) fun x15 =>
  purK (gPur (wantV x10 true) (loadA (Cx E) H 160 x15)) fun x16 =>
  resK (gRes (wantV x10 true) H (E.call E.lim 202 [x16] H)) fun x17 H =>
  purK (gPur (wantV x10 true) (binA P H .lss 3 x12 x17)) fun x18 =>
  purK (pickA x10 x18 (.bool false)) fun x19 =>
  purK (gPur (wantV x19 true) (some x1)) fun x21 =>
  purK (gPur (wantV x19 true) (binA P H .rem 3 x21 (.int .i64 8))) fun x22 =>
  purK (gPur (wantV x19 true) (binA P H .neq 3 x22 (.int .i64 7))) fun x23 =>
  purK (pickA x19 x23 (.bool false)) fun x24 =>
  retK [x24] H
theorem G147 (E : LE) (x0 x1 : AV) (H : Heap) : jj E 147 c147 [x0, x1, (.tup []), (.tup []), (.tup []), (.tup []), (.tup []), (.tup []), (.tup []), (.tup []), (.tup []), (.tup []), (.tup []), (.tup []), (.tup []), (.tup []), (.tup []), (.tup []), (.tup []), (.tup []), (.tup []), (.tup []), (.tup []), (.tup []), (.tup [])] H (kk none (fun s H => retK (([4] : List Nat).map fun t => s.getD t (.tup [])) H) [] retK [4]) = L147 E x0 x1 H := by kernel_rfl
theorem E147 (ρ : Addr → Option Value) (k lim : Nat) (x0 x1 : AV) (H : Heap) : evCall (cx ρ) (k + 1) lim 147 [x0, x1] H = L147 ⟨ρ, evCall (cx ρ) k, (evCY (cx ρ) k).2, lim, k⟩ x0 x1 H := by
  rw [evCall_body (cx ρ) k lim 147 _ H Tryz.f147 c147 [4] (by kernel_rfl) (by kernel_rfl) (by kernel_rfl) (by kernel_rfl) (by kernel_rfl)]
  have h := G147 ⟨ρ, evCall (cx ρ) k, (evCY (cx ρ) k).2, lim, k⟩ x0 x1 H
  unfold jj at h
  exact h
-- (*haycroft/cell.Row).there
noncomputable def c149 : Code := Code.of Tryz.prog 149
noncomputable def L149 (E : LE) (x0 x1 : AV) (H : Heap) : Res :=
  purK (binA P H .geq 3 x1 (.int .i64 0)) fun x6 =>
  purK (gPur (wantV x6 true) (some x1)) fun x8 =>
  purK (gPur (wantV x6 true) (some x0)) fun x9 =>
  resK (gRes (wantV x6 true) H (E.call E.lim 202 [x9] H)) fun x10 H =>
  purK (gPur (wantV x6 true) (binA P H .lss 3 x8 x10)) fun x11 =>
  purK (pickA x6 x11 (.bool false)) fun x12 =>
  retK [x12] H
theorem G149 (E : LE) (x0 x1 : AV) (H : Heap) : jj E 149 c149 [x0, x1, (.tup []), (.tup []), (.tup []), (.tup []), (.tup []), (.tup []), (.tup []), (.tup []), (.tup []), (.tup []), (.tup [])] H (kk none (fun s H => retK (([4] : List Nat).map fun t => s.getD t (.tup [])) H) [] retK [4]) = L149 E x0 x1 H := by kernel_rfl
theorem E149 (ρ : Addr → Option Value) (k lim : Nat) (x0 x1 : AV) (H : Heap) : evCall (cx ρ) (k + 1) lim 149 [x0, x1] H = L149 ⟨ρ, evCall (cx ρ) k, (evCY (cx ρ) k).2, lim, k⟩ x0 x1 H := by
  rw [evCall_body (cx ρ) k lim 149 _ H Tryz.f149 c149 [4] (by kernel_rfl) (by kernel_rfl) (by kernel_rfl) (by kernel_rfl) (by kernel_rfl)]
  have h := G149 ⟨ρ, evCall (cx ρ) k, (evCY (cx ρ) k).2, lim, k⟩ x0 x1 H
  unfold jj at h
  exact h
-- (*sync/atomic.Uint64).Load
noncomputable def c150 : Code := Code.of Tryz.prog 150
noncomputable def L150 (E : LE) (x0 : AV) (H : Heap) : Res :=
  purK (nilChkA x0) fun x4 =>
  purK (fieldAddrA P 227 x4 2) fun x5 =>
  resK (E.call E.lim 213 [x5] H) fun x6 H =>
  retK [x6] H
theorem G150 (E : LE) (x0 : AV) (H : Heap) : jj E 150 c150 [x0, (.tup []), (.tup []), (.tup []), (.tup []), (.tup []), (.tup [])] H (kk none (fun s H => retK (([2] : List Nat).map fun t => s.getD t (.tup [])) H) [] retK [2]) = L150 E x0 H := by kernel_rfl
theorem E150 (ρ : Addr → Option Value) (k lim : Nat) (x0 : AV) (H : Heap) : evCall (cx ρ) (k + 1) lim 150 [x0] H = L150 ⟨ρ, evCall (cx ρ) k, (evCY (cx ρ) k).2, lim, k⟩ x0 H := by
  rw [evCall_body (cx ρ) k lim 150 _ H Tryz.f150 c150 [2] (by kernel_rfl) (by kernel_rfl) (by kernel_rfl) (by kernel_rfl) (by kernel_rfl)]
  have h := G150 ⟨ρ, evCall (cx ρ) k, (evCY (cx ρ) k).2, lim, k⟩ x0 H
  unfold jj at h
  exact h
-- haycroft/field.Right
noncomputable def c151 : Code := Code.of Tryz.prog 151
noncomputable def L151 (E : LE) (x0 x1 : AV) (H : Heap) : Res :=
  purK (binA P H .geq 3 x0 (.int .i64 0)) fun x6 =>
  purK (gPur (wantV x6 true) (some x0)) fun x8 =>
  purK (gPur (wantV x6 true) (binA P H .lss 3 x8 (.int .i64 64))) fun x9 =>
  purK (pickA x6 x9 (.bool false)) fun x10 =>
  purK (gPur (wantV x10 true) (some x1)) fun x12 =>
  purK (gPur (wantV x10 true) (binA P H .geq 3 x12 (.int .i64 1))) fun x13 =>
  purK (pickA x10 x13 (.bool false)) fun x14 =>
  purK (gPur (wantV x14 true) (some x1)) fun x16 =>
  purK (gPur (wantV x14 true) (some x0)) fun x17 =>
  purK (gPur (wantV x14 true) (binA P H .sub 3 (.int .i64 64) x17)) fun x18 =>
  purK (gPur (wantV x14 true) (binA P H .leq 3 x16 x18)) fun x19 =>
  purK (pickA x14 x19 (.bool false)) fun x20 =>
  retK [x20] H
theorem G151 (E : LE) (x0 x1 : AV) (H : Heap) : jj E 151 c151 [x0, x1, (.tup []), (.tup []), (.tup []), (.tup []), (.tup []), (.tup []), (.tup []), (.tup []), (.tup []), (.tup []), (.tup []), (.tup []), (.tup []), (.tup []), (.tup []), (.tup []), (.tup []), (.tup []), (.tup [])] H (kk none (fun s H => retK (([4] : List Nat).map fun t => s.getD t (.tup [])) H) [] retK [4]) = L151 E x0 x1 H := by kernel_rfl
theorem E151 (ρ : Addr → Option Value) (k lim : Nat) (x0 x1 : AV) (H : Heap) : evCall (cx ρ) (k + 1) lim 151 [x0, x1] H = L151 ⟨ρ, evCall (cx ρ) k, (evCY (cx ρ) k).2, lim, k⟩ x0 x1 H := by
  rw [evCall_body (cx ρ) k lim 151 _ H Tryz.f151 c151 [4] (by kernel_rfl) (by kernel_rfl) (by kernel_rfl) (by kernel_rfl) (by kernel_rfl)]
  have h := G151 ⟨ρ, evCall (cx ρ) k, (evCY (cx ρ) k).2, lim, k⟩ x0 x1 H
  unfold jj at h
  exact h
-- haycroft/image.Heard
noncomputable def c152 : Code := Code.of Tryz.prog 152
noncomputable def L152 (E : LE) (x0 : AV) (H : Heap) : Res :=
  effK H (allocA (Cx E) H 236) fun x2 H =>
  purK (lenBA (Cx E) H 9 x0) fun x8 =>
  purK (binA P H .neq 3 x8 (.int .i64 32)) fun x9 =>
  condK x9
  (
    purK (buildA P 236 []) fun x10 =>
    effK H ((storeA (Cx E) E.lim H 236 x2 x10).map skips) fun _ H =>
    (retC (Cx E) [some 236, none]) [x2, (.int .i64 4)] H)
  (
    resK (E.call E.lim 126 [x0] H) fun x12 H =>
    purK (buildA P 313 [(0, x12)]) fun x13 =>
    effK H (boxA H 313 x13) fun x14 H =>
    resK (E.call E.lim 214 [x14] H) fun x16 H =>
    resK (E.call E.lim 214 [x14] H) fun x18 H =>
    resK (E.call E.lim 215 [x14] H) fun x20 H =>
    purK (buildA P 236 [(0, x16), (1, x18), (2, x20)]) fun x21 =>
    effK H (allocA (Cx E) H 236) fun x5 H =>
    effK H ((storeA (Cx E) E.lim H 236 x5 x21).map skips) fun _ H =>
    resK (E.call E.lim 214 [x14] H) fun x23 H =>
    purK (nilChkA x14) fun x25 =>
    purK (fieldAddrA P 313 x25 1) fun x26 =>
    purK (loadA (Cx E) H 4 x26) fun x27 =>
    purK (gPur (wantV x27 false) (some x23)) fun x29 =>
    purK (gPur (wantV x27 false) (fieldAddrA P 236 x5 0)) fun x30 =>
    purK (gPur (wantV x27 false) (loadA (Cx E) H 3 x30)) fun x31 =>
    purK (gPur (wantV x27 false) (binA P H .neq 3 x29 x31)) fun x32 =>
    purK (pickA x27 (.bool true) x32) fun x33 =>
    purK (gPur (wantV x33 false) (loadA (Cx E) H 236 x5)) fun x35 =>
    resK (gRes (wantV x33 false) H (E.call E.lim 216 [x35] H)) fun x36 H =>
    purK (gPur (wantV x33 false) (unA .not x36)) fun x37 =>
    purK (pickA x33 (.bool true) x37) fun x38 =>
    condK x38
    (
      purK (buildA P 236 []) fun x39 =>
      effK H ((storeA (Cx E) E.lim H 236 x2 x39).map skips) fun _ H =>
      (retC (Cx E) [some 236, none]) [x2, (.int .i64 4)] H)
    (
      purK (loadA (Cx E) H 236 x5) fun x40 =>
      effK H ((storeA (Cx E) E.lim H 236 x2 x40).map skips) fun _ H =>
      (retC (Cx E) [some 236, none]) [x2, (.int .i64 0)] H))
theorem G152 (E : LE) (x0 : AV) (H : Heap) : jj E 152 c152 [x0, (.tup []), (.tup []), (.tup []), (.tup []), (.tup []), (.tup []), (.tup []), (.tup []), (.tup []), (.tup []), (.tup []), (.tup []), (.tup []), (.tup []), (.tup []), (.tup []), (.tup []), (.tup []), (.tup []), (.tup []), (.tup []), (.tup []), (.tup []), (.tup []), (.tup []), (.tup []), (.tup []), (.tup []), (.tup []), (.tup []), (.tup []), (.tup []), (.tup []), (.tup []), (.tup []), (.tup []), (.tup []), (.tup []), (.tup []), (.tup [])] H (kk none (fun s H => (retC (Cx E) [some 236, none]) (([2, 3] : List Nat).map fun t => s.getD t (.tup [])) H) [] (retC (Cx E) [some 236, none]) [2, 3]) = L152 E x0 H := by kernel_rfl
theorem E152 (ρ : Addr → Option Value) (k lim : Nat) (x0 : AV) (H : Heap) : evCall (cx ρ) (k + 1) lim 152 [x0] H = L152 ⟨ρ, evCall (cx ρ) k, (evCY (cx ρ) k).2, lim, k⟩ x0 H := by
  rw [evCall_cells (cx ρ) k lim 152 _ H Tryz.f152 c152 [2, 3] [some 236, none] (by kernel_rfl) (by kernel_rfl) (by kernel_rfl) (by kernel_rfl) (by kernel_rfl) (by kernel_rfl)]
  have h := G152 ⟨ρ, evCall (cx ρ) k, (evCY (cx ρ) k).2, lim, k⟩ x0 H
  unfold jj at h
  exact h
-- slices.SortStableFunc[[]haycroft/api.Commit,haycroft/api.Commit]
noncomputable def c153 : Code := Code.of Tryz.prog 153
noncomputable def L153 (E : LE) (x0 x1 : AV) (H : Heap) : Res :=
  purK (lenBA (Cx E) H 234 x0) fun x6 =>
  resK (E.call E.lim 217 [x0, x6, x1] H) fun x8 H =>
  retK [] H
theorem G153 (E : LE) (x0 x1 : AV) (H : Heap) : jj E 153 c153 [x0, x1, (.tup []), (.tup []), (.tup []), (.tup []), (.tup []), (.tup []), (.tup [])] H (kk none (fun s H => retK (([] : List Nat).map fun t => s.getD t (.tup [])) H) [] retK []) = L153 E x0 x1 H := by kernel_rfl
theorem E153 (ρ : Addr → Option Value) (k lim : Nat) (x0 x1 : AV) (H : Heap) : evCall (cx ρ) (k + 1) lim 153 [x0, x1] H = L153 ⟨ρ, evCall (cx ρ) k, (evCY (cx ρ) k).2, lim, k⟩ x0 x1 H := by
  rw [evCall_body (cx ρ) k lim 153 _ H Tryz.f153 c153 [] (by kernel_rfl) (by kernel_rfl) (by kernel_rfl) (by kernel_rfl) (by kernel_rfl)]
  have h := G153 ⟨ρ, evCall (cx ρ) k, (evCY (cx ρ) k).2, lim, k⟩ x0 x1 H
  unfold jj at h
  exact h
-- haycroft/hlog.New
noncomputable def c159 : Code := Code.of Tryz.prog 159
noncomputable def L159 (E : LE) (x0 x1 : AV) (H : Heap) : Res :=
  effK H (boxA H 52 x0) fun x2 H =>
  purK (binA P H .eql 54 x1 .nilp) fun x13 =>
  condK x13
  (
    retK [.nilp, (.int .i64 2)] H)
  (
    purK (fieldAddrA P 52 x2 0) fun x15 =>
    purK (loadA (Cx E) H 3 x15) fun x16 =>
    purK (fieldAddrA P 52 x2 2) fun x17 =>
    purK (loadA (Cx E) H 3 x17) fun x18 =>
    resK (E.call E.lim 225 [x16, x18] H) fun x19 H =>
    purK (extA 0 x19) fun x20 =>
    purK (extA 1 x19) fun x21 =>
    purK (fieldAddrA P 52 x2 0) fun x23 =>
    purK (loadA (Cx E) H 3 x23) fun x24 =>
    purK (fieldAddrA P 52 x2 1) fun x25 =>
    purK (loadA (Cx E) H 3 x25) fun x26 =>
    resK (E.call E.lim 226 [x24, x26] H) fun x27 H =>
    purK (extA 0 x27) fun x28 =>
    purK (extA 1 x27) fun x29 =>
    purK (fieldAddrA P 52 x2 5) fun x31 =>
    purK (loadA (Cx E) H 3 x31) fun x32 =>
    resK (E.call E.lim 227 [x32] H) fun x33 H =>
    purK (extA 0 x33) fun x34 =>
    purK (extA 1 x33) fun x35 =>
    purK (binA P H .neq 28 x21 (.int .i64 0)) fun x37 =>
    purK (gPur (wantV x37 false) (some x29)) fun x39 =>
    purK (gPur (wantV x37 false) (binA P H .neq 28 x39 (.int .i64 0))) fun x40 =>
    purK (pickA x37 (.bool true) x40) fun x41 =>
    purK (gPur (wantV x41 false) (some x35)) fun x43 =>
    purK (gPur (wantV x41 false) (binA P H .neq 28 x43 (.int .i64 0))) fun x44 =>
    purK (pickA x41 (.bool true) x44) fun x45 =>
    condK x45
    (
      retK [.nilp, (.int .i64 1)] H)
    (
      resK (E.call E.lim 228 [] H) fun x48 H =>
      resK (E.call E.lim 229 [] H) fun x50 H =>
      effK H (some (makeMapA H)) fun x52 H =>
      effK H (some (makeMapA H)) fun x53 H =>
      purK (buildA P 153 [(0, x20), (1, x28), (2, x48), (3, x34), (4, x50), (5, x1), (6, x52), (7, x53)]) fun x54 =>
      effK H (boxA H 153 x54) fun x55 H =>
      resK (E.call E.lim 230 [x28, (.int .i64 0)] H) fun x57 H =>
      retK [x55, x57] H))
theorem G159 (E : LE) (x0 x1 : AV) (H : Heap) : jj E 159 c159 [x0, x1, (.tup []), (.tup []), (.tup []), (.tup []), (.tup []), (.tup []), (.tup []), (.tup []), (.tup []), (.tup []), (.tup []), (.tup []), (.tup []), (.tup []), (.tup []), (.tup []), (.tup []), (.tup []), (.tup []), (.tup []), (.tup []), (.tup []), (.tup []), (.tup []), (.tup []), (.tup []), (.tup []), (.tup []), (.tup []), (.tup []), (.tup []), (.tup []), (.tup []), (.tup []), (.tup []), (.tup []), (.tup []), (.tup []), (.tup []), (.tup []), (.tup []), (.tup []), (.tup []), (.tup []), (.tup []), (.tup []), (.tup []), (.tup []), (.tup []), (.tup []), (.tup []), (.tup []), (.tup []), (.tup []), (.tup []), (.tup [])] H (kk none (fun s H => retK (([4, 5] : List Nat).map fun t => s.getD t (.tup [])) H) [] retK [4, 5]) = L159 E x0 x1 H := by kernel_rfl
theorem E159 (ρ : Addr → Option Value) (k lim : Nat) (x0 x1 : AV) (H : Heap) : evCall (cx ρ) (k + 1) lim 159 [x0, x1] H = L159 ⟨ρ, evCall (cx ρ) k, (evCY (cx ρ) k).2, lim, k⟩ x0 x1 H := by
  rw [evCall_body (cx ρ) k lim 159 _ H Tryz.f159 c159 [4, 5] (by kernel_rfl) (by kernel_rfl) (by kernel_rfl) (by kernel_rfl) (by kernel_rfl)]
  have h := G159 ⟨ρ, evCall (cx ρ) k, (evCY (cx ρ) k).2, lim, k⟩ x0 x1 H
  unfold jj at h
  exact h
-- haycroft/index.New
noncomputable def c160 : Code := Code.of Tryz.prog 160
noncomputable def L160 (E : LE) (x0 x1 : AV) (H : Heap) : Res :=
  resK (E.call E.lim 91 [x0] H) fun x10 H =>
  purK (unA .not x10) fun x11 =>
  purK (gPur (wantV x11 false) (some x1)) fun x13 =>
  purK (gPur (wantV x11 false) (binA P H .lss 3 x13 (.int .i64 0))) fun x14 =>
  purK (pickA x11 (.bool true) x14) fun x15 =>
  purK (gPur (wantV x15 false) (some x1)) fun x17 =>
  purK (gPur (wantV x15 false) (binA P H .gtr 3 x17 (.int .i64 64))) fun x18 =>
  purK (pickA x15 (.bool true) x18) fun x19 =>
  condK x19
  (
    retK [.nilp, (.int .i64 1)] H)
  (
    purK (binA P H .add 3 x0 x1) fun x23 =>
    purK (binA P H .mul 3 x23 (.int .i64 8)) fun x24 =>
    resK (E.call E.lim 231 [x24] H) fun x25 H =>
    purK (extA 0 x25) fun x26 =>
    purK (extA 1 x25) fun x27 =>
    purK (binA P H .neq 28 x27 (.int .i64 0)) fun x29 =>
    condK x29
    (
      retK [.nilp, x27] H)
    (
      resK (E.call E.lim 231 [(.int .i64 1)] H) fun x32 H =>
      purK (extA 0 x32) fun x33 =>
      purK (extA 1 x32) fun x34 =>
      purK (binA P H .neq 28 x34 (.int .i64 0)) fun x36 =>
      condK x36
      (
        retK [.nilp, x34] H)
      (
        purK (buildA P 162 [(0, x0), (1, x1), (2, x26), (3, x33)]) fun x42 =>
        effK H (boxA H 162 x42) fun x43 H =>
        retK [x43, (.int .i64 0)] H)))
theorem G160 (E : LE) (x0 x1 : AV) (H : Heap) : jj E 160 c160 [x0, x1, (.tup []), (.tup []), (.tup []), (.tup []), (.tup []), (.tup []), (.tup []), (.tup []), (.tup []), (.tup []), (.tup []), (.tup []), (.tup []), (.tup []), (.tup []), (.tup []), (.tup []), (.tup []), (.tup []), (.tup []), (.tup []), (.tup []), (.tup []), (.tup []), (.tup []), (.tup []), (.tup []), (.tup []), (.tup []), (.tup []), (.tup []), (.tup []), (.tup []), (.tup []), (.tup []), (.tup []), (.tup []), (.tup []), (.tup []), (.tup []), (.tup []), (.tup [])] H (kk none (fun s H => retK (([4, 5] : List Nat).map fun t => s.getD t (.tup [])) H) [] retK [4, 5]) = L160 E x0 x1 H := by kernel_rfl
theorem E160 (ρ : Addr → Option Value) (k lim : Nat) (x0 x1 : AV) (H : Heap) : evCall (cx ρ) (k + 1) lim 160 [x0, x1] H = L160 ⟨ρ, evCall (cx ρ) k, (evCY (cx ρ) k).2, lim, k⟩ x0 x1 H := by
  rw [evCall_body (cx ρ) k lim 160 _ H Tryz.f160 c160 [4, 5] (by kernel_rfl) (by kernel_rfl) (by kernel_rfl) (by kernel_rfl) (by kernel_rfl)]
  have h := G160 ⟨ρ, evCall (cx ρ) k, (evCY (cx ρ) k).2, lim, k⟩ x0 x1 H
  unfold jj at h
  exact h
-- haycroft/session.New
noncomputable def c161 : Code := Code.of Tryz.prog 161
noncomputable def L161 (E : LE) (x0 x1 x2 : AV) (H : Heap) : Res :=
  purK (binA P H .eql 84 x0 .nilp) fun x10 =>
  purK (gPur (wantV x10 false) (some x1)) fun x12 =>
  purK (gPur (wantV x10 false) (binA P H .eql 95 x12 .nilp)) fun x13 =>
  purK (pickA x10 (.bool true) x13) fun x14 =>
  condK x14
  (
    retK [.nilp, (.int .i64 2)] H)
  (
    purK (binA P H .lss 3 x2 (.int .i64 0)) fun x17 =>
    purK (gPur (wantV x17 false) (some x2)) fun x19 =>
    purK (gPur (wantV x17 false) (binA P H .geq 3 x19 (.int .i64 8))) fun x20 =>
    purK (pickA x17 (.bool true) x20) fun x21 =>
    condK x21
    (
      retK [.nilp, (.int .i64 1)] H)
    (
      effK H (some (makeMapA H)) fun x25 H =>
      purK (buildA P 183 [(0, x0), (1, x1), (2, x2), (8, x25)]) fun x26 =>
      effK H (boxA H 183 x26) fun x27 H =>
      retK [x27, (.int .i64 0)] H))
theorem G161 (E : LE) (x0 x1 x2 : AV) (H : Heap) : jj E 161 c161 [x0, x1, x2, (.tup []), (.tup []), (.tup []), (.tup []), (.tup []), (.tup []), (.tup []), (.tup []), (.tup []), (.tup []), (.tup []), (.tup []), (.tup []), (.tup []), (.tup []), (.tup []), (.tup []), (.tup []), (.tup []), (.tup []), (.tup []), (.tup []), (.tup []), (.tup []), (.tup [])] H (kk none (fun s H => retK (([6, 7] : List Nat).map fun t => s.getD t (.tup [])) H) [] retK [6, 7]) = L161 E x0 x1 x2 H := by kernel_rfl
theorem E161 (ρ : Addr → Option Value) (k lim : Nat) (x0 x1 x2 : AV) (H : Heap) : evCall (cx ρ) (k + 1) lim 161 [x0, x1, x2] H = L161 ⟨ρ, evCall (cx ρ) k, (evCY (cx ρ) k).2, lim, k⟩ x0 x1 x2 H := by
  rw [evCall_body (cx ρ) k lim 161 _ H Tryz.f161 c161 [6, 7] (by kernel_rfl) (by kernel_rfl) (by kernel_rfl) (by kernel_rfl) (by kernel_rfl)]
  have h := G161 ⟨ρ, evCall (cx ρ) k, (evCY (cx ρ) k).2, lim, k⟩ x0 x1 x2 H
  unfold jj at h
  exact h
-- haycroft/task.New
noncomputable def c162 : Code := Code.of Tryz.prog 162
noncomputable def L162 (E : LE) (x0 x1 x2 x3 x4 : AV) (H : Heap) : Res :=
  effK H (boxA H 59 x3) fun x8 H =>
  purK (binA P H .eql 84 x0 .nilp) fun x14 =>
  purK (gPur (wantV x14 false) (some x1)) fun x16 =>
  purK (gPur (wantV x14 false) (binA P H .eql 95 x16 .nilp)) fun x17 =>
  purK (pickA x14 (.bool true) x17) fun x18 =>
  condK x18
  (
    retK [.nilp, (.int .i64 2)] H)
  (
    purK (loadA (Cx E) H 59 x8) fun x19 =>
    resK (E.call E.lim 232 [x19] H) fun x20 H =>
    purK (binA P H .neq 28 x20 (.int .i64 0)) fun x22 =>
    condK x22
    (
      retK [.nilp, x20] H)
    (
      purK (loadA (Cx E) H 59 x8) fun x27 =>
      purK (fieldAddrA P 59 x8 1) fun x28 =>
      purK (loadA (Cx E) H 9 x28) fun x29 =>
      resK (E.call E.lim 35 [x29] H) fun x30 H => bif (agn (loadA (Cx E) H 59 x8) x27 && true) then
        purK (buildA P 258 [(0, x0), (1, x1), (2, x2), (3, x27), (4, x30), (5, (.fn (.func 233) [] [])), (9, x4)]) fun x32 =>
        effK H (boxA H 258 x32) fun x33 H =>
        retK [x33, (.int .i64 0)] H
      else none))
theorem G162 (E : LE) (x0 x1 x2 x3 x4 : AV) (H : Heap) : jj E 162 c162 [x0, x1, x2, x3, x4, (.tup []), (.tup []), (.tup []), (.tup []), (.tup []), (.tup []), (.tup []), (.tup []), (.tup []), (.tup []), (.tup []), (.tup []), (.tup []), (.tup []), (.tup []), (.tup []), (.tup []), (.tup []), (.tup []), (.tup []), (.tup []), (.tup []), (.tup []), (.tup []), (.tup []), (.tup []), (.tup []), (.tup []), (.tup [])] H (kk none (fun s H => retK (([10, 11] : List Nat).map fun t => s.getD t (.tup [])) H) [] retK [10, 11]) = L162 E x0 x1 x2 x3 x4 H := by kernel_rfl
theorem E162 (ρ : Addr → Option Value) (k lim : Nat) (x0 x1 x2 x3 x4 : AV) (H : Heap) : evCall (cx ρ) (k + 1) lim 162 [x0, x1, x2, x3, x4] H = L162 ⟨ρ, evCall (cx ρ) k, (evCY (cx ρ) k).2, lim, k⟩ x0 x1 x2 x3 x4 H := by
  rw [evCall_body (cx ρ) k lim 162 _ H Tryz.f162 c162 [10, 11] (by kernel_rfl) (by kernel_rfl) (by kernel_rfl) (by kernel_rfl) (by kernel_rfl)]
  have h := G162 ⟨ρ, evCall (cx ρ) k, (evCY (cx ρ) k).2, lim, k⟩ x0 x1 x2 x3 x4 H
  unfold jj at h
  exact h
-- (*haycroft/task.Task).Outcome
noncomputable def c163 : Code := Code.of Tryz.prog 163
noncomputable def L163 (E : LE) (x0 : AV) (H : Heap) : Res :=
  effK H (allocA (Cx E) H 256) fun x2 H =>
  purK (binA P H .eql 185 x0 .nilp) fun x5 =>
  condK x5
  (
    purK (buildA P 256 []) fun x6 =>
    effK H ((storeA (Cx E) E.lim H 256 x2 x6).map skips) fun _ H =>
    (retC (Cx E) [some 256, none]) [x2, (.bool false)] H)
  (
    purK (nilChkA x0) fun x8 =>
    purK (fieldAddrA P 258 x8 18) fun x9 =>
    purK (loadA (Cx E) H 256 x9) fun x10 =>
    purK (nilChkA x0) fun x12 =>
    purK (fieldAddrA P 258 x12 17) fun x13 =>
    purK (loadA (Cx E) H 4 x13) fun x14 =>
    effK H ((storeA (Cx E) E.lim H 256 x2 x10).map skips) fun _ H => bif (agn (loadA (Cx E) H 4 x13) x14 && true) then
      (retC (Cx E) [some 256, none]) [x2, x14] H
    else none)
theorem G163 (E : LE) (x0 : AV) (H : Heap) : jj E 163 c163 [x0, (.tup []), (.tup []), (.tup []), (.tup []), (.tup []), (.tup []), (.tup []), (.tup []), (.tup []), (.tup []), (.tup []), (.tup []), (.tup []), (.tup [])] H (kk none (fun s H => (retC (Cx E) [some 256, none]) (([2, 3] : List Nat).map fun t => s.getD t (.tup [])) H) [] (retC (Cx E) [some 256, none]) [2, 3]) = L163 E x0 H := by kernel_rfl
theorem E163 (ρ : Addr → Option Value) (k lim : Nat) (x0 : AV) (H : Heap) : evCall (cx ρ) (k + 1) lim 163 [x0] H = L163 ⟨ρ, evCall (cx ρ) k, (evCY (cx ρ) k).2, lim, k⟩ x0 H := by
  rw [evCall_cells (cx ρ) k lim 163 _ H Tryz.f163 c163 [2, 3] [some 256, none] (by kernel_rfl) (by kernel_rfl) (by kernel_rfl) (by kernel_rfl) (by kernel_rfl) (by kernel_rfl)]
  have h := G163 ⟨ρ, evCall (cx ρ) k, (evCY (cx ρ) k).2, lim, k⟩ x0 H
  unfold jj at h
  exact h
-- (*haycroft/task.Task).Held
noncomputable def c164 : Code := Code.of Tryz.prog 164
noncomputable def L164 (E : LE) (x0 : AV) (H : Heap) : Res :=
  purK (binA P H .eql 185 x0 .nilp) fun x4 =>
  condK x4
  (
    retK [(.int .i64 0)] H)
  (
    purK (nilChkA x0) fun x6 =>
    purK (fieldAddrA P 258 x6 9) fun x7 =>
    purK (loadA (Cx E) H 3 x7) fun x8 =>
    retK [x8] H)
theorem G164 (E : LE) (x0 : AV) (H : Heap) : jj E 164 c164 [x0, (.tup []), (.tup []), (.tup []), (.tup []), (.tup []), (.tup []), (.tup []), (.tup [])] H (kk none (fun s H => retK (([2] : List Nat).map fun t => s.getD t (.tup [])) H) [] retK [2]) = L164 E x0 H := by kernel_rfl
theorem E164 (ρ : Addr → Option Value) (k lim : Nat) (x0 : AV) (H : Heap) : evCall (cx ρ) (k + 1) lim 164 [x0] H = L164 ⟨ρ, evCall (cx ρ) k, (evCY (cx ρ) k).2, lim, k⟩ x0 H := by
  rw [evCall_body (cx ρ) k lim 164 _ H Tryz.f164 c164 [2] (by kernel_rfl) (by kernel_rfl) (by kernel_rfl) (by kernel_rfl) (by kernel_rfl)]
  have h := G164 ⟨ρ, evCall (cx ρ) k, (evCY (cx ρ) k).2, lim, k⟩ x0 H
  unfold jj at h
  exact h
-- (*haycroft/task.Task).Lost
noncomputable def c165 : Code := Code.of Tryz.prog 165
noncomputable def L165 (E : LE) (x0 : AV) (H : Heap) : Res :=
  purK (binA P H .eql 185 x0 .nilp) fun x4 =>
  condK x4
  (
    retK [(.int .i64 0)] H)
  (
    purK (nilChkA x0) fun x6 =>
    purK (fieldAddrA P 258 x6 19) fun x7 =>
    purK (loadA (Cx E) H 3 x7) fun x8 =>
    retK [x8] H)
theorem G165 (E : LE) (x0 : AV) (H : Heap) : jj E 165 c165 [x0, (.tup []), (.tup []), (.tup []), (.tup []), (.tup []), (.tup []), (.tup []), (.tup [])] H (kk none (fun s H => retK (([2] : List Nat).map fun t => s.getD t (.tup [])) H) [] retK [2]) = L165 E x0 H := by kernel_rfl
theorem E165 (ρ : Addr → Option Value) (k lim : Nat) (x0 : AV) (H : Heap) : evCall (cx ρ) (k + 1) lim 165 [x0] H = L165 ⟨ρ, evCall (cx ρ) k, (evCY (cx ρ) k).2, lim, k⟩ x0 H := by
  rw [evCall_body (cx ρ) k lim 165 _ H Tryz.f165 c165 [2] (by kernel_rfl) (by kernel_rfl) (by kernel_rfl) (by kernel_rfl) (by kernel_rfl)]
  have h := G165 ⟨ρ, evCall (cx ρ) k, (evCY (cx ρ) k).2, lim, k⟩ x0 H
  unfold jj at h
  exact h
-- (*haycroft/epoch.Table).there
noncomputable def c166 : Code := Code.of Tryz.prog 166
noncomputable def L166 (E : LE) (x0 x1 : AV) (H : Heap) : Res :=
  purK (binA P H .neq 149 x0 .nilp) fun x6 =>
  purK (gPur (wantV x6 true) (some x1)) fun x8 =>
  purK (gPur (wantV x6 true) (binA P H .geq 3 x8 (.int .i64 0))) fun x9 =>
  purK (pickA x6 x9 (.bool false)) fun x10 =>
  purK (gPur (wantV x10 true) (some x1)) fun x12 =>
  purK (gPur (wantV x10 true) (some x0)) fun x13 =>
  purK (gPur (wantV x10 true) (nilChkA x13)) fun x14 =>
  purK (gPur (wantV x10 true) (fieldAddrA P 262 x14 0)) fun x15 =>
  purK (gPur (wantV x10 true) (loadA (Cx E) H 160 x15)) fun x16 =>
  resK (gRes (wantV x10 true) H (E.call E.lim 202 [x16] H)) fun x17 H =>
  purK (gPur (wantV x10 true) (binA P H .sub 3 x17 (.int .i64 1))) fun x18 =>
  purK (gPur (wantV x10 true) (binA P H .lss 3 x12 x18)) fun x19 =>
  purK (pickA x10 x19 (.bool false)) fun x20 =>
  retK [x20] H
theorem G166 (E : LE) (x0 x1 : AV) (H : Heap) : jj E 166 c166 [x0, x1, (.tup []), (.tup []), (.tup []), (.tup []), (.tup []), (.tup []), (.tup []), (.tup []), (.tup []), (.tup []), (.tup []), (.tup []), (.tup []), (.tup []), (.tup []), (.tup []), (.tup []), (.tup []), (.tup [])] H (kk none (fun s H => retK (([4] : List Nat).map fun t => s.getD t (.tup [])) H) [] retK [4]) = L166 E x0 x1 H := by kernel_rfl
theorem E166 (ρ : Addr → Option Value) (k lim : Nat) (x0 x1 : AV) (H : Heap) : evCall (cx ρ) (k + 1) lim 166 [x0, x1] H = L166 ⟨ρ, evCall (cx ρ) k, (evCY (cx ρ) k).2, lim, k⟩ x0 x1 H := by
  rw [evCall_body (cx ρ) k lim 166 _ H Tryz.f166 c166 [4] (by kernel_rfl) (by kernel_rfl) (by kernel_rfl) (by kernel_rfl) (by kernel_rfl)]
  have h := G166 ⟨ρ, evCall (cx ρ) k, (evCY (cx ρ) k).2, lim, k⟩ x0 x1 H
  unfold jj at h
  exact h
-- (*haycroft/epoch.Table).turn
noncomputable def c167 : Code := Code.of Tryz.prog 167
noncomputable def L167 (E : LE) (x0 x1 x2 x3 x4 : AV) (H : Heap) : Res :=
  purK (binA P H .eql 149 x0 .nilp) fun x13 =>
  condK x13
  (
    retK [(.int .i64 2)] H)
  (
    resK (E.call E.lim 166 [x0, x1] H) fun x17 H =>
    purK (unA .not x17) fun x18 =>
    condK x18
    (
      retK [(.int .i64 1)] H)
    (
      resK (E.call E.lim 100 [x0, x1] H) fun x23 H =>
      purK (binA P H .gtr 22 x23 (.int .u64 0)) fun x24 =>
      purK (binA P H .neq 4 x2 x24) fun x25 =>
      condK x25
      (
        retK [x4] H)
      (
        purK (nilChkA x0) fun x28 =>
        purK (fieldAddrA P 262 x28 0) fun x29 =>
        purK (loadA (Cx E) H 160 x29) fun x30 =>
        purK (binA P H .add 3 (.int .i64 1) x1) fun x32 =>
        resK (E.call E.lim 234 [x30, x32, x3] H) fun x34 H =>
        retK [x34] H)))
theorem G167 (E : LE) (x0 x1 x2 x3 x4 : AV) (H : Heap) : jj E 167 c167 [x0, x1, x2, x3, x4, (.tup []), (.tup []), (.tup []), (.tup []), (.tup []), (.tup []), (.tup []), (.tup []), (.tup []), (.tup []), (.tup []), (.tup []), (.tup []), (.tup []), (.tup []), (.tup []), (.tup []), (.tup []), (.tup []), (.tup []), (.tup []), (.tup []), (.tup []), (.tup []), (.tup []), (.tup []), (.tup []), (.tup []), (.tup []), (.tup [])] H (kk none (fun s H => retK (([10] : List Nat).map fun t => s.getD t (.tup [])) H) [] retK [10]) = L167 E x0 x1 x2 x3 x4 H := by kernel_rfl
theorem E167 (ρ : Addr → Option Value) (k lim : Nat) (x0 x1 x2 x3 x4 : AV) (H : Heap) : evCall (cx ρ) (k + 1) lim 167 [x0, x1, x2, x3, x4] H = L167 ⟨ρ, evCall (cx ρ) k, (evCY (cx ρ) k).2, lim, k⟩ x0 x1 x2 x3 x4 H := by
  rw [evCall_body (cx ρ) k lim 167 _ H Tryz.f167 c167 [10] (by kernel_rfl) (by kernel_rfl) (by kernel_rfl) (by kernel_rfl) (by kernel_rfl)]
  have h := G167 ⟨ρ, evCall (cx ρ) k, (evCY (cx ρ) k).2, lim, k⟩ x0 x1 x2 x3 x4 H
  unfold jj at h
  exact h
-- (*haycroft/epoch.Table).Now
noncomputable def c168 : Code := Code.of Tryz.prog 168
noncomputable def L168 (E : LE) (x0 : AV) (H : Heap) : Res :=
  purK (binA P H .eql 149 x0 .nilp) fun x4 =>
  condK x4
  (
    retK [(.int .u64 0)] H)
  (
    purK (nilChkA x0) fun x6 =>
    purK (fieldAddrA P 262 x6 0) fun x7 =>
    purK (loadA (Cx E) H 160 x7) fun x8 =>
    resK (E.call E.lim 84 [x8, (.int .i64 0)] H) fun x9 H =>
    retK [x9] H)
theorem G168 (E : LE) (x0 : AV) (H : Heap) : jj E 168 c168 [x0, (.tup []), (.tup []), (.tup []), (.tup []), (.tup []), (.tup []), (.tup []), (.tup []), (.tup [])] H (kk none (fun s H => retK (([2] : List Nat).map fun t => s.getD t (.tup [])) H) [] retK [2]) = L168 E x0 H := by kernel_rfl
theorem E168 (ρ : Addr → Option Value) (k lim : Nat) (x0 : AV) (H : Heap) : evCall (cx ρ) (k + 1) lim 168 [x0] H = L168 ⟨ρ, evCall (cx ρ) k, (evCY (cx ρ) k).2, lim, k⟩ x0 H := by
  rw [evCall_body (cx ρ) k lim 168 _ H Tryz.f168 c168 [2] (by kernel_rfl) (by kernel_rfl) (by kernel_rfl) (by kernel_rfl) (by kernel_rfl)]
  have h := G168 ⟨ρ, evCall (cx ρ) k, (evCY (cx ρ) k).2, lim, k⟩ x0 H
  unfold jj at h
  exact h
-- (*haycroft/drain.List).Ready
noncomputable def c170 : Code := Code.of Tryz.prog 170
noncomputable def N170_1_k (s : Slots) (H : Heap) (R : RK) (J : CodeF) : Res := J (Code.at [1, 1, 1, 1] c170) s H (kk none (fun s H => R (([4] : List Nat).map fun t => s.getD t (.tup [])) H) [] R [4])
noncomputable def N170_1 (E : LE) (x0 x5 x6 : AV) (H : Heap) (R : RK) : Res :=
  purK (nilChkA x0) fun x35_1 =>
  purK (fieldAddrA P 333 x35_1 0) fun x36_1 =>
  effK H ((storeA (Cx E) E.lim H 265 x36_1 x6).map skips) fun _ H =>
  R [x5] H
theorem N170_1_eq (E : LE) (x0 x5 x6 : AV) (H : Heap) (R : RK) : N170_1_k (sp 38 [(0, x0), (5, x5), (6, x6)]) H R (jj E 170) = N170_1 E x0 x5 x6 H R := by kernel_rfl
noncomputable def N170_2_k (s : Slots) (H : Heap) (kn : KS) (R : RK) (J : CodeF) : Res := J (Code.at [1, 1, 1, 0, 1] c170) s H (kk (some [0, 5, 6]) kn [] R [4])
noncomputable def N170_2b_k (s : Slots) (H : Heap) (kn k0 : KS) (R : RK) (J : CodeF) : Res := J (Code.at [1, 1, 1, 0, 1, 0, 0] c170) s H (kk (some [0, 1, 5, 6, 14, 15, 16]) kn [(0, (some [0, 5, 6]), k0)] R [4])
noncomputable def N170_3_k (s : Slots) (H : Heap) (kn k0 : KS) (R : RK) (J : CodeF) : Res := J (Code.at [1, 1, 1, 0, 1, 0, 0, 1, 1, 1] c170) s H (kk (some [0, 1, 5, 6, 14, 15, 16]) kn [(0, (some [0, 5, 6]), k0)] R [4])
noncomputable def N170_3 (E : LE) (x0 x1 x5 x6 x14 x15 x16 : AV) (H : Heap) (kn : AV → AV → AV → AV → AV → AV → AV → Heap → Res) : Res :=
  purK (binA P H .add 3 x16 (.int .i64 1)) fun x32_1 =>
  kn x0 x1 x5 x6 x14 x15 x32_1 H
theorem N170_3_eq (E : LE) (x0 x1 x5 x6 x14 x15 x16 : AV) (H : Heap) (kn k0 : KS) (R : RK) : N170_3_k (sp 38 [(0, x0), (1, x1), (5, x5), (6, x6), (14, x14), (15, x15), (16, x16)]) H kn k0 R (jj E 170) = N170_3 E x0 x1 x5 x6 x14 x15 x16 H (fun x0 x1 x5 x6 x14 x15 x16 H => kn (sp 38 [(0, x0), (1, x1), (5, x5), (6, x6), (14, x14), (15, x15), (16, x16)]) H) := by kernel_rfl
noncomputable def N170_2b (E : LE) (x0 x1 x5 x6 x14 x15 x16 : AV) (H : Heap) (kn : AV → AV → AV → AV → AV → AV → AV → Heap → Res) (k0 : AV → AV → AV → Heap → Res) : Res :=
  purK (binA P H .lss 3 x16 x15) fun x17_1 =>
  condK x17_1
  (
    purK (indexAddrA P 265 x14 x16) fun x18_1 =>
    purK (loadA (Cx E) H 268 x18_1) fun x19_1 =>
    effK H (allocA (Cx E) H 268) fun x8_1 H =>
    effK H ((storeA (Cx E) E.lim H 268 x8_1 x19_1).map skips) fun _ H =>
    purK (fieldAddrA P 268 x8_1 0) fun x20_1 =>
    purK (loadA (Cx E) H 22 x20_1) fun x21_1 =>
    purK (binA P H .leq 22 x21_1 x1) fun x23_1 =>
    condK x23_1
    (
      purK (loadA (Cx E) H 268 x8_1) fun x25_1 =>
      effK H (buildSliceA (Cx E) H 265 1 [(0, x25_1)]) fun x26_1 H =>
      effK H (builtinA (Cx E) E.lim H .append #[265, 265] [x5, x26_1]) fun x27_1 H =>
      N170_3 E x0 x1 x27_1 x6 x14 x15 x16 H kn)
    (
      purK (loadA (Cx E) H 268 x8_1) fun x29_1 =>
      effK H (buildSliceA (Cx E) H 265 1 [(0, x29_1)]) fun x30_1 H =>
      effK H (builtinA (Cx E) E.lim H .append #[265, 265] [x6, x30_1]) fun x31_1 H =>
      N170_3 E x0 x1 x5 x31_1 x14 x15 x16 H kn))
  (
    k0 x0 x5 x6 H)
theorem N170_2b_x (E : LE) (J : CodeF) (x0 x1 x5 x6 x14 x15 x16 : AV) (H : Heap) (kn k0 : KS) (R : RK) : N170_2b_k (sp 38 [(0, x0), (1, x1), (5, x5), (6, x6), (14, x14), (15, x15), (16, x16)]) H kn k0 R (jx E 170 J) =
  purK (binA P H .lss 3 x16 x15) fun x17_1 =>
  condK x17_1
  (
    purK (indexAddrA P 265 x14 x16) fun x18_1 =>
    purK (loadA (Cx E) H 268 x18_1) fun x19_1 =>
    effK H (allocA (Cx E) H 268) fun x8_1 H =>
    effK H ((storeA (Cx E) E.lim H 268 x8_1 x19_1).map skips) fun _ H =>
    purK (fieldAddrA P 268 x8_1 0) fun x20_1 =>
    purK (loadA (Cx E) H 22 x20_1) fun x21_1 =>
    purK (binA P H .leq 22 x21_1 x1) fun x23_1 =>
    condK x23_1
    (
      purK (loadA (Cx E) H 268 x8_1) fun x25_1 =>
      effK H (buildSliceA (Cx E) H 265 1 [(0, x25_1)]) fun x26_1 H =>
      effK H (builtinA (Cx E) E.lim H .append #[265, 265] [x5, x26_1]) fun x27_1 H =>
      N170_3_k (sp 38 [(0, x0), (1, x1), (5, x27_1), (6, x6), (14, x14), (15, x15), (16, x16)]) H kn k0 R J)
    (
      purK (loadA (Cx E) H 268 x8_1) fun x29_1 =>
      effK H (buildSliceA (Cx E) H 265 1 [(0, x29_1)]) fun x30_1 H =>
      effK H (builtinA (Cx E) E.lim H .append #[265, 265] [x6, x30_1]) fun x31_1 H =>
      N170_3_k (sp 38 [(0, x0), (1, x1), (5, x5), (6, x31_1), (14, x14), (15, x15), (16, x16)]) H kn k0 R J))
  (
    k0 (sp 38 [(0, x0), (5, x5), (6, x6)]) H) := by kernel_rfl
theorem N170_2b_eq (E : LE) (x0 x1 x5 x6 x14 x15 x16 : AV) (H : Heap) (kn k0 : KS) (R : RK) : N170_2b_k (sp 38 [(0, x0), (1, x1), (5, x5), (6, x6), (14, x14), (15, x15), (16, x16)]) H kn k0 R (jj E 170) = N170_2b E x0 x1 x5 x6 x14 x15 x16 H (fun x0 x1 x5 x6 x14 x15 x16 H => kn (sp 38 [(0, x0), (1, x1), (5, x5), (6, x6), (14, x14), (15, x15), (16, x16)]) H) (fun x0 x5 x6 H => k0 (sp 38 [(0, x0), (5, x5), (6, x6)]) H) := (jj_X E 170 _ _ H _).trans ((N170_2b_x E (jj E 170) x0 x1 x5 x6 x14 x15 x16 H kn k0 R).trans (by simp only [N170_2b, N170_3_eq]))
noncomputable def N170_2 (E : LE) (x0 x1 x5 x6 x14 x15 x16 : AV) (H : Heap) (kn : AV → AV → AV → Heap → Res) : Res :=
  loopL (fun (x : AV × AV × AV) H kl => N170_2b E x0 x1 x.1 x.2.1 x14 x15 x.2.2 H (fun _ _ x5 x6 _ _ x16 H => kl (x5, x6, x16) H) kn) E.k (x5, x6, x16) H
theorem N170_2_eq (E : LE) (x0 x1 x5 x6 x14 x15 x16 : AV) (H : Heap) (kn : KS) (R : RK) : N170_2_k (sp 38 [(0, x0), (1, x1), (5, x5), (6, x6), (14, x14), (15, x15), (16, x16)]) H kn R (jj E 170) = N170_2 E x0 x1 x5 x6 x14 x15 x16 H (fun x0 x5 x6 H => kn (sp 38 [(0, x0), (5, x5), (6, x6)]) H) := by
  have e : Code.at [1, 1, 1, 0, 1] c170 = Code.block 0 (Code.loop (Code.at [1, 1, 1, 0, 1, 0, 0] c170)) := by kernel_rfl
  unfold N170_2_k N170_2 jj
  rw [e]
  rw [block_kk]
  exact loop_node [0, 1, 5, 6, 14, 15, 16] (fun x : AV × AV × AV => (sp 38 [(0, x0), (1, x1), (5, (x.1)), (6, (x.2.1)), (14, x14), (15, x15), (16, (x.2.2))])) (fun (x : AV × AV × AV) H kl => N170_2b E x0 x1 x.1 x.2.1 x14 x15 x.2.2 H (fun _ _ x5 x6 _ _ x16 H => kl (x5, x6, x16) H) (fun x0 x5 x6 H => kn (sp 38 [(0, x0), (5, x5), (6, x6)]) H)) (by kernel_rfl) (fun x => by kernel_rfl) (fun x H kl => by
    have h := N170_2b_eq E x0 x1 (x.1) (x.2.1) x14 x15 (x.2.2) H kl kn R
    unfold N170_2b_k jj at h
    exact h) (x5, x6, x16) (sp 38 [(0, x0), (1, x1), (5, x5), (6, x6), (14, x14), (15, x15), (16, x16)]) H (by kernel_rfl)
noncomputable def L170 (E : LE) (x0 x1 : AV) (H : Heap) : Res :=
  purK (binA P H .eql 150 x0 .nilp) fun x10 =>
  condK x10
  (
    retK [.nils] H)
  (
    purK (nilChkA x0) fun x12 =>
    purK (fieldAddrA P 333 x12 0) fun x13 =>
    purK (loadA (Cx E) H 265 x13) fun x14 =>
    purK (lenBA (Cx E) H 265 x14) fun x15 =>
    N170_2 E x0 x1 .nils .nils x14 x15 (.int .i64 0) H (fun x0_1 x5 x6 H =>
      N170_1 E x0_1 x5 x6 H retK))
theorem L170_x (E : LE) (J : CodeF) (x0 x1 : AV) (H : Heap) : jx E 170 J c170 [x0, x1, (.tup []), (.tup []), (.tup []), (.tup []), (.tup []), (.tup []), (.tup []), (.tup []), (.tup []), (.tup []), (.tup []), (.tup []), (.tup []), (.tup []), (.tup []), (.tup []), (.tup []), (.tup []), (.tup []), (.tup []), (.tup []), (.tup []), (.tup []), (.tup []), (.tup []), (.tup []), (.tup []), (.tup []), (.tup []), (.tup []), (.tup []), (.tup []), (.tup []), (.tup []), (.tup []), (.tup [])] H (kk none (fun s H => retK (([4] : List Nat).map fun t => s.getD t (.tup [])) H) [] retK [4]) =
  purK (binA P H .eql 150 x0 .nilp) fun x10 =>
  condK x10
  (
    retK [.nils] H)
  (
    purK (nilChkA x0) fun x12 =>
    purK (fieldAddrA P 333 x12 0) fun x13 =>
    purK (loadA (Cx E) H 265 x13) fun x14 =>
    purK (lenBA (Cx E) H 265 x14) fun x15 =>
    N170_2_k (sp 38 [(0, x0), (1, x1), (5, .nils), (6, .nils), (14, x14), (15, x15), (16, (.int .i64 0))]) H (fun s H => N170_1_k s H retK J) retK J) := by kernel_rfl
theorem G170 (E : LE) (x0 x1 : AV) (H : Heap) : jj E 170 c170 [x0, x1, (.tup []), (.tup []), (.tup []), (.tup []), (.tup []), (.tup []), (.tup []), (.tup []), (.tup []), (.tup []), (.tup []), (.tup []), (.tup []), (.tup []), (.tup []), (.tup []), (.tup []), (.tup []), (.tup []), (.tup []), (.tup []), (.tup []), (.tup []), (.tup []), (.tup []), (.tup []), (.tup []), (.tup []), (.tup []), (.tup []), (.tup []), (.tup []), (.tup []), (.tup []), (.tup []), (.tup [])] H (kk none (fun s H => retK (([4] : List Nat).map fun t => s.getD t (.tup [])) H) [] retK [4]) = L170 E x0 x1 H := (jj_X E 170 _ _ H _).trans ((L170_x E (jj E 170) x0 x1 H).trans (by simp only [L170, N170_1_eq, N170_2_eq]))
theorem E170 (ρ : Addr → Option Value) (k lim : Nat) (x0 x1 : AV) (H : Heap) : evCall (cx ρ) (k + 1) lim 170 [x0, x1] H = L170 ⟨ρ, evCall (cx ρ) k, (evCY (cx ρ) k).2, lim, k⟩ x0 x1 H := by
  rw [evCall_body (cx ρ) k lim 170 _ H Tryz.f170 c170 [4] (by kernel_rfl) (by kernel_rfl) (by kernel_rfl) (by kernel_rfl) (by kernel_rfl)]
  have h := G170 ⟨ρ, evCall (cx ρ) k, (evCY (cx ρ) k).2, lim, k⟩ x0 x1 H
  unfold jj at h
  exact h
-- (*haycroft/epoch.Table).Safe
noncomputable def c171 : Code := Code.of Tryz.prog 171
noncomputable def N171_1_k (s : Slots) (H : Heap) (R : RK) (J : CodeF) : Res := J (Code.at [1, 1, 1, 1] c171) s H (kk none (fun s H => R (([2] : List Nat).map fun t => s.getD t (.tup [])) H) [] R [2])
noncomputable def N171_1 (E : LE) (x3 : AV) (H : Heap) (R : RK) : Res :=
  purK (binA P H .sub 22 x3 (.int .u64 1)) fun x24_1 =>
  R [x24_1] H
theorem N171_1_eq (E : LE) (x3 : AV) (H : Heap) (R : RK) : N171_1_k (sp 25 [(3, x3)]) H R (jj E 171) = N171_1 E x3 H R := by kernel_rfl
noncomputable def N171_2_k (s : Slots) (H : Heap) (kn : KS) (R : RK) (J : CodeF) : Res := J (Code.at [1, 1, 1, 0, 1] c171) s H (kk (some [3]) kn [] R [2])
noncomputable def N171_2b_k (s : Slots) (H : Heap) (kn k0 : KS) (R : RK) (J : CodeF) : Res := J (Code.at [1, 1, 1, 0, 1, 0, 0] c171) s H (kk (some [0, 3, 11, 12, 13]) kn [(0, (some [3]), k0)] R [2])
noncomputable def N171_2b (E : LE) (x0 x3 x11 x12 x13 : AV) (H : Heap) (kn : AV → AV → AV → AV → AV → Heap → Res) (k0 : AV → Heap → Res) : Res :=
  purK (binA P H .lss 3 x13 x12) fun x14_1 =>
  condK x14_1
  (
    purK (indexAddrA P 60 x11 x13) fun x15_1 =>
    purK (loadA (Cx E) H 3 x15_1) fun x16_1 =>
    resK (E.call E.lim 100 [x0, x16_1] H) fun x20_1 H =>
    purK (foldsA minA [x3, x20_1]) fun x21_1 =>
    purK (binA P H .add 3 x13 (.int .i64 1)) fun x22_1 =>
    kn x0 x21_1 x11 x12 x22_1 H)
  (
    k0 x3 H)
theorem N171_2b_eq (E : LE) (x0 x3 x11 x12 x13 : AV) (H : Heap) (kn k0 : KS) (R : RK) : N171_2b_k (sp 25 [(0, x0), (3, x3), (11, x11), (12, x12), (13, x13)]) H kn k0 R (jj E 171) = N171_2b E x0 x3 x11 x12 x13 H (fun x0 x3 x11 x12 x13 H => kn (sp 25 [(0, x0), (3, x3), (11, x11), (12, x12), (13, x13)]) H) (fun x3 H => k0 (sp 25 [(3, x3)]) H) := by kernel_rfl
noncomputable def N171_2 (E : LE) (x0 x3 x11 x12 x13 : AV) (H : Heap) (kn : AV → Heap → Res) : Res :=
  loopL (fun (x : AV × AV) H kl => N171_2b E x0 x.1 x11 x12 x.2 H (fun _ x3 _ _ x13 H => kl (x3, x13) H) kn) E.k (x3, x13) H
theorem N171_2_eq (E : LE) (x0 x3 x11 x12 x13 : AV) (H : Heap) (kn : KS) (R : RK) : N171_2_k (sp 25 [(0, x0), (3, x3), (11, x11), (12, x12), (13, x13)]) H kn R (jj E 171) = N171_2 E x0 x3 x11 x12 x13 H (fun x3 H => kn (sp 25 [(3, x3)]) H) := by
  have e : Code.at [1, 1, 1, 0, 1] c171 = Code.block 0 (Code.loop (Code.at [1, 1, 1, 0, 1, 0, 0] c171)) := by kernel_rfl
  unfold N171_2_k N171_2 jj
  rw [e]
  rw [block_kk]
  exact loop_node [0, 3, 11, 12, 13] (fun x : AV × AV => (sp 25 [(0, x0), (3, (x.1)), (11, x11), (12, x12), (13, (x.2))])) (fun (x : AV × AV) H kl => N171_2b E x0 x.1 x11 x12 x.2 H (fun _ x3 _ _ x13 H => kl (x3, x13) H) (fun x3 H => kn (sp 25 [(3, x3)]) H)) (by kernel_rfl) (fun x => by kernel_rfl) (fun x H kl => by
    have h := N171_2b_eq E x0 (x.1) x11 x12 (x.2) H kl kn R
    unfold N171_2b_k jj at h
    exact h) (x3, x13) (sp 25 [(0, x0), (3, x3), (11, x11), (12, x12), (13, x13)]) H (by kernel_rfl)
noncomputable def L171 (E : LE) (x0 : AV) (H : Heap) : Res :=
  purK (binA P H .eql 149 x0 .nilp) fun x7 =>
  condK x7
  (
    retK [(.int .u64 0)] H)
  (
    resK (E.call E.lim 168 [x0] H) fun x9 H =>
    resK (E.call E.lim 235 [x0] H) fun x11 H =>
    purK (lenBA (Cx E) H 60 x11) fun x12 =>
    N171_2 E x0 x9 x11 x12 (.int .i64 0) H (fun x3 H =>
      N171_1 E x3 H retK))
theorem L171_x (E : LE) (J : CodeF) (x0 : AV) (H : Heap) : jx E 171 J c171 [x0, (.tup []), (.tup []), (.tup []), (.tup []), (.tup []), (.tup []), (.tup []), (.tup []), (.tup []), (.tup []), (.tup []), (.tup []), (.tup []), (.tup []), (.tup []), (.tup []), (.tup []), (.tup []), (.tup []), (.tup []), (.tup []), (.tup []), (.tup []), (.tup [])] H (kk none (fun s H => retK (([2] : List Nat).map fun t => s.getD t (.tup [])) H) [] retK [2]) =
  purK (binA P H .eql 149 x0 .nilp) fun x7 =>
  condK x7
  (
    retK [(.int .u64 0)] H)
  (
    resK (E.call E.lim 168 [x0] H) fun x9 H =>
    resK (E.call E.lim 235 [x0] H) fun x11 H =>
    purK (lenBA (Cx E) H 60 x11) fun x12 =>
    N171_2_k (sp 25 [(0, x0), (3, x9), (11, x11), (12, x12), (13, (.int .i64 0))]) H (fun s H => N171_1_k s H retK J) retK J) := by kernel_rfl
theorem G171 (E : LE) (x0 : AV) (H : Heap) : jj E 171 c171 [x0, (.tup []), (.tup []), (.tup []), (.tup []), (.tup []), (.tup []), (.tup []), (.tup []), (.tup []), (.tup []), (.tup []), (.tup []), (.tup []), (.tup []), (.tup []), (.tup []), (.tup []), (.tup []), (.tup []), (.tup []), (.tup []), (.tup []), (.tup []), (.tup [])] H (kk none (fun s H => retK (([2] : List Nat).map fun t => s.getD t (.tup [])) H) [] retK [2]) = L171 E x0 H := (jj_X E 171 _ _ H _).trans ((L171_x E (jj E 171) x0 H).trans (by simp only [L171, N171_1_eq, N171_2_eq]))
theorem E171 (ρ : Addr → Option Value) (k lim : Nat) (x0 : AV) (H : Heap) : evCall (cx ρ) (k + 1) lim 171 [x0] H = L171 ⟨ρ, evCall (cx ρ) k, (evCY (cx ρ) k).2, lim, k⟩ x0 H := by
  rw [evCall_body (cx ρ) k lim 171 _ H Tryz.f171 c171 [2] (by kernel_rfl) (by kernel_rfl) (by kernel_rfl) (by kernel_rfl) (by kernel_rfl)]
  have h := G171 ⟨ρ, evCall (cx ρ) k, (evCY (cx ρ) k).2, lim, k⟩ x0 H
  unfold jj at h
  exact h
-- haycroft/marks.there
noncomputable def c181 : Code := Code.of Tryz.prog 181
noncomputable def L181 (E : LE) (x0 : AV) (H : Heap) : Res :=
  purK (binA P H .geq 3 x0 (.int .i64 0)) fun x4 =>
  purK (gPur (wantV x4 true) (some x0)) fun x6 =>
  purK (gPur (wantV x4 true) (binA P H .lss 3 x6 (.int .i64 5))) fun x7 =>
  purK (pickA x4 x7 (.bool false)) fun x8 =>
  retK [x8] H
theorem G181 (E : LE) (x0 : AV) (H : Heap) : jj E 181 c181 [x0, (.tup []), (.tup []), (.tup []), (.tup []), (.tup []), (.tup []), (.tup []), (.tup [])] H (kk none (fun s H => retK (([2] : List Nat).map fun t => s.getD t (.tup [])) H) [] retK [2]) = L181 E x0 H := by kernel_rfl
theorem E181 (ρ : Addr → Option Value) (k lim : Nat) (x0 : AV) (H : Heap) : evCall (cx ρ) (k + 1) lim 181 [x0] H = L181 ⟨ρ, evCall (cx ρ) k, (evCY (cx ρ) k).2, lim, k⟩ x0 H := by
  rw [evCall_body (cx ρ) k lim 181 _ H Tryz.f181 c181 [2] (by kernel_rfl) (by kernel_rfl) (by kernel_rfl) (by kernel_rfl) (by kernel_rfl)]
  have h := G181 ⟨ρ, evCall (cx ρ) k, (evCY (cx ρ) k).2, lim, k⟩ x0 H
  unfold jj at h
  exact h
-- haycroft/pages.mark
noncomputable def c200 : Code := Code.of Tryz.prog 200
noncomputable def L200 (E : LE) (x0 : AV) (H : Heap) : Res :=
  purK (convXA (Cx E) H 3 22 x0) fun x4 =>
  purK (binA P H .add 22 x4 (.int .u64 1)) fun x5 =>
  retK [x5] H
theorem G200 (E : LE) (x0 : AV) (H : Heap) : jj E 200 c200 [x0, (.tup []), (.tup []), (.tup []), (.tup []), (.tup [])] H (kk none (fun s H => retK (([2] : List Nat).map fun t => s.getD t (.tup [])) H) [] retK [2]) = L200 E x0 H := by kernel_rfl
theorem E200 (ρ : Addr → Option Value) (k lim : Nat) (x0 : AV) (H : Heap) : evCall (cx ρ) (k + 1) lim 200 [x0] H = L200 ⟨ρ, evCall (cx ρ) k, (evCY (cx ρ) k).2, lim, k⟩ x0 H := by
  rw [evCall_body (cx ρ) k lim 200 _ H Tryz.f200 c200 [2] (by kernel_rfl) (by kernel_rfl) (by kernel_rfl) (by kernel_rfl) (by kernel_rfl)]
  have h := G200 ⟨ρ, evCall (cx ρ) k, (evCY (cx ρ) k).2, lim, k⟩ x0 H
  unfold jj at h
  exact h
-- (*haycroft/cell.Row).within
noncomputable def c201 : Code := Code.of Tryz.prog 201
noncomputable def N201_1_k (s : Slots) (H : Heap) (R : RK) (J : CodeF) : Res := J (Code.at [1, 1] c201) s H (kk none (fun s H => R (([6] : List Nat).map fun t => s.getD t (.tup [])) H) [] R [6])
noncomputable def N201_1 (E : LE) (H : Heap) (R : RK) : Res :=
  R [(.int .i64 0)] H
theorem N201_1_eq (E : LE) (H : Heap) (R : RK) : N201_1_k (sp 25 []) H R (jj E 201) = N201_1 E H R := by kernel_rfl
noncomputable def N201_2_k (s : Slots) (H : Heap) (kn k0 : KS) (R : RK) (J : CodeF) : Res := J (Code.at [1, 0, 0, 1, 1, 1] c201) s H (kk (some []) kn [(0, (some []), k0)] R [6])
noncomputable def N201_2 (E : LE) (x10 : AV) (H : Heap) (kn : Heap → Res) (R : RK) : Res :=
  condK x10
  (
    R [(.int .i64 1)] H)
  (
    kn H)
theorem N201_2_eq (E : LE) (x10 : AV) (H : Heap) (kn k0 : KS) (R : RK) : N201_2_k (sp 25 [(10, x10)]) H kn k0 R (jj E 201) = N201_2 E x10 H (fun H => kn (sp 25 []) H) R := by kernel_rfl
noncomputable def L201 (E : LE) (x0 x1 x2 : AV) (H : Heap) : Res :=
  purK (binA P H .eql 160 x0 .nilp) fun x9 =>
  condK x9
  (
    retK [(.int .i64 2)] H)
  (
    purK (binA P H .lss 3 x2 (.int .i64 0)) fun x12 =>
    condK x12
    (
      N201_2 E x12 H (fun H =>
        N201_1 E H retK) retK)
    (
      purK (binA P H .lss 3 x1 (.int .i64 0)) fun x14 =>
      condK x14
      (
        N201_2 E x14 H (fun H =>
          N201_1 E H retK) retK)
      (
        resK (E.call E.lim 202 [x0] H) fun x17 H =>
        purK (binA P H .gtr 3 x2 x17) fun x18 =>
        condK x18
        (
          N201_2 E x18 H (fun H =>
            N201_1 E H retK) retK)
        (
          resK (E.call E.lim 202 [x0] H) fun x21 H =>
          purK (binA P H .sub 3 x21 x2) fun x23 =>
          purK (binA P H .gtr 3 x1 x23) fun x24 =>
          N201_2 E x24 H (fun H =>
            N201_1 E H retK) retK))))
theorem L201_x (E : LE) (J : CodeF) (x0 x1 x2 : AV) (H : Heap) : jx E 201 J c201 [x0, x1, x2, (.tup []), (.tup []), (.tup []), (.tup []), (.tup []), (.tup []), (.tup []), (.tup []), (.tup []), (.tup []), (.tup []), (.tup []), (.tup []), (.tup []), (.tup []), (.tup []), (.tup []), (.tup []), (.tup []), (.tup []), (.tup []), (.tup [])] H (kk none (fun s H => retK (([6] : List Nat).map fun t => s.getD t (.tup [])) H) [] retK [6]) =
  purK (binA P H .eql 160 x0 .nilp) fun x9 =>
  condK x9
  (
    retK [(.int .i64 2)] H)
  (
    purK (binA P H .lss 3 x2 (.int .i64 0)) fun x12 =>
    condK x12
    (
      N201_2_k (sp 25 [(10, x12)]) H (fun s H => N201_1_k s H retK J) (fun s H => N201_1_k s H retK J) retK J)
    (
      purK (binA P H .lss 3 x1 (.int .i64 0)) fun x14 =>
      condK x14
      (
        N201_2_k (sp 25 [(10, x14)]) H (fun s H => N201_1_k s H retK J) (fun s H => N201_1_k s H retK J) retK J)
      (
        resK (E.call E.lim 202 [x0] H) fun x17 H =>
        purK (binA P H .gtr 3 x2 x17) fun x18 =>
        condK x18
        (
          N201_2_k (sp 25 [(10, x18)]) H (fun s H => N201_1_k s H retK J) (fun s H => N201_1_k s H retK J) retK J)
        (
          resK (E.call E.lim 202 [x0] H) fun x21 H =>
          purK (binA P H .sub 3 x21 x2) fun x23 =>
          purK (binA P H .gtr 3 x1 x23) fun x24 =>
          N201_2_k (sp 25 [(10, x24)]) H (fun s H => N201_1_k s H retK J) (fun s H => N201_1_k s H retK J) retK J)))) := by kernel_rfl
theorem G201 (E : LE) (x0 x1 x2 : AV) (H : Heap) : jj E 201 c201 [x0, x1, x2, (.tup []), (.tup []), (.tup []), (.tup []), (.tup []), (.tup []), (.tup []), (.tup []), (.tup []), (.tup []), (.tup []), (.tup []), (.tup []), (.tup []), (.tup []), (.tup []), (.tup []), (.tup []), (.tup []), (.tup []), (.tup []), (.tup [])] H (kk none (fun s H => retK (([6] : List Nat).map fun t => s.getD t (.tup [])) H) [] retK [6]) = L201 E x0 x1 x2 H := (jj_X E 201 _ _ H _).trans ((L201_x E (jj E 201) x0 x1 x2 H).trans (by simp only [L201, N201_1_eq, N201_2_eq]))
theorem E201 (ρ : Addr → Option Value) (k lim : Nat) (x0 x1 x2 : AV) (H : Heap) : evCall (cx ρ) (k + 1) lim 201 [x0, x1, x2] H = L201 ⟨ρ, evCall (cx ρ) k, (evCY (cx ρ) k).2, lim, k⟩ x0 x1 x2 H := by
  rw [evCall_body (cx ρ) k lim 201 _ H Tryz.f201 c201 [6] (by kernel_rfl) (by kernel_rfl) (by kernel_rfl) (by kernel_rfl) (by kernel_rfl)]
  have h := G201 ⟨ρ, evCall (cx ρ) k, (evCY (cx ρ) k).2, lim, k⟩ x0 x1 x2 H
  unfold jj at h
  exact h
-- (*haycroft/cell.Row).Len
noncomputable def c202 : Code := Code.of Tryz.prog 202
noncomputable def L202 (E : LE) (x0 : AV) (H : Heap) : Res :=
  purK (binA P H .eql 160 x0 .nilp) fun x4 =>
  condK x4
  (
    retK [(.int .i64 0)] H)
  (
    purK (nilChkA x0) fun x6 =>
    purK (fieldAddrA P 232 x6 0) fun x7 =>
    purK (loadA (Cx E) H 228 x7) fun x8 =>
    purK (lenBA (Cx E) H 228 x8) fun x9 =>
    retK [x9] H)
theorem G202 (E : LE) (x0 : AV) (H : Heap) : jj E 202 c202 [x0, (.tup []), (.tup []), (.tup []), (.tup []), (.tup []), (.tup []), (.tup []), (.tup []), (.tup [])] H (kk none (fun s H => retK (([2] : List Nat).map fun t => s.getD t (.tup [])) H) [] retK [2]) = L202 E x0 H := by kernel_rfl
theorem E202 (ρ : Addr → Option Value) (k lim : Nat) (x0 : AV) (H : Heap) : evCall (cx ρ) (k + 1) lim 202 [x0] H = L202 ⟨ρ, evCall (cx ρ) k, (evCY (cx ρ) k).2, lim, k⟩ x0 H := by
  rw [evCall_body (cx ρ) k lim 202 _ H Tryz.f202 c202 [2] (by kernel_rfl) (by kernel_rfl) (by kernel_rfl) (by kernel_rfl) (by kernel_rfl)]
  have h := G202 ⟨ρ, evCall (cx ρ) k, (evCY (cx ρ) k).2, lim, k⟩ x0 H
  unfold jj at h
  exact h
-- haycroft/field.Spread
noncomputable def c205 : Code := Code.of Tryz.prog 205
noncomputable def N205_1_k (s : Slots) (H : Heap) (R : RK) (J : CodeF) : Res := J (Code.at [1, 1, 1, 1, 1] c205) s H (kk none (fun s H => R (([4, 5] : List Nat).map fun t => s.getD t (.tup [])) H) [] R [4, 5])
noncomputable def N205_1 (E : LE) (x6 : AV) (H : Heap) (R : RK) : Res :=
  R [x6, (.int .i64 0)] H
theorem N205_1_eq (E : LE) (x6 : AV) (H : Heap) (R : RK) : N205_1_k (sp 31 [(6, x6)]) H R (jj E 205) = N205_1 E x6 H R := by kernel_rfl
noncomputable def N205_2_k (s : Slots) (H : Heap) (kn : KS) (R : RK) (J : CodeF) : Res := J (Code.at [1, 1, 1, 1, 0, 1] c205) s H (kk (some [6]) kn [] R [4, 5])
noncomputable def N205_2b_k (s : Slots) (H : Heap) (kn k0 : KS) (R : RK) (J : CodeF) : Res := J (Code.at [1, 1, 1, 1, 0, 1, 0, 0] c205) s H (kk (some [0, 6, 7, 13, 14, 15]) kn [(0, (some [6]), k0)] R [4, 5])
noncomputable def N205_2b (E : LE) (x0 x6 x7 x13 x14 x15 : AV) (H : Heap) (kn : AV → AV → AV → AV → AV → AV → Heap → Res) (k0 : AV → Heap → Res) : Res :=
  purK (binA P H .lss 3 x15 x14) fun x16_1 =>
  condK x16_1
  (
    purK (indexAddrA P 60 x13 x15) fun x17_1 =>
    purK (loadA (Cx E) H 3 x17_1) fun x18_1 =>
    resK (E.call E.lim 86 [x0, x7, x18_1] H) fun x23_1 H =>
    effK H (buildSliceA (Cx E) H 31 1 [(0, x23_1)]) fun x24_1 H =>
    effK H (builtinA (Cx E) E.lim H .append #[31, 31] [x6, x24_1]) fun x25_1 H =>
    purK (binA P H .add 3 x7 x18_1) fun x28_1 =>
    purK (binA P H .add 3 x15 (.int .i64 1)) fun x29_1 =>
    kn x0 x25_1 x28_1 x13 x14 x29_1 H)
  (
    k0 x6 H)
theorem N205_2b_eq (E : LE) (x0 x6 x7 x13 x14 x15 : AV) (H : Heap) (kn k0 : KS) (R : RK) : N205_2b_k (sp 31 [(0, x0), (6, x6), (7, x7), (13, x13), (14, x14), (15, x15)]) H kn k0 R (jj E 205) = N205_2b E x0 x6 x7 x13 x14 x15 H (fun x0 x6 x7 x13 x14 x15 H => kn (sp 31 [(0, x0), (6, x6), (7, x7), (13, x13), (14, x14), (15, x15)]) H) (fun x6 H => k0 (sp 31 [(6, x6)]) H) := by kernel_rfl
noncomputable def N205_2 (E : LE) (x0 x6 x7 x13 x14 x15 : AV) (H : Heap) (kn : AV → Heap → Res) : Res :=
  loopL (fun (x : AV × AV × AV) H kl => N205_2b E x0 x.1 x.2.1 x13 x14 x.2.2 H (fun _ x6 x7 _ _ x15 H => kl (x6, x7, x15) H) kn) E.k (x6, x7, x15) H
theorem N205_2_eq (E : LE) (x0 x6 x7 x13 x14 x15 : AV) (H : Heap) (kn : KS) (R : RK) : N205_2_k (sp 31 [(0, x0), (6, x6), (7, x7), (13, x13), (14, x14), (15, x15)]) H kn R (jj E 205) = N205_2 E x0 x6 x7 x13 x14 x15 H (fun x6 H => kn (sp 31 [(6, x6)]) H) := by
  have e : Code.at [1, 1, 1, 1, 0, 1] c205 = Code.block 0 (Code.loop (Code.at [1, 1, 1, 1, 0, 1, 0, 0] c205)) := by kernel_rfl
  unfold N205_2_k N205_2 jj
  rw [e]
  rw [block_kk]
  exact loop_node [0, 6, 7, 13, 14, 15] (fun x : AV × AV × AV => (sp 31 [(0, x0), (6, (x.1)), (7, (x.2.1)), (13, x13), (14, x14), (15, (x.2.2))])) (fun (x : AV × AV × AV) H kl => N205_2b E x0 x.1 x.2.1 x13 x14 x.2.2 H (fun _ x6 x7 _ _ x15 H => kl (x6, x7, x15) H) (fun x6 H => kn (sp 31 [(6, x6)]) H)) (by kernel_rfl) (fun x => by kernel_rfl) (fun x H kl => by
    have h := N205_2b_eq E x0 (x.1) (x.2.1) x13 x14 (x.2.2) H kl kn R
    unfold N205_2b_k jj at h
    exact h) (x6, x7, x15) (sp 31 [(0, x0), (6, x6), (7, x7), (13, x13), (14, x14), (15, x15)]) H (by kernel_rfl)
noncomputable def L205 (E : LE) (x0 x1 : AV) (H : Heap) : Res :=
  resK (E.call E.lim 270 [x1] H) fun x11 H =>
  purK (unA .not x11) fun x12 =>
  condK x12
  (
    retK [.nils, (.int .i64 1)] H)
  (
    purK (lenBA (Cx E) H 60 x1) fun x14 =>
    N205_2 E x0 .nils (.int .i64 0) x1 x14 (.int .i64 0) H (fun x6 H =>
      N205_1 E x6 H retK))
theorem L205_x (E : LE) (J : CodeF) (x0 x1 : AV) (H : Heap) : jx E 205 J c205 [x0, x1, (.tup []), (.tup []), (.tup []), (.tup []), (.tup []), (.tup []), (.tup []), (.tup []), (.tup []), (.tup []), (.tup []), (.tup []), (.tup []), (.tup []), (.tup []), (.tup []), (.tup []), (.tup []), (.tup []), (.tup []), (.tup []), (.tup []), (.tup []), (.tup []), (.tup []), (.tup []), (.tup []), (.tup []), (.tup [])] H (kk none (fun s H => retK (([4, 5] : List Nat).map fun t => s.getD t (.tup [])) H) [] retK [4, 5]) =
  resK (E.call E.lim 270 [x1] H) fun x11 H =>
  purK (unA .not x11) fun x12 =>
  condK x12
  (
    retK [.nils, (.int .i64 1)] H)
  (
    purK (lenBA (Cx E) H 60 x1) fun x14 =>
    N205_2_k (sp 31 [(0, x0), (6, .nils), (7, (.int .i64 0)), (13, x1), (14, x14), (15, (.int .i64 0))]) H (fun s H => N205_1_k s H retK J) retK J) := by kernel_rfl
theorem G205 (E : LE) (x0 x1 : AV) (H : Heap) : jj E 205 c205 [x0, x1, (.tup []), (.tup []), (.tup []), (.tup []), (.tup []), (.tup []), (.tup []), (.tup []), (.tup []), (.tup []), (.tup []), (.tup []), (.tup []), (.tup []), (.tup []), (.tup []), (.tup []), (.tup []), (.tup []), (.tup []), (.tup []), (.tup []), (.tup []), (.tup []), (.tup []), (.tup []), (.tup []), (.tup []), (.tup [])] H (kk none (fun s H => retK (([4, 5] : List Nat).map fun t => s.getD t (.tup [])) H) [] retK [4, 5]) = L205 E x0 x1 H := (jj_X E 205 _ _ H _).trans ((L205_x E (jj E 205) x0 x1 H).trans (by simp only [L205, N205_1_eq, N205_2_eq]))
theorem E205 (ρ : Addr → Option Value) (k lim : Nat) (x0 x1 : AV) (H : Heap) : evCall (cx ρ) (k + 1) lim 205 [x0, x1] H = L205 ⟨ρ, evCall (cx ρ) k, (evCY (cx ρ) k).2, lim, k⟩ x0 x1 H := by
  rw [evCall_body (cx ρ) k lim 205 _ H Tryz.f205 c205 [4, 5] (by kernel_rfl) (by kernel_rfl) (by kernel_rfl) (by kernel_rfl) (by kernel_rfl)]
  have h := G205 ⟨ρ, evCall (cx ρ) k, (evCY (cx ρ) k).2, lim, k⟩ x0 x1 H
  unfold jj at h
  exact h
-- haycroft/field.Join
noncomputable def c206 : Code := Code.of Tryz.prog 206
noncomputable def N206_1_k (s : Slots) (H : Heap) (R : RK) (J : CodeF) : Res := J (Code.at [1, 1, 1, 1, 1] c206) s H (kk none (fun s H => R (([4, 5] : List Nat).map fun t => s.getD t (.tup [])) H) [] R [4, 5])
noncomputable def N206_1 (E : LE) (x6 : AV) (H : Heap) (R : RK) : Res :=
  R [x6, (.int .i64 0)] H
theorem N206_1_eq (E : LE) (x6 : AV) (H : Heap) (R : RK) : N206_1_k (sp 49 [(6, x6)]) H R (jj E 206) = N206_1 E x6 H R := by kernel_rfl
noncomputable def N206_2_k (s : Slots) (H : Heap) (kn : KS) (R : RK) (J : CodeF) : Res := J (Code.at [1, 1, 1, 1, 0, 1] c206) s H (kk (some [6]) kn [] R [4, 5])
noncomputable def N206_2b_k (s : Slots) (H : Heap) (kn k0 : KS) (R : RK) (J : CodeF) : Res := J (Code.at [1, 1, 1, 1, 0, 1, 0, 0] c206) s H (kk (some [0, 6, 7, 22, 23, 24]) kn [(0, (some [6]), k0)] R [4, 5])
noncomputable def N206_2b (E : LE) (x0 x6 x7 x22 x23 x24 : AV) (H : Heap) (kn : AV → AV → AV → AV → AV → AV → Heap → Res) (k0 : AV → Heap → Res) (R : RK) : Res :=
  purK (binA P H .lss 3 x24 x23) fun x25_1 =>
  condK x25_1
  (
    purK (indexAddrA P 60 x22 x24) fun x27_1 =>
    purK (loadA (Cx E) H 3 x27_1) fun x28_1 =>
    purK (indexAddrA P 31 x0 x24) fun x35_1 =>
    purK (loadA (Cx E) H 22 x35_1) fun x36_1 =>
    resK (E.call E.lim 271 [x6, x7, x28_1, x36_1] H) fun x37_1 H =>
    purK (extA 0 x37_1) fun x38_1 =>
    purK (extA 1 x37_1) fun x39_1 =>
    purK (binA P H .neq 28 x39_1 (.int .i64 0)) fun x41_1 =>
    condK x41_1
    (
      R [(.int .u64 0), x39_1] H)
    (
      purK (binA P H .add 3 x7 x28_1) fun x46_1 =>
      purK (binA P H .add 3 x24 (.int .i64 1)) fun x47_1 =>
      kn x0 x38_1 x46_1 x22 x23 x47_1 H))
  (
    k0 x6 H)
theorem N206_2b_eq (E : LE) (x0 x6 x7 x22 x23 x24 : AV) (H : Heap) (kn k0 : KS) (R : RK) : N206_2b_k (sp 49 [(0, x0), (6, x6), (7, x7), (22, x22), (23, x23), (24, x24)]) H kn k0 R (jj E 206) = N206_2b E x0 x6 x7 x22 x23 x24 H (fun x0 x6 x7 x22 x23 x24 H => kn (sp 49 [(0, x0), (6, x6), (7, x7), (22, x22), (23, x23), (24, x24)]) H) (fun x6 H => k0 (sp 49 [(6, x6)]) H) R := by kernel_rfl
noncomputable def N206_2 (E : LE) (x0 x6 x7 x22 x23 x24 : AV) (H : Heap) (kn : AV → Heap → Res) (R : RK) : Res :=
  loopL (fun (x : AV × AV × AV) H kl => N206_2b E x0 x.1 x.2.1 x22 x23 x.2.2 H (fun _ x6 x7 _ _ x24 H => kl (x6, x7, x24) H) kn R) E.k (x6, x7, x24) H
theorem N206_2_eq (E : LE) (x0 x6 x7 x22 x23 x24 : AV) (H : Heap) (kn : KS) (R : RK) : N206_2_k (sp 49 [(0, x0), (6, x6), (7, x7), (22, x22), (23, x23), (24, x24)]) H kn R (jj E 206) = N206_2 E x0 x6 x7 x22 x23 x24 H (fun x6 H => kn (sp 49 [(6, x6)]) H) R := by
  have e : Code.at [1, 1, 1, 1, 0, 1] c206 = Code.block 0 (Code.loop (Code.at [1, 1, 1, 1, 0, 1, 0, 0] c206)) := by kernel_rfl
  unfold N206_2_k N206_2 jj
  rw [e]
  rw [block_kk]
  exact loop_node [0, 6, 7, 22, 23, 24] (fun x : AV × AV × AV => (sp 49 [(0, x0), (6, (x.1)), (7, (x.2.1)), (22, x22), (23, x23), (24, (x.2.2))])) (fun (x : AV × AV × AV) H kl => N206_2b E x0 x.1 x.2.1 x22 x23 x.2.2 H (fun _ x6 x7 _ _ x24 H => kl (x6, x7, x24) H) (fun x6 H => kn (sp 49 [(6, x6)]) H) R) (by kernel_rfl) (fun x => by kernel_rfl) (fun x H kl => by
    have h := N206_2b_eq E x0 (x.1) (x.2.1) x22 x23 (x.2.2) H kl kn R
    unfold N206_2b_k jj at h
    exact h) (x6, x7, x24) (sp 49 [(0, x0), (6, x6), (7, x7), (22, x22), (23, x23), (24, x24)]) H (by kernel_rfl)
noncomputable def L206 (E : LE) (x0 x1 : AV) (H : Heap) : Res :=
  purK (lenBA (Cx E) H 31 x0) fun x13 =>
  purK (lenBA (Cx E) H 60 x1) fun x15 =>
  purK (binA P H .neq 3 x13 x15) fun x16 =>
  purK (gPur (wantV x16 false) (some x1)) fun x18 =>
  resK (gRes (wantV x16 false) H (E.call E.lim 270 [x18] H)) fun x19 H =>
  purK (gPur (wantV x16 false) (unA .not x19)) fun x20 =>
  purK (pickA x16 (.bool true) x20) fun x21 =>
  condK x21
  (
    retK [(.int .u64 0), (.int .i64 1)] H)
  (
    purK (lenBA (Cx E) H 60 x1) fun x23 =>
    N206_2 E x0 (.int .u64 0) (.int .i64 0) x1 x23 (.int .i64 0) H (fun x6 H =>
      N206_1 E x6 H retK) retK)
theorem L206_x (E : LE) (J : CodeF) (x0 x1 : AV) (H : Heap) : jx E 206 J c206 [x0, x1, (.tup []), (.tup []), (.tup []), (.tup []), (.tup []), (.tup []), (.tup []), (.tup []), (.tup []), (.tup []), (.tup []), (.tup []), (.tup []), (.tup []), (.tup []), (.tup []), (.tup []), (.tup []), (.tup []), (.tup []), (.tup []), (.tup []), (.tup []), (.tup []), (.tup []), (.tup []), (.tup []), (.tup []), (.tup []), (.tup []), (.tup []), (.tup []), (.tup []), (.tup []), (.tup []), (.tup []), (.tup []), (.tup []), (.tup []), (.tup []), (.tup []), (.tup []), (.tup []), (.tup []), (.tup []), (.tup []), (.tup [])] H (kk none (fun s H => retK (([4, 5] : List Nat).map fun t => s.getD t (.tup [])) H) [] retK [4, 5]) =
  purK (lenBA (Cx E) H 31 x0) fun x13 =>
  purK (lenBA (Cx E) H 60 x1) fun x15 =>
  purK (binA P H .neq 3 x13 x15) fun x16 =>
  purK (gPur (wantV x16 false) (some x1)) fun x18 =>
  resK (gRes (wantV x16 false) H (E.call E.lim 270 [x18] H)) fun x19 H =>
  purK (gPur (wantV x16 false) (unA .not x19)) fun x20 =>
  purK (pickA x16 (.bool true) x20) fun x21 =>
  condK x21
  (
    retK [(.int .u64 0), (.int .i64 1)] H)
  (
    purK (lenBA (Cx E) H 60 x1) fun x23 =>
    N206_2_k (sp 49 [(0, x0), (6, (.int .u64 0)), (7, (.int .i64 0)), (22, x1), (23, x23), (24, (.int .i64 0))]) H (fun s H => N206_1_k s H retK J) retK J) := by kernel_rfl
theorem G206 (E : LE) (x0 x1 : AV) (H : Heap) : jj E 206 c206 [x0, x1, (.tup []), (.tup []), (.tup []), (.tup []), (.tup []), (.tup []), (.tup []), (.tup []), (.tup []), (.tup []), (.tup []), (.tup []), (.tup []), (.tup []), (.tup []), (.tup []), (.tup []), (.tup []), (.tup []), (.tup []), (.tup []), (.tup []), (.tup []), (.tup []), (.tup []), (.tup []), (.tup []), (.tup []), (.tup []), (.tup []), (.tup []), (.tup []), (.tup []), (.tup []), (.tup []), (.tup []), (.tup []), (.tup []), (.tup []), (.tup []), (.tup []), (.tup []), (.tup []), (.tup []), (.tup []), (.tup []), (.tup [])] H (kk none (fun s H => retK (([4, 5] : List Nat).map fun t => s.getD t (.tup [])) H) [] retK [4, 5]) = L206 E x0 x1 H := (jj_X E 206 _ _ H _).trans ((L206_x E (jj E 206) x0 x1 H).trans (by simp only [L206, N206_1_eq, N206_2_eq]))
theorem E206 (ρ : Addr → Option Value) (k lim : Nat) (x0 x1 : AV) (H : Heap) : evCall (cx ρ) (k + 1) lim 206 [x0, x1] H = L206 ⟨ρ, evCall (cx ρ) k, (evCY (cx ρ) k).2, lim, k⟩ x0 x1 H := by
  rw [evCall_body (cx ρ) k lim 206 _ H Tryz.f206 c206 [4, 5] (by kernel_rfl) (by kernel_rfl) (by kernel_rfl) (by kernel_rfl) (by kernel_rfl)]
  have h := G206 ⟨ρ, evCall (cx ρ) k, (evCY (cx ρ) k).2, lim, k⟩ x0 x1 H
  unfold jj at h
  exact h
-- haycroft/header.bit
noncomputable def c207 : Code := Code.of Tryz.prog 207
noncomputable def L207 (E : LE) (x0 : AV) (H : Heap) : Res :=
  condK x0
  (
    retK [(.int .u64 1)] H)
  (
    retK [(.int .u64 0)] H)
theorem G207 (E : LE) (x0 : AV) (H : Heap) : jj E 207 c207 [x0, (.tup []), (.tup []), (.tup [])] H (kk none (fun s H => retK (([2] : List Nat).map fun t => s.getD t (.tup [])) H) [] retK [2]) = L207 E x0 H := by kernel_rfl
theorem E207 (ρ : Addr → Option Value) (k lim : Nat) (x0 : AV) (H : Heap) : evCall (cx ρ) (k + 1) lim 207 [x0] H = L207 ⟨ρ, evCall (cx ρ) k, (evCY (cx ρ) k).2, lim, k⟩ x0 H := by
  rw [evCall_body (cx ρ) k lim 207 _ H Tryz.f207 c207 [2] (by kernel_rfl) (by kernel_rfl) (by kernel_rfl) (by kernel_rfl) (by kernel_rfl)]
  have h := G207 ⟨ρ, evCall (cx ρ) k, (evCY (cx ρ) k).2, lim, k⟩ x0 H
  unfold jj at h
  exact h
-- slices.stableCmpFunc[haycroft/api.Commit]
noncomputable def c217 : Code := Code.of Tryz.prog 217
noncomputable def N217_1_k (s : Slots) (H : Heap) (R : RK) (J : CodeF) : Res := J (Code.at [1, 1] c217) s H (kk none (fun s H => R (([] : List Nat).map fun t => s.getD t (.tup [])) H) [] R [])
noncomputable def N217_2_k (s : Slots) (H : Heap) (R : RK) (J : CodeF) : Res := J (Code.at [1, 1, 1] c217) s H (kk none (fun s H => R (([] : List Nat).map fun t => s.getD t (.tup [])) H) [] R [])
noncomputable def N217_3_k (s : Slots) (H : Heap) (R : RK) (J : CodeF) : Res := J (Code.at [1, 1, 1, 1] c217) s H (kk none (fun s H => R (([] : List Nat).map fun t => s.getD t (.tup [])) H) [] R [])
noncomputable def N217_3b_k (s : Slots) (H : Heap) (kn : KS) (R : RK) (J : CodeF) : Res := J (Code.at [1, 1, 1, 1, 0, 0] c217) s H (kk (some [0, 1, 2, 6]) kn [(2, none, (fun s H => R (([] : List Nat).map fun t => s.getD t (.tup [])) H))] R [])
noncomputable def N217_4_k (s : Slots) (H : Heap) (kn k3 : KS) (R : RK) (J : CodeF) : Res := J (Code.at [1, 1, 1, 1, 0, 0, 1, 0, 1] c217) s H (kk (some [0, 1, 2, 6]) kn [(3, (some [0, 1, 2, 6]), k3), (2, none, (fun s H => R (([] : List Nat).map fun t => s.getD t (.tup [])) H))] R [])
noncomputable def N217_5_k (s : Slots) (H : Heap) (kn k3 : KS) (R : RK) (J : CodeF) : Res := J (Code.at [1, 1, 1, 1, 0, 0, 1, 0, 1, 1] c217) s H (kk (some [0, 1, 2, 6]) kn [(3, (some [0, 1, 2, 6]), k3), (2, none, (fun s H => R (([] : List Nat).map fun t => s.getD t (.tup [])) H))] R [])
noncomputable def N217_6_k (s : Slots) (H : Heap) (kn k3 : KS) (R : RK) (J : CodeF) : Res := J (Code.at [1, 1, 1, 1, 0, 0, 1, 0, 1, 1, 1] c217) s H (kk (some [0, 1, 2, 6]) kn [(3, (some [0, 1, 2, 6]), k3), (2, none, (fun s H => R (([] : List Nat).map fun t => s.getD t (.tup [])) H))] R [])
noncomputable def N217_6 (E : LE) (x0 x1 x2 x6 : AV) (H : Heap) (kn : AV → AV → AV → AV → Heap → Res) : Res :=
  purK (binA P H .mul 3 x6 (.int .i64 2)) fun x62_1 =>
  kn x0 x1 x2 x62_1 H
theorem N217_6_eq (E : LE) (x0 x1 x2 x6 : AV) (H : Heap) (kn k3 : KS) (R : RK) : N217_6_k (sp 63 [(0, x0), (1, x1), (2, x2), (6, x6)]) H kn k3 R (jj E 217) = N217_6 E x0 x1 x2 x6 H (fun x0 x1 x2 x6 H => kn (sp 63 [(0, x0), (1, x1), (2, x2), (6, x6)]) H) := by kernel_rfl
noncomputable def N217_5 (E : LE) (x0 x1 x2 x6 x7 : AV) (H : Heap) (kn : AV → AV → AV → AV → Heap → Res) : Res :=
  purK (binA P H .add 3 x7 x6) fun x51_1 =>
  purK (binA P H .lss 3 x51_1 x1) fun x54_1 =>
  condK x54_1
  (
    resK (E.call E.lim 275 [x0, x7, x51_1, x1, x2] H) fun x60_1 H =>
    N217_6 E x0 x1 x2 x6 H kn)
  (
    N217_6 E x0 x1 x2 x6 H kn)
theorem N217_5_x (E : LE) (J : CodeF) (x0 x1 x2 x6 x7 : AV) (H : Heap) (kn k3 : KS) (R : RK) : N217_5_k (sp 63 [(0, x0), (1, x1), (2, x2), (6, x6), (7, x7)]) H kn k3 R (jx E 217 J) =
  purK (binA P H .add 3 x7 x6) fun x51_1 =>
  purK (binA P H .lss 3 x51_1 x1) fun x54_1 =>
  condK x54_1
  (
    resK (E.call E.lim 275 [x0, x7, x51_1, x1, x2] H) fun x60_1 H =>
    N217_6_k (sp 63 [(0, x0), (1, x1), (2, x2), (6, x6)]) H kn k3 R J)
  (
    N217_6_k (sp 63 [(0, x0), (1, x1), (2, x2), (6, x6)]) H kn k3 R J) := by kernel_rfl
theorem N217_5_eq (E : LE) (x0 x1 x2 x6 x7 : AV) (H : Heap) (kn k3 : KS) (R : RK) : N217_5_k (sp 63 [(0, x0), (1, x1), (2, x2), (6, x6), (7, x7)]) H kn k3 R (jj E 217) = N217_5 E x0 x1 x2 x6 x7 H (fun x0 x1 x2 x6 H => kn (sp 63 [(0, x0), (1, x1), (2, x2), (6, x6)]) H) := (jj_X E 217 _ _ H _).trans ((N217_5_x E (jj E 217) x0 x1 x2 x6 x7 H kn k3 R).trans (by simp only [N217_5, N217_6_eq]))
noncomputable def N217_7_k (s : Slots) (H : Heap) (kn k4 k3 : KS) (R : RK) (J : CodeF) : Res := J (Code.at [1, 1, 1, 1, 0, 0, 1, 0, 1, 0, 0] c217) s H (kk (some [0, 1, 2, 6, 7]) kn [(4, (some [0, 1, 2, 6, 7]), k4), (3, (some [0, 1, 2, 6]), k3), (2, none, (fun s H => R (([] : List Nat).map fun t => s.getD t (.tup [])) H))] R [])
noncomputable def N217_7b_k (s : Slots) (H : Heap) (kn k4 k3 : KS) (R : RK) (J : CodeF) : Res := J (Code.at [1, 1, 1, 1, 0, 0, 1, 0, 1, 0, 0, 0] c217) s H (kk (some [0, 1, 2, 6, 7, 8]) kn [(4, (some [0, 1, 2, 6, 7]), k4), (3, (some [0, 1, 2, 6]), k3), (2, none, (fun s H => R (([] : List Nat).map fun t => s.getD t (.tup [])) H))] R [])
noncomputable def N217_7b (E : LE) (x0 x1 x2 x6 x7 x8 : AV) (H : Heap) (kn : AV → AV → AV → AV → AV → AV → Heap → Res) (k4 : AV → AV → AV → AV → AV → Heap → Res) : Res :=
  purK (binA P H .leq 3 x8 x1) fun x35_1 =>
  condK x35_1
  (
    purK (binA P H .add 3 x7 x6) fun x40_1 =>
    resK (E.call E.lim 275 [x0, x7, x40_1, x8, x2] H) fun x43_1 H =>
    purK (binA P H .mul 3 (.int .i64 2) x6) fun x47_1 =>
    purK (binA P H .add 3 x8 x47_1) fun x48_1 =>
    kn x0 x1 x2 x6 x8 x48_1 H)
  (
    k4 x0 x1 x2 x6 x7 H)
theorem N217_7b_eq (E : LE) (x0 x1 x2 x6 x7 x8 : AV) (H : Heap) (kn k4 k3 : KS) (R : RK) : N217_7b_k (sp 63 [(0, x0), (1, x1), (2, x2), (6, x6), (7, x7), (8, x8)]) H kn k4 k3 R (jj E 217) = N217_7b E x0 x1 x2 x6 x7 x8 H (fun x0 x1 x2 x6 x7 x8 H => kn (sp 63 [(0, x0), (1, x1), (2, x2), (6, x6), (7, x7), (8, x8)]) H) (fun x0 x1 x2 x6 x7 H => k4 (sp 63 [(0, x0), (1, x1), (2, x2), (6, x6), (7, x7)]) H) := by kernel_rfl
noncomputable def N217_7 (E : LE) (x0 x1 x2 x6 x7 x8 : AV) (H : Heap) (k4 : AV → AV → AV → AV → AV → Heap → Res) : Res :=
  loopL (fun (x : AV × AV) H kl => N217_7b E x0 x1 x2 x6 x.1 x.2 H (fun _ _ _ _ x7 x8 H => kl (x7, x8) H) k4) E.k (x7, x8) H
theorem N217_7_eq (E : LE) (x0 x1 x2 x6 x7 x8 : AV) (H : Heap) (kn k4 k3 : KS) (R : RK) : N217_7_k (sp 63 [(0, x0), (1, x1), (2, x2), (6, x6), (7, x7), (8, x8)]) H kn k4 k3 R (jj E 217) = N217_7 E x0 x1 x2 x6 x7 x8 H (fun x0 x1 x2 x6 x7 H => k4 (sp 63 [(0, x0), (1, x1), (2, x2), (6, x6), (7, x7)]) H) := by
  have e : Code.at [1, 1, 1, 1, 0, 0, 1, 0, 1, 0, 0] c217 = Code.loop (Code.at [1, 1, 1, 1, 0, 0, 1, 0, 1, 0, 0, 0] c217) := by kernel_rfl
  unfold N217_7_k N217_7 jj
  rw [e]
  exact loop_node [0, 1, 2, 6, 7, 8] (fun x : AV × AV => (sp 63 [(0, x0), (1, x1), (2, x2), (6, x6), (7, (x.1)), (8, (x.2))])) (fun (x : AV × AV) H kl => N217_7b E x0 x1 x2 x6 x.1 x.2 H (fun _ _ _ _ x7 x8 H => kl (x7, x8) H) (fun x0 x1 x2 x6 x7 H => k4 (sp 63 [(0, x0), (1, x1), (2, x2), (6, x6), (7, x7)]) H)) (by kernel_rfl) (fun x => by kernel_rfl) (fun x H kl => by
    have h := N217_7b_eq E x0 x1 x2 x6 (x.1) (x.2) H kl k4 k3 R
    unfold N217_7b_k jj at h
    exact h) (x7, x8) (sp 63 [(0, x0), (1, x1), (2, x2), (6, x6), (7, x7), (8, x8)]) H (by kernel_rfl)
noncomputable def N217_4 (E : LE) (x0 x1 x2 x6 x7 x8 : AV) (H : Heap) (kn : AV → AV → AV → AV → Heap → Res) : Res :=
  N217_7 E x0 x1 x2 x6 x7 x8 H (fun x0_1 x1_1 x2_1 x6_1 x7_1 H =>
    N217_5 E x0_1 x1_1 x2_1 x6_1 x7_1 H kn)
theorem N217_4_x (E : LE) (J : CodeF) (x0 x1 x2 x6 x7 x8 : AV) (H : Heap) (kn k3 : KS) (R : RK) : N217_4_k (sp 63 [(0, x0), (1, x1), (2, x2), (6, x6), (7, x7), (8, x8)]) H kn k3 R (jx E 217 J) =
  N217_7_k (sp 63 [(0, x0), (1, x1), (2, x2), (6, x6), (7, x7), (8, x8)]) H (fun s H => N217_5_k s H kn k3 R J) (fun s H => N217_5_k s H kn k3 R J) k3 R J := by kernel_rfl
theorem N217_4_eq (E : LE) (x0 x1 x2 x6 x7 x8 : AV) (H : Heap) (kn k3 : KS) (R : RK) : N217_4_k (sp 63 [(0, x0), (1, x1), (2, x2), (6, x6), (7, x7), (8, x8)]) H kn k3 R (jj E 217) = N217_4 E x0 x1 x2 x6 x7 x8 H (fun x0 x1 x2 x6 H => kn (sp 63 [(0, x0), (1, x1), (2, x2), (6, x6)]) H) := (jj_X E 217 _ _ H _).trans ((N217_4_x E (jj E 217) x0 x1 x2 x6 x7 x8 H kn k3 R).trans (by simp only [N217_4, N217_5_eq, N217_7_eq]))
noncomputable def N217_3b (E : LE) (x0 x1 x2 x6 : AV) (H : Heap) (kn : AV → AV → AV → AV → Heap → Res) (R : RK) : Res :=
  purK (binA P H .lss 3 x6 x1) fun x30_1 =>
  condK x30_1
  (
    purK (binA P H .mul 3 (.int .i64 2) x6) fun x32_1 =>
    N217_4 E x0 x1 x2 x6 (.int .i64 0) x32_1 H kn)
  (
    R [] H)
theorem N217_3b_x (E : LE) (J : CodeF) (x0 x1 x2 x6 : AV) (H : Heap) (kn : KS) (R : RK) : N217_3b_k (sp 63 [(0, x0), (1, x1), (2, x2), (6, x6)]) H kn R (jx E 217 J) =
  purK (binA P H .lss 3 x6 x1) fun x30_1 =>
  condK x30_1
  (
    purK (binA P H .mul 3 (.int .i64 2) x6) fun x32_1 =>
    N217_4_k (sp 63 [(0, x0), (1, x1), (2, x2), (6, x6), (7, (.int .i64 0)), (8, x32_1)]) H kn kn R J)
  (
    R [] H) := by kernel_rfl
theorem N217_3b_eq (E : LE) (x0 x1 x2 x6 : AV) (H : Heap) (kn : KS) (R : RK) : N217_3b_k (sp 63 [(0, x0), (1, x1), (2, x2), (6, x6)]) H kn R (jj E 217) = N217_3b E x0 x1 x2 x6 H (fun x0 x1 x2 x6 H => kn (sp 63 [(0, x0), (1, x1), (2, x2), (6, x6)]) H) R := (jj_X E 217 _ _ H _).trans ((N217_3b_x E (jj E 217) x0 x1 x2 x6 H kn R).trans (by simp only [N217_3b, N217_4_eq]))
noncomputable def N217_3 (E : LE) (x0 x1 x2 x6 : AV) (H : Heap) (R : RK) : Res :=
  loopL (fun (x : AV) H kl => N217_3b E x0 x1 x2 x H (fun _ _ _ x6 H => kl x6 H) R) E.k x6 H
theorem N217_3_eq (E : LE) (x0 x1 x2 x6 : AV) (H : Heap) (R : RK) : N217_3_k (sp 63 [(0, x0), (1, x1), (2, x2), (6, x6)]) H R (jj E 217) = N217_3 E x0 x1 x2 x6 H R := by
  have e : Code.at [1, 1, 1, 1] c217 = Code.block 2 (Code.loop (Code.at [1, 1, 1, 1, 0, 0] c217)) := by kernel_rfl
  unfold N217_3_k N217_3 jj
  rw [e]
  rw [block_kk]
  exact loop_node [0, 1, 2, 6] (fun x : AV => (sp 63 [(0, x0), (1, x1), (2, x2), (6, (x))])) (fun (x : AV) H kl => N217_3b E x0 x1 x2 x H (fun _ _ _ x6 H => kl x6 H) R) (by kernel_rfl) (fun x => by kernel_rfl) (fun x H kl => by
    have h := N217_3b_eq E x0 x1 x2 (x) H kl R
    unfold N217_3b_k jj at h
    exact h) x6 (sp 63 [(0, x0), (1, x1), (2, x2), (6, x6)]) H (by kernel_rfl)
noncomputable def N217_2 (E : LE) (x0 x1 x2 x6 x7 : AV) (H : Heap) (R : RK) : Res :=
  resK (E.call E.lim 274 [x0, x7, x1, x2] H) fun x27_1 H =>
  N217_3 E x0 x1 x2 x6 H R
theorem N217_2_x (E : LE) (J : CodeF) (x0 x1 x2 x6 x7 : AV) (H : Heap) (R : RK) : N217_2_k (sp 63 [(0, x0), (1, x1), (2, x2), (6, x6), (7, x7)]) H R (jx E 217 J) =
  resK (E.call E.lim 274 [x0, x7, x1, x2] H) fun x27_1 H =>
  N217_3_k (sp 63 [(0, x0), (1, x1), (2, x2), (6, x6)]) H R J := by kernel_rfl
theorem N217_2_eq (E : LE) (x0 x1 x2 x6 x7 : AV) (H : Heap) (R : RK) : N217_2_k (sp 63 [(0, x0), (1, x1), (2, x2), (6, x6), (7, x7)]) H R (jj E 217) = N217_2 E x0 x1 x2 x6 x7 H R := (jj_X E 217 _ _ H _).trans ((N217_2_x E (jj E 217) x0 x1 x2 x6 x7 H R).trans (by simp only [N217_2, N217_3_eq]))
noncomputable def N217_8_k (s : Slots) (H : Heap) (kn k0 : KS) (R : RK) (J : CodeF) : Res := J (Code.at [1, 1, 0, 0] c217) s H (kk (some [0, 1, 2, 6, 7]) kn [(0, (some [0, 1, 2, 6, 7]), k0)] R [])
noncomputable def N217_8b_k (s : Slots) (H : Heap) (kn k0 : KS) (R : RK) (J : CodeF) : Res := J (Code.at [1, 1, 0, 0, 0] c217) s H (kk (some [0, 1, 2, 6, 7, 8]) kn [(0, (some [0, 1, 2, 6, 7]), k0)] R [])
noncomputable def N217_8b (E : LE) (x0 x1 x2 x6 x7 x8 : AV) (H : Heap) (kn : AV → AV → AV → AV → AV → AV → Heap → Res) (k0 : AV → AV → AV → AV → AV → Heap → Res) : Res :=
  purK (binA P H .leq 3 x8 x1) fun x13_1 =>
  condK x13_1
  (
    resK (E.call E.lim 274 [x0, x7, x8, x2] H) fun x18_1 H =>
    purK (binA P H .add 3 x8 x6) fun x22_1 =>
    kn x0 x1 x2 x6 x8 x22_1 H)
  (
    k0 x0 x1 x2 x6 x7 H)
theorem N217_8b_eq (E : LE) (x0 x1 x2 x6 x7 x8 : AV) (H : Heap) (kn k0 : KS) (R : RK) : N217_8b_k (sp 63 [(0, x0), (1, x1), (2, x2), (6, x6), (7, x7), (8, x8)]) H kn k0 R (jj E 217) = N217_8b E x0 x1 x2 x6 x7 x8 H (fun x0 x1 x2 x6 x7 x8 H => kn (sp 63 [(0, x0), (1, x1), (2, x2), (6, x6), (7, x7), (8, x8)]) H) (fun x0 x1 x2 x6 x7 H => k0 (sp 63 [(0, x0), (1, x1), (2, x2), (6, x6), (7, x7)]) H) := by kernel_rfl
noncomputable def N217_8 (E : LE) (x0 x1 x2 x6 x7 x8 : AV) (H : Heap) (k0 : AV → AV → AV → AV → AV → Heap → Res) : Res :=
  loopL (fun (x : AV × AV) H kl => N217_8b E x0 x1 x2 x6 x.1 x.2 H (fun _ _ _ _ x7 x8 H => kl (x7, x8) H) k0) E.k (x7, x8) H
theorem N217_8_eq (E : LE) (x0 x1 x2 x6 x7 x8 : AV) (H : Heap) (kn k0 : KS) (R : RK) : N217_8_k (sp 63 [(0, x0), (1, x1), (2, x2), (6, x6), (7, x7), (8, x8)]) H kn k0 R (jj E 217) = N217_8 E x0 x1 x2 x6 x7 x8 H (fun x0 x1 x2 x6 x7 H => k0 (sp 63 [(0, x0), (1, x1), (2, x2), (6, x6), (7, x7)]) H) := by
  have e : Code.at [1, 1, 0, 0] c217 = Code.loop (Code.at [1, 1, 0, 0, 0] c217) := by kernel_rfl
  unfold N217_8_k N217_8 jj
  rw [e]
  exact loop_node [0, 1, 2, 6, 7, 8] (fun x : AV × AV => (sp 63 [(0, x0), (1, x1), (2, x2), (6, x6), (7, (x.1)), (8, (x.2))])) (fun (x : AV × AV) H kl => N217_8b E x0 x1 x2 x6 x.1 x.2 H (fun _ _ _ _ x7 x8 H => kl (x7, x8) H) (fun x0 x1 x2 x6 x7 H => k0 (sp 63 [(0, x0), (1, x1), (2, x2), (6, x6), (7, x7)]) H)) (by kernel_rfl) (fun x => by kernel_rfl) (fun x H kl => by
    have h := N217_8b_eq E x0 x1 x2 x6 (x.1) (x.2) H kl k0 R
    unfold N217_8b_k jj at h
    exact h) (x7, x8) (sp 63 [(0, x0), (1, x1), (2, x2), (6, x6), (7, x7), (8, x8)]) H (by kernel_rfl)
noncomputable def N217_1 (E : LE) (x0 x1 x2 x6 x7 x8 : AV) (H : Heap) (R : RK) : Res :=
  N217_8 E x0 x1 x2 x6 x7 x8 H (fun x0_1 x1_1 x2_1 x6_1 x7_1 H =>
    N217_2 E x0_1 x1_1 x2_1 x6_1 x7_1 H R)
theorem N217_1_x (E : LE) (J : CodeF) (x0 x1 x2 x6 x7 x8 : AV) (H : Heap) (R : RK) : N217_1_k (sp 63 [(0, x0), (1, x1), (2, x2), (6, x6), (7, x7), (8, x8)]) H R (jx E 217 J) =
  N217_8_k (sp 63 [(0, x0), (1, x1), (2, x2), (6, x6), (7, x7), (8, x8)]) H (fun s H => N217_2_k s H R J) (fun s H => N217_2_k s H R J) R J := by kernel_rfl
theorem N217_1_eq (E : LE) (x0 x1 x2 x6 x7 x8 : AV) (H : Heap) (R : RK) : N217_1_k (sp 63 [(0, x0), (1, x1), (2, x2), (6, x6), (7, x7), (8, x8)]) H R (jj E 217) = N217_1 E x0 x1 x2 x6 x7 x8 H R := (jj_X E 217 _ _ H _).trans ((N217_1_x E (jj E 217) x0 x1 x2 x6 x7 x8 H R).trans (by simp only [N217_1, N217_2_eq, N217_8_eq]))
noncomputable def L217 (E : LE) (x0 x1 x2 : AV) (H : Heap) : Res :=
  N217_1 E x0 x1 x2 (.int .i64 20) (.int .i64 0) (.int .i64 20) H retK
theorem L217_x (E : LE) (J : CodeF) (x0 x1 x2 : AV) (H : Heap) : jx E 217 J c217 [x0, x1, x2, (.tup []), (.tup []), (.tup []), (.tup []), (.tup []), (.tup []), (.tup []), (.tup []), (.tup []), (.tup []), (.tup []), (.tup []), (.tup []), (.tup []), (.tup []), (.tup []), (.tup []), (.tup []), (.tup []), (.tup []), (.tup []), (.tup []), (.tup []), (.tup []), (.tup []), (.tup []), (.tup []), (.tup []), (.tup []), (.tup []), (.tup []), (.tup []), (.tup []), (.tup []), (.tup []), (.tup []), (.tup []), (.tup []), (.tup []), (.tup []), (.tup []), (.tup []), (.tup []), (.tup []), (.tup []), (.tup []), (.tup []), (.tup []), (.tup []), (.tup []), (.tup []), (.tup []), (.tup []), (.tup []), (.tup []), (.tup []), (.tup []), (.tup []), (.tup []), (.tup [])] H (kk none (fun s H => retK (([] : List Nat).map fun t => s.getD t (.tup [])) H) [] retK []) =
  N217_1_k (sp 63 [(0, x0), (1, x1), (2, x2), (6, (.int .i64 20)), (7, (.int .i64 0)), (8, (.int .i64 20))]) H retK J := by kernel_rfl
theorem G217 (E : LE) (x0 x1 x2 : AV) (H : Heap) : jj E 217 c217 [x0, x1, x2, (.tup []), (.tup []), (.tup []), (.tup []), (.tup []), (.tup []), (.tup []), (.tup []), (.tup []), (.tup []), (.tup []), (.tup []), (.tup []), (.tup []), (.tup []), (.tup []), (.tup []), (.tup []), (.tup []), (.tup []), (.tup []), (.tup []), (.tup []), (.tup []), (.tup []), (.tup []), (.tup []), (.tup []), (.tup []), (.tup []), (.tup []), (.tup []), (.tup []), (.tup []), (.tup []), (.tup []), (.tup []), (.tup []), (.tup []), (.tup []), (.tup []), (.tup []), (.tup []), (.tup []), (.tup []), (.tup []), (.tup []), (.tup []), (.tup []), (.tup []), (.tup []), (.tup []), (.tup []), (.tup []), (.tup []), (.tup []), (.tup []), (.tup []), (.tup []), (.tup [])] H (kk none (fun s H => retK (([] : List Nat).map fun t => s.getD t (.tup [])) H) [] retK []) = L217 E x0 x1 x2 H := (jj_X E 217 _ _ H _).trans ((L217_x E (jj E 217) x0 x1 x2 H).trans (by simp only [L217, N217_1_eq]))
theorem E217 (ρ : Addr → Option Value) (k lim : Nat) (x0 x1 x2 : AV) (H : Heap) : evCall (cx ρ) (k + 1) lim 217 [x0, x1, x2] H = L217 ⟨ρ, evCall (cx ρ) k, (evCY (cx ρ) k).2, lim, k⟩ x0 x1 x2 H := by
  rw [evCall_body (cx ρ) k lim 217 _ H Tryz.f217 c217 [] (by kernel_rfl) (by kernel_rfl) (by kernel_rfl) (by kernel_rfl) (by kernel_rfl)]
  have h := G217 ⟨ρ, evCall (cx ρ) k, (evCY (cx ρ) k).2, lim, k⟩ x0 x1 x2 H
  unfold jj at h
  exact h
-- haycroft/tail.New
noncomputable def c225 : Code := Code.of Tryz.prog 225
noncomputable def L225 (E : LE) (x0 x1 : AV) (H : Heap) : Res :=
  resK (E.call E.lim 89 [x0] H) fun x10 H =>
  purK (unA .not x10) fun x11 =>
  purK (gPur (wantV x11 false) (some x1)) fun x13 =>
  purK (gPur (wantV x11 false) (binA P H .lss 3 x13 (.int .i64 1))) fun x14 =>
  purK (pickA x11 (.bool true) x14) fun x15 =>
  purK (gPur (wantV x15 false) (some x1)) fun x17 =>
  purK (gPur (wantV x15 false) (binA P H .gtr 3 x17 (.int .i64 64))) fun x18 =>
  purK (pickA x15 (.bool true) x18) fun x19 =>
  condK x19
  (
    retK [.nilp, (.int .i64 1)] H)
  (
    resK (E.call E.lim 231 [(.int .i64 1)] H) fun x21 H =>
    purK (extA 0 x21) fun x22 =>
    purK (extA 1 x21) fun x23 =>
    purK (binA P H .neq 28 x23 (.int .i64 0)) fun x25 =>
    condK x25
    (
      retK [.nilp, x23] H)
    (
      purK (buildA P 307 [(0, x0), (1, x1), (2, x22)]) fun x30 =>
      effK H (boxA H 307 x30) fun x31 H =>
      resK (E.call E.lim 278 [x31, (.int .i64 0)] H) fun x34 H =>
      retK [x31, x34] H))
theorem G225 (E : LE) (x0 x1 : AV) (H : Heap) : jj E 225 c225 [x0, x1, (.tup []), (.tup []), (.tup []), (.tup []), (.tup []), (.tup []), (.tup []), (.tup []), (.tup []), (.tup []), (.tup []), (.tup []), (.tup []), (.tup []), (.tup []), (.tup []), (.tup []), (.tup []), (.tup []), (.tup []), (.tup []), (.tup []), (.tup []), (.tup []), (.tup []), (.tup []), (.tup []), (.tup []), (.tup []), (.tup []), (.tup []), (.tup []), (.tup [])] H (kk none (fun s H => retK (([4, 5] : List Nat).map fun t => s.getD t (.tup [])) H) [] retK [4, 5]) = L225 E x0 x1 H := by kernel_rfl
theorem E225 (ρ : Addr → Option Value) (k lim : Nat) (x0 x1 : AV) (H : Heap) : evCall (cx ρ) (k + 1) lim 225 [x0, x1] H = L225 ⟨ρ, evCall (cx ρ) k, (evCY (cx ρ) k).2, lim, k⟩ x0 x1 H := by
  rw [evCall_body (cx ρ) k lim 225 _ H Tryz.f225 c225 [4, 5] (by kernel_rfl) (by kernel_rfl) (by kernel_rfl) (by kernel_rfl) (by kernel_rfl)]
  have h := G225 ⟨ρ, evCall (cx ρ) k, (evCY (cx ρ) k).2, lim, k⟩ x0 x1 H
  unfold jj at h
  exact h
-- haycroft/pages.New
noncomputable def c226 : Code := Code.of Tryz.prog 226
noncomputable def L226 (E : LE) (x0 x1 : AV) (H : Heap) : Res :=
  resK (E.call E.lim 89 [x0] H) fun x10 H =>
  purK (unA .not x10) fun x11 =>
  purK (gPur (wantV x11 false) (some x1)) fun x13 =>
  purK (gPur (wantV x11 false) (binA P H .lss 3 x13 (.int .i64 2))) fun x14 =>
  purK (pickA x11 (.bool true) x14) fun x15 =>
  purK (gPur (wantV x15 false) (some x1)) fun x17 =>
  purK (gPur (wantV x15 false) (binA P H .gtr 3 x17 (.int .i64 8))) fun x18 =>
  purK (pickA x15 (.bool true) x18) fun x19 =>
  condK x19
  (
    retK [.nilp, (.int .i64 1)] H)
  (
    resK (E.call E.lim 58 [x0] H) fun x23 H =>
    purK (binA P H .mul 3 x1 x23) fun x24 =>
    resK (E.call E.lim 231 [x24] H) fun x25 H =>
    purK (extA 0 x25) fun x26 =>
    purK (extA 1 x25) fun x27 =>
    purK (binA P H .neq 28 x27 (.int .i64 0)) fun x29 =>
    condK x29
    (
      retK [.nilp, x27] H)
    (
      resK (E.call E.lim 231 [x1] H) fun x33 H =>
      purK (extA 0 x33) fun x34 =>
      purK (extA 1 x33) fun x35 =>
      purK (binA P H .neq 28 x35 (.int .i64 0)) fun x37 =>
      condK x37
      (
        retK [.nilp, x35] H)
      (
        purK (buildA P 199 [(0, x0), (1, x26), (2, x34)]) fun x42 =>
        effK H (boxA H 199 x42) fun x43 H =>
        retK [x43, (.int .i64 0)] H)))
theorem G226 (E : LE) (x0 x1 : AV) (H : Heap) : jj E 226 c226 [x0, x1, (.tup []), (.tup []), (.tup []), (.tup []), (.tup []), (.tup []), (.tup []), (.tup []), (.tup []), (.tup []), (.tup []), (.tup []), (.tup []), (.tup []), (.tup []), (.tup []), (.tup []), (.tup []), (.tup []), (.tup []), (.tup []), (.tup []), (.tup []), (.tup []), (.tup []), (.tup []), (.tup []), (.tup []), (.tup []), (.tup []), (.tup []), (.tup []), (.tup []), (.tup []), (.tup []), (.tup []), (.tup []), (.tup []), (.tup []), (.tup []), (.tup []), (.tup [])] H (kk none (fun s H => retK (([4, 5] : List Nat).map fun t => s.getD t (.tup [])) H) [] retK [4, 5]) = L226 E x0 x1 H := by kernel_rfl
theorem E226 (ρ : Addr → Option Value) (k lim : Nat) (x0 x1 : AV) (H : Heap) : evCall (cx ρ) (k + 1) lim 226 [x0, x1] H = L226 ⟨ρ, evCall (cx ρ) k, (evCY (cx ρ) k).2, lim, k⟩ x0 x1 H := by
  rw [evCall_body (cx ρ) k lim 226 _ H Tryz.f226 c226 [4, 5] (by kernel_rfl) (by kernel_rfl) (by kernel_rfl) (by kernel_rfl) (by kernel_rfl)]
  have h := G226 ⟨ρ, evCall (cx ρ) k, (evCY (cx ρ) k).2, lim, k⟩ x0 x1 H
  unfold jj at h
  exact h
-- haycroft/epoch.New
noncomputable def c227 : Code := Code.of Tryz.prog 227
noncomputable def L227 (E : LE) (x0 : AV) (H : Heap) : Res :=
  purK (binA P H .lss 3 x0 (.int .i64 1)) fun x7 =>
  purK (gPur (wantV x7 false) (some x0)) fun x9 =>
  purK (gPur (wantV x7 false) (binA P H .gtr 3 x9 (.int .i64 8))) fun x10 =>
  purK (pickA x7 (.bool true) x10) fun x11 =>
  condK x11
  (
    retK [.nilp, (.int .i64 1)] H)
  (
    purK (binA P H .add 3 (.int .i64 1) x0) fun x14 =>
    resK (E.call E.lim 231 [x14] H) fun x15 H =>
    purK (extA 0 x15) fun x16 =>
    purK (extA 1 x15) fun x17 =>
    purK (binA P H .neq 28 x17 (.int .i64 0)) fun x19 =>
    condK x19
    (
      retK [.nilp, x17] H)
    (
      resK (E.call E.lim 234 [x16, (.int .i64 0), (.int .u64 1)] H) fun x22 H =>
      purK (buildA P 262 [(0, x16)]) fun x24 =>
      effK H (boxA H 262 x24) fun x25 H =>
      retK [x25, (.int .i64 0)] H))
theorem G227 (E : LE) (x0 : AV) (H : Heap) : jj E 227 c227 [x0, (.tup []), (.tup []), (.tup []), (.tup []), (.tup []), (.tup []), (.tup []), (.tup []), (.tup []), (.tup []), (.tup []), (.tup []), (.tup []), (.tup []), (.tup []), (.tup []), (.tup []), (.tup []), (.tup []), (.tup []), (.tup []), (.tup []), (.tup []), (.tup []), (.tup [])] H (kk none (fun s H => retK (([2, 3] : List Nat).map fun t => s.getD t (.tup [])) H) [] retK [2, 3]) = L227 E x0 H := by kernel_rfl
theorem E227 (ρ : Addr → Option Value) (k lim : Nat) (x0 : AV) (H : Heap) : evCall (cx ρ) (k + 1) lim 227 [x0] H = L227 ⟨ρ, evCall (cx ρ) k, (evCY (cx ρ) k).2, lim, k⟩ x0 H := by
  rw [evCall_body (cx ρ) k lim 227 _ H Tryz.f227 c227 [2, 3] (by kernel_rfl) (by kernel_rfl) (by kernel_rfl) (by kernel_rfl) (by kernel_rfl)]
  have h := G227 ⟨ρ, evCall (cx ρ) k, (evCY (cx ρ) k).2, lim, k⟩ x0 H
  unfold jj at h
  exact h
-- haycroft/marks.New
noncomputable def c228 : Code := Code.of Tryz.prog 228
noncomputable def L228 (E : LE) (H : Heap) : Res :=
  resK (E.call E.lim 231 [(.int .i64 5)] H) fun x4 H =>
  purK (extA 0 x4) fun x5 =>
  purK (extA 1 x4) fun x6 =>
  purK (buildA P 285 [(0, x5)]) fun x8 =>
  effK H (boxA H 285 x8) fun x9 H =>
  retK [x9] H
theorem G228 (E : LE) (H : Heap) : jj E 228 c228 [(.tup []), (.tup []), (.tup []), (.tup []), (.tup []), (.tup []), (.tup []), (.tup []), (.tup []), (.tup [])] H (kk none (fun s H => retK (([0] : List Nat).map fun t => s.getD t (.tup [])) H) [] retK [0]) = L228 E H := by kernel_rfl
theorem E228 (ρ : Addr → Option Value) (k lim : Nat) (H : Heap) : evCall (cx ρ) (k + 1) lim 228 [] H = L228 ⟨ρ, evCall (cx ρ) k, (evCY (cx ρ) k).2, lim, k⟩ H := by
  rw [evCall_body (cx ρ) k lim 228 _ H Tryz.f228 c228 [0] (by kernel_rfl) (by kernel_rfl) (by kernel_rfl) (by kernel_rfl) (by kernel_rfl)]
  have h := G228 ⟨ρ, evCall (cx ρ) k, (evCY (cx ρ) k).2, lim, k⟩ H
  unfold jj at h
  exact h
-- haycroft/drain.New
noncomputable def c229 : Code := Code.of Tryz.prog 229
noncomputable def L229 (E : LE) (H : Heap) : Res :=
  purK (buildA P 333 []) fun x1 =>
  effK H (boxA H 333 x1) fun x2 H =>
  retK [x2] H
theorem G229 (E : LE) (H : Heap) : jj E 229 c229 [(.tup []), (.tup []), (.tup [])] H (kk none (fun s H => retK (([0] : List Nat).map fun t => s.getD t (.tup [])) H) [] retK [0]) = L229 E H := by kernel_rfl
theorem E229 (ρ : Addr → Option Value) (k lim : Nat) (H : Heap) : evCall (cx ρ) (k + 1) lim 229 [] H = L229 ⟨ρ, evCall (cx ρ) k, (evCY (cx ρ) k).2, lim, k⟩ H := by
  rw [evCall_body (cx ρ) k lim 229 _ H Tryz.f229 c229 [0] (by kernel_rfl) (by kernel_rfl) (by kernel_rfl) (by kernel_rfl) (by kernel_rfl)]
  have h := G229 ⟨ρ, evCall (cx ρ) k, (evCY (cx ρ) k).2, lim, k⟩ H
  unfold jj at h
  exact h
-- (*haycroft/pages.Buffer).Open
noncomputable def c230 : Code := Code.of Tryz.prog 230
noncomputable def L230 (E : LE) (x0 x1 : AV) (H : Heap) : Res :=
  purK (binA P H .eql 122 x0 .nilp) fun x11 =>
  condK x11
  (
    retK [(.int .i64 2)] H)
  (
    purK (binA P H .lss 3 x1 (.int .i64 0)) fun x14 =>
    condK x14
    (
      retK [(.int .i64 1)] H)
    (
      resK (E.call E.lim 122 [x0, x1] H) fun x18 H =>
      condK x18
      (
        retK [(.int .i64 8)] H)
      (
        resK (E.call E.lim 124 [x0, x1] H) fun x21 H =>
        purK (nilChkA x0) fun x24 =>
        purK (fieldAddrA P 199 x24 2) fun x25 =>
        purK (loadA (Cx E) H 160 x25) fun x26 =>
        resK (E.call E.lim 200 [x1] H) fun x29 H => bif (agn (loadA (Cx E) H 160 x25) x26 && true) then
          resK (E.call E.lim 282 [x26, x21, (.int .u64 0), x29] H) fun x30 H =>
          purK (extA 0 x30) fun x31 =>
          purK (extA 1 x30) fun x32 =>
          purK (unA .not x31) fun x34 =>
          condK x34
          (
            retK [(.int .i64 10)] H)
          (
            purK (nilChkA x0) fun x36 =>
            purK (fieldAddrA P 199 x36 0) fun x37 =>
            purK (loadA (Cx E) H 3 x37) fun x38 =>
            resK (E.call E.lim 58 [x38] H) fun x39 H =>
            purK (nilChkA x0) fun x41 =>
            purK (fieldAddrA P 199 x41 1) fun x42 =>
            purK (loadA (Cx E) H 160 x42) fun x43 =>
            purK (binA P H .mul 3 x21 x39) fun x46 =>
            effK H (makeSliceA (Cx E) H 31 x39 x39) fun x48 H => bif (agn (binA P H .mul 3 x21 x39) x46 && (agn (loadA (Cx E) H 160 x42) x43 && true)) then
              resK (E.call E.lim 281 [x43, x46, x48] H) fun x49 H =>
              retK [x49] H
            else none)
        else none)))
theorem G230 (E : LE) (x0 x1 : AV) (H : Heap) : jj E 230 c230 [x0, x1, (.tup []), (.tup []), (.tup []), (.tup []), (.tup []), (.tup []), (.tup []), (.tup []), (.tup []), (.tup []), (.tup []), (.tup []), (.tup []), (.tup []), (.tup []), (.tup []), (.tup []), (.tup []), (.tup []), (.tup []), (.tup []), (.tup []), (.tup []), (.tup []), (.tup []), (.tup []), (.tup []), (.tup []), (.tup []), (.tup []), (.tup []), (.tup []), (.tup []), (.tup []), (.tup []), (.tup []), (.tup []), (.tup []), (.tup []), (.tup []), (.tup []), (.tup []), (.tup []), (.tup []), (.tup []), (.tup []), (.tup []), (.tup [])] H (kk none (fun s H => retK (([4] : List Nat).map fun t => s.getD t (.tup [])) H) [] retK [4]) = L230 E x0 x1 H := by kernel_rfl
theorem E230 (ρ : Addr → Option Value) (k lim : Nat) (x0 x1 : AV) (H : Heap) : evCall (cx ρ) (k + 1) lim 230 [x0, x1] H = L230 ⟨ρ, evCall (cx ρ) k, (evCY (cx ρ) k).2, lim, k⟩ x0 x1 H := by
  rw [evCall_body (cx ρ) k lim 230 _ H Tryz.f230 c230 [4] (by kernel_rfl) (by kernel_rfl) (by kernel_rfl) (by kernel_rfl) (by kernel_rfl)]
  have h := G230 ⟨ρ, evCall (cx ρ) k, (evCY (cx ρ) k).2, lim, k⟩ x0 x1 H
  unfold jj at h
  exact h
-- haycroft/cell.New
noncomputable def c231 : Code := Code.of Tryz.prog 231
noncomputable def L231 (E : LE) (x0 : AV) (H : Heap) : Res :=
  purK (binA P H .lss 3 x0 (.int .i64 1)) fun x5 =>
  purK (gPur (wantV x5 false) (some x0)) fun x7 =>
  purK (gPur (wantV x5 false) (binA P H .gtr 3 x7 (.int .i64 65536))) fun x8 =>
  purK (pickA x5 (.bool true) x8) fun x9 =>
  condK x9
  (
    retK [.nilp, (.int .i64 1)] H)
  (
    effK H (makeSliceA (Cx E) H 228 x0 x0) fun x11 H =>
    purK (buildA P 232 [(0, x11)]) fun x12 =>
    effK H (boxA H 232 x12) fun x13 H =>
    retK [x13, (.int .i64 0)] H)
theorem G231 (E : LE) (x0 : AV) (H : Heap) : jj E 231 c231 [x0, (.tup []), (.tup []), (.tup []), (.tup []), (.tup []), (.tup []), (.tup []), (.tup []), (.tup []), (.tup []), (.tup []), (.tup []), (.tup [])] H (kk none (fun s H => retK (([2, 3] : List Nat).map fun t => s.getD t (.tup [])) H) [] retK [2, 3]) = L231 E x0 H := by kernel_rfl
theorem E231 (ρ : Addr → Option Value) (k lim : Nat) (x0 : AV) (H : Heap) : evCall (cx ρ) (k + 1) lim 231 [x0] H = L231 ⟨ρ, evCall (cx ρ) k, (evCY (cx ρ) k).2, lim, k⟩ x0 H := by
  rw [evCall_body (cx ρ) k lim 231 _ H Tryz.f231 c231 [2, 3] (by kernel_rfl) (by kernel_rfl) (by kernel_rfl) (by kernel_rfl) (by kernel_rfl)]
  have h := G231 ⟨ρ, evCall (cx ρ) k, (evCY (cx ρ) k).2, lim, k⟩ x0 H
  unfold jj at h
  exact h
-- haycroft/task.Right
noncomputable def c232 : Code := Code.of Tryz.prog 232
noncomputable def N232_1_k (s : Slots) (H : Heap) (R : RK) (J : CodeF) : Res := J (Code.at [1, 1] c232) s H (kk none (fun s H => R (([2] : List Nat).map fun t => s.getD t (.tup [])) H) [] R [2])
noncomputable def N232_1 (E : LE) (H : Heap) (R : RK) : Res :=
  R [(.int .i64 0)] H
theorem N232_1_eq (E : LE) (H : Heap) (R : RK) : N232_1_k (sp 29 []) H R (jj E 232) = N232_1 E H R := by kernel_rfl
noncomputable def N232_2_k (s : Slots) (H : Heap) (kn k0 : KS) (R : RK) (J : CodeF) : Res := J (Code.at [1, 0, 0, 1] c232) s H (kk (some []) kn [(0, (some []), k0)] R [2])
noncomputable def N232_3_k (s : Slots) (H : Heap) (kn k0 : KS) (R : RK) (J : CodeF) : Res := J (Code.at [1, 0, 0, 1, 1, 1] c232) s H (kk (some []) kn [(0, (some []), k0)] R [2])
noncomputable def N232_3 (E : LE) (x15 : AV) (H : Heap) (kn : Heap → Res) (R : RK) : Res :=
  condK x15
  (
    R [(.int .i64 5)] H)
  (
    kn H)
theorem N232_3_eq (E : LE) (x15 : AV) (H : Heap) (kn k0 : KS) (R : RK) : N232_3_k (sp 29 [(15, x15)]) H kn k0 R (jj E 232) = N232_3 E x15 H (fun H => kn (sp 29 []) H) R := by kernel_rfl
noncomputable def N232_2 (E : LE) (x1 x3 : AV) (H : Heap) (kn : Heap → Res) (R : RK) : Res :=
  condK x3
  (
    R [(.int .i64 1)] H)
  (
    purK (fieldAddrA P 59 x1 1) fun x16_1 =>
    purK (loadA (Cx E) H 9 x16_1) fun x17_1 =>
    purK (lenBA (Cx E) H 9 x17_1) fun x18_1 =>
    purK (binA P H .gtr 3 x18_1 (.int .i64 64)) fun x19_1 =>
    condK x19_1
    (
      N232_3 E x19_1 H kn R)
    (
      purK (fieldAddrA P 59 x1 0) fun x20_1 =>
      purK (loadA (Cx E) H 3 x20_1) fun x21_1 =>
      purK (binA P H .eql 3 x21_1 (.int .i64 2)) fun x22_1 =>
      purK (gPur (wantV x22_1 true) (fieldAddrA P 59 x1 2)) fun x24_1 =>
      purK (gPur (wantV x22_1 true) (loadA (Cx E) H 9 x24_1)) fun x25_1 =>
      purK (gPur (wantV x22_1 true) (lenBA (Cx E) H 9 x25_1)) fun x26_1 =>
      purK (gPur (wantV x22_1 true) (binA P H .gtr 3 x26_1 (.int .i64 128))) fun x27_1 =>
      purK (pickA x22_1 x27_1 (.bool false)) fun x28_1 =>
      N232_3 E x28_1 H kn R))
theorem N232_2_x (E : LE) (J : CodeF) (x1 x3 : AV) (H : Heap) (kn k0 : KS) (R : RK) : N232_2_k (sp 29 [(1, x1), (3, x3)]) H kn k0 R (jx E 232 J) =
  condK x3
  (
    R [(.int .i64 1)] H)
  (
    purK (fieldAddrA P 59 x1 1) fun x16_1 =>
    purK (loadA (Cx E) H 9 x16_1) fun x17_1 =>
    purK (lenBA (Cx E) H 9 x17_1) fun x18_1 =>
    purK (binA P H .gtr 3 x18_1 (.int .i64 64)) fun x19_1 =>
    condK x19_1
    (
      N232_3_k (sp 29 [(15, x19_1)]) H kn k0 R J)
    (
      purK (fieldAddrA P 59 x1 0) fun x20_1 =>
      purK (loadA (Cx E) H 3 x20_1) fun x21_1 =>
      purK (binA P H .eql 3 x21_1 (.int .i64 2)) fun x22_1 =>
      purK (gPur (wantV x22_1 true) (fieldAddrA P 59 x1 2)) fun x24_1 =>
      purK (gPur (wantV x22_1 true) (loadA (Cx E) H 9 x24_1)) fun x25_1 =>
      purK (gPur (wantV x22_1 true) (lenBA (Cx E) H 9 x25_1)) fun x26_1 =>
      purK (gPur (wantV x22_1 true) (binA P H .gtr 3 x26_1 (.int .i64 128))) fun x27_1 =>
      purK (pickA x22_1 x27_1 (.bool false)) fun x28_1 =>
      N232_3_k (sp 29 [(15, x28_1)]) H kn k0 R J)) := by kernel_rfl
theorem N232_2_eq (E : LE) (x1 x3 : AV) (H : Heap) (kn k0 : KS) (R : RK) : N232_2_k (sp 29 [(1, x1), (3, x3)]) H kn k0 R (jj E 232) = N232_2 E x1 x3 H (fun H => kn (sp 29 []) H) R := (jj_X E 232 _ _ H _).trans ((N232_2_x E (jj E 232) x1 x3 H kn k0 R).trans (by simp only [N232_2, N232_3_eq]))
noncomputable def L232 (E : LE) (x0 : AV) (H : Heap) : Res :=
  effK H (boxA H 59 x0) fun x1 H =>
  purK (fieldAddrA P 59 x1 0) fun x4 =>
  purK (loadA (Cx E) H 3 x4) fun x5 =>
  purK (binA P H .lss 3 x5 (.int .i64 1)) fun x6 =>
  purK (gPur (wantV x6 false) (fieldAddrA P 59 x1 0)) fun x8 =>
  purK (gPur (wantV x6 false) (loadA (Cx E) H 3 x8)) fun x9 =>
  purK (gPur (wantV x6 false) (binA P H .gtr 3 x9 (.int .i64 4))) fun x10 =>
  purK (pickA x6 (.bool true) x10) fun x11 =>
  condK x11
  (
    N232_2 E x1 x11 H (fun H =>
      N232_1 E H retK) retK)
  (
    purK (fieldAddrA P 59 x1 1) fun x12 =>
    purK (loadA (Cx E) H 9 x12) fun x13 =>
    purK (binA P H .eql 9 x13 (.str (ByteArray.mk #[]))) fun x14 =>
    N232_2 E x1 x14 H (fun H =>
      N232_1 E H retK) retK)
theorem L232_x (E : LE) (J : CodeF) (x0 : AV) (H : Heap) : jx E 232 J c232 [x0, (.tup []), (.tup []), (.tup []), (.tup []), (.tup []), (.tup []), (.tup []), (.tup []), (.tup []), (.tup []), (.tup []), (.tup []), (.tup []), (.tup []), (.tup []), (.tup []), (.tup []), (.tup []), (.tup []), (.tup []), (.tup []), (.tup []), (.tup []), (.tup []), (.tup []), (.tup []), (.tup []), (.tup [])] H (kk none (fun s H => retK (([2] : List Nat).map fun t => s.getD t (.tup [])) H) [] retK [2]) =
  effK H (boxA H 59 x0) fun x1 H =>
  purK (fieldAddrA P 59 x1 0) fun x4 =>
  purK (loadA (Cx E) H 3 x4) fun x5 =>
  purK (binA P H .lss 3 x5 (.int .i64 1)) fun x6 =>
  purK (gPur (wantV x6 false) (fieldAddrA P 59 x1 0)) fun x8 =>
  purK (gPur (wantV x6 false) (loadA (Cx E) H 3 x8)) fun x9 =>
  purK (gPur (wantV x6 false) (binA P H .gtr 3 x9 (.int .i64 4))) fun x10 =>
  purK (pickA x6 (.bool true) x10) fun x11 =>
  condK x11
  (
    N232_2_k (sp 29 [(1, x1), (3, x11)]) H (fun s H => N232_1_k s H retK J) (fun s H => N232_1_k s H retK J) retK J)
  (
    purK (fieldAddrA P 59 x1 1) fun x12 =>
    purK (loadA (Cx E) H 9 x12) fun x13 =>
    purK (binA P H .eql 9 x13 (.str (ByteArray.mk #[]))) fun x14 =>
    N232_2_k (sp 29 [(1, x1), (3, x14)]) H (fun s H => N232_1_k s H retK J) (fun s H => N232_1_k s H retK J) retK J) := by kernel_rfl
theorem G232 (E : LE) (x0 : AV) (H : Heap) : jj E 232 c232 [x0, (.tup []), (.tup []), (.tup []), (.tup []), (.tup []), (.tup []), (.tup []), (.tup []), (.tup []), (.tup []), (.tup []), (.tup []), (.tup []), (.tup []), (.tup []), (.tup []), (.tup []), (.tup []), (.tup []), (.tup []), (.tup []), (.tup []), (.tup []), (.tup []), (.tup []), (.tup []), (.tup []), (.tup [])] H (kk none (fun s H => retK (([2] : List Nat).map fun t => s.getD t (.tup [])) H) [] retK [2]) = L232 E x0 H := (jj_X E 232 _ _ H _).trans ((L232_x E (jj E 232) x0 H).trans (by simp only [L232, N232_1_eq, N232_2_eq]))
theorem E232 (ρ : Addr → Option Value) (k lim : Nat) (x0 : AV) (H : Heap) : evCall (cx ρ) (k + 1) lim 232 [x0] H = L232 ⟨ρ, evCall (cx ρ) k, (evCY (cx ρ) k).2, lim, k⟩ x0 H := by
  rw [evCall_body (cx ρ) k lim 232 _ H Tryz.f232 c232 [2] (by kernel_rfl) (by kernel_rfl) (by kernel_rfl) (by kernel_rfl) (by kernel_rfl)]
  have h := G232 ⟨ρ, evCall (cx ρ) k, (evCY (cx ρ) k).2, lim, k⟩ x0 H
  unfold jj at h
  exact h
end Go.Proofs.YtbnhlcgbigeceaaGreat
