/- Functions, lifted. Printed by a program of this repo. -/
import Derived.Test.YtbnhlcgbigeceaaGreatLfTab
set_option linter.unusedVariables false
set_option linter.unusedSimpArgs false
set_option maxRecDepth 100000
set_option maxHeartbeats 4000000
namespace Go.Proofs.YtbnhlcgbigeceaaGreat
open Go.Ev Go.RowKit
-- (*haycroft/store.Store).may
noncomputable def c40 : Code := Code.of Tryz.prog 40
noncomputable def L40 (E : LE) (x0 x1 : AV) (H : Heap) : Res :=
  effK H (boxA H 62 x1) fun x3 H =>
  purK (fieldAddrA P 62 x3 0) fun x6 =>
  purK (loadA (Cx E) H 3 x6) fun x7 =>
  resK (E.call E.lim 90 [x7, (.int .i64 1), (.int .i64 3)] H) fun x8 H =>
  purK (binA P H .eql 48 x0 .nilp) fun x11 =>
  condK x11
  (
    retK [(.int .i64 2)] H)
  (
    purK (fieldAddrA P 62 x3 0) fun x13 =>
    purK (loadA (Cx E) H 3 x13) fun x14 =>
    resK (E.call E.lim 90 [x14, (.int .i64 1), (.int .i64 10)] H) fun x15 H =>
    purK (unA .not x15) fun x16 =>
    condK x16
    (
      retK [(.int .i64 1)] H)
    (
      purK (fieldAddrA P 62 x3 0) fun x18 =>
      purK (loadA (Cx E) H 3 x18) fun x19 =>
      purK (binA P H .eql 3 x19 (.int .i64 10)) fun x20 =>
      purK (gPur (wantV x20 true) (some x0)) fun x22 =>
      resK (gRes (wantV x20 true) H (E.call E.lim 51 [x22] H)) fun x23 H =>
      purK (pickA x20 x23 (.bool false)) fun x24 =>
      condK x24
      (
        retK [(.int .i64 8)] H)
      (
        purK (fieldAddrA P 62 x3 0) fun x26 =>
        purK (loadA (Cx E) H 3 x26) fun x27 =>
        purK (binA P H .neq 3 x27 (.int .i64 10)) fun x28 =>
        purK (gPur (wantV x28 true) (some x0)) fun x30 =>
        resK (gRes (wantV x28 true) H (E.call E.lim 51 [x30] H)) fun x31 H =>
        purK (gPur (wantV x28 true) (unA .not x31)) fun x32 =>
        purK (pickA x28 x32 (.bool false)) fun x33 =>
        condK x33
        (
          retK [(.int .i64 6)] H)
        (
          boolK (wantV x8 true) fun b1 => purK (bif b1 then fieldAddrA P 62 x3 1 else some (.tup [])) fun x37 =>
          boolK (wantV x8 true) fun b2 => purK (bif b2 then loadA (Cx E) H 3 x37 else some (.tup [])) fun x38 =>
          boolK (wantV x8 true) fun b3 => purK (bif b3 then some x0 else some (.tup [])) fun x39 =>
          boolK (wantV x8 true) fun b4 => purK (bif b4 then nilChkA x39 else some (.tup [])) fun x40 =>
          boolK (wantV x8 true) fun b5 => purK (bif b5 then fieldAddrA P 106 x40 0 else some (.tup [])) fun x41 =>
          boolK (wantV x8 true) fun b6 => purK (bif b6 then fieldAddrA P 52 x41 5 else some (.tup [])) fun x42 =>
          boolK (wantV x8 true) fun b7 => purK (bif b7 then loadA (Cx E) H 3 x42 else some (.tup [])) fun x43 =>
          boolK (wantV x8 true) fun b8 => purK (bif b8 then binA P H .sub 3 x43 (.int .i64 1) else some (.tup [])) fun x44 =>
          boolK (wantV x8 true) fun b9 => resK (gRes (some b9) H (E.call E.lim 90 [x38, (.int .i64 0), x44] H)) fun x45 H => bif !b9 || ((!b8 || true) && ((!b7 || true) && ((!b2 || true) && true))) then
            purK (gPur (wantV x8 true) (unA .not x45)) fun x46 =>
            purK (pickA x8 x46 (.bool false)) fun x47 =>
            condK x47
            (
              retK [(.int .i64 1)] H)
            (
              retK [(.int .i64 0)] H)
          else none))))
theorem G40 (E : LE) (x0 x1 : AV) (H : Heap) : jj E 40 c40 [x0, x1, (.tup []), (.tup []), (.tup []), (.tup []), (.tup []), (.tup []), (.tup []), (.tup []), (.tup []), (.tup []), (.tup []), (.tup []), (.tup []), (.tup []), (.tup []), (.tup []), (.tup []), (.tup []), (.tup []), (.tup []), (.tup []), (.tup []), (.tup []), (.tup []), (.tup []), (.tup []), (.tup []), (.tup []), (.tup []), (.tup []), (.tup []), (.tup []), (.tup []), (.tup []), (.tup []), (.tup []), (.tup []), (.tup []), (.tup []), (.tup []), (.tup []), (.tup []), (.tup []), (.tup []), (.tup []), (.tup [])] H (kk none (fun s H => retK (([4] : List Nat).map fun t => s.getD t (.tup [])) H) [] retK [4]) = L40 E x0 x1 H := by kernel_rfl
theorem E40 (ρ : Addr → Option Value) (k lim : Nat) (x0 x1 : AV) (H : Heap) : evCall (cx ρ) (k + 1) lim 40 [x0, x1] H = L40 ⟨ρ, evCall (cx ρ) k, (evCY (cx ρ) k).2, lim, k⟩ x0 x1 H := by
  rw [evCall_body (cx ρ) k lim 40 _ H Tryz.f40 c40 [4] (by kernel_rfl) (by kernel_rfl) (by kernel_rfl) (by kernel_rfl) (by kernel_rfl)]
  have h := G40 ⟨ρ, evCall (cx ρ) k, (evCY (cx ρ) k).2, lim, k⟩ x0 x1 H
  unfold jj at h
  exact h
-- (*haycroft/store.Store).ask
noncomputable def c41 : Code := Code.of Tryz.prog 41
noncomputable def L41 (E : LE) (x0 x1 : AV) (H : Heap) : Res :=
  effK H (boxA H 62 x1) fun x3 H =>
  purK (nilChkA x0) fun x7 =>
  purK (fieldAddrA P 106 x7 2) fun x8 =>
  purK (loadA (Cx E) H 102 x8) fun x9 =>
  purK (nilChkA x9) fun x10 =>
  purK (fieldAddrA P 117 x10 4) fun x11 =>
  purK (loadA (Cx E) H 115 x11) fun x12 =>
  purK (binA P H .neq 115 x12 .nilp) fun x13 =>
  condK x13
  (
    retK [(.int .i64 0), (.int .i64 10)] H)
  (
    purK (nilChkA x0) fun x15 =>
    purK (fieldAddrA P 106 x15 2) fun x16 =>
    purK (loadA (Cx E) H 102 x16) fun x17 =>
    purK (nilChkA x17) fun x18 =>
    purK (fieldAddrA P 117 x18 2) fun x19 =>
    purK (loadA (Cx E) H 114 x19) fun x20 =>
    purK (fieldAddrA P 62 x3 1) fun x21 =>
    purK (loadA (Cx E) H 3 x21) fun x22 =>
    purK (indexAddrA P 114 x20 x22) fun x23 =>
    purK (loadA (Cx E) H 113 x23) fun x24 =>
    purK (fieldAddrA P 62 x3 3) fun x25 =>
    purK (loadA (Cx E) H 59 x25) fun x26 =>
    resK (E.call E.lim 96 [x24, x26] H) fun x27 H =>
    purK (extA 0 x27) fun x28 =>
    purK (extA 1 x27) fun x29 =>
    retK [x28, x29] H)
theorem G41 (E : LE) (x0 x1 : AV) (H : Heap) : jj E 41 c41 [x0, x1, (.tup []), (.tup []), (.tup []), (.tup []), (.tup []), (.tup []), (.tup []), (.tup []), (.tup []), (.tup []), (.tup []), (.tup []), (.tup []), (.tup []), (.tup []), (.tup []), (.tup []), (.tup []), (.tup []), (.tup []), (.tup []), (.tup []), (.tup []), (.tup []), (.tup []), (.tup []), (.tup []), (.tup [])] H (kk none (fun s H => retK (([4, 5] : List Nat).map fun t => s.getD t (.tup [])) H) [] retK [4, 5]) = L41 E x0 x1 H := by kernel_rfl
theorem E41 (ρ : Addr → Option Value) (k lim : Nat) (x0 x1 : AV) (H : Heap) : evCall (cx ρ) (k + 1) lim 41 [x0, x1] H = L41 ⟨ρ, evCall (cx ρ) k, (evCY (cx ρ) k).2, lim, k⟩ x0 x1 H := by
  rw [evCall_body (cx ρ) k lim 41 _ H Tryz.f41 c41 [4, 5] (by kernel_rfl) (by kernel_rfl) (by kernel_rfl) (by kernel_rfl) (by kernel_rfl)]
  have h := G41 ⟨ρ, evCall (cx ρ) k, (evCY (cx ρ) k).2, lim, k⟩ x0 x1 H
  unfold jj at h
  exact h
-- (*haycroft/session.Session).Move
noncomputable def c42 : Code := Code.of Tryz.prog 42
noncomputable def N42_1_k (s : Slots) (H : Heap) (R : RK) (J : CodeF) : Res := J (Code.at [1, 1, 1, 1, 1] c42) s H (kk none (fun s H => R (([2, 3] : List Nat).map fun t => s.getD t (.tup [])) H) [] R [2, 3])
noncomputable def N42_1 (E : LE) (x0 x4 : AV) (H : Heap) (R : RK) : Res :=
  purK (nilChkA x4) fun x63_1 =>
  purK (fieldAddrA P 187 x63_1 1) fun x64_1 =>
  purK (loadA (Cx E) H 185 x64_1) fun x65_1 =>
  resK (E.call E.lim 102 [x65_1] H) fun x66_1 H =>
  purK (extA 0 x66_1) fun x67_1 =>
  purK (extA 1 x66_1) fun x68_1 =>
  purK (nilChkA x4) fun x71_1 =>
  purK (fieldAddrA P 187 x71_1 1) fun x72_1 =>
  purK (loadA (Cx E) H 185 x72_1) fun x73_1 =>
  resK (E.call E.lim 97 [x73_1] H) fun x74_1 H =>
  purK (extA 0 x74_1) fun x75_1 =>
  purK (extA 1 x74_1) fun x76_1 =>
  purK (binA P H .neq 28 x68_1 (.int .i64 0)) fun x78_1 =>
  purK (gPur (wantV x78_1 false) (some x67_1)) fun x80_1 =>
  purK (gPur (wantV x78_1 false) (binA P H .neq 3 x80_1 (.int .i64 2))) fun x81_1 =>
  purK (gPur (wantV x78_1 false) (some x81_1)) fun x82_1 =>
  purK (gPur (wantV x82_1 true) (some x76_1)) fun x83_1 =>
  purK (gPur (wantV x82_1 true) (unA .not x83_1)) fun x84_1 =>
  purK (gPur (wantV x78_1 false) (pickA x82_1 x84_1 (.bool false))) fun x85_1 =>
  purK (pickA x78_1 (.bool true) x85_1) fun x86_1 =>
  condK x86_1
  (
    R [x67_1, x68_1] H)
  (
    purK (nilChkA x0) fun x90_1 =>
    purK (fieldAddrA P 183 x90_1 0) fun x91_1 =>
    purK (loadA (Cx E) H 84 x91_1) fun x92_1 =>
    purK (nilChkA x0) fun x95_1 =>
    purK (fieldAddrA P 183 x95_1 2) fun x96_1 =>
    purK (loadA (Cx E) H 3 x96_1) fun x97_1 =>
    resK (E.call E.lim 99 [x92_1] H) fun x93_1 H => bif (agn (loadA (Cx E) H 3 x96_1) x97_1 && true) then
      resK (E.call E.lim 103 [x93_1, x97_1] H) fun x98_1 H =>
      purK (nilChkA x0) fun x100_1 =>
      purK (fieldAddrA P 183 x100_1 0) fun x101_1 =>
      purK (loadA (Cx E) H 84 x101_1) fun x102_1 =>
      resK (E.call E.lim 104 [x102_1] H) fun x103_1 H =>
      resK (E.call E.lim 98 [x0, x4] H) fun x106_1 H =>
      R [x106_1, (.int .i64 0)] H
    else none)
theorem N42_1_eq (E : LE) (x0 x4 : AV) (H : Heap) (R : RK) : N42_1_k (sp 107 [(0, x0), (4, x4)]) H R (jj E 42) = N42_1 E x0 x4 H R := by kernel_rfl
noncomputable def L42 (E : LE) (x0 : AV) (H : Heap) : Res :=
  purK (binA P H .eql 113 x0 .nilp) fun x14 =>
  condK x14
  (
    retK [(.int .i64 0), (.int .i64 2)] H)
  (
    purK (nilChkA x0) fun x17 =>
    purK (fieldAddrA P 183 x17 5) fun x18 =>
    purK (loadA (Cx E) H 179 x18) fun x19 =>
    purK (binA P H .eql 179 x19 .nilp) fun x20 =>
    condK x20
    (
      retK [(.int .i64 0), (.int .i64 7)] H)
    (
      purK (nilChkA x0) fun x22 =>
      purK (fieldAddrA P 183 x22 5) fun x23 =>
      purK (loadA (Cx E) H 179 x23) fun x24 =>
      purK (nilChkA x24) fun x27 =>
      purK (fieldAddrA P 187 x27 1) fun x28 =>
      purK (loadA (Cx E) H 185 x28) fun x29 =>
      resK (E.call E.lim 97 [x29] H) fun x30 H =>
      purK (extA 0 x30) fun x31 =>
      purK (extA 1 x30) fun x32 =>
      condK x32
      (
        resK (E.call E.lim 98 [x0, x24] H) fun x36 H =>
        retK [x36, (.int .i64 0)] H)
      (
        purK (nilChkA x0) fun x38 =>
        purK (fieldAddrA P 183 x38 0) fun x39 =>
        purK (loadA (Cx E) H 84 x39) fun x40 =>
        purK (nilChkA x0) fun x43 =>
        purK (fieldAddrA P 183 x43 2) fun x44 =>
        purK (loadA (Cx E) H 3 x44) fun x45 =>
        resK (E.call E.lim 99 [x40] H) fun x41 H => bif (agn (loadA (Cx E) H 3 x44) x45 && true) then
          resK (E.call E.lim 100 [x41, x45] H) fun x46 H =>
          purK (binA P H .eql 22 x46 (.int .u64 0)) fun x47 =>
          condK x47
          (
            purK (nilChkA x0) fun x49 =>
            purK (fieldAddrA P 183 x49 0) fun x50 =>
            purK (loadA (Cx E) H 84 x50) fun x51 =>
            purK (nilChkA x0) fun x54 =>
            purK (fieldAddrA P 183 x54 2) fun x55 =>
            purK (loadA (Cx E) H 3 x55) fun x56 =>
            resK (E.call E.lim 99 [x51] H) fun x52 H => bif (agn (loadA (Cx E) H 3 x55) x56 && true) then
              resK (E.call E.lim 101 [x52, x56] H) fun x57 H =>
              purK (binA P H .neq 28 x57 (.int .i64 0)) fun x59 =>
              condK x59
              (
                retK [(.int .i64 0), x57] H)
              (
                N42_1 E x0 x24 H retK)
            else none)
          (
            N42_1 E x0 x24 H retK)
        else none)))
theorem L42_x (E : LE) (J : CodeF) (x0 : AV) (H : Heap) : jx E 42 J c42 [x0, (.tup []), (.tup []), (.tup []), (.tup []), (.tup []), (.tup []), (.tup []), (.tup []), (.tup []), (.tup []), (.tup []), (.tup []), (.tup []), (.tup []), (.tup []), (.tup []), (.tup []), (.tup []), (.tup []), (.tup []), (.tup []), (.tup []), (.tup []), (.tup []), (.tup []), (.tup []), (.tup []), (.tup []), (.tup []), (.tup []), (.tup []), (.tup []), (.tup []), (.tup []), (.tup []), (.tup []), (.tup []), (.tup []), (.tup []), (.tup []), (.tup []), (.tup []), (.tup []), (.tup []), (.tup []), (.tup []), (.tup []), (.tup []), (.tup []), (.tup []), (.tup []), (.tup []), (.tup []), (.tup []), (.tup []), (.tup []), (.tup []), (.tup []), (.tup []), (.tup []), (.tup []), (.tup []), (.tup []), (.tup []), (.tup []), (.tup []), (.tup []), (.tup []), (.tup []), (.tup []), (.tup []), (.tup []), (.tup []), (.tup []), (.tup []), (.tup []), (.tup []), (.tup []), (.tup []), (.tup []), (.tup []), (.tup []), (.tup []), (.tup []), (.tup []), (.tup []), (.tup []), (.tup []), (.tup []), (.tup []), (.tup []), (.tup []), (.tup []), (.tup []), (.tup []), (.tup []), (.tup []), (.tup []), (.tup []), (.tup []), (.tup []), (.tup []), (.tup []), (.tup []), (.tup []), (.tup [])] H (kk none (fun s H => retK (([2, 3] : List Nat).map fun t => s.getD t (.tup [])) H) [] retK [2, 3]) =
  purK (binA P H .eql 113 x0 .nilp) fun x14 =>
  condK x14
  (
    retK [(.int .i64 0), (.int .i64 2)] H)
  (
    purK (nilChkA x0) fun x17 =>
    purK (fieldAddrA P 183 x17 5) fun x18 =>
    purK (loadA (Cx E) H 179 x18) fun x19 =>
    purK (binA P H .eql 179 x19 .nilp) fun x20 =>
    condK x20
    (
      retK [(.int .i64 0), (.int .i64 7)] H)
    (
      purK (nilChkA x0) fun x22 =>
      purK (fieldAddrA P 183 x22 5) fun x23 =>
      purK (loadA (Cx E) H 179 x23) fun x24 =>
      purK (nilChkA x24) fun x27 =>
      purK (fieldAddrA P 187 x27 1) fun x28 =>
      purK (loadA (Cx E) H 185 x28) fun x29 =>
      resK (E.call E.lim 97 [x29] H) fun x30 H =>
      purK (extA 0 x30) fun x31 =>
      purK (extA 1 x30) fun x32 =>
      condK x32
      (
        resK (E.call E.lim 98 [x0, x24] H) fun x36 H =>
        retK [x36, (.int .i64 0)] H)
      (
        purK (nilChkA x0) fun x38 =>
        purK (fieldAddrA P 183 x38 0) fun x39 =>
        purK (loadA (Cx E) H 84 x39) fun x40 =>
        purK (nilChkA x0) fun x43 =>
        purK (fieldAddrA P 183 x43 2) fun x44 =>
        purK (loadA (Cx E) H 3 x44) fun x45 =>
        resK (E.call E.lim 99 [x40] H) fun x41 H => bif (agn (loadA (Cx E) H 3 x44) x45 && true) then
          resK (E.call E.lim 100 [x41, x45] H) fun x46 H =>
          purK (binA P H .eql 22 x46 (.int .u64 0)) fun x47 =>
          condK x47
          (
            purK (nilChkA x0) fun x49 =>
            purK (fieldAddrA P 183 x49 0) fun x50 =>
            purK (loadA (Cx E) H 84 x50) fun x51 =>
            purK (nilChkA x0) fun x54 =>
            purK (fieldAddrA P 183 x54 2) fun x55 =>
            purK (loadA (Cx E) H 3 x55) fun x56 =>
            resK (E.call E.lim 99 [x51] H) fun x52 H => bif (agn (loadA (Cx E) H 3 x55) x56 && true) then
              resK (E.call E.lim 101 [x52, x56] H) fun x57 H =>
              purK (binA P H .neq 28 x57 (.int .i64 0)) fun x59 =>
              condK x59
              (
                retK [(.int .i64 0), x57] H)
              (
                N42_1_k (sp 107 [(0, x0), (4, x24)]) H retK J)
            else none)
          (
            N42_1_k (sp 107 [(0, x0), (4, x24)]) H retK J)
        else none))) := by kernel_rfl
theorem G42 (E : LE) (x0 : AV) (H : Heap) : jj E 42 c42 [x0, (.tup []), (.tup []), (.tup []), (.tup []), (.tup []), (.tup []), (.tup []), (.tup []), (.tup []), (.tup []), (.tup []), (.tup []), (.tup []), (.tup []), (.tup []), (.tup []), (.tup []), (.tup []), (.tup []), (.tup []), (.tup []), (.tup []), (.tup []), (.tup []), (.tup []), (.tup []), (.tup []), (.tup []), (.tup []), (.tup []), (.tup []), (.tup []), (.tup []), (.tup []), (.tup []), (.tup []), (.tup []), (.tup []), (.tup []), (.tup []), (.tup []), (.tup []), (.tup []), (.tup []), (.tup []), (.tup []), (.tup []), (.tup []), (.tup []), (.tup []), (.tup []), (.tup []), (.tup []), (.tup []), (.tup []), (.tup []), (.tup []), (.tup []), (.tup []), (.tup []), (.tup []), (.tup []), (.tup []), (.tup []), (.tup []), (.tup []), (.tup []), (.tup []), (.tup []), (.tup []), (.tup []), (.tup []), (.tup []), (.tup []), (.tup []), (.tup []), (.tup []), (.tup []), (.tup []), (.tup []), (.tup []), (.tup []), (.tup []), (.tup []), (.tup []), (.tup []), (.tup []), (.tup []), (.tup []), (.tup []), (.tup []), (.tup []), (.tup []), (.tup []), (.tup []), (.tup []), (.tup []), (.tup []), (.tup []), (.tup []), (.tup []), (.tup []), (.tup []), (.tup []), (.tup []), (.tup [])] H (kk none (fun s H => retK (([2, 3] : List Nat).map fun t => s.getD t (.tup [])) H) [] retK [2, 3]) = L42 E x0 H := (jj_X E 42 _ _ H _).trans ((L42_x E (jj E 42) x0 H).trans (by simp only [L42, N42_1_eq]))
theorem E42 (ρ : Addr → Option Value) (k lim : Nat) (x0 : AV) (H : Heap) : evCall (cx ρ) (k + 1) lim 42 [x0] H = L42 ⟨ρ, evCall (cx ρ) k, (evCY (cx ρ) k).2, lim, k⟩ x0 H := by
  rw [evCall_body (cx ρ) k lim 42 _ H Tryz.f42 c42 [2, 3] (by kernel_rfl) (by kernel_rfl) (by kernel_rfl) (by kernel_rfl) (by kernel_rfl)]
  have h := G42 ⟨ρ, evCall (cx ρ) k, (evCY (cx ρ) k).2, lim, k⟩ x0 H
  unfold jj at h
  exact h
-- (*haycroft/store.Store).Up
noncomputable def c51 : Code := Code.of Tryz.prog 51
noncomputable def L51 (E : LE) (x0 : AV) (H : Heap) : Res :=
  purK (binA P H .neq 48 x0 .nilp) fun x4 =>
  purK (gPur (wantV x4 true) (some x0)) fun x6 =>
  purK (gPur (wantV x4 true) (nilChkA x6)) fun x7 =>
  purK (gPur (wantV x4 true) (fieldAddrA P 106 x7 2)) fun x8 =>
  purK (gPur (wantV x4 true) (loadA (Cx E) H 102 x8)) fun x9 =>
  purK (gPur (wantV x4 true) (binA P H .neq 102 x9 .nilp)) fun x10 =>
  purK (pickA x4 x10 (.bool false)) fun x11 =>
  retK [x11] H
theorem G51 (E : LE) (x0 : AV) (H : Heap) : jj E 51 c51 [x0, (.tup []), (.tup []), (.tup []), (.tup []), (.tup []), (.tup []), (.tup []), (.tup []), (.tup []), (.tup []), (.tup [])] H (kk none (fun s H => retK (([2] : List Nat).map fun t => s.getD t (.tup [])) H) [] retK [2]) = L51 E x0 H := by kernel_rfl
theorem E51 (ρ : Addr → Option Value) (k lim : Nat) (x0 : AV) (H : Heap) : evCall (cx ρ) (k + 1) lim 51 [x0] H = L51 ⟨ρ, evCall (cx ρ) k, (evCY (cx ρ) k).2, lim, k⟩ x0 H := by
  rw [evCall_body (cx ρ) k lim 51 _ H Tryz.f51 c51 [2] (by kernel_rfl) (by kernel_rfl) (by kernel_rfl) (by kernel_rfl) (by kernel_rfl)]
  have h := G51 ⟨ρ, evCall (cx ρ) k, (evCY (cx ρ) k).2, lim, k⟩ x0 H
  unfold jj at h
  exact h
-- haycroft/place.Page
noncomputable def c52 : Code := Code.of Tryz.prog 52
noncomputable def L52 (E : LE) (x0 x1 : AV) (H : Heap) : Res :=
  purK (binA P H .sub 3 (.int .i64 48) x0) fun x9 =>
  resK (E.call E.lim 59 [x0, x1, x0, x9] H) fun x10 H =>
  retK [x10] H
theorem G52 (E : LE) (x0 x1 : AV) (H : Heap) : jj E 52 c52 [x0, x1, (.tup []), (.tup []), (.tup []), (.tup []), (.tup []), (.tup []), (.tup []), (.tup []), (.tup [])] H (kk none (fun s H => retK (([4] : List Nat).map fun t => s.getD t (.tup [])) H) [] retK [4]) = L52 E x0 x1 H := by kernel_rfl
theorem E52 (ρ : Addr → Option Value) (k lim : Nat) (x0 x1 : AV) (H : Heap) : evCall (cx ρ) (k + 1) lim 52 [x0, x1] H = L52 ⟨ρ, evCall (cx ρ) k, (evCY (cx ρ) k).2, lim, k⟩ x0 x1 H := by
  rw [evCall_body (cx ρ) k lim 52 _ H Tryz.f52 c52 [4] (by kernel_rfl) (by kernel_rfl) (by kernel_rfl) (by kernel_rfl) (by kernel_rfl)]
  have h := G52 ⟨ρ, evCall (cx ρ) k, (evCY (cx ρ) k).2, lim, k⟩ x0 x1 H
  unfold jj at h
  exact h
-- (*haycroft/hlog.Log).Pages
noncomputable def c53 : Code := Code.of Tryz.prog 53
noncomputable def L53 (E : LE) (x0 : AV) (H : Heap) : Res :=
  purK (binA P H .eql 84 x0 .nilp) fun x4 =>
  condK x4
  (
    retK [.nilp] H)
  (
    purK (nilChkA x0) fun x6 =>
    purK (fieldAddrA P 153 x6 1) fun x7 =>
    purK (loadA (Cx E) H 122 x7) fun x8 =>
    retK [x8] H)
theorem G53 (E : LE) (x0 : AV) (H : Heap) : jj E 53 c53 [x0, (.tup []), (.tup []), (.tup []), (.tup []), (.tup []), (.tup []), (.tup []), (.tup [])] H (kk none (fun s H => retK (([2] : List Nat).map fun t => s.getD t (.tup [])) H) [] retK [2]) = L53 E x0 H := by kernel_rfl
theorem E53 (ρ : Addr → Option Value) (k lim : Nat) (x0 : AV) (H : Heap) : evCall (cx ρ) (k + 1) lim 53 [x0] H = L53 ⟨ρ, evCall (cx ρ) k, (evCY (cx ρ) k).2, lim, k⟩ x0 H := by
  rw [evCall_body (cx ρ) k lim 53 _ H Tryz.f53 c53 [2] (by kernel_rfl) (by kernel_rfl) (by kernel_rfl) (by kernel_rfl) (by kernel_rfl)]
  have h := G53 ⟨ρ, evCall (cx ρ) k, (evCY (cx ρ) k).2, lim, k⟩ x0 H
  unfold jj at h
  exact h
-- (*haycroft/pages.Buffer).Page
noncomputable def c54 : Code := Code.of Tryz.prog 54
noncomputable def L54 (E : LE) (x0 x1 : AV) (H : Heap) : Res :=
  purK (binA P H .eql 122 x0 .nilp) fun x9 =>
  condK x9
  (
    retK [.nils, (.int .i64 2)] H)
  (
    resK (E.call E.lim 122 [x0, x1] H) fun x13 H =>
    purK (unA .not x13) fun x14 =>
    condK x14
    (
      retK [.nils, (.int .i64 7)] H)
    (
      purK (nilChkA x0) fun x16 =>
      purK (fieldAddrA P 199 x16 0) fun x17 =>
      purK (loadA (Cx E) H 3 x17) fun x18 =>
      resK (E.call E.lim 58 [x18] H) fun x19 H =>
      purK (nilChkA x0) fun x21 =>
      purK (fieldAddrA P 199 x21 1) fun x22 =>
      purK (loadA (Cx E) H 160 x22) fun x23 =>
      resK (E.call E.lim 124 [x0, x1] H) fun x26 H => bif (agn (loadA (Cx E) H 160 x22) x23 && true) then
        purK (binA P H .mul 3 x26 x19) fun x28 =>
        resK (E.call E.lim 123 [x23, x28, x19] H) fun x30 H =>
        purK (extA 0 x30) fun x31 =>
        purK (extA 1 x30) fun x32 =>
        retK [x31, x32] H
      else none))
theorem G54 (E : LE) (x0 x1 : AV) (H : Heap) : jj E 54 c54 [x0, x1, (.tup []), (.tup []), (.tup []), (.tup []), (.tup []), (.tup []), (.tup []), (.tup []), (.tup []), (.tup []), (.tup []), (.tup []), (.tup []), (.tup []), (.tup []), (.tup []), (.tup []), (.tup []), (.tup []), (.tup []), (.tup []), (.tup []), (.tup []), (.tup []), (.tup []), (.tup []), (.tup []), (.tup []), (.tup []), (.tup []), (.tup [])] H (kk none (fun s H => retK (([4, 5] : List Nat).map fun t => s.getD t (.tup [])) H) [] retK [4, 5]) = L54 E x0 x1 H := by kernel_rfl
theorem E54 (ρ : Addr → Option Value) (k lim : Nat) (x0 x1 : AV) (H : Heap) : evCall (cx ρ) (k + 1) lim 54 [x0, x1] H = L54 ⟨ρ, evCall (cx ρ) k, (evCY (cx ρ) k).2, lim, k⟩ x0 x1 H := by
  rw [evCall_body (cx ρ) k lim 54 _ H Tryz.f54 c54 [4, 5] (by kernel_rfl) (by kernel_rfl) (by kernel_rfl) (by kernel_rfl) (by kernel_rfl)]
  have h := G54 ⟨ρ, evCall (cx ρ) k, (evCY (cx ρ) k).2, lim, k⟩ x0 x1 H
  unfold jj at h
  exact h
-- (*haycroft/device.Device).Peek
noncomputable def c56 : Code := Code.of Tryz.prog 56
noncomputable def L56 (E : LE) (x0 x1 : AV) (H : Heap) : Res :=
  effK H (boxA H 128 x1) fun x3 H =>
  purK (binA P H .eql 54 x0 .nilp) fun x9 =>
  condK x9
  (
    retK [(.str (ByteArray.mk #[])), (.bool false)] H)
  (
    purK (nilChkA x0) fun x12 =>
    purK (fieldAddrA P 111 x12 1) fun x13 =>
    purK (loadA (Cx E) H 107 x13) fun x14 =>
    purK (loadA (Cx E) H 128 x3) fun x15 =>
    purK (lookupA (Cx E) H 107 x14 x15 true) fun x16 =>
    purK (extA 0 x16) fun x17 =>
    purK (extA 1 x16) fun x18 =>
    retK [x17, x18] H)
theorem G56 (E : LE) (x0 x1 : AV) (H : Heap) : jj E 56 c56 [x0, x1, (.tup []), (.tup []), (.tup []), (.tup []), (.tup []), (.tup []), (.tup []), (.tup []), (.tup []), (.tup []), (.tup []), (.tup []), (.tup []), (.tup []), (.tup []), (.tup []), (.tup []), (.tup []), (.tup [])] H (kk none (fun s H => retK (([4, 5] : List Nat).map fun t => s.getD t (.tup [])) H) [] retK [4, 5]) = L56 E x0 x1 H := by kernel_rfl
theorem E56 (ρ : Addr → Option Value) (k lim : Nat) (x0 x1 : AV) (H : Heap) : evCall (cx ρ) (k + 1) lim 56 [x0, x1] H = L56 ⟨ρ, evCall (cx ρ) k, (evCY (cx ρ) k).2, lim, k⟩ x0 x1 H := by
  rw [evCall_body (cx ρ) k lim 56 _ H Tryz.f56 c56 [4, 5] (by kernel_rfl) (by kernel_rfl) (by kernel_rfl) (by kernel_rfl) (by kernel_rfl)]
  have h := G56 ⟨ρ, evCall (cx ρ) k, (evCY (cx ρ) k).2, lim, k⟩ x0 x1 H
  unfold jj at h
  exact h
-- haycroft/place.Size
noncomputable def c58 : Code := Code.of Tryz.prog 58
noncomputable def L58 (E : LE) (x0 : AV) (H : Heap) : Res :=
  resK (E.call E.lim 89 [x0] H) fun x4 H =>
  purK (unA .not x4) fun x5 =>
  condK x5
  (
    retK [(.int .i64 0)] H)
  (
    purK (binA P H .shl 3 (.int .i64 1) x0) fun x7 =>
    retK [x7] H)
theorem G58 (E : LE) (x0 : AV) (H : Heap) : jj E 58 c58 [x0, (.tup []), (.tup []), (.tup []), (.tup []), (.tup []), (.tup []), (.tup [])] H (kk none (fun s H => retK (([2] : List Nat).map fun t => s.getD t (.tup [])) H) [] retK [2]) = L58 E x0 H := by kernel_rfl
theorem E58 (ρ : Addr → Option Value) (k lim : Nat) (x0 : AV) (H : Heap) : evCall (cx ρ) (k + 1) lim 58 [x0] H = L58 ⟨ρ, evCall (cx ρ) k, (evCY (cx ρ) k).2, lim, k⟩ x0 H := by
  rw [evCall_body (cx ρ) k lim 58 _ H Tryz.f58 c58 [2] (by kernel_rfl) (by kernel_rfl) (by kernel_rfl) (by kernel_rfl) (by kernel_rfl)]
  have h := G58 ⟨ρ, evCall (cx ρ) k, (evCY (cx ρ) k).2, lim, k⟩ x0 H
  unfold jj at h
  exact h
-- haycroft/place.part
noncomputable def c59 : Code := Code.of Tryz.prog 59
noncomputable def L59 (E : LE) (x0 x1 x2 x3 : AV) (H : Heap) : Res :=
  resK (E.call E.lim 89 [x0] H) fun x10 H =>
  purK (unA .not x10) fun x11 =>
  purK (gPur (wantV x11 false) (some x1)) fun x13 =>
  purK (gPur (wantV x11 false) (binA P H .gtr 22 x13 (.int .u64 281474976710655))) fun x14 =>
  purK (pickA x11 (.bool true) x14) fun x15 =>
  condK x15
  (
    retK [(.int .i64 0)] H)
  (
    resK (E.call E.lim 86 [x1, x2, x3] H) fun x19 H =>
    purK (convXA (Cx E) H 22 3 x19) fun x20 =>
    retK [x20] H)
theorem G59 (E : LE) (x0 x1 x2 x3 : AV) (H : Heap) : jj E 59 c59 [x0, x1, x2, x3, (.tup []), (.tup []), (.tup []), (.tup []), (.tup []), (.tup []), (.tup []), (.tup []), (.tup []), (.tup []), (.tup []), (.tup []), (.tup []), (.tup []), (.tup []), (.tup []), (.tup [])] H (kk none (fun s H => retK (([8] : List Nat).map fun t => s.getD t (.tup [])) H) [] retK [8]) = L59 E x0 x1 x2 x3 H := by kernel_rfl
theorem E59 (ρ : Addr → Option Value) (k lim : Nat) (x0 x1 x2 x3 : AV) (H : Heap) : evCall (cx ρ) (k + 1) lim 59 [x0, x1, x2, x3] H = L59 ⟨ρ, evCall (cx ρ) k, (evCY (cx ρ) k).2, lim, k⟩ x0 x1 x2 x3 H := by
  rw [evCall_body (cx ρ) k lim 59 _ H Tryz.f59 c59 [8] (by kernel_rfl) (by kernel_rfl) (by kernel_rfl) (by kernel_rfl) (by kernel_rfl)]
  have h := G59 ⟨ρ, evCall (cx ρ) k, (evCY (cx ρ) k).2, lim, k⟩ x0 x1 x2 x3 H
  unfold jj at h
  exact h
-- haycroft/record.Head
noncomputable def c60 : Code := Code.of Tryz.prog 60
noncomputable def L60 (E : LE) (x0 : AV) (H : Heap) : Res :=
  purK (lenBA (Cx E) H 31 x0) fun x6 =>
  purK (binA P H .lss 3 x6 (.int .i64 3)) fun x7 =>
  condK x7
  (
    retK [(.int .i64 0), (.int .i64 0), (.int .i64 3)] H)
  (
    purK (indexAddrA P 31 x0 (.int .i64 2)) fun x9 =>
    purK (loadA (Cx E) H 22 x9) fun x10 =>
    resK (E.call E.lim 128 [x10] H) fun x11 H =>
    purK (extA 0 x11) fun x12 =>
    purK (extA 1 x11) fun x13 =>
    purK (extA 2 x11) fun x14 =>
    retK [x12, x13, x14] H)
theorem G60 (E : LE) (x0 : AV) (H : Heap) : jj E 60 c60 [x0, (.tup []), (.tup []), (.tup []), (.tup []), (.tup []), (.tup []), (.tup []), (.tup []), (.tup []), (.tup []), (.tup []), (.tup []), (.tup []), (.tup [])] H (kk none (fun s H => retK (([2, 3, 4] : List Nat).map fun t => s.getD t (.tup [])) H) [] retK [2, 3, 4]) = L60 E x0 H := by kernel_rfl
theorem E60 (ρ : Addr → Option Value) (k lim : Nat) (x0 : AV) (H : Heap) : evCall (cx ρ) (k + 1) lim 60 [x0] H = L60 ⟨ρ, evCall (cx ρ) k, (evCY (cx ρ) k).2, lim, k⟩ x0 H := by
  rw [evCall_body (cx ρ) k lim 60 _ H Tryz.f60 c60 [2, 3, 4] (by kernel_rfl) (by kernel_rfl) (by kernel_rfl) (by kernel_rfl) (by kernel_rfl)]
  have h := G60 ⟨ρ, evCall (cx ρ) k, (evCY (cx ρ) k).2, lim, k⟩ x0 H
  unfold jj at h
  exact h
-- haycroft/record.Size
noncomputable def c61 : Code := Code.of Tryz.prog 61
noncomputable def L61 (E : LE) (x0 x1 : AV) (H : Heap) : Res :=
  resK (E.call E.lim 129 [x0, x1] H) fun x10 H =>
  purK (extA 0 x10) fun x11 =>
  purK (extA 1 x10) fun x12 =>
  purK (binA P H .neq 28 x12 (.int .i64 0)) fun x14 =>
  condK x14
  (
    retK [(.int .i64 0)] H)
  (
    resK (E.call E.lim 130 [x0] H) fun x16 H =>
    purK (binA P H .add 3 (.int .i64 3) x16) fun x17 =>
    resK (E.call E.lim 130 [x1] H) fun x19 H =>
    purK (binA P H .add 3 x17 x19) fun x20 =>
    retK [x20] H)
theorem G61 (E : LE) (x0 x1 : AV) (H : Heap) : jj E 61 c61 [x0, x1, (.tup []), (.tup []), (.tup []), (.tup []), (.tup []), (.tup []), (.tup []), (.tup []), (.tup []), (.tup []), (.tup []), (.tup []), (.tup []), (.tup []), (.tup []), (.tup []), (.tup []), (.tup []), (.tup [])] H (kk none (fun s H => retK (([4] : List Nat).map fun t => s.getD t (.tup [])) H) [] retK [4]) = L61 E x0 x1 H := by kernel_rfl
theorem E61 (ρ : Addr → Option Value) (k lim : Nat) (x0 x1 : AV) (H : Heap) : evCall (cx ρ) (k + 1) lim 61 [x0, x1] H = L61 ⟨ρ, evCall (cx ρ) k, (evCY (cx ρ) k).2, lim, k⟩ x0 x1 H := by
  rw [evCall_body (cx ρ) k lim 61 _ H Tryz.f61 c61 [4] (by kernel_rfl) (by kernel_rfl) (by kernel_rfl) (by kernel_rfl) (by kernel_rfl)]
  have h := G61 ⟨ρ, evCall (cx ρ) k, (evCY (cx ρ) k).2, lim, k⟩ x0 x1 H
  unfold jj at h
  exact h
-- haycroft/header.Unpack
noncomputable def c62 : Code := Code.of Tryz.prog 62
noncomputable def L62 (E : LE) (x0 : AV) (H : Heap) : Res :=
  effK H (allocA (Cx E) H 25) fun x2 H =>
  resK (E.call E.lim 131 [(.int .i64 50)] H) fun x5 H =>
  purK (binA P H .gtr 22 x0 x5) fun x6 =>
  condK x6
  (
    purK (buildA P 25 []) fun x7 =>
    effK H ((storeA (Cx E) E.lim H 25 x2 x7).map skips) fun _ H =>
    (retC (Cx E) [some 25, none]) [x2, (.int .i64 4)] H)
  (
    resK (E.call E.lim 86 [x0, (.int .i64 0), (.int .i64 48)] H) fun x9 H =>
    resK (E.call E.lim 87 [x0, (.int .i64 48)] H) fun x11 H =>
    resK (E.call E.lim 87 [x0, (.int .i64 49)] H) fun x13 H =>
    purK (buildA P 25 [(0, x9), (1, x11), (2, x13)]) fun x14 =>
    effK H ((storeA (Cx E) E.lim H 25 x2 x14).map skips) fun _ H =>
    (retC (Cx E) [some 25, none]) [x2, (.int .i64 0)] H)
theorem G62 (E : LE) (x0 : AV) (H : Heap) : jj E 62 c62 [x0, (.tup []), (.tup []), (.tup []), (.tup []), (.tup []), (.tup []), (.tup []), (.tup []), (.tup []), (.tup []), (.tup []), (.tup []), (.tup []), (.tup [])] H (kk none (fun s H => (retC (Cx E) [some 25, none]) (([2, 3] : List Nat).map fun t => s.getD t (.tup [])) H) [] (retC (Cx E) [some 25, none]) [2, 3]) = L62 E x0 H := by kernel_rfl
theorem E62 (ρ : Addr → Option Value) (k lim : Nat) (x0 : AV) (H : Heap) : evCall (cx ρ) (k + 1) lim 62 [x0] H = L62 ⟨ρ, evCall (cx ρ) k, (evCY (cx ρ) k).2, lim, k⟩ x0 H := by
  rw [evCall_cells (cx ρ) k lim 62 _ H Tryz.f62 c62 [2, 3] [some 25, none] (by kernel_rfl) (by kernel_rfl) (by kernel_rfl) (by kernel_rfl) (by kernel_rfl) (by kernel_rfl)]
  have h := G62 ⟨ρ, evCall (cx ρ) k, (evCY (cx ρ) k).2, lim, k⟩ x0 H
  unfold jj at h
  exact h
-- haycroft/field.Bytes
noncomputable def c63 : Code := Code.of Tryz.prog 63
noncomputable def N63_1_k (s : Slots) (H : Heap) (R : RK) (J : CodeF) : Res := J (Code.at [1, 1, 1, 1] c63) s H (kk none (fun s H => R (([4, 5] : List Nat).map fun t => s.getD t (.tup [])) H) [] R [4, 5])
noncomputable def N63_2_k (s : Slots) (H : Heap) (R : RK) (J : CodeF) : Res := J (Code.at [1, 1, 1, 1, 1, 1] c63) s H (kk none (fun s H => R (([4, 5] : List Nat).map fun t => s.getD t (.tup [])) H) [] R [4, 5])
noncomputable def N63_2 (E : LE) (x1 x6 : AV) (H : Heap) (R : RK) : Res :=
  purK (sliceA P 207 x6 none (some x1) none) fun x62_1 =>
  purK (convXA (Cx E) H 207 9 x62_1) fun x63_1 =>
  R [x63_1, (.int .i64 0)] H
theorem N63_2_eq (E : LE) (x1 x6 : AV) (H : Heap) (R : RK) : N63_2_k (sp 64 [(1, x1), (6, x6)]) H R (jj E 63) = N63_2 E x1 x6 H R := by kernel_rfl
noncomputable def N63_3_k (s : Slots) (H : Heap) (kn : KS) (R : RK) (J : CodeF) : Res := J (Code.at [1, 1, 1, 1, 1, 0, 1] c63) s H (kk (some [1, 6]) kn [] R [4, 5])
noncomputable def N63_3b_k (s : Slots) (H : Heap) (kn k3 : KS) (R : RK) (J : CodeF) : Res := J (Code.at [1, 1, 1, 1, 1, 0, 1, 0, 0] c63) s H (kk (some [1, 6, 51, 52, 53]) kn [(3, (some [1, 6]), k3)] R [4, 5])
noncomputable def N63_3b (E : LE) (x1 x6 x51 x52 x53 : AV) (H : Heap) (kn : AV → AV → AV → AV → AV → Heap → Res) (k3 : AV → AV → Heap → Res) (R : RK) : Res :=
  purK (binA P H .lss 3 x53 x52) fun x54_1 =>
  condK x54_1
  (
    purK (indexAddrA P 207 x51 x53) fun x55_1 =>
    purK (loadA (Cx E) H 5 x55_1) fun x56_1 =>
    purK (binA P H .neq 5 x56_1 (.int .u8 0)) fun x58_1 =>
    condK x58_1
    (
      R [(.str (ByteArray.mk #[])), (.int .i64 4)] H)
    (
      purK (binA P H .add 3 x53 (.int .i64 1)) fun x59_1 =>
      kn x1 x6 x51 x52 x59_1 H))
  (
    k3 x1 x6 H)
theorem N63_3b_eq (E : LE) (x1 x6 x51 x52 x53 : AV) (H : Heap) (kn k3 : KS) (R : RK) : N63_3b_k (sp 64 [(1, x1), (6, x6), (51, x51), (52, x52), (53, x53)]) H kn k3 R (jj E 63) = N63_3b E x1 x6 x51 x52 x53 H (fun x1 x6 x51 x52 x53 H => kn (sp 64 [(1, x1), (6, x6), (51, x51), (52, x52), (53, x53)]) H) (fun x1 x6 H => k3 (sp 64 [(1, x1), (6, x6)]) H) R := by kernel_rfl
noncomputable def N63_3 (E : LE) (x1 x6 x51 x52 x53 : AV) (H : Heap) (kn : AV → AV → Heap → Res) (R : RK) : Res :=
  loopL (fun (x : AV) H kl => N63_3b E x1 x6 x51 x52 x H (fun _ _ _ _ x53 H => kl x53 H) kn R) E.k x53 H
theorem N63_3_eq (E : LE) (x1 x6 x51 x52 x53 : AV) (H : Heap) (kn : KS) (R : RK) : N63_3_k (sp 64 [(1, x1), (6, x6), (51, x51), (52, x52), (53, x53)]) H kn R (jj E 63) = N63_3 E x1 x6 x51 x52 x53 H (fun x1 x6 H => kn (sp 64 [(1, x1), (6, x6)]) H) R := by
  have e : Code.at [1, 1, 1, 1, 1, 0, 1] c63 = Code.block 3 (Code.loop (Code.at [1, 1, 1, 1, 1, 0, 1, 0, 0] c63)) := by kernel_rfl
  unfold N63_3_k N63_3 jj
  rw [e]
  rw [block_kk]
  exact loop_node [1, 6, 51, 52, 53] (fun x : AV => (sp 64 [(1, x1), (6, x6), (51, x51), (52, x52), (53, (x))])) (fun (x : AV) H kl => N63_3b E x1 x6 x51 x52 x H (fun _ _ _ _ x53 H => kl x53 H) (fun x1 x6 H => kn (sp 64 [(1, x1), (6, x6)]) H) R) (by kernel_rfl) (fun x => by kernel_rfl) (fun x H kl => by
    have h := N63_3b_eq E x1 x6 x51 x52 (x) H kl kn R
    unfold N63_3b_k jj at h
    exact h) x53 (sp 64 [(1, x1), (6, x6), (51, x51), (52, x52), (53, x53)]) H (by kernel_rfl)
noncomputable def N63_1 (E : LE) (x0 x1 x6 : AV) (H : Heap) (R : RK) : Res :=
  purK (lenBA (Cx E) H 31 x0) fun x43_1 =>
  purK (binA P H .add 3 x1 (.int .i64 8)) fun x45_1 =>
  purK (binA P H .sub 3 x45_1 (.int .i64 1)) fun x46_1 =>
  purK (binA P H .quo 3 x46_1 (.int .i64 8)) fun x47_1 =>
  purK (binA P H .neq 3 x43_1 x47_1) fun x48_1 =>
  condK x48_1
  (
    R [(.str (ByteArray.mk #[])), (.int .i64 4)] H)
  (
    purK (sliceA P 207 x6 (some x1) none none) fun x51_1 =>
    purK (lenBA (Cx E) H 207 x51_1) fun x52_1 =>
    N63_3 E x1 x6 x51_1 x52_1 (.int .i64 0) H (fun x1_1 x6_1 H =>
      N63_2 E x1_1 x6_1 H R) R)
theorem N63_1_x (E : LE) (J : CodeF) (x0 x1 x6 : AV) (H : Heap) (R : RK) : N63_1_k (sp 64 [(0, x0), (1, x1), (6, x6)]) H R (jx E 63 J) =
  purK (lenBA (Cx E) H 31 x0) fun x43_1 =>
  purK (binA P H .add 3 x1 (.int .i64 8)) fun x45_1 =>
  purK (binA P H .sub 3 x45_1 (.int .i64 1)) fun x46_1 =>
  purK (binA P H .quo 3 x46_1 (.int .i64 8)) fun x47_1 =>
  purK (binA P H .neq 3 x43_1 x47_1) fun x48_1 =>
  condK x48_1
  (
    R [(.str (ByteArray.mk #[])), (.int .i64 4)] H)
  (
    purK (sliceA P 207 x6 (some x1) none none) fun x51_1 =>
    purK (lenBA (Cx E) H 207 x51_1) fun x52_1 =>
    N63_3_k (sp 64 [(1, x1), (6, x6), (51, x51_1), (52, x52_1), (53, (.int .i64 0))]) H (fun s H => N63_2_k s H R J) R J) := by kernel_rfl
theorem N63_1_eq (E : LE) (x0 x1 x6 : AV) (H : Heap) (R : RK) : N63_1_k (sp 64 [(0, x0), (1, x1), (6, x6)]) H R (jj E 63) = N63_1 E x0 x1 x6 H R := (jj_X E 63 _ _ H _).trans ((N63_1_x E (jj E 63) x0 x1 x6 H R).trans (by simp only [N63_1, N63_2_eq, N63_3_eq]))
noncomputable def N63_4_k (s : Slots) (H : Heap) (kn : KS) (R : RK) (J : CodeF) : Res := J (Code.at [1, 1, 1, 0, 1] c63) s H (kk (some [0, 1, 6]) kn [] R [4, 5])
noncomputable def N63_4b_k (s : Slots) (H : Heap) (kn k1 : KS) (R : RK) (J : CodeF) : Res := J (Code.at [1, 1, 1, 0, 1, 0, 0] c63) s H (kk (some [0, 1, 6, 24, 25]) kn [(1, (some [0, 1, 6]), k1)] R [4, 5])
noncomputable def N63_4b (E : LE) (x0 x1 x6 x24 x25 : AV) (H : Heap) (kn : AV → AV → AV → AV → AV → Heap → Res) (k1 : AV → AV → AV → Heap → Res) : Res :=
  purK (binA P H .lss 3 x25 x24) fun x26_1 =>
  condK x26_1
  (
    purK (binA P H .quo 3 x25 (.int .i64 8)) fun x32_1 =>
    purK (indexAddrA P 31 x0 x32_1) fun x33_1 =>
    purK (loadA (Cx E) H 22 x33_1) fun x34_1 =>
    purK (binA P H .rem 3 x25 (.int .i64 8)) fun x36_1 =>
    purK (binA P H .mul 3 x36_1 (.int .i64 8)) fun x37_1 =>
    purK (binA P H .shr 22 x34_1 x37_1) fun x38_1 =>
    purK (convXA (Cx E) H 22 5 x38_1) fun x39_1 =>
    purK (indexAddrA P 207 x6 x25) fun x40_1 =>
    effK H ((storeA (Cx E) E.lim H 5 x40_1 x39_1).map skips) fun _ H =>
    purK (binA P H .add 3 x25 (.int .i64 1)) fun x41_1 =>
    kn x0 x1 x6 x24 x41_1 H)
  (
    k1 x0 x1 x6 H)
theorem N63_4b_eq (E : LE) (x0 x1 x6 x24 x25 : AV) (H : Heap) (kn k1 : KS) (R : RK) : N63_4b_k (sp 64 [(0, x0), (1, x1), (6, x6), (24, x24), (25, x25)]) H kn k1 R (jj E 63) = N63_4b E x0 x1 x6 x24 x25 H (fun x0 x1 x6 x24 x25 H => kn (sp 64 [(0, x0), (1, x1), (6, x6), (24, x24), (25, x25)]) H) (fun x0 x1 x6 H => k1 (sp 64 [(0, x0), (1, x1), (6, x6)]) H) := by kernel_rfl
noncomputable def N63_4 (E : LE) (x0 x1 x6 x24 x25 : AV) (H : Heap) (kn : AV → AV → AV → Heap → Res) : Res :=
  loopL (fun (x : AV) H kl => N63_4b E x0 x1 x6 x24 x H (fun _ _ _ _ x25 H => kl x25 H) kn) E.k x25 H
theorem N63_4_eq (E : LE) (x0 x1 x6 x24 x25 : AV) (H : Heap) (kn : KS) (R : RK) : N63_4_k (sp 64 [(0, x0), (1, x1), (6, x6), (24, x24), (25, x25)]) H kn R (jj E 63) = N63_4 E x0 x1 x6 x24 x25 H (fun x0 x1 x6 H => kn (sp 64 [(0, x0), (1, x1), (6, x6)]) H) := by
  have e : Code.at [1, 1, 1, 0, 1] c63 = Code.block 1 (Code.loop (Code.at [1, 1, 1, 0, 1, 0, 0] c63)) := by kernel_rfl
  unfold N63_4_k N63_4 jj
  rw [e]
  rw [block_kk]
  exact loop_node [0, 1, 6, 24, 25] (fun x : AV => (sp 64 [(0, x0), (1, x1), (6, x6), (24, x24), (25, (x))])) (fun (x : AV) H kl => N63_4b E x0 x1 x6 x24 x H (fun _ _ _ _ x25 H => kl x25 H) (fun x0 x1 x6 H => kn (sp 64 [(0, x0), (1, x1), (6, x6)]) H)) (by kernel_rfl) (fun x => by kernel_rfl) (fun x H kl => by
    have h := N63_4b_eq E x0 x1 x6 x24 (x) H kl kn R
    unfold N63_4b_k jj at h
    exact h) x25 (sp 64 [(0, x0), (1, x1), (6, x6), (24, x24), (25, x25)]) H (by kernel_rfl)
noncomputable def L63 (E : LE) (x0 x1 : AV) (H : Heap) : Res :=
  purK (binA P H .lss 3 x1 (.int .i64 0)) fun x12 =>
  condK x12
  (
    retK [(.str (ByteArray.mk #[])), (.int .i64 1)] H)
  (
    purK (lenBA (Cx E) H 31 x0) fun x16 =>
    purK (binA P H .mul 3 (.int .i64 8) x16) fun x17 =>
    purK (binA P H .gtr 3 x1 x17) fun x18 =>
    condK x18
    (
      retK [(.str (ByteArray.mk #[])), (.int .i64 3)] H)
    (
      purK (lenBA (Cx E) H 31 x0) fun x20 =>
      purK (binA P H .mul 3 (.int .i64 8) x20) fun x21 =>
      effK H (makeSliceA (Cx E) H 207 x21 x21) fun x22 H =>
      purK (lenBA (Cx E) H 207 x22) fun x24 =>
      N63_4 E x0 x1 x22 x24 (.int .i64 0) H (fun x0_1 x1_1 x6 H =>
        N63_1 E x0_1 x1_1 x6 H retK)))
theorem L63_x (E : LE) (J : CodeF) (x0 x1 : AV) (H : Heap) : jx E 63 J c63 [x0, x1, (.tup []), (.tup []), (.tup []), (.tup []), (.tup []), (.tup []), (.tup []), (.tup []), (.tup []), (.tup []), (.tup []), (.tup []), (.tup []), (.tup []), (.tup []), (.tup []), (.tup []), (.tup []), (.tup []), (.tup []), (.tup []), (.tup []), (.tup []), (.tup []), (.tup []), (.tup []), (.tup []), (.tup []), (.tup []), (.tup []), (.tup []), (.tup []), (.tup []), (.tup []), (.tup []), (.tup []), (.tup []), (.tup []), (.tup []), (.tup []), (.tup []), (.tup []), (.tup []), (.tup []), (.tup []), (.tup []), (.tup []), (.tup []), (.tup []), (.tup []), (.tup []), (.tup []), (.tup []), (.tup []), (.tup []), (.tup []), (.tup []), (.tup []), (.tup []), (.tup []), (.tup []), (.tup [])] H (kk none (fun s H => retK (([4, 5] : List Nat).map fun t => s.getD t (.tup [])) H) [] retK [4, 5]) =
  purK (binA P H .lss 3 x1 (.int .i64 0)) fun x12 =>
  condK x12
  (
    retK [(.str (ByteArray.mk #[])), (.int .i64 1)] H)
  (
    purK (lenBA (Cx E) H 31 x0) fun x16 =>
    purK (binA P H .mul 3 (.int .i64 8) x16) fun x17 =>
    purK (binA P H .gtr 3 x1 x17) fun x18 =>
    condK x18
    (
      retK [(.str (ByteArray.mk #[])), (.int .i64 3)] H)
    (
      purK (lenBA (Cx E) H 31 x0) fun x20 =>
      purK (binA P H .mul 3 (.int .i64 8) x20) fun x21 =>
      effK H (makeSliceA (Cx E) H 207 x21 x21) fun x22 H =>
      purK (lenBA (Cx E) H 207 x22) fun x24 =>
      N63_4_k (sp 64 [(0, x0), (1, x1), (6, x22), (24, x24), (25, (.int .i64 0))]) H (fun s H => N63_1_k s H retK J) retK J)) := by kernel_rfl
theorem G63 (E : LE) (x0 x1 : AV) (H : Heap) : jj E 63 c63 [x0, x1, (.tup []), (.tup []), (.tup []), (.tup []), (.tup []), (.tup []), (.tup []), (.tup []), (.tup []), (.tup []), (.tup []), (.tup []), (.tup []), (.tup []), (.tup []), (.tup []), (.tup []), (.tup []), (.tup []), (.tup []), (.tup []), (.tup []), (.tup []), (.tup []), (.tup []), (.tup []), (.tup []), (.tup []), (.tup []), (.tup []), (.tup []), (.tup []), (.tup []), (.tup []), (.tup []), (.tup []), (.tup []), (.tup []), (.tup []), (.tup []), (.tup []), (.tup []), (.tup []), (.tup []), (.tup []), (.tup []), (.tup []), (.tup []), (.tup []), (.tup []), (.tup []), (.tup []), (.tup []), (.tup []), (.tup []), (.tup []), (.tup []), (.tup []), (.tup []), (.tup []), (.tup []), (.tup [])] H (kk none (fun s H => retK (([4, 5] : List Nat).map fun t => s.getD t (.tup [])) H) [] retK [4, 5]) = L63 E x0 x1 H := (jj_X E 63 _ _ H _).trans ((L63_x E (jj E 63) x0 x1 H).trans (by simp only [L63, N63_1_eq, N63_4_eq]))
theorem E63 (ρ : Addr → Option Value) (k lim : Nat) (x0 x1 : AV) (H : Heap) : evCall (cx ρ) (k + 1) lim 63 [x0, x1] H = L63 ⟨ρ, evCall (cx ρ) k, (evCY (cx ρ) k).2, lim, k⟩ x0 x1 H := by
  rw [evCall_body (cx ρ) k lim 63 _ H Tryz.f63 c63 [4, 5] (by kernel_rfl) (by kernel_rfl) (by kernel_rfl) (by kernel_rfl) (by kernel_rfl)]
  have h := G63 ⟨ρ, evCall (cx ρ) k, (evCY (cx ρ) k).2, lim, k⟩ x0 x1 H
  unfold jj at h
  exact h
-- haycroft/record.ValueAt
noncomputable def c64 : Code := Code.of Tryz.prog 64
noncomputable def L64 (E : LE) (x0 : AV) (H : Heap) : Res :=
  resK (E.call E.lim 129 [x0, (.int .i64 0)] H) fun x7 H =>
  purK (extA 0 x7) fun x8 =>
  purK (extA 1 x7) fun x9 =>
  purK (binA P H .neq 28 x9 (.int .i64 0)) fun x11 =>
  condK x11
  (
    retK [(.int .i64 0)] H)
  (
    resK (E.call E.lim 130 [x0] H) fun x13 H =>
    purK (binA P H .add 3 (.int .i64 3) x13) fun x14 =>
    retK [x14] H)
theorem G64 (E : LE) (x0 : AV) (H : Heap) : jj E 64 c64 [x0, (.tup []), (.tup []), (.tup []), (.tup []), (.tup []), (.tup []), (.tup []), (.tup []), (.tup []), (.tup []), (.tup []), (.tup []), (.tup []), (.tup [])] H (kk none (fun s H => retK (([2] : List Nat).map fun t => s.getD t (.tup [])) H) [] retK [2]) = L64 E x0 H := by kernel_rfl
theorem E64 (ρ : Addr → Option Value) (k lim : Nat) (x0 : AV) (H : Heap) : evCall (cx ρ) (k + 1) lim 64 [x0] H = L64 ⟨ρ, evCall (cx ρ) k, (evCY (cx ρ) k).2, lim, k⟩ x0 H := by
  rw [evCall_body (cx ρ) k lim 64 _ H Tryz.f64 c64 [2] (by kernel_rfl) (by kernel_rfl) (by kernel_rfl) (by kernel_rfl) (by kernel_rfl)]
  have h := G64 ⟨ρ, evCall (cx ρ) k, (evCY (cx ρ) k).2, lim, k⟩ x0 H
  unfold jj at h
  exact h
-- haycroft/header.Count
noncomputable def c65 : Code := Code.of Tryz.prog 65
noncomputable def L65 (E : LE) (x0 : AV) (H : Heap) : Res :=
  resK (E.call E.lim 86 [x0, (.int .i64 0), (.int .i64 32)] H) fun x4 H =>
  retK [x4] H
theorem G65 (E : LE) (x0 : AV) (H : Heap) : jj E 65 c65 [x0, (.tup []), (.tup []), (.tup []), (.tup [])] H (kk none (fun s H => retK (([2] : List Nat).map fun t => s.getD t (.tup [])) H) [] retK [2]) = L65 E x0 H := by kernel_rfl
theorem E65 (ρ : Addr → Option Value) (k lim : Nat) (x0 : AV) (H : Heap) : evCall (cx ρ) (k + 1) lim 65 [x0] H = L65 ⟨ρ, evCall (cx ρ) k, (evCY (cx ρ) k).2, lim, k⟩ x0 H := by
  rw [evCall_body (cx ρ) k lim 65 _ H Tryz.f65 c65 [2] (by kernel_rfl) (by kernel_rfl) (by kernel_rfl) (by kernel_rfl) (by kernel_rfl)]
  have h := G65 ⟨ρ, evCall (cx ρ) k, (evCY (cx ρ) k).2, lim, k⟩ x0 H
  unfold jj at h
  exact h
-- haycroft/record.Right
noncomputable def c66 : Code := Code.of Tryz.prog 66
noncomputable def L66 (E : LE) (x0 : AV) (H : Heap) : Res :=
  effK H (boxA H 27 x0) fun x1 H =>
  purK (fieldAddrA P 27 x1 0) fun x8 =>
  purK (loadA (Cx E) H 25 x8) fun x9 =>
  resK (E.call E.lim 132 [x9] H) fun x10 H =>
  purK (extA 0 x10) fun x11 =>
  purK (extA 1 x10) fun x12 =>
  purK (binA P H .neq 28 x12 (.int .i64 0)) fun x14 =>
  purK (gPur (wantV x14 false) (fieldAddrA P 27 x1 1)) fun x16 =>
  purK (gPur (wantV x14 false) (loadA (Cx E) H 9 x16)) fun x17 =>
  purK (gPur (wantV x14 false) (binA P H .eql 9 x17 (.str (ByteArray.mk #[])))) fun x18 =>
  purK (pickA x14 (.bool true) x18) fun x19 =>
  purK (gPur (wantV x19 false) (fieldAddrA P 27 x1 0)) fun x21 =>
  purK (gPur (wantV x19 false) (fieldAddrA P 25 x21 1)) fun x22 =>
  purK (gPur (wantV x19 false) (loadA (Cx E) H 4 x22)) fun x23 =>
  purK (gPur (wantV x19 false) (some x23)) fun x24 =>
  purK (gPur (wantV x24 true) (fieldAddrA P 27 x1 2)) fun x25 =>
  purK (gPur (wantV x24 true) (loadA (Cx E) H 9 x25)) fun x26 =>
  purK (gPur (wantV x24 true) (binA P H .neq 9 x26 (.str (ByteArray.mk #[])))) fun x27 =>
  purK (gPur (wantV x19 false) (pickA x24 x27 (.bool false))) fun x28 =>
  purK (pickA x19 (.bool true) x28) fun x29 =>
  condK x29
  (
    retK [(.int .i64 1)] H)
  (
    purK (fieldAddrA P 27 x1 1) fun x31 =>
    purK (loadA (Cx E) H 9 x31) fun x32 =>
    purK (lenBA (Cx E) H 9 x32) fun x33 =>
    purK (fieldAddrA P 27 x1 2) fun x34 =>
    purK (loadA (Cx E) H 9 x34) fun x35 =>
    purK (lenBA (Cx E) H 9 x35) fun x36 =>
    resK (E.call E.lim 129 [x33, x36] H) fun x37 H =>
    purK (extA 0 x37) fun x38 =>
    purK (extA 1 x37) fun x39 =>
    retK [x39] H)
theorem G66 (E : LE) (x0 : AV) (H : Heap) : jj E 66 c66 [x0, (.tup []), (.tup []), (.tup []), (.tup []), (.tup []), (.tup []), (.tup []), (.tup []), (.tup []), (.tup []), (.tup []), (.tup []), (.tup []), (.tup []), (.tup []), (.tup []), (.tup []), (.tup []), (.tup []), (.tup []), (.tup []), (.tup []), (.tup []), (.tup []), (.tup []), (.tup []), (.tup []), (.tup []), (.tup []), (.tup []), (.tup []), (.tup []), (.tup []), (.tup []), (.tup []), (.tup []), (.tup []), (.tup []), (.tup []), (.tup [])] H (kk none (fun s H => retK (([2] : List Nat).map fun t => s.getD t (.tup [])) H) [] retK [2]) = L66 E x0 H := by kernel_rfl
theorem E66 (ρ : Addr → Option Value) (k lim : Nat) (x0 : AV) (H : Heap) : evCall (cx ρ) (k + 1) lim 66 [x0] H = L66 ⟨ρ, evCall (cx ρ) k, (evCY (cx ρ) k).2, lim, k⟩ x0 H := by
  rw [evCall_body (cx ρ) k lim 66 _ H Tryz.f66 c66 [2] (by kernel_rfl) (by kernel_rfl) (by kernel_rfl) (by kernel_rfl) (by kernel_rfl)]
  have h := G66 ⟨ρ, evCall (cx ρ) k, (evCY (cx ρ) k).2, lim, k⟩ x0 H
  unfold jj at h
  exact h
-- (*haycroft/index.Index).Entries
noncomputable def c67 : Code := Code.of Tryz.prog 67
noncomputable def N67_1_k (s : Slots) (H : Heap) (R : RK) (J : CodeF) : Res := J (Code.at [1, 1, 1, 1] c67) s H (kk none (fun s H => R (([2] : List Nat).map fun t => s.getD t (.tup [])) H) [] R [2])
noncomputable def N67_1 (E : LE) (x3 : AV) (H : Heap) (R : RK) : Res :=
  R [x3] H
theorem N67_1_eq (E : LE) (x3 : AV) (H : Heap) (R : RK) : N67_1_k (sp 41 [(3, x3)]) H R (jj E 67) = N67_1 E x3 H R := by kernel_rfl
noncomputable def N67_2_k (s : Slots) (H : Heap) (kn : KS) (R : RK) (J : CodeF) : Res := J (Code.at [1, 1, 1, 0, 1] c67) s H (kk (some [3]) kn [] R [2])
noncomputable def N67_2b_k (s : Slots) (H : Heap) (kn k0 : KS) (R : RK) (J : CodeF) : Res := J (Code.at [1, 1, 1, 0, 1, 0, 0] c67) s H (kk (some [0, 3, 13, 14]) kn [(0, (some [3]), k0)] R [2])
noncomputable def N67_3_k (s : Slots) (H : Heap) (kn k0 : KS) (R : RK) (J : CodeF) : Res := J (Code.at [1, 1, 1, 0, 1, 0, 0, 1, 1, 1] c67) s H (kk (some [0, 3, 13, 14]) kn [(0, (some [3]), k0)] R [2])
noncomputable def N67_3 (E : LE) (x0 x3 x13 x14 : AV) (H : Heap) (kn : AV → AV → AV → AV → Heap → Res) : Res :=
  purK (binA P H .add 3 x14 (.int .i64 1)) fun x39_1 =>
  kn x0 x3 x13 x39_1 H
theorem N67_3_eq (E : LE) (x0 x3 x13 x14 : AV) (H : Heap) (kn k0 : KS) (R : RK) : N67_3_k (sp 41 [(0, x0), (3, x3), (13, x13), (14, x14)]) H kn k0 R (jj E 67) = N67_3 E x0 x3 x13 x14 H (fun x0 x3 x13 x14 H => kn (sp 41 [(0, x0), (3, x3), (13, x13), (14, x14)]) H) := by kernel_rfl
noncomputable def N67_4_k (s : Slots) (H : Heap) (kn k1 k0 : KS) (R : RK) (J : CodeF) : Res := J (Code.at [1, 1, 1, 0, 1, 0, 0, 1, 1, 0, 0, 1, 1] c67) s H (kk (some [0, 3, 13, 14]) kn [(1, (some [0, 3, 13, 14]), k1), (0, (some [3]), k0)] R [2])
noncomputable def N67_4b_k (s : Slots) (H : Heap) (kn k2 k1 k0 : KS) (R : RK) (J : CodeF) : Res := J (Code.at [1, 1, 1, 0, 1, 0, 0, 1, 1, 0, 0, 1, 1, 0, 0] c67) s H (kk (some [0, 3, 13, 14, 20, 21, 22]) kn [(2, (some [0, 3, 13, 14]), k2), (1, (some [0, 3, 13, 14]), k1), (0, (some [3]), k0)] R [2])
noncomputable def N67_5_k (s : Slots) (H : Heap) (kn k2 k1 k0 : KS) (R : RK) (J : CodeF) : Res := J (Code.at [1, 1, 1, 0, 1, 0, 0, 1, 1, 0, 0, 1, 1, 0, 0, 1, 1, 1] c67) s H (kk (some [0, 3, 13, 14, 20, 21, 22]) kn [(2, (some [0, 3, 13, 14]), k2), (1, (some [0, 3, 13, 14]), k1), (0, (some [3]), k0)] R [2])
noncomputable def N67_5 (E : LE) (x0 x3 x13 x14 x20 x21 x22 : AV) (H : Heap) (kn : AV → AV → AV → AV → AV → AV → AV → Heap → Res) : Res :=
  purK (binA P H .add 3 x22 (.int .i64 1)) fun x38_1 =>
  kn x0 x3 x13 x14 x20 x21 x38_1 H
theorem N67_5_eq (E : LE) (x0 x3 x13 x14 x20 x21 x22 : AV) (H : Heap) (kn k2 k1 k0 : KS) (R : RK) : N67_5_k (sp 41 [(0, x0), (3, x3), (13, x13), (14, x14), (20, x20), (21, x21), (22, x22)]) H kn k2 k1 k0 R (jj E 67) = N67_5 E x0 x3 x13 x14 x20 x21 x22 H (fun x0 x3 x13 x14 x20 x21 x22 H => kn (sp 41 [(0, x0), (3, x3), (13, x13), (14, x14), (20, x20), (21, x21), (22, x22)]) H) := by kernel_rfl
noncomputable def N67_4b (E : LE) (x0 x3 x13 x14 x20 x21 x22 : AV) (H : Heap) (kn : AV → AV → AV → AV → AV → AV → AV → Heap → Res) (k2 : AV → AV → AV → AV → Heap → Res) : Res :=
  purK (binA P H .lss 3 x22 x21) fun x23_1 =>
  condK x23_1
  (
    purK (indexAddrA P 60 x20 x22) fun x24_1 =>
    purK (loadA (Cx E) H 3 x24_1) fun x25_1 =>
    purK (nilChkA x0) fun x27_1 =>
    purK (fieldAddrA P 162 x27_1 2) fun x28_1 =>
    purK (loadA (Cx E) H 160 x28_1) fun x29_1 =>
    resK (E.call E.lim 84 [x29_1, x25_1] H) fun x31_1 H =>
    purK (binA P H .neq 22 x31_1 (.int .u64 0)) fun x33_1 =>
    condK x33_1
    (
      effK H (buildSliceA (Cx E) H 31 1 [(0, x31_1)]) fun x36_1 H =>
      effK H (builtinA (Cx E) E.lim H .append #[31, 31] [x3, x36_1]) fun x37_1 H =>
      N67_5 E x0 x37_1 x13 x14 x20 x21 x22 H kn)
    (
      N67_5 E x0 x3 x13 x14 x20 x21 x22 H kn))
  (
    k2 x0 x3 x13 x14 H)
theorem N67_4b_x (E : LE) (J : CodeF) (x0 x3 x13 x14 x20 x21 x22 : AV) (H : Heap) (kn k2 k1 k0 : KS) (R : RK) : N67_4b_k (sp 41 [(0, x0), (3, x3), (13, x13), (14, x14), (20, x20), (21, x21), (22, x22)]) H kn k2 k1 k0 R (jx E 67 J) =
  purK (binA P H .lss 3 x22 x21) fun x23_1 =>
  condK x23_1
  (
    purK (indexAddrA P 60 x20 x22) fun x24_1 =>
    purK (loadA (Cx E) H 3 x24_1) fun x25_1 =>
    purK (nilChkA x0) fun x27_1 =>
    purK (fieldAddrA P 162 x27_1 2) fun x28_1 =>
    purK (loadA (Cx E) H 160 x28_1) fun x29_1 =>
    resK (E.call E.lim 84 [x29_1, x25_1] H) fun x31_1 H =>
    purK (binA P H .neq 22 x31_1 (.int .u64 0)) fun x33_1 =>
    condK x33_1
    (
      effK H (buildSliceA (Cx E) H 31 1 [(0, x31_1)]) fun x36_1 H =>
      effK H (builtinA (Cx E) E.lim H .append #[31, 31] [x3, x36_1]) fun x37_1 H =>
      N67_5_k (sp 41 [(0, x0), (3, x37_1), (13, x13), (14, x14), (20, x20), (21, x21), (22, x22)]) H kn k2 k1 k0 R J)
    (
      N67_5_k (sp 41 [(0, x0), (3, x3), (13, x13), (14, x14), (20, x20), (21, x21), (22, x22)]) H kn k2 k1 k0 R J))
  (
    k2 (sp 41 [(0, x0), (3, x3), (13, x13), (14, x14)]) H) := by kernel_rfl
theorem N67_4b_eq (E : LE) (x0 x3 x13 x14 x20 x21 x22 : AV) (H : Heap) (kn k2 k1 k0 : KS) (R : RK) : N67_4b_k (sp 41 [(0, x0), (3, x3), (13, x13), (14, x14), (20, x20), (21, x21), (22, x22)]) H kn k2 k1 k0 R (jj E 67) = N67_4b E x0 x3 x13 x14 x20 x21 x22 H (fun x0 x3 x13 x14 x20 x21 x22 H => kn (sp 41 [(0, x0), (3, x3), (13, x13), (14, x14), (20, x20), (21, x21), (22, x22)]) H) (fun x0 x3 x13 x14 H => k2 (sp 41 [(0, x0), (3, x3), (13, x13), (14, x14)]) H) := (jj_X E 67 _ _ H _).trans ((N67_4b_x E (jj E 67) x0 x3 x13 x14 x20 x21 x22 H kn k2 k1 k0 R).trans (by simp only [N67_4b, N67_5_eq]))
noncomputable def N67_4 (E : LE) (x0 x3 x13 x14 x20 x21 x22 : AV) (H : Heap) (kn : AV → AV → AV → AV → Heap → Res) : Res :=
  loopL (fun (x : AV × AV) H kl => N67_4b E x0 x.1 x13 x14 x20 x21 x.2 H (fun _ x3 _ _ _ _ x22 H => kl (x3, x22) H) kn) E.k (x3, x22) H
theorem N67_4_eq (E : LE) (x0 x3 x13 x14 x20 x21 x22 : AV) (H : Heap) (kn k1 k0 : KS) (R : RK) : N67_4_k (sp 41 [(0, x0), (3, x3), (13, x13), (14, x14), (20, x20), (21, x21), (22, x22)]) H kn k1 k0 R (jj E 67) = N67_4 E x0 x3 x13 x14 x20 x21 x22 H (fun x0 x3 x13 x14 H => kn (sp 41 [(0, x0), (3, x3), (13, x13), (14, x14)]) H) := by
  have e : Code.at [1, 1, 1, 0, 1, 0, 0, 1, 1, 0, 0, 1, 1] c67 = Code.block 2 (Code.loop (Code.at [1, 1, 1, 0, 1, 0, 0, 1, 1, 0, 0, 1, 1, 0, 0] c67)) := by kernel_rfl
  unfold N67_4_k N67_4 jj
  rw [e]
  rw [block_kk]
  exact loop_node [0, 3, 13, 14, 20, 21, 22] (fun x : AV × AV => (sp 41 [(0, x0), (3, (x.1)), (13, x13), (14, x14), (20, x20), (21, x21), (22, (x.2))])) (fun (x : AV × AV) H kl => N67_4b E x0 x.1 x13 x14 x20 x21 x.2 H (fun _ x3 _ _ _ _ x22 H => kl (x3, x22) H) (fun x0 x3 x13 x14 H => kn (sp 41 [(0, x0), (3, x3), (13, x13), (14, x14)]) H)) (by kernel_rfl) (fun x => by kernel_rfl) (fun x H kl => by
    have h := N67_4b_eq E x0 (x.1) x13 x14 x20 x21 (x.2) H kl kn k1 k0 R
    unfold N67_4b_k jj at h
    exact h) (x3, x22) (sp 41 [(0, x0), (3, x3), (13, x13), (14, x14), (20, x20), (21, x21), (22, x22)]) H (by kernel_rfl)
noncomputable def N67_2b (E : LE) (x0 x3 x13 x14 : AV) (H : Heap) (kn : AV → AV → AV → AV → Heap → Res) (k0 : AV → Heap → Res) : Res :=
  purK (binA P H .lss 3 x14 x13) fun x15_1 =>
  condK x15_1
  (
    resK (E.call E.lim 74 [x0, x14] H) fun x19_1 H =>
    resK (E.call E.lim 80 [x19_1] H) fun x20_1 H =>
    purK (lenBA (Cx E) H 60 x20_1) fun x21_1 =>
    N67_4 E x0 x3 x13 x14 x20_1 x21_1 (.int .i64 0) H (fun x0_1 x3_1 x13_1 x14_1 H =>
      N67_3 E x0_1 x3_1 x13_1 x14_1 H kn))
  (
    k0 x3 H)
theorem N67_2b_x (E : LE) (J : CodeF) (x0 x3 x13 x14 : AV) (H : Heap) (kn k0 : KS) (R : RK) : N67_2b_k (sp 41 [(0, x0), (3, x3), (13, x13), (14, x14)]) H kn k0 R (jx E 67 J) =
  purK (binA P H .lss 3 x14 x13) fun x15_1 =>
  condK x15_1
  (
    resK (E.call E.lim 74 [x0, x14] H) fun x19_1 H =>
    resK (E.call E.lim 80 [x19_1] H) fun x20_1 H =>
    purK (lenBA (Cx E) H 60 x20_1) fun x21_1 =>
    N67_4_k (sp 41 [(0, x0), (3, x3), (13, x13), (14, x14), (20, x20_1), (21, x21_1), (22, (.int .i64 0))]) H (fun s H => N67_3_k s H kn k0 R J) (fun s H => N67_3_k s H kn k0 R J) k0 R J)
  (
    k0 (sp 41 [(3, x3)]) H) := by kernel_rfl
theorem N67_2b_eq (E : LE) (x0 x3 x13 x14 : AV) (H : Heap) (kn k0 : KS) (R : RK) : N67_2b_k (sp 41 [(0, x0), (3, x3), (13, x13), (14, x14)]) H kn k0 R (jj E 67) = N67_2b E x0 x3 x13 x14 H (fun x0 x3 x13 x14 H => kn (sp 41 [(0, x0), (3, x3), (13, x13), (14, x14)]) H) (fun x3 H => k0 (sp 41 [(3, x3)]) H) := (jj_X E 67 _ _ H _).trans ((N67_2b_x E (jj E 67) x0 x3 x13 x14 H kn k0 R).trans (by simp only [N67_2b, N67_3_eq, N67_4_eq]))
noncomputable def N67_2 (E : LE) (x0 x3 x13 x14 : AV) (H : Heap) (kn : AV → Heap → Res) : Res :=
  loopL (fun (x : AV × AV) H kl => N67_2b E x0 x.1 x13 x.2 H (fun _ x3 _ x14 H => kl (x3, x14) H) kn) E.k (x3, x14) H
theorem N67_2_eq (E : LE) (x0 x3 x13 x14 : AV) (H : Heap) (kn : KS) (R : RK) : N67_2_k (sp 41 [(0, x0), (3, x3), (13, x13), (14, x14)]) H kn R (jj E 67) = N67_2 E x0 x3 x13 x14 H (fun x3 H => kn (sp 41 [(3, x3)]) H) := by
  have e : Code.at [1, 1, 1, 0, 1] c67 = Code.block 0 (Code.loop (Code.at [1, 1, 1, 0, 1, 0, 0] c67)) := by kernel_rfl
  unfold N67_2_k N67_2 jj
  rw [e]
  rw [block_kk]
  exact loop_node [0, 3, 13, 14] (fun x : AV × AV => (sp 41 [(0, x0), (3, (x.1)), (13, x13), (14, (x.2))])) (fun (x : AV × AV) H kl => N67_2b E x0 x.1 x13 x.2 H (fun _ x3 _ x14 H => kl (x3, x14) H) (fun x3 H => kn (sp 41 [(3, x3)]) H)) (by kernel_rfl) (fun x => by kernel_rfl) (fun x H kl => by
    have h := N67_2b_eq E x0 (x.1) x13 (x.2) H kl kn R
    unfold N67_2b_k jj at h
    exact h) (x3, x14) (sp 41 [(0, x0), (3, x3), (13, x13), (14, x14)]) H (by kernel_rfl)
noncomputable def L67 (E : LE) (x0 : AV) (H : Heap) : Res :=
  purK (binA P H .eql 95 x0 .nilp) fun x9 =>
  condK x9
  (
    retK [.nils] H)
  (
    purK (nilChkA x0) fun x11 =>
    purK (fieldAddrA P 162 x11 0) fun x12 =>
    purK (loadA (Cx E) H 3 x12) fun x13 =>
    N67_2 E x0 .nils x13 (.int .i64 0) H (fun x3 H =>
      N67_1 E x3 H retK))
theorem L67_x (E : LE) (J : CodeF) (x0 : AV) (H : Heap) : jx E 67 J c67 [x0, (.tup []), (.tup []), (.tup []), (.tup []), (.tup []), (.tup []), (.tup []), (.tup []), (.tup []), (.tup []), (.tup []), (.tup []), (.tup []), (.tup []), (.tup []), (.tup []), (.tup []), (.tup []), (.tup []), (.tup []), (.tup []), (.tup []), (.tup []), (.tup []), (.tup []), (.tup []), (.tup []), (.tup []), (.tup []), (.tup []), (.tup []), (.tup []), (.tup []), (.tup []), (.tup []), (.tup []), (.tup []), (.tup []), (.tup []), (.tup [])] H (kk none (fun s H => retK (([2] : List Nat).map fun t => s.getD t (.tup [])) H) [] retK [2]) =
  purK (binA P H .eql 95 x0 .nilp) fun x9 =>
  condK x9
  (
    retK [.nils] H)
  (
    purK (nilChkA x0) fun x11 =>
    purK (fieldAddrA P 162 x11 0) fun x12 =>
    purK (loadA (Cx E) H 3 x12) fun x13 =>
    N67_2_k (sp 41 [(0, x0), (3, .nils), (13, x13), (14, (.int .i64 0))]) H (fun s H => N67_1_k s H retK J) retK J) := by kernel_rfl
theorem G67 (E : LE) (x0 : AV) (H : Heap) : jj E 67 c67 [x0, (.tup []), (.tup []), (.tup []), (.tup []), (.tup []), (.tup []), (.tup []), (.tup []), (.tup []), (.tup []), (.tup []), (.tup []), (.tup []), (.tup []), (.tup []), (.tup []), (.tup []), (.tup []), (.tup []), (.tup []), (.tup []), (.tup []), (.tup []), (.tup []), (.tup []), (.tup []), (.tup []), (.tup []), (.tup []), (.tup []), (.tup []), (.tup []), (.tup []), (.tup []), (.tup []), (.tup []), (.tup []), (.tup []), (.tup []), (.tup [])] H (kk none (fun s H => retK (([2] : List Nat).map fun t => s.getD t (.tup [])) H) [] retK [2]) = L67 E x0 H := (jj_X E 67 _ _ H _).trans ((L67_x E (jj E 67) x0 H).trans (by simp only [L67, N67_1_eq, N67_2_eq]))
theorem E67 (ρ : Addr → Option Value) (k lim : Nat) (x0 : AV) (H : Heap) : evCall (cx ρ) (k + 1) lim 67 [x0] H = L67 ⟨ρ, evCall (cx ρ) k, (evCY (cx ρ) k).2, lim, k⟩ x0 H := by
  rw [evCall_body (cx ρ) k lim 67 _ H Tryz.f67 c67 [2] (by kernel_rfl) (by kernel_rfl) (by kernel_rfl) (by kernel_rfl) (by kernel_rfl)]
  have h := G67 ⟨ρ, evCall (cx ρ) k, (evCY (cx ρ) k).2, lim, k⟩ x0 H
  unfold jj at h
  exact h
-- slices.pdqsortCmpFunc[haycroft/api.Pair]
noncomputable def c68 : Code := Code.of Tryz.prog 68
noncomputable def N68_1_k (s : Slots) (H : Heap) (R : RK) (J : CodeF) : Res := J (Code.at [1, 1] c68) s H (kk none (fun s H => R (([] : List Nat).map fun t => s.getD t (.tup [])) H) [] R [])
noncomputable def N68_1b_k (s : Slots) (H : Heap) (kn : KS) (R : RK) (J : CodeF) : Res := J (Code.at [1, 1, 0, 0] c68) s H (kk (some [0, 1, 2, 3, 4, 10, 11]) kn [(0, none, (fun s H => R (([] : List Nat).map fun t => s.getD t (.tup [])) H))] R [])
noncomputable def N68_2_k (s : Slots) (H : Heap) (kn k1 : KS) (R : RK) (J : CodeF) : Res := J (Code.at [1, 1, 0, 0, 0, 1, 1, 1, 1] c68) s H (kk (some [0, 1, 2, 3, 4, 10, 11]) kn [(1, (some [0, 1, 2, 3, 4, 10, 11]), k1), (0, none, (fun s H => R (([] : List Nat).map fun t => s.getD t (.tup [])) H))] R [])
noncomputable def N68_3_k (s : Slots) (H : Heap) (kn k1 : KS) (R : RK) (J : CodeF) : Res := J (Code.at [1, 1, 0, 0, 0, 1, 1, 1, 1, 1, 1] c68) s H (kk (some [0, 1, 2, 3, 4, 10, 11]) kn [(1, (some [0, 1, 2, 3, 4, 10, 11]), k1), (0, none, (fun s H => R (([] : List Nat).map fun t => s.getD t (.tup [])) H))] R [])
noncomputable def N68_4_k (s : Slots) (H : Heap) (kn k1 : KS) (R : RK) (J : CodeF) : Res := J (Code.at [1, 1, 0, 0, 0, 1, 1, 1, 1, 1, 1, 1] c68) s H (kk (some [0, 1, 2, 3, 4, 10, 11]) kn [(1, (some [0, 1, 2, 3, 4, 10, 11]), k1), (0, none, (fun s H => R (([] : List Nat).map fun t => s.getD t (.tup [])) H))] R [])
noncomputable def N68_4 (E : LE) (x0 x1 x2 x3 x4 x10 x11 x12 x13 : AV) (H : Heap) (kn : AV → AV → AV → AV → AV → AV → AV → Heap → Res) (k1 : AV → AV → AV → AV → AV → AV → AV → Heap → Res) : Res :=
  purK (binA P H .gtr 3 x1 (.int .i64 0)) fun x82_1 =>
  boolK (wantV x82_1 true) fun b1 => purK (bif b1 then some x4 else some (.tup [])) fun x84_1 =>
  boolK (wantV x82_1 true) fun b2 => purK (bif b2 then some x0 else some (.tup [])) fun x85_1 =>
  boolK (wantV x82_1 true) fun b3 => purK (bif b3 then some x1 else some (.tup [])) fun x86_1 =>
  boolK (wantV x82_1 true) fun b4 => purK (bif b4 then binA P H .sub 3 x86_1 (.int .i64 1) else some (.tup [])) fun x87_1 =>
  boolK (wantV x82_1 true) fun b5 => purK (bif b5 then indexAddrA P 34 x85_1 x87_1 else some (.tup [])) fun x88_1 =>
  boolK (wantV x82_1 true) fun b6 => purK (bif b6 then loadA (Cx E) H 80 x88_1 else some (.tup [])) fun x89_1 =>
  boolK (wantV x82_1 true) fun b7 => purK (bif b7 then some x0 else some (.tup [])) fun x90_1 =>
  boolK (wantV x82_1 true) fun b8 => purK (bif b8 then some x13 else some (.tup [])) fun x91_1 =>
  boolK (wantV x82_1 true) fun b9 => purK (bif b9 then indexAddrA P 34 x90_1 x91_1 else some (.tup [])) fun x92_1 =>
  boolK (wantV x82_1 true) fun b10 => purK (bif b10 then loadA (Cx E) H 80 x92_1 else some (.tup [])) fun x93_1 =>
  boolK (wantV x82_1 true) fun b11 => resK (gRes (some b11) H (valR E.call noY E.lim x84_1 [x89_1, x93_1] H)) fun x94_1 H => bif !b11 || ((!b10 || true) && ((!b6 || true) && ((!b4 || true) && true))) then
    purK (gPur (wantV x82_1 true) (binA P H .lss 3 x94_1 (.int .i64 0))) fun x95_1 =>
    purK (gPur (wantV x82_1 true) (unA .not x95_1)) fun x96_1 =>
    purK (pickA x82_1 x96_1 (.bool false)) fun x97_1 =>
    condK x97_1
    (
      resK (E.call E.lim 139 [x0, x1, x2, x13, x4] H) fun x103_1 H =>
      k1 x0 x103_1 x2 x3 x4 x10 x11 H)
    (
      resK (E.call E.lim 140 [x0, x1, x2, x13, x4] H) fun x111_1 H =>
      purK (extA 0 x111_1) fun x112_1 =>
      purK (extA 1 x111_1) fun x113_1 =>
      purK (binA P H .sub 3 x112_1 x1) fun x117_1 =>
      purK (binA P H .sub 3 x2 x112_1) fun x120_1 =>
      purK (binA P H .quo 3 x12 (.int .i64 8)) fun x122_1 =>
      purK (binA P H .lss 3 x117_1 x120_1) fun x125_1 =>
      condK x125_1
      (
        purK (binA P H .geq 3 x117_1 x122_1) fun x128_1 =>
        resK (E.call E.lim 68 [x0, x1, x112_1, x3, x4] H) fun x134_1 H =>
        purK (binA P H .add 3 x112_1 (.int .i64 1)) fun x136_1 =>
        kn x0 x136_1 x2 x3 x4 x128_1 x113_1 H)
      (
        purK (binA P H .geq 3 x120_1 x122_1) fun x139_1 =>
        purK (binA P H .add 3 x112_1 (.int .i64 1)) fun x142_1 =>
        resK (E.call E.lim 68 [x0, x142_1, x2, x3, x4] H) fun x146_1 H =>
        kn x0 x1 x112_1 x3 x4 x139_1 x113_1 H))
  else none
theorem N68_4_eq (E : LE) (x0 x1 x2 x3 x4 x10 x11 x12 x13 : AV) (H : Heap) (kn k1 : KS) (R : RK) : N68_4_k (sp 148 [(0, x0), (1, x1), (2, x2), (3, x3), (4, x4), (10, x10), (11, x11), (12, x12), (13, x13)]) H kn k1 R (jj E 68) = N68_4 E x0 x1 x2 x3 x4 x10 x11 x12 x13 H (fun x0 x1 x2 x3 x4 x10 x11 H => kn (sp 148 [(0, x0), (1, x1), (2, x2), (3, x3), (4, x4), (10, x10), (11, x11)]) H) (fun x0 x1 x2 x3 x4 x10 x11 H => k1 (sp 148 [(0, x0), (1, x1), (2, x2), (3, x3), (4, x4), (10, x10), (11, x11)]) H) := by kernel_rfl
noncomputable def N68_3 (E : LE) (x0 x1 x2 x3 x4 x10 x11 x12 x13 x14 : AV) (H : Heap) (kn : AV → AV → AV → AV → AV → AV → AV → Heap → Res) (k1 : AV → AV → AV → AV → AV → AV → AV → Heap → Res) (R : RK) : Res :=
  purK (gPur (wantV x10 true) (some x11)) fun x70_1 =>
  purK (pickA x10 x70_1 (.bool false)) fun x71_1 =>
  purK (gPur (wantV x71_1 true) (some x14)) fun x73_1 =>
  purK (gPur (wantV x71_1 true) (binA P H .eql 210 x73_1 (.int .i64 1))) fun x74_1 =>
  purK (pickA x71_1 x74_1 (.bool false)) fun x75_1 =>
  condK x75_1
  (
    resK (E.call E.lim 138 [x0, x1, x2, x4] H) fun x80_1 H =>
    condK x80_1
    (
      R [] H)
    (
      N68_4 E x0 x1 x2 x3 x4 x10 x11 x12 x13 H kn k1))
  (
    N68_4 E x0 x1 x2 x3 x4 x10 x11 x12 x13 H kn k1)
theorem N68_3_x (E : LE) (J : CodeF) (x0 x1 x2 x3 x4 x10 x11 x12 x13 x14 : AV) (H : Heap) (kn k1 : KS) (R : RK) : N68_3_k (sp 148 [(0, x0), (1, x1), (2, x2), (3, x3), (4, x4), (10, x10), (11, x11), (12, x12), (13, x13), (14, x14)]) H kn k1 R (jx E 68 J) =
  purK (gPur (wantV x10 true) (some x11)) fun x70_1 =>
  purK (pickA x10 x70_1 (.bool false)) fun x71_1 =>
  purK (gPur (wantV x71_1 true) (some x14)) fun x73_1 =>
  purK (gPur (wantV x71_1 true) (binA P H .eql 210 x73_1 (.int .i64 1))) fun x74_1 =>
  purK (pickA x71_1 x74_1 (.bool false)) fun x75_1 =>
  condK x75_1
  (
    resK (E.call E.lim 138 [x0, x1, x2, x4] H) fun x80_1 H =>
    condK x80_1
    (
      R [] H)
    (
      N68_4_k (sp 148 [(0, x0), (1, x1), (2, x2), (3, x3), (4, x4), (10, x10), (11, x11), (12, x12), (13, x13)]) H kn k1 R J))
  (
    N68_4_k (sp 148 [(0, x0), (1, x1), (2, x2), (3, x3), (4, x4), (10, x10), (11, x11), (12, x12), (13, x13)]) H kn k1 R J) := by kernel_rfl
theorem N68_3_eq (E : LE) (x0 x1 x2 x3 x4 x10 x11 x12 x13 x14 : AV) (H : Heap) (kn k1 : KS) (R : RK) : N68_3_k (sp 148 [(0, x0), (1, x1), (2, x2), (3, x3), (4, x4), (10, x10), (11, x11), (12, x12), (13, x13), (14, x14)]) H kn k1 R (jj E 68) = N68_3 E x0 x1 x2 x3 x4 x10 x11 x12 x13 x14 H (fun x0 x1 x2 x3 x4 x10 x11 H => kn (sp 148 [(0, x0), (1, x1), (2, x2), (3, x3), (4, x4), (10, x10), (11, x11)]) H) (fun x0 x1 x2 x3 x4 x10 x11 H => k1 (sp 148 [(0, x0), (1, x1), (2, x2), (3, x3), (4, x4), (10, x10), (11, x11)]) H) R := (jj_X E 68 _ _ H _).trans ((N68_3_x E (jj E 68) x0 x1 x2 x3 x4 x10 x11 x12 x13 x14 H kn k1 R).trans (by simp only [N68_3, N68_4_eq]))
noncomputable def N68_2 (E : LE) (x0 x1 x2 x3 x4 x10 x11 x12 : AV) (H : Heap) (kn : AV → AV → AV → AV → AV → AV → AV → Heap → Res) (k1 : AV → AV → AV → AV → AV → AV → AV → Heap → Res) (R : RK) : Res :=
  resK (E.call E.lim 136 [x0, x1, x2, x4] H) fun x52_1 H =>
  purK (extA 0 x52_1) fun x53_1 =>
  purK (extA 1 x52_1) fun x54_1 =>
  purK (binA P H .eql 210 x54_1 (.int .i64 2)) fun x56_1 =>
  condK x56_1
  (
    resK (E.call E.lim 137 [x0, x1, x2, x4] H) fun x61_1 H =>
    purK (binA P H .sub 3 x2 (.int .i64 1)) fun x63_1 =>
    purK (binA P H .sub 3 x53_1 x1) fun x66_1 =>
    purK (binA P H .sub 3 x63_1 x66_1) fun x67_1 =>
    N68_3 E x0 x1 x2 x3 x4 x10 x11 x12 x67_1 (.int .i64 1) H kn k1 R)
  (
    N68_3 E x0 x1 x2 x3 x4 x10 x11 x12 x53_1 x54_1 H kn k1 R)
theorem N68_2_x (E : LE) (J : CodeF) (x0 x1 x2 x3 x4 x10 x11 x12 : AV) (H : Heap) (kn k1 : KS) (R : RK) : N68_2_k (sp 148 [(0, x0), (1, x1), (2, x2), (3, x3), (4, x4), (10, x10), (11, x11), (12, x12)]) H kn k1 R (jx E 68 J) =
  resK (E.call E.lim 136 [x0, x1, x2, x4] H) fun x52_1 H =>
  purK (extA 0 x52_1) fun x53_1 =>
  purK (extA 1 x52_1) fun x54_1 =>
  purK (binA P H .eql 210 x54_1 (.int .i64 2)) fun x56_1 =>
  condK x56_1
  (
    resK (E.call E.lim 137 [x0, x1, x2, x4] H) fun x61_1 H =>
    purK (binA P H .sub 3 x2 (.int .i64 1)) fun x63_1 =>
    purK (binA P H .sub 3 x53_1 x1) fun x66_1 =>
    purK (binA P H .sub 3 x63_1 x66_1) fun x67_1 =>
    N68_3_k (sp 148 [(0, x0), (1, x1), (2, x2), (3, x3), (4, x4), (10, x10), (11, x11), (12, x12), (13, x67_1), (14, (.int .i64 1))]) H kn k1 R J)
  (
    N68_3_k (sp 148 [(0, x0), (1, x1), (2, x2), (3, x3), (4, x4), (10, x10), (11, x11), (12, x12), (13, x53_1), (14, x54_1)]) H kn k1 R J) := by kernel_rfl
theorem N68_2_eq (E : LE) (x0 x1 x2 x3 x4 x10 x11 x12 : AV) (H : Heap) (kn k1 : KS) (R : RK) : N68_2_k (sp 148 [(0, x0), (1, x1), (2, x2), (3, x3), (4, x4), (10, x10), (11, x11), (12, x12)]) H kn k1 R (jj E 68) = N68_2 E x0 x1 x2 x3 x4 x10 x11 x12 H (fun x0 x1 x2 x3 x4 x10 x11 H => kn (sp 148 [(0, x0), (1, x1), (2, x2), (3, x3), (4, x4), (10, x10), (11, x11)]) H) (fun x0 x1 x2 x3 x4 x10 x11 H => k1 (sp 148 [(0, x0), (1, x1), (2, x2), (3, x3), (4, x4), (10, x10), (11, x11)]) H) R := (jj_X E 68 _ _ H _).trans ((N68_2_x E (jj E 68) x0 x1 x2 x3 x4 x10 x11 x12 H kn k1 R).trans (by simp only [N68_2, N68_3_eq]))
noncomputable def N68_1b (E : LE) (x0 x1 x2 x3 x4 x10 x11 : AV) (H : Heap) (kn : AV → AV → AV → AV → AV → AV → AV → Heap → Res) (R : RK) : Res :=
  purK (binA P H .sub 3 x2 x1) fun x23_1 =>
  purK (binA P H .leq 3 x23_1 (.int .i64 12)) fun x25_1 =>
  condK x25_1
  (
    resK (E.call E.lim 133 [x0, x1, x2, x4] H) fun x30_1 H =>
    R [] H)
  (
    purK (binA P H .eql 3 x3 (.int .i64 0)) fun x32_1 =>
    condK x32_1
    (
      resK (E.call E.lim 134 [x0, x1, x2, x4] H) fun x37_1 H =>
      R [] H)
    (
      purK (unA .not x10) fun x39_1 =>
      condK x39_1
      (
        resK (E.call E.lim 135 [x0, x1, x2, x4] H) fun x44_1 H =>
        purK (binA P H .sub 3 x3 (.int .i64 1)) fun x46_1 =>
        N68_2 E x0 x1 x2 x46_1 x4 x10 x11 x23_1 H kn kn R)
      (
        N68_2 E x0 x1 x2 x3 x4 x10 x11 x23_1 H kn kn R)))
theorem N68_1b_x (E : LE) (J : CodeF) (x0 x1 x2 x3 x4 x10 x11 : AV) (H : Heap) (kn : KS) (R : RK) : N68_1b_k (sp 148 [(0, x0), (1, x1), (2, x2), (3, x3), (4, x4), (10, x10), (11, x11)]) H kn R (jx E 68 J) =
  purK (binA P H .sub 3 x2 x1) fun x23_1 =>
  purK (binA P H .leq 3 x23_1 (.int .i64 12)) fun x25_1 =>
  condK x25_1
  (
    resK (E.call E.lim 133 [x0, x1, x2, x4] H) fun x30_1 H =>
    R [] H)
  (
    purK (binA P H .eql 3 x3 (.int .i64 0)) fun x32_1 =>
    condK x32_1
    (
      resK (E.call E.lim 134 [x0, x1, x2, x4] H) fun x37_1 H =>
      R [] H)
    (
      purK (unA .not x10) fun x39_1 =>
      condK x39_1
      (
        resK (E.call E.lim 135 [x0, x1, x2, x4] H) fun x44_1 H =>
        purK (binA P H .sub 3 x3 (.int .i64 1)) fun x46_1 =>
        N68_2_k (sp 148 [(0, x0), (1, x1), (2, x2), (3, x46_1), (4, x4), (10, x10), (11, x11), (12, x23_1)]) H kn kn R J)
      (
        N68_2_k (sp 148 [(0, x0), (1, x1), (2, x2), (3, x3), (4, x4), (10, x10), (11, x11), (12, x23_1)]) H kn kn R J))) := by kernel_rfl
theorem N68_1b_eq (E : LE) (x0 x1 x2 x3 x4 x10 x11 : AV) (H : Heap) (kn : KS) (R : RK) : N68_1b_k (sp 148 [(0, x0), (1, x1), (2, x2), (3, x3), (4, x4), (10, x10), (11, x11)]) H kn R (jj E 68) = N68_1b E x0 x1 x2 x3 x4 x10 x11 H (fun x0 x1 x2 x3 x4 x10 x11 H => kn (sp 148 [(0, x0), (1, x1), (2, x2), (3, x3), (4, x4), (10, x10), (11, x11)]) H) R := (jj_X E 68 _ _ H _).trans ((N68_1b_x E (jj E 68) x0 x1 x2 x3 x4 x10 x11 H kn R).trans (by simp only [N68_1b, N68_2_eq]))
noncomputable def N68_1 (E : LE) (x0 x1 x2 x3 x4 x10 x11 : AV) (H : Heap) (R : RK) : Res :=
  loopL (fun (x : AV × AV × AV × AV × AV) H kl => N68_1b E x0 x.1 x.2.1 x.2.2.1 x4 x.2.2.2.1 x.2.2.2.2 H (fun _ x1 x2 x3 _ x10 x11 H => kl (x1, x2, x3, x10, x11) H) R) E.k (x1, x2, x3, x10, x11) H
theorem N68_1_eq (E : LE) (x0 x1 x2 x3 x4 x10 x11 : AV) (H : Heap) (R : RK) : N68_1_k (sp 148 [(0, x0), (1, x1), (2, x2), (3, x3), (4, x4), (10, x10), (11, x11)]) H R (jj E 68) = N68_1 E x0 x1 x2 x3 x4 x10 x11 H R := by
  have e : Code.at [1, 1] c68 = Code.block 0 (Code.loop (Code.at [1, 1, 0, 0] c68)) := by kernel_rfl
  unfold N68_1_k N68_1 jj
  rw [e]
  rw [block_kk]
  exact loop_node [0, 1, 2, 3, 4, 10, 11] (fun x : AV × AV × AV × AV × AV => (sp 148 [(0, x0), (1, (x.1)), (2, (x.2.1)), (3, (x.2.2.1)), (4, x4), (10, (x.2.2.2.1)), (11, (x.2.2.2.2))])) (fun (x : AV × AV × AV × AV × AV) H kl => N68_1b E x0 x.1 x.2.1 x.2.2.1 x4 x.2.2.2.1 x.2.2.2.2 H (fun _ x1 x2 x3 _ x10 x11 H => kl (x1, x2, x3, x10, x11) H) R) (by kernel_rfl) (fun x => by kernel_rfl) (fun x H kl => by
    have h := N68_1b_eq E x0 (x.1) (x.2.1) (x.2.2.1) x4 (x.2.2.2.1) (x.2.2.2.2) H kl R
    unfold N68_1b_k jj at h
    exact h) (x1, x2, x3, x10, x11) (sp 148 [(0, x0), (1, x1), (2, x2), (3, x3), (4, x4), (10, x10), (11, x11)]) H (by kernel_rfl)
noncomputable def L68 (E : LE) (x0 x1 x2 x3 x4 : AV) (H : Heap) : Res :=
  N68_1 E x0 x1 x2 x3 x4 (.bool true) (.bool true) H retK
theorem L68_x (E : LE) (J : CodeF) (x0 x1 x2 x3 x4 : AV) (H : Heap) : jx E 68 J c68 [x0, x1, x2, x3, x4, (.tup []), (.tup []), (.tup []), (.tup []), (.tup []), (.tup []), (.tup []), (.tup []), (.tup []), (.tup []), (.tup []), (.tup []), (.tup []), (.tup []), (.tup []), (.tup []), (.tup []), (.tup []), (.tup []), (.tup []), (.tup []), (.tup []), (.tup []), (.tup []), (.tup []), (.tup []), (.tup []), (.tup []), (.tup []), (.tup []), (.tup []), (.tup []), (.tup []), (.tup []), (.tup []), (.tup []), (.tup []), (.tup []), (.tup []), (.tup []), (.tup []), (.tup []), (.tup []), (.tup []), (.tup []), (.tup []), (.tup []), (.tup []), (.tup []), (.tup []), (.tup []), (.tup []), (.tup []), (.tup []), (.tup []), (.tup []), (.tup []), (.tup []), (.tup []), (.tup []), (.tup []), (.tup []), (.tup []), (.tup []), (.tup []), (.tup []), (.tup []), (.tup []), (.tup []), (.tup []), (.tup []), (.tup []), (.tup []), (.tup []), (.tup []), (.tup []), (.tup []), (.tup []), (.tup []), (.tup []), (.tup []), (.tup []), (.tup []), (.tup []), (.tup []), (.tup []), (.tup []), (.tup []), (.tup []), (.tup []), (.tup []), (.tup []), (.tup []), (.tup []), (.tup []), (.tup []), (.tup []), (.tup []), (.tup []), (.tup []), (.tup []), (.tup []), (.tup []), (.tup []), (.tup []), (.tup []), (.tup []), (.tup []), (.tup []), (.tup []), (.tup []), (.tup []), (.tup []), (.tup []), (.tup []), (.tup []), (.tup []), (.tup []), (.tup []), (.tup []), (.tup []), (.tup []), (.tup []), (.tup []), (.tup []), (.tup []), (.tup []), (.tup []), (.tup []), (.tup []), (.tup []), (.tup []), (.tup []), (.tup []), (.tup []), (.tup []), (.tup []), (.tup []), (.tup []), (.tup []), (.tup []), (.tup []), (.tup [])] H (kk none (fun s H => retK (([] : List Nat).map fun t => s.getD t (.tup [])) H) [] retK []) =
  N68_1_k (sp 148 [(0, x0), (1, x1), (2, x2), (3, x3), (4, x4), (10, (.bool true)), (11, (.bool true))]) H retK J := by kernel_rfl
theorem G68 (E : LE) (x0 x1 x2 x3 x4 : AV) (H : Heap) : jj E 68 c68 [x0, x1, x2, x3, x4, (.tup []), (.tup []), (.tup []), (.tup []), (.tup []), (.tup []), (.tup []), (.tup []), (.tup []), (.tup []), (.tup []), (.tup []), (.tup []), (.tup []), (.tup []), (.tup []), (.tup []), (.tup []), (.tup []), (.tup []), (.tup []), (.tup []), (.tup []), (.tup []), (.tup []), (.tup []), (.tup []), (.tup []), (.tup []), (.tup []), (.tup []), (.tup []), (.tup []), (.tup []), (.tup []), (.tup []), (.tup []), (.tup []), (.tup []), (.tup []), (.tup []), (.tup []), (.tup []), (.tup []), (.tup []), (.tup []), (.tup []), (.tup []), (.tup []), (.tup []), (.tup []), (.tup []), (.tup []), (.tup []), (.tup []), (.tup []), (.tup []), (.tup []), (.tup []), (.tup []), (.tup []), (.tup []), (.tup []), (.tup []), (.tup []), (.tup []), (.tup []), (.tup []), (.tup []), (.tup []), (.tup []), (.tup []), (.tup []), (.tup []), (.tup []), (.tup []), (.tup []), (.tup []), (.tup []), (.tup []), (.tup []), (.tup []), (.tup []), (.tup []), (.tup []), (.tup []), (.tup []), (.tup []), (.tup []), (.tup []), (.tup []), (.tup []), (.tup []), (.tup []), (.tup []), (.tup []), (.tup []), (.tup []), (.tup []), (.tup []), (.tup []), (.tup []), (.tup []), (.tup []), (.tup []), (.tup []), (.tup []), (.tup []), (.tup []), (.tup []), (.tup []), (.tup []), (.tup []), (.tup []), (.tup []), (.tup []), (.tup []), (.tup []), (.tup []), (.tup []), (.tup []), (.tup []), (.tup []), (.tup []), (.tup []), (.tup []), (.tup []), (.tup []), (.tup []), (.tup []), (.tup []), (.tup []), (.tup []), (.tup []), (.tup []), (.tup []), (.tup []), (.tup []), (.tup []), (.tup []), (.tup []), (.tup []), (.tup [])] H (kk none (fun s H => retK (([] : List Nat).map fun t => s.getD t (.tup [])) H) [] retK []) = L68 E x0 x1 x2 x3 x4 H := (jj_X E 68 _ _ H _).trans ((L68_x E (jj E 68) x0 x1 x2 x3 x4 H).trans (by simp only [L68, N68_1_eq]))
theorem E68 (ρ : Addr → Option Value) (k lim : Nat) (x0 x1 x2 x3 x4 : AV) (H : Heap) : evCall (cx ρ) (k + 1) lim 68 [x0, x1, x2, x3, x4] H = L68 ⟨ρ, evCall (cx ρ) k, (evCY (cx ρ) k).2, lim, k⟩ x0 x1 x2 x3 x4 H := by
  rw [evCall_body (cx ρ) k lim 68 _ H Tryz.f68 c68 [] (by kernel_rfl) (by kernel_rfl) (by kernel_rfl) (by kernel_rfl) (by kernel_rfl)]
  have h := G68 ⟨ρ, evCall (cx ρ) k, (evCY (cx ρ) k).2, lim, k⟩ x0 x1 x2 x3 x4 H
  unfold jj at h
  exact h
-- math/bits.Len
noncomputable def c69 : Code := Code.of Tryz.prog 69
noncomputable def L69 (E : LE) (x0 : AV) (H : Heap) : Res :=
  condK (.bool false)
  (
    purK (convXA (Cx E) H 146 218 x0) fun x4 =>
    resK (E.call E.lim 141 [x4] H) fun x5 H =>
    retK [x5] H)
  (
    resK (E.call E.lim 142 [x0] H) fun x7 H =>
    retK [x7] H)
theorem G69 (E : LE) (x0 : AV) (H : Heap) : jj E 69 c69 [x0, (.tup []), (.tup []), (.tup []), (.tup []), (.tup []), (.tup []), (.tup [])] H (kk none (fun s H => retK (([2] : List Nat).map fun t => s.getD t (.tup [])) H) [] retK [2]) = L69 E x0 H := by kernel_rfl
theorem E69 (ρ : Addr → Option Value) (k lim : Nat) (x0 : AV) (H : Heap) : evCall (cx ρ) (k + 1) lim 69 [x0] H = L69 ⟨ρ, evCall (cx ρ) k, (evCY (cx ρ) k).2, lim, k⟩ x0 H := by
  rw [evCall_body (cx ρ) k lim 69 _ H Tryz.f69 c69 [2] (by kernel_rfl) (by kernel_rfl) (by kernel_rfl) (by kernel_rfl) (by kernel_rfl)]
  have h := G69 ⟨ρ, evCall (cx ρ) k, (evCY (cx ρ) k).2, lim, k⟩ x0 H
  unfold jj at h
  exact h
-- (*haycroft/marks.Set).Region
noncomputable def c71 : Code := Code.of Tryz.prog 71
noncomputable def L71 (E : LE) (x0 x1 x2 : AV) (H : Heap) : Res :=
  purK (binA P H .eql 148 x0 .nilp) fun x9 =>
  purK (gPur (wantV x9 false) (some x1)) fun x11 =>
  purK (gPur (wantV x9 false) (binA P H .lss 3 x11 (.int .i64 0))) fun x12 =>
  purK (pickA x9 (.bool true) x12) fun x13 =>
  purK (gPur (wantV x13 false) (some x1)) fun x15 =>
  purK (gPur (wantV x13 false) (some x2)) fun x16 =>
  purK (gPur (wantV x13 false) (binA P H .gtr 3 x15 x16)) fun x17 =>
  purK (pickA x13 (.bool true) x17) fun x18 =>
  condK x18
  (
    retK [(.int .i64 0)] H)
  (
    resK (E.call E.lim 112 [x0, (.int .i64 0)] H) fun x22 H =>
    purK (binA P H .geq 3 x1 x22) fun x23 =>
    condK x23
    (
      retK [(.int .i64 1)] H)
    (
      resK (E.call E.lim 112 [x0, (.int .i64 1)] H) fun x27 H =>
      purK (binA P H .geq 3 x1 x27) fun x28 =>
      condK x28
      (
        retK [(.int .i64 2)] H)
      (
        resK (E.call E.lim 112 [x0, (.int .i64 3)] H) fun x32 H =>
        purK (binA P H .geq 3 x1 x32) fun x33 =>
        condK x33
        (
          retK [(.int .i64 3)] H)
        (
          retK [(.int .i64 4)] H))))
theorem G71 (E : LE) (x0 x1 x2 : AV) (H : Heap) : jj E 71 c71 [x0, x1, x2, (.tup []), (.tup []), (.tup []), (.tup []), (.tup []), (.tup []), (.tup []), (.tup []), (.tup []), (.tup []), (.tup []), (.tup []), (.tup []), (.tup []), (.tup []), (.tup []), (.tup []), (.tup []), (.tup []), (.tup []), (.tup []), (.tup []), (.tup []), (.tup []), (.tup []), (.tup []), (.tup []), (.tup []), (.tup []), (.tup []), (.tup [])] H (kk none (fun s H => retK (([6] : List Nat).map fun t => s.getD t (.tup [])) H) [] retK [6]) = L71 E x0 x1 x2 H := by kernel_rfl
theorem E71 (ρ : Addr → Option Value) (k lim : Nat) (x0 x1 x2 : AV) (H : Heap) : evCall (cx ρ) (k + 1) lim 71 [x0, x1, x2] H = L71 ⟨ρ, evCall (cx ρ) k, (evCY (cx ρ) k).2, lim, k⟩ x0 x1 x2 H := by
  rw [evCall_body (cx ρ) k lim 71 _ H Tryz.f71 c71 [6] (by kernel_rfl) (by kernel_rfl) (by kernel_rfl) (by kernel_rfl) (by kernel_rfl)]
  have h := G71 ⟨ρ, evCall (cx ρ) k, (evCY (cx ρ) k).2, lim, k⟩ x0 x1 x2 H
  unfold jj at h
  exact h
-- (*haycroft/pages.Buffer).Bits
noncomputable def c72 : Code := Code.of Tryz.prog 72
noncomputable def L72 (E : LE) (x0 : AV) (H : Heap) : Res :=
  purK (binA P H .eql 122 x0 .nilp) fun x4 =>
  condK x4
  (
    retK [(.int .i64 0)] H)
  (
    purK (nilChkA x0) fun x6 =>
    purK (fieldAddrA P 199 x6 0) fun x7 =>
    purK (loadA (Cx E) H 3 x7) fun x8 =>
    retK [x8] H)
theorem G72 (E : LE) (x0 : AV) (H : Heap) : jj E 72 c72 [x0, (.tup []), (.tup []), (.tup []), (.tup []), (.tup []), (.tup []), (.tup []), (.tup [])] H (kk none (fun s H => retK (([2] : List Nat).map fun t => s.getD t (.tup [])) H) [] retK [2]) = L72 E x0 H := by kernel_rfl
theorem E72 (ρ : Addr → Option Value) (k lim : Nat) (x0 : AV) (H : Heap) : evCall (cx ρ) (k + 1) lim 72 [x0] H = L72 ⟨ρ, evCall (cx ρ) k, (evCY (cx ρ) k).2, lim, k⟩ x0 H := by
  rw [evCall_body (cx ρ) k lim 72 _ H Tryz.f72 c72 [2] (by kernel_rfl) (by kernel_rfl) (by kernel_rfl) (by kernel_rfl) (by kernel_rfl)]
  have h := G72 ⟨ρ, evCall (cx ρ) k, (evCY (cx ρ) k).2, lim, k⟩ x0 H
  unfold jj at h
  exact h
-- (*haycroft/tail.Tail).Page
noncomputable def c73 : Code := Code.of Tryz.prog 73
noncomputable def L73 (E : LE) (x0 : AV) (H : Heap) : Res :=
  purK (binA P H .eql 147 x0 .nilp) fun x6 =>
  condK x6
  (
    retK [(.int .i64 0)] H)
  (
    resK (E.call E.lim 144 [x0] H) fun x9 H =>
    purK (extA 0 x9) fun x10 =>
    purK (extA 1 x9) fun x11 =>
    retK [x10] H)
theorem G73 (E : LE) (x0 : AV) (H : Heap) : jj E 73 c73 [x0, (.tup []), (.tup []), (.tup []), (.tup []), (.tup []), (.tup []), (.tup []), (.tup []), (.tup []), (.tup []), (.tup []), (.tup [])] H (kk none (fun s H => retK (([2] : List Nat).map fun t => s.getD t (.tup [])) H) [] retK [2]) = L73 E x0 H := by kernel_rfl
theorem E73 (ρ : Addr → Option Value) (k lim : Nat) (x0 : AV) (H : Heap) : evCall (cx ρ) (k + 1) lim 73 [x0] H = L73 ⟨ρ, evCall (cx ρ) k, (evCY (cx ρ) k).2, lim, k⟩ x0 H := by
  rw [evCall_body (cx ρ) k lim 73 _ H Tryz.f73 c73 [2] (by kernel_rfl) (by kernel_rfl) (by kernel_rfl) (by kernel_rfl) (by kernel_rfl)]
  have h := G73 ⟨ρ, evCall (cx ρ) k, (evCY (cx ρ) k).2, lim, k⟩ x0 H
  unfold jj at h
  exact h
-- (*haycroft/index.Index).Chain
noncomputable def c74 : Code := Code.of Tryz.prog 74
noncomputable def N74_1_k (s : Slots) (H : Heap) (R : RK) (J : CodeF) : Res := J (Code.at [1, 1, 1] c74) s H (kk none (fun s H => R (([4] : List Nat).map fun t => s.getD t (.tup [])) H) [] R [4])
noncomputable def N74_1 (E : LE) (x5 : AV) (H : Heap) (R : RK) : Res :=
  R [x5] H
theorem N74_1_eq (E : LE) (x5 : AV) (H : Heap) (R : RK) : N74_1_k (sp 34 [(5, x5)]) H R (jj E 74) = N74_1 E x5 H R := by kernel_rfl
noncomputable def N74_2_k (s : Slots) (H : Heap) (kn : KS) (R : RK) (J : CodeF) : Res := J (Code.at [1, 1, 0, 1] c74) s H (kk (some [5]) kn [] R [4])
noncomputable def N74_2b_k (s : Slots) (H : Heap) (kn k0 : KS) (R : RK) (J : CodeF) : Res := J (Code.at [1, 1, 0, 1, 0, 0] c74) s H (kk (some [0, 1, 5, 6]) kn [(0, (some [5]), k0)] R [4])
noncomputable def N74_2b (E : LE) (x0 x1 x5 x6 : AV) (H : Heap) (kn : AV → AV → AV → AV → Heap → Res) (k0 : AV → Heap → Res) : Res :=
  purK (gPur (wantV x6 true) (some x5)) fun x17_1 =>
  purK (gPur (wantV x6 true) (lenBA (Cx E) H 60 x17_1)) fun x18_1 =>
  purK (gPur (wantV x6 true) (some x0)) fun x19_1 =>
  resK (gRes (wantV x6 true) H (E.call E.lim 145 [x19_1] H)) fun x20_1 H =>
  purK (gPur (wantV x6 true) (binA P H .leq 3 x18_1 x20_1)) fun x21_1 =>
  purK (pickA x6 x21_1 (.bool false)) fun x22_1 =>
  condK x22_1
  (
    effK H (buildSliceA (Cx E) H 60 1 [(0, x1)]) fun x25_1 H =>
    effK H (builtinA (Cx E) E.lim H .append #[60, 60] [x5, x25_1]) fun x26_1 H =>
    resK (E.call E.lim 146 [x0, x1] H) fun x30_1 H =>
    purK (extA 0 x30_1) fun x31_1 =>
    purK (extA 1 x30_1) fun x32_1 =>
    kn x0 x31_1 x26_1 x32_1 H)
  (
    k0 x5 H)
theorem N74_2b_eq (E : LE) (x0 x1 x5 x6 : AV) (H : Heap) (kn k0 : KS) (R : RK) : N74_2b_k (sp 34 [(0, x0), (1, x1), (5, x5), (6, x6)]) H kn k0 R (jj E 74) = N74_2b E x0 x1 x5 x6 H (fun x0 x1 x5 x6 H => kn (sp 34 [(0, x0), (1, x1), (5, x5), (6, x6)]) H) (fun x5 H => k0 (sp 34 [(5, x5)]) H) := by kernel_rfl
noncomputable def N74_2 (E : LE) (x0 x1 x5 x6 : AV) (H : Heap) (kn : AV → Heap → Res) : Res :=
  loopL (fun (x : AV × AV × AV) H kl => N74_2b E x0 x.1 x.2.1 x.2.2 H (fun _ x1 x5 x6 H => kl (x1, x5, x6) H) kn) E.k (x1, x5, x6) H
theorem N74_2_eq (E : LE) (x0 x1 x5 x6 : AV) (H : Heap) (kn : KS) (R : RK) : N74_2_k (sp 34 [(0, x0), (1, x1), (5, x5), (6, x6)]) H kn R (jj E 74) = N74_2 E x0 x1 x5 x6 H (fun x5 H => kn (sp 34 [(5, x5)]) H) := by
  have e : Code.at [1, 1, 0, 1] c74 = Code.block 0 (Code.loop (Code.at [1, 1, 0, 1, 0, 0] c74)) := by kernel_rfl
  unfold N74_2_k N74_2 jj
  rw [e]
  rw [block_kk]
  exact loop_node [0, 1, 5, 6] (fun x : AV × AV × AV => (sp 34 [(0, x0), (1, (x.1)), (5, (x.2.1)), (6, (x.2.2))])) (fun (x : AV × AV × AV) H kl => N74_2b E x0 x.1 x.2.1 x.2.2 H (fun _ x1 x5 x6 H => kl (x1, x5, x6) H) (fun x5 H => kn (sp 34 [(5, x5)]) H)) (by kernel_rfl) (fun x => by kernel_rfl) (fun x H kl => by
    have h := N74_2b_eq E x0 (x.1) (x.2.1) (x.2.2) H kl kn R
    unfold N74_2b_k jj at h
    exact h) (x1, x5, x6) (sp 34 [(0, x0), (1, x1), (5, x5), (6, x6)]) H (by kernel_rfl)
noncomputable def L74 (E : LE) (x0 x1 : AV) (H : Heap) : Res :=
  purK (binA P H .geq 3 x1 (.int .i64 0)) fun x8 =>
  purK (gPur (wantV x8 true) (some x1)) fun x10 =>
  purK (gPur (wantV x8 true) (some x0)) fun x11 =>
  resK (gRes (wantV x8 true) H (E.call E.lim 145 [x11] H)) fun x12 H =>
  purK (gPur (wantV x8 true) (binA P H .lss 3 x10 x12)) fun x13 =>
  purK (pickA x8 x13 (.bool false)) fun x14 =>
  N74_2 E x0 x1 .nils x14 H (fun x5 H =>
    N74_1 E x5 H retK)
theorem L74_x (E : LE) (J : CodeF) (x0 x1 : AV) (H : Heap) : jx E 74 J c74 [x0, x1, (.tup []), (.tup []), (.tup []), (.tup []), (.tup []), (.tup []), (.tup []), (.tup []), (.tup []), (.tup []), (.tup []), (.tup []), (.tup []), (.tup []), (.tup []), (.tup []), (.tup []), (.tup []), (.tup []), (.tup []), (.tup []), (.tup []), (.tup []), (.tup []), (.tup []), (.tup []), (.tup []), (.tup []), (.tup []), (.tup []), (.tup []), (.tup [])] H (kk none (fun s H => retK (([4] : List Nat).map fun t => s.getD t (.tup [])) H) [] retK [4]) =
  purK (binA P H .geq 3 x1 (.int .i64 0)) fun x8 =>
  purK (gPur (wantV x8 true) (some x1)) fun x10 =>
  purK (gPur (wantV x8 true) (some x0)) fun x11 =>
  resK (gRes (wantV x8 true) H (E.call E.lim 145 [x11] H)) fun x12 H =>
  purK (gPur (wantV x8 true) (binA P H .lss 3 x10 x12)) fun x13 =>
  purK (pickA x8 x13 (.bool false)) fun x14 =>
  N74_2_k (sp 34 [(0, x0), (1, x1), (5, .nils), (6, x14)]) H (fun s H => N74_1_k s H retK J) retK J := by kernel_rfl
theorem G74 (E : LE) (x0 x1 : AV) (H : Heap) : jj E 74 c74 [x0, x1, (.tup []), (.tup []), (.tup []), (.tup []), (.tup []), (.tup []), (.tup []), (.tup []), (.tup []), (.tup []), (.tup []), (.tup []), (.tup []), (.tup []), (.tup []), (.tup []), (.tup []), (.tup []), (.tup []), (.tup []), (.tup []), (.tup []), (.tup []), (.tup []), (.tup []), (.tup []), (.tup []), (.tup []), (.tup []), (.tup []), (.tup []), (.tup [])] H (kk none (fun s H => retK (([4] : List Nat).map fun t => s.getD t (.tup [])) H) [] retK [4]) = L74 E x0 x1 H := (jj_X E 74 _ _ H _).trans ((L74_x E (jj E 74) x0 x1 H).trans (by simp only [L74, N74_1_eq, N74_2_eq]))
theorem E74 (ρ : Addr → Option Value) (k lim : Nat) (x0 x1 : AV) (H : Heap) : evCall (cx ρ) (k + 1) lim 74 [x0, x1] H = L74 ⟨ρ, evCall (cx ρ) k, (evCY (cx ρ) k).2, lim, k⟩ x0 x1 H := by
  rw [evCall_body (cx ρ) k lim 74 _ H Tryz.f74 c74 [4] (by kernel_rfl) (by kernel_rfl) (by kernel_rfl) (by kernel_rfl) (by kernel_rfl)]
  have h := G74 ⟨ρ, evCall (cx ρ) k, (evCY (cx ρ) k).2, lim, k⟩ x0 x1 H
  unfold jj at h
  exact h
-- haycroft/mix.Tag
noncomputable def c77 : Code := Code.of Tryz.prog 77
noncomputable def L77 (E : LE) (x0 : AV) (H : Heap) : Res :=
  resK (E.call E.lim 86 [x0, (.int .i64 50), (.int .i64 14)] H) fun x4 H =>
  retK [x4] H
theorem G77 (E : LE) (x0 : AV) (H : Heap) : jj E 77 c77 [x0, (.tup []), (.tup []), (.tup []), (.tup [])] H (kk none (fun s H => retK (([2] : List Nat).map fun t => s.getD t (.tup [])) H) [] retK [2]) = L77 E x0 H := by kernel_rfl
theorem E77 (ρ : Addr → Option Value) (k lim : Nat) (x0 : AV) (H : Heap) : evCall (cx ρ) (k + 1) lim 77 [x0] H = L77 ⟨ρ, evCall (cx ρ) k, (evCY (cx ρ) k).2, lim, k⟩ x0 H := by
  rw [evCall_body (cx ρ) k lim 77 _ H Tryz.f77 c77 [2] (by kernel_rfl) (by kernel_rfl) (by kernel_rfl) (by kernel_rfl) (by kernel_rfl)]
  have h := G77 ⟨ρ, evCall (cx ρ) k, (evCY (cx ρ) k).2, lim, k⟩ x0 H
  unfold jj at h
  exact h
-- haycroft/mix.Bucket
noncomputable def c78 : Code := Code.of Tryz.prog 78
noncomputable def L78 (E : LE) (x0 x1 : AV) (H : Heap) : Res :=
  resK (E.call E.lim 91 [x1] H) fun x6 H =>
  purK (unA .not x6) fun x7 =>
  condK x7
  (
    retK [(.int .i64 0)] H)
  (
    purK (binA P H .sub 3 x1 (.int .i64 1)) fun x10 =>
    purK (convXA (Cx E) H 3 22 x10) fun x11 =>
    purK (binA P H .and 22 x0 x11) fun x12 =>
    purK (convXA (Cx E) H 22 3 x12) fun x13 =>
    retK [x13] H)
theorem G78 (E : LE) (x0 x1 : AV) (H : Heap) : jj E 78 c78 [x0, x1, (.tup []), (.tup []), (.tup []), (.tup []), (.tup []), (.tup []), (.tup []), (.tup []), (.tup []), (.tup []), (.tup []), (.tup [])] H (kk none (fun s H => retK (([4] : List Nat).map fun t => s.getD t (.tup [])) H) [] retK [4]) = L78 E x0 x1 H := by kernel_rfl
theorem E78 (ρ : Addr → Option Value) (k lim : Nat) (x0 x1 : AV) (H : Heap) : evCall (cx ρ) (k + 1) lim 78 [x0, x1] H = L78 ⟨ρ, evCall (cx ρ) k, (evCY (cx ρ) k).2, lim, k⟩ x0 x1 H := by
  rw [evCall_body (cx ρ) k lim 78 _ H Tryz.f78 c78 [4] (by kernel_rfl) (by kernel_rfl) (by kernel_rfl) (by kernel_rfl) (by kernel_rfl)]
  have h := G78 ⟨ρ, evCall (cx ρ) k, (evCY (cx ρ) k).2, lim, k⟩ x0 x1 H
  unfold jj at h
  exact h
-- haycroft/index.slots
noncomputable def c80 : Code := Code.of Tryz.prog 80
noncomputable def N80_1_k (s : Slots) (H : Heap) (R : RK) (J : CodeF) : Res := J (Code.at [1, 1, 1] c80) s H (kk none (fun s H => R (([2] : List Nat).map fun t => s.getD t (.tup [])) H) [] R [2])
noncomputable def N80_1 (E : LE) (x3 : AV) (H : Heap) (R : RK) : Res :=
  R [x3] H
theorem N80_1_eq (E : LE) (x3 : AV) (H : Heap) (R : RK) : N80_1_k (sp 26 [(3, x3)]) H R (jj E 80) = N80_1 E x3 H R := by kernel_rfl
noncomputable def N80_2_k (s : Slots) (H : Heap) (kn : KS) (R : RK) (J : CodeF) : Res := J (Code.at [1, 1, 0, 1] c80) s H (kk (some [3]) kn [] R [2])
noncomputable def N80_2b_k (s : Slots) (H : Heap) (kn k0 : KS) (R : RK) (J : CodeF) : Res := J (Code.at [1, 1, 0, 1, 0, 0] c80) s H (kk (some [3, 7, 8, 9]) kn [(0, (some [3]), k0)] R [2])
noncomputable def N80_3_k (s : Slots) (H : Heap) (kn k0 : KS) (R : RK) (J : CodeF) : Res := J (Code.at [1, 1, 0, 1, 0, 0, 1, 1, 1] c80) s H (kk (some [3, 7, 8, 9]) kn [(0, (some [3]), k0)] R [2])
noncomputable def N80_3 (E : LE) (x3 x7 x8 x9 : AV) (H : Heap) (kn : AV → AV → AV → AV → Heap → Res) : Res :=
  purK (binA P H .add 3 x9 (.int .i64 1)) fun x24_1 =>
  kn x3 x7 x8 x24_1 H
theorem N80_3_eq (E : LE) (x3 x7 x8 x9 : AV) (H : Heap) (kn k0 : KS) (R : RK) : N80_3_k (sp 26 [(3, x3), (7, x7), (8, x8), (9, x9)]) H kn k0 R (jj E 80) = N80_3 E x3 x7 x8 x9 H (fun x3 x7 x8 x9 H => kn (sp 26 [(3, x3), (7, x7), (8, x8), (9, x9)]) H) := by kernel_rfl
noncomputable def N80_4_k (s : Slots) (H : Heap) (kn k1 k0 : KS) (R : RK) (J : CodeF) : Res := J (Code.at [1, 1, 0, 1, 0, 0, 1, 1, 0, 0, 1, 1] c80) s H (kk (some [3, 7, 8, 9]) kn [(1, (some [3, 7, 8, 9]), k1), (0, (some [3]), k0)] R [2])
noncomputable def N80_4b_k (s : Slots) (H : Heap) (kn k2 k1 k0 : KS) (R : RK) (J : CodeF) : Res := J (Code.at [1, 1, 0, 1, 0, 0, 1, 1, 0, 0, 1, 1, 0, 0] c80) s H (kk (some [3, 5, 7, 8, 9, 13]) kn [(2, (some [3, 7, 8, 9]), k2), (1, (some [3, 7, 8, 9]), k1), (0, (some [3]), k0)] R [2])
noncomputable def N80_4b (E : LE) (x3 x5 x7 x8 x9 x13 : AV) (H : Heap) (kn : AV → AV → AV → AV → AV → AV → Heap → Res) (k2 : AV → AV → AV → AV → Heap → Res) : Res :=
  purK (binA P H .lss 3 x13 (.int .i64 7)) fun x14_1 =>
  condK x14_1
  (
    purK (binA P H .mul 3 x5 (.int .i64 8)) fun x18_1 =>
    purK (binA P H .add 3 x18_1 x13) fun x20_1 =>
    effK H (buildSliceA (Cx E) H 60 1 [(0, x20_1)]) fun x21_1 H =>
    effK H (builtinA (Cx E) E.lim H .append #[60, 60] [x3, x21_1]) fun x22_1 H =>
    purK (binA P H .add 3 x13 (.int .i64 1)) fun x23_1 =>
    kn x22_1 x5 x7 x8 x9 x23_1 H)
  (
    k2 x3 x7 x8 x9 H)
theorem N80_4b_eq (E : LE) (x3 x5 x7 x8 x9 x13 : AV) (H : Heap) (kn k2 k1 k0 : KS) (R : RK) : N80_4b_k (sp 26 [(3, x3), (5, x5), (7, x7), (8, x8), (9, x9), (13, x13)]) H kn k2 k1 k0 R (jj E 80) = N80_4b E x3 x5 x7 x8 x9 x13 H (fun x3 x5 x7 x8 x9 x13 H => kn (sp 26 [(3, x3), (5, x5), (7, x7), (8, x8), (9, x9), (13, x13)]) H) (fun x3 x7 x8 x9 H => k2 (sp 26 [(3, x3), (7, x7), (8, x8), (9, x9)]) H) := by kernel_rfl
noncomputable def N80_4 (E : LE) (x3 x5 x7 x8 x9 x13 : AV) (H : Heap) (kn : AV → AV → AV → AV → Heap → Res) : Res :=
  loopL (fun (x : AV × AV) H kl => N80_4b E x.1 x5 x7 x8 x9 x.2 H (fun x3 _ _ _ _ x13 H => kl (x3, x13) H) kn) E.k (x3, x13) H
theorem N80_4_eq (E : LE) (x3 x5 x7 x8 x9 x13 : AV) (H : Heap) (kn k1 k0 : KS) (R : RK) : N80_4_k (sp 26 [(3, x3), (5, x5), (7, x7), (8, x8), (9, x9), (13, x13)]) H kn k1 k0 R (jj E 80) = N80_4 E x3 x5 x7 x8 x9 x13 H (fun x3 x7 x8 x9 H => kn (sp 26 [(3, x3), (7, x7), (8, x8), (9, x9)]) H) := by
  have e : Code.at [1, 1, 0, 1, 0, 0, 1, 1, 0, 0, 1, 1] c80 = Code.block 2 (Code.loop (Code.at [1, 1, 0, 1, 0, 0, 1, 1, 0, 0, 1, 1, 0, 0] c80)) := by kernel_rfl
  unfold N80_4_k N80_4 jj
  rw [e]
  rw [block_kk]
  exact loop_node [3, 5, 7, 8, 9, 13] (fun x : AV × AV => (sp 26 [(3, (x.1)), (5, x5), (7, x7), (8, x8), (9, x9), (13, (x.2))])) (fun (x : AV × AV) H kl => N80_4b E x.1 x5 x7 x8 x9 x.2 H (fun x3 _ _ _ _ x13 H => kl (x3, x13) H) (fun x3 x7 x8 x9 H => kn (sp 26 [(3, x3), (7, x7), (8, x8), (9, x9)]) H)) (by kernel_rfl) (fun x => by kernel_rfl) (fun x H kl => by
    have h := N80_4b_eq E (x.1) x5 x7 x8 x9 (x.2) H kl kn k1 k0 R
    unfold N80_4b_k jj at h
    exact h) (x3, x13) (sp 26 [(3, x3), (5, x5), (7, x7), (8, x8), (9, x9), (13, x13)]) H (by kernel_rfl)
noncomputable def N80_2b (E : LE) (x3 x7 x8 x9 : AV) (H : Heap) (kn : AV → AV → AV → AV → Heap → Res) (k0 : AV → Heap → Res) : Res :=
  purK (binA P H .lss 3 x9 x8) fun x10_1 =>
  condK x10_1
  (
    purK (indexAddrA P 60 x7 x9) fun x11_1 =>
    purK (loadA (Cx E) H 3 x11_1) fun x12_1 =>
    N80_4 E x3 x12_1 x7 x8 x9 (.int .i64 0) H (fun x3_1 x7_1 x8_1 x9_1 H =>
      N80_3 E x3_1 x7_1 x8_1 x9_1 H kn))
  (
    k0 x3 H)
theorem N80_2b_x (E : LE) (J : CodeF) (x3 x7 x8 x9 : AV) (H : Heap) (kn k0 : KS) (R : RK) : N80_2b_k (sp 26 [(3, x3), (7, x7), (8, x8), (9, x9)]) H kn k0 R (jx E 80 J) =
  purK (binA P H .lss 3 x9 x8) fun x10_1 =>
  condK x10_1
  (
    purK (indexAddrA P 60 x7 x9) fun x11_1 =>
    purK (loadA (Cx E) H 3 x11_1) fun x12_1 =>
    N80_4_k (sp 26 [(3, x3), (5, x12_1), (7, x7), (8, x8), (9, x9), (13, (.int .i64 0))]) H (fun s H => N80_3_k s H kn k0 R J) (fun s H => N80_3_k s H kn k0 R J) k0 R J)
  (
    k0 (sp 26 [(3, x3)]) H) := by kernel_rfl
theorem N80_2b_eq (E : LE) (x3 x7 x8 x9 : AV) (H : Heap) (kn k0 : KS) (R : RK) : N80_2b_k (sp 26 [(3, x3), (7, x7), (8, x8), (9, x9)]) H kn k0 R (jj E 80) = N80_2b E x3 x7 x8 x9 H (fun x3 x7 x8 x9 H => kn (sp 26 [(3, x3), (7, x7), (8, x8), (9, x9)]) H) (fun x3 H => k0 (sp 26 [(3, x3)]) H) := (jj_X E 80 _ _ H _).trans ((N80_2b_x E (jj E 80) x3 x7 x8 x9 H kn k0 R).trans (by simp only [N80_2b, N80_3_eq, N80_4_eq]))
noncomputable def N80_2 (E : LE) (x3 x7 x8 x9 : AV) (H : Heap) (kn : AV → Heap → Res) : Res :=
  loopL (fun (x : AV × AV) H kl => N80_2b E x.1 x7 x8 x.2 H (fun x3 _ _ x9 H => kl (x3, x9) H) kn) E.k (x3, x9) H
theorem N80_2_eq (E : LE) (x3 x7 x8 x9 : AV) (H : Heap) (kn : KS) (R : RK) : N80_2_k (sp 26 [(3, x3), (7, x7), (8, x8), (9, x9)]) H kn R (jj E 80) = N80_2 E x3 x7 x8 x9 H (fun x3 H => kn (sp 26 [(3, x3)]) H) := by
  have e : Code.at [1, 1, 0, 1] c80 = Code.block 0 (Code.loop (Code.at [1, 1, 0, 1, 0, 0] c80)) := by kernel_rfl
  unfold N80_2_k N80_2 jj
  rw [e]
  rw [block_kk]
  exact loop_node [3, 7, 8, 9] (fun x : AV × AV => (sp 26 [(3, (x.1)), (7, x7), (8, x8), (9, (x.2))])) (fun (x : AV × AV) H kl => N80_2b E x.1 x7 x8 x.2 H (fun x3 _ _ x9 H => kl (x3, x9) H) (fun x3 H => kn (sp 26 [(3, x3)]) H)) (by kernel_rfl) (fun x => by kernel_rfl) (fun x H kl => by
    have h := N80_2b_eq E (x.1) x7 x8 (x.2) H kl kn R
    unfold N80_2b_k jj at h
    exact h) (x3, x9) (sp 26 [(3, x3), (7, x7), (8, x8), (9, x9)]) H (by kernel_rfl)
noncomputable def L80 (E : LE) (x0 : AV) (H : Heap) : Res :=
  purK (lenBA (Cx E) H 60 x0) fun x8 =>
  N80_2 E .nils x0 x8 (.int .i64 0) H (fun x3 H =>
    N80_1 E x3 H retK)
theorem L80_x (E : LE) (J : CodeF) (x0 : AV) (H : Heap) : jx E 80 J c80 [x0, (.tup []), (.tup []), (.tup []), (.tup []), (.tup []), (.tup []), (.tup []), (.tup []), (.tup []), (.tup []), (.tup []), (.tup []), (.tup []), (.tup []), (.tup []), (.tup []), (.tup []), (.tup []), (.tup []), (.tup []), (.tup []), (.tup []), (.tup []), (.tup []), (.tup [])] H (kk none (fun s H => retK (([2] : List Nat).map fun t => s.getD t (.tup [])) H) [] retK [2]) =
  purK (lenBA (Cx E) H 60 x0) fun x8 =>
  N80_2_k (sp 26 [(3, .nils), (7, x0), (8, x8), (9, (.int .i64 0))]) H (fun s H => N80_1_k s H retK J) retK J := by kernel_rfl
theorem G80 (E : LE) (x0 : AV) (H : Heap) : jj E 80 c80 [x0, (.tup []), (.tup []), (.tup []), (.tup []), (.tup []), (.tup []), (.tup []), (.tup []), (.tup []), (.tup []), (.tup []), (.tup []), (.tup []), (.tup []), (.tup []), (.tup []), (.tup []), (.tup []), (.tup []), (.tup []), (.tup []), (.tup []), (.tup []), (.tup []), (.tup [])] H (kk none (fun s H => retK (([2] : List Nat).map fun t => s.getD t (.tup [])) H) [] retK [2]) = L80 E x0 H := (jj_X E 80 _ _ H _).trans ((L80_x E (jj E 80) x0 H).trans (by simp only [L80, N80_1_eq, N80_2_eq]))
theorem E80 (ρ : Addr → Option Value) (k lim : Nat) (x0 : AV) (H : Heap) : evCall (cx ρ) (k + 1) lim 80 [x0] H = L80 ⟨ρ, evCall (cx ρ) k, (evCY (cx ρ) k).2, lim, k⟩ x0 H := by
  rw [evCall_body (cx ρ) k lim 80 _ H Tryz.f80 c80 [2] (by kernel_rfl) (by kernel_rfl) (by kernel_rfl) (by kernel_rfl) (by kernel_rfl)]
  have h := G80 ⟨ρ, evCall (cx ρ) k, (evCY (cx ρ) k).2, lim, k⟩ x0 H
  unfold jj at h
  exact h
-- slices.IndexFunc[[]int,int]
noncomputable def c81 : Code := Code.of Tryz.prog 81
noncomputable def N81_1_k (s : Slots) (H : Heap) (R : RK) (J : CodeF) : Res := J (Code.at [1, 1] c81) s H (kk none (fun s H => R (([4] : List Nat).map fun t => s.getD t (.tup [])) H) [] R [4])
noncomputable def N81_1 (E : LE) (H : Heap) (R : RK) : Res :=
  R [(.int .i64 (-1))] H
theorem N81_1_eq (E : LE) (H : Heap) (R : RK) : N81_1_k (sp 19 []) H R (jj E 81) = N81_1 E H R := by kernel_rfl
noncomputable def N81_2_k (s : Slots) (H : Heap) (kn : KS) (R : RK) (J : CodeF) : Res := J (Code.at [1, 0, 1] c81) s H (kk (some []) kn [] R [4])
noncomputable def N81_2b_k (s : Slots) (H : Heap) (kn k0 : KS) (R : RK) (J : CodeF) : Res := J (Code.at [1, 0, 1, 0, 0] c81) s H (kk (some [0, 1, 7, 8]) kn [(0, (some []), k0)] R [4])
noncomputable def N81_2b (E : LE) (x0 x1 x7 x8 : AV) (H : Heap) (kn : AV → AV → AV → AV → Heap → Res) (k0 : Heap → Res) (R : RK) : Res :=
  purK (binA P H .lss 3 x8 x7) fun x9_1 =>
  condK x9_1
  (
    purK (indexAddrA P 60 x0 x8) fun x14_1 =>
    purK (loadA (Cx E) H 3 x14_1) fun x15_1 =>
    valK E.call E.yc E.lim x1 [x15_1] H fun x16_1 H =>
    condK x16_1
    (
      R [x8] H)
    (
      purK (binA P H .add 3 x8 (.int .i64 1)) fun x18_1 =>
      kn x0 x1 x7 x18_1 H))
  (
    k0 H)
theorem N81_2b_eq (E : LE) (x0 x1 x7 x8 : AV) (H : Heap) (kn k0 : KS) (R : RK) : N81_2b_k (sp 19 [(0, x0), (1, x1), (7, x7), (8, x8)]) H kn k0 R (jj E 81) = N81_2b E x0 x1 x7 x8 H (fun x0 x1 x7 x8 H => kn (sp 19 [(0, x0), (1, x1), (7, x7), (8, x8)]) H) (fun H => k0 (sp 19 []) H) R := by kernel_rfl
noncomputable def N81_2 (E : LE) (x0 x1 x7 x8 : AV) (H : Heap) (kn : Heap → Res) (R : RK) : Res :=
  loopL (fun (x : AV) H kl => N81_2b E x0 x1 x7 x H (fun _ _ _ x8 H => kl x8 H) kn R) E.k x8 H
theorem N81_2_eq (E : LE) (x0 x1 x7 x8 : AV) (H : Heap) (kn : KS) (R : RK) : N81_2_k (sp 19 [(0, x0), (1, x1), (7, x7), (8, x8)]) H kn R (jj E 81) = N81_2 E x0 x1 x7 x8 H (fun H => kn (sp 19 []) H) R := by
  have e : Code.at [1, 0, 1] c81 = Code.block 0 (Code.loop (Code.at [1, 0, 1, 0, 0] c81)) := by kernel_rfl
  unfold N81_2_k N81_2 jj
  rw [e]
  rw [block_kk]
  exact loop_node [0, 1, 7, 8] (fun x : AV => (sp 19 [(0, x0), (1, x1), (7, x7), (8, (x))])) (fun (x : AV) H kl => N81_2b E x0 x1 x7 x H (fun _ _ _ x8 H => kl x8 H) (fun H => kn (sp 19 []) H) R) (by kernel_rfl) (fun x => by kernel_rfl) (fun x H kl => by
    have h := N81_2b_eq E x0 x1 x7 (x) H kl kn R
    unfold N81_2b_k jj at h
    exact h) x8 (sp 19 [(0, x0), (1, x1), (7, x7), (8, x8)]) H (by kernel_rfl)
noncomputable def L81 (E : LE) (x0 x1 : AV) (H : Heap) : Res :=
  purK (lenBA (Cx E) H 60 x0) fun x7 =>
  N81_2 E x0 x1 x7 (.int .i64 0) H (fun H =>
    N81_1 E H retK) retK
theorem L81_x (E : LE) (J : CodeF) (x0 x1 : AV) (H : Heap) : jx E 81 J c81 [x0, x1, (.tup []), (.tup []), (.tup []), (.tup []), (.tup []), (.tup []), (.tup []), (.tup []), (.tup []), (.tup []), (.tup []), (.tup []), (.tup []), (.tup []), (.tup []), (.tup []), (.tup [])] H (kk none (fun s H => retK (([4] : List Nat).map fun t => s.getD t (.tup [])) H) [] retK [4]) =
  purK (lenBA (Cx E) H 60 x0) fun x7 =>
  N81_2_k (sp 19 [(0, x0), (1, x1), (7, x7), (8, (.int .i64 0))]) H (fun s H => N81_1_k s H retK J) retK J := by kernel_rfl
theorem G81 (E : LE) (x0 x1 : AV) (H : Heap) : jj E 81 c81 [x0, x1, (.tup []), (.tup []), (.tup []), (.tup []), (.tup []), (.tup []), (.tup []), (.tup []), (.tup []), (.tup []), (.tup []), (.tup []), (.tup []), (.tup []), (.tup []), (.tup []), (.tup [])] H (kk none (fun s H => retK (([4] : List Nat).map fun t => s.getD t (.tup [])) H) [] retK [4]) = L81 E x0 x1 H := (jj_X E 81 _ _ H _).trans ((L81_x E (jj E 81) x0 x1 H).trans (by simp only [L81, N81_1_eq, N81_2_eq]))
theorem E81 (ρ : Addr → Option Value) (k lim : Nat) (x0 x1 : AV) (H : Heap) : evCall (cx ρ) (k + 1) lim 81 [x0, x1] H = L81 ⟨ρ, evCall (cx ρ) k, (evCY (cx ρ) k).2, lim, k⟩ x0 x1 H := by
  rw [evCall_body (cx ρ) k lim 81 _ H Tryz.f81 c81 [4] (by kernel_rfl) (by kernel_rfl) (by kernel_rfl) (by kernel_rfl) (by kernel_rfl)]
  have h := G81 ⟨ρ, evCall (cx ρ) k, (evCY (cx ρ) k).2, lim, k⟩ x0 x1 H
  unfold jj at h
  exact h
-- (*haycroft/index.Index).Look$1
noncomputable def c82 : Code := Code.of Tryz.prog 82
noncomputable def L82 (E : LE) (x0 x1 x2 : AV) (H : Heap) : Res :=
  purK (loadA (Cx E) H 95 x1) fun x5 =>
  purK (nilChkA x5) fun x6 =>
  purK (fieldAddrA P 162 x6 2) fun x7 =>
  purK (loadA (Cx E) H 160 x7) fun x8 =>
  purK (loadA (Cx E) H 22 x2) fun x11 =>
  resK (E.call E.lim 84 [x8, x0] H) fun x10 H => bif (agn (loadA (Cx E) H 22 x2) x11 && true) then
    resK (E.call E.lim 77 [x11] H) fun x12 H =>
    resK (E.call E.lim 83 [x10, x12] H) fun x13 H =>
    retK [x13] H
  else none
theorem G82 (E : LE) (x0 x1 x2 : AV) (H : Heap) : jj E 82 c82 [x0, x1, x2, (.tup []), (.tup []), (.tup []), (.tup []), (.tup []), (.tup []), (.tup []), (.tup []), (.tup []), (.tup []), (.tup [])] H (kk none (fun s H => retK (([4] : List Nat).map fun t => s.getD t (.tup [])) H) [] retK [4]) = L82 E x0 x1 x2 H := by kernel_rfl
theorem E82 (ρ : Addr → Option Value) (k lim : Nat) (x0 x1 x2 : AV) (H : Heap) : evCall (cx ρ) (k + 1) lim 82 [x0, x1, x2] H = L82 ⟨ρ, evCall (cx ρ) k, (evCY (cx ρ) k).2, lim, k⟩ x0 x1 x2 H := by
  rw [evCall_body (cx ρ) k lim 82 _ H Tryz.f82 c82 [4] (by kernel_rfl) (by kernel_rfl) (by kernel_rfl) (by kernel_rfl) (by kernel_rfl)]
  have h := G82 ⟨ρ, evCall (cx ρ) k, (evCY (cx ρ) k).2, lim, k⟩ x0 x1 x2 H
  unfold jj at h
  exact h
-- haycroft/entry.Has
noncomputable def c83 : Code := Code.of Tryz.prog 83
noncomputable def L83 (E : LE) (x0 x1 : AV) (H : Heap) : Res :=
  resK (E.call E.lim 36 [x0] H) fun x9 H =>
  purK (extA 0 x9) fun x10 =>
  purK (extA 1 x9) fun x11 =>
  effK H (allocA (Cx E) H 90) fun x5 H =>
  effK H ((storeA (Cx E) E.lim H 90 x5 x10).map skips) fun _ H =>
  purK (binA P H .eql 28 x11 (.int .i64 0)) fun x13 =>
  purK (gPur (wantV x13 true) (fieldAddrA P 90 x5 1)) fun x15 =>
  purK (gPur (wantV x13 true) (loadA (Cx E) H 22 x15)) fun x16 =>
  purK (gPur (wantV x13 true) (some x1)) fun x17 =>
  purK (gPur (wantV x13 true) (binA P H .eql 22 x16 x17)) fun x18 =>
  purK (pickA x13 x18 (.bool false)) fun x19 =>
  retK [x19] H
theorem G83 (E : LE) (x0 x1 : AV) (H : Heap) : jj E 83 c83 [x0, x1, (.tup []), (.tup []), (.tup []), (.tup []), (.tup []), (.tup []), (.tup []), (.tup []), (.tup []), (.tup []), (.tup []), (.tup []), (.tup []), (.tup []), (.tup []), (.tup []), (.tup []), (.tup [])] H (kk none (fun s H => retK (([4] : List Nat).map fun t => s.getD t (.tup [])) H) [] retK [4]) = L83 E x0 x1 H := by kernel_rfl
theorem E83 (ρ : Addr → Option Value) (k lim : Nat) (x0 x1 : AV) (H : Heap) : evCall (cx ρ) (k + 1) lim 83 [x0, x1] H = L83 ⟨ρ, evCall (cx ρ) k, (evCY (cx ρ) k).2, lim, k⟩ x0 x1 H := by
  rw [evCall_body (cx ρ) k lim 83 _ H Tryz.f83 c83 [4] (by kernel_rfl) (by kernel_rfl) (by kernel_rfl) (by kernel_rfl) (by kernel_rfl)]
  have h := G83 ⟨ρ, evCall (cx ρ) k, (evCY (cx ρ) k).2, lim, k⟩ x0 x1 H
  unfold jj at h
  exact h
-- (*haycroft/cell.Row).Load
noncomputable def c84 : Code := Code.of Tryz.prog 84
noncomputable def L84 (E : LE) (x0 x1 : AV) (H : Heap) : Res :=
  resK (E.call E.lim 149 [x0, x1] H) fun x7 H =>
  purK (unA .not x7) fun x8 =>
  condK x8
  (
    retK [(.int .u64 0)] H)
  (
    purK (nilChkA x0) fun x10 =>
    purK (fieldAddrA P 232 x10 0) fun x11 =>
    purK (loadA (Cx E) H 228 x11) fun x12 =>
    purK (indexAddrA P 228 x12 x1) fun x14 =>
    resK (E.call E.lim 150 [x14] H) fun x15 H =>
    retK [x15] H)
theorem G84 (E : LE) (x0 x1 : AV) (H : Heap) : jj E 84 c84 [x0, x1, (.tup []), (.tup []), (.tup []), (.tup []), (.tup []), (.tup []), (.tup []), (.tup []), (.tup []), (.tup []), (.tup []), (.tup []), (.tup []), (.tup [])] H (kk none (fun s H => retK (([4] : List Nat).map fun t => s.getD t (.tup [])) H) [] retK [4]) = L84 E x0 x1 H := by kernel_rfl
theorem E84 (ρ : Addr → Option Value) (k lim : Nat) (x0 x1 : AV) (H : Heap) : evCall (cx ρ) (k + 1) lim 84 [x0, x1] H = L84 ⟨ρ, evCall (cx ρ) k, (evCY (cx ρ) k).2, lim, k⟩ x0 x1 H := by
  rw [evCall_body (cx ρ) k lim 84 _ H Tryz.f84 c84 [4] (by kernel_rfl) (by kernel_rfl) (by kernel_rfl) (by kernel_rfl) (by kernel_rfl)]
  have h := G84 ⟨ρ, evCall (cx ρ) k, (evCY (cx ρ) k).2, lim, k⟩ x0 x1 H
  unfold jj at h
  exact h
-- (*haycroft/index.Index).Look$2
noncomputable def c85 : Code := Code.of Tryz.prog 85
noncomputable def L85 (E : LE) (x0 x1 : AV) (H : Heap) : Res :=
  purK (loadA (Cx E) H 95 x1) fun x4 =>
  purK (nilChkA x4) fun x5 =>
  purK (fieldAddrA P 162 x5 2) fun x6 =>
  purK (loadA (Cx E) H 160 x6) fun x7 =>
  resK (E.call E.lim 84 [x7, x0] H) fun x9 H =>
  purK (binA P H .eql 22 x9 (.int .u64 0)) fun x10 =>
  retK [x10] H
theorem G85 (E : LE) (x0 x1 : AV) (H : Heap) : jj E 85 c85 [x0, x1, (.tup []), (.tup []), (.tup []), (.tup []), (.tup []), (.tup []), (.tup []), (.tup []), (.tup [])] H (kk none (fun s H => retK (([3] : List Nat).map fun t => s.getD t (.tup [])) H) [] retK [3]) = L85 E x0 x1 H := by kernel_rfl
theorem E85 (ρ : Addr → Option Value) (k lim : Nat) (x0 x1 : AV) (H : Heap) : evCall (cx ρ) (k + 1) lim 85 [x0, x1] H = L85 ⟨ρ, evCall (cx ρ) k, (evCY (cx ρ) k).2, lim, k⟩ x0 x1 H := by
  rw [evCall_body (cx ρ) k lim 85 _ H Tryz.f85 c85 [3] (by kernel_rfl) (by kernel_rfl) (by kernel_rfl) (by kernel_rfl) (by kernel_rfl)]
  have h := G85 ⟨ρ, evCall (cx ρ) k, (evCY (cx ρ) k).2, lim, k⟩ x0 x1 H
  unfold jj at h
  exact h
-- haycroft/field.Get
noncomputable def c86 : Code := Code.of Tryz.prog 86
noncomputable def L86 (E : LE) (x0 x1 x2 : AV) (H : Heap) : Res :=
  resK (E.call E.lim 151 [x1, x2] H) fun x9 H =>
  purK (unA .not x9) fun x10 =>
  condK x10
  (
    retK [(.int .u64 0)] H)
  (
    purK (binA P H .shr 22 x0 x1) fun x13 =>
    resK (E.call E.lim 131 [x2] H) fun x15 H => bif (agn (binA P H .shr 22 x0 x1) x13 && true) then
      purK (binA P H .and 22 x13 x15) fun x16 =>
      retK [x16] H
    else none)
theorem G86 (E : LE) (x0 x1 x2 : AV) (H : Heap) : jj E 86 c86 [x0, x1, x2, (.tup []), (.tup []), (.tup []), (.tup []), (.tup []), (.tup []), (.tup []), (.tup []), (.tup []), (.tup []), (.tup []), (.tup []), (.tup []), (.tup [])] H (kk none (fun s H => retK (([6] : List Nat).map fun t => s.getD t (.tup [])) H) [] retK [6]) = L86 E x0 x1 x2 H := by kernel_rfl
theorem E86 (ρ : Addr → Option Value) (k lim : Nat) (x0 x1 x2 : AV) (H : Heap) : evCall (cx ρ) (k + 1) lim 86 [x0, x1, x2] H = L86 ⟨ρ, evCall (cx ρ) k, (evCY (cx ρ) k).2, lim, k⟩ x0 x1 x2 H := by
  rw [evCall_body (cx ρ) k lim 86 _ H Tryz.f86 c86 [6] (by kernel_rfl) (by kernel_rfl) (by kernel_rfl) (by kernel_rfl) (by kernel_rfl)]
  have h := G86 ⟨ρ, evCall (cx ρ) k, (evCY (cx ρ) k).2, lim, k⟩ x0 x1 x2 H
  unfold jj at h
  exact h
-- haycroft/field.Flag
noncomputable def c87 : Code := Code.of Tryz.prog 87
noncomputable def L87 (E : LE) (x0 x1 : AV) (H : Heap) : Res :=
  resK (E.call E.lim 86 [x0, x1, (.int .i64 1)] H) fun x7 H =>
  purK (binA P H .eql 22 x7 (.int .u64 1)) fun x8 =>
  retK [x8] H
theorem G87 (E : LE) (x0 x1 : AV) (H : Heap) : jj E 87 c87 [x0, x1, (.tup []), (.tup []), (.tup []), (.tup []), (.tup []), (.tup []), (.tup [])] H (kk none (fun s H => retK (([4] : List Nat).map fun t => s.getD t (.tup [])) H) [] retK [4]) = L87 E x0 x1 H := by kernel_rfl
theorem E87 (ρ : Addr → Option Value) (k lim : Nat) (x0 x1 : AV) (H : Heap) : evCall (cx ρ) (k + 1) lim 87 [x0, x1] H = L87 ⟨ρ, evCall (cx ρ) k, (evCY (cx ρ) k).2, lim, k⟩ x0 x1 H := by
  rw [evCall_body (cx ρ) k lim 87 _ H Tryz.f87 c87 [4] (by kernel_rfl) (by kernel_rfl) (by kernel_rfl) (by kernel_rfl) (by kernel_rfl)]
  have h := G87 ⟨ρ, evCall (cx ρ) k, (evCY (cx ρ) k).2, lim, k⟩ x0 x1 H
  unfold jj at h
  exact h
-- haycroft/entry.Right
noncomputable def c88 : Code := Code.of Tryz.prog 88
noncomputable def L88 (E : LE) (x0 : AV) (H : Heap) : Res :=
  effK H (boxA H 90 x0) fun x1 H =>
  purK (fieldAddrA P 90 x1 0) fun x3 =>
  purK (loadA (Cx E) H 22 x3) fun x4 =>
  purK (binA P H .leq 22 x4 (.int .u64 281474976710655)) fun x5 =>
  boolK (wantV x5 true) fun b1 => purK (bif b1 then fieldAddrA P 90 x1 1 else some (.tup [])) fun x7 =>
  boolK (wantV x5 true) fun b2 => purK (bif b2 then loadA (Cx E) H 22 x7 else some (.tup [])) fun x8 =>
  boolK (wantV x5 true) fun b3 => resK (gRes (some b3) H (E.call E.lim 131 [(.int .i64 14)] H)) fun x9 H => bif !b3 || ((!b2 || agn (loadA (Cx E) H 22 x7) x8) && true) then
    purK (gPur (wantV x5 true) (binA P H .leq 22 x8 x9)) fun x10 =>
    purK (pickA x5 x10 (.bool false)) fun x11 =>
    purK (gPur (wantV x11 true) (fieldAddrA P 90 x1 2)) fun x13 =>
    purK (gPur (wantV x11 true) (loadA (Cx E) H 4 x13)) fun x14 =>
    purK (gPur (wantV x11 true) (fieldAddrA P 90 x1 0)) fun x15 =>
    purK (gPur (wantV x11 true) (loadA (Cx E) H 22 x15)) fun x16 =>
    purK (gPur (wantV x11 true) (binA P H .eql 22 x16 (.int .u64 0))) fun x17 =>
    purK (gPur (wantV x11 true) (binA P H .eql 4 x14 x17)) fun x18 =>
    purK (pickA x11 x18 (.bool false)) fun x19 =>
    retK [x19] H
  else none
theorem G88 (E : LE) (x0 : AV) (H : Heap) : jj E 88 c88 [x0, (.tup []), (.tup []), (.tup []), (.tup []), (.tup []), (.tup []), (.tup []), (.tup []), (.tup []), (.tup []), (.tup []), (.tup []), (.tup []), (.tup []), (.tup []), (.tup []), (.tup []), (.tup []), (.tup [])] H (kk none (fun s H => retK (([2] : List Nat).map fun t => s.getD t (.tup [])) H) [] retK [2]) = L88 E x0 H := by kernel_rfl
theorem E88 (ρ : Addr → Option Value) (k lim : Nat) (x0 : AV) (H : Heap) : evCall (cx ρ) (k + 1) lim 88 [x0] H = L88 ⟨ρ, evCall (cx ρ) k, (evCY (cx ρ) k).2, lim, k⟩ x0 H := by
  rw [evCall_body (cx ρ) k lim 88 _ H Tryz.f88 c88 [2] (by kernel_rfl) (by kernel_rfl) (by kernel_rfl) (by kernel_rfl) (by kernel_rfl)]
  have h := G88 ⟨ρ, evCall (cx ρ) k, (evCY (cx ρ) k).2, lim, k⟩ x0 H
  unfold jj at h
  exact h
-- haycroft/place.May
noncomputable def c89 : Code := Code.of Tryz.prog 89
noncomputable def L89 (E : LE) (x0 : AV) (H : Heap) : Res :=
  purK (binA P H .geq 3 x0 (.int .i64 5)) fun x4 =>
  purK (gPur (wantV x4 true) (some x0)) fun x6 =>
  purK (gPur (wantV x4 true) (binA P H .leq 3 x6 (.int .i64 9))) fun x7 =>
  purK (pickA x4 x7 (.bool false)) fun x8 =>
  retK [x8] H
theorem G89 (E : LE) (x0 : AV) (H : Heap) : jj E 89 c89 [x0, (.tup []), (.tup []), (.tup []), (.tup []), (.tup []), (.tup []), (.tup []), (.tup [])] H (kk none (fun s H => retK (([2] : List Nat).map fun t => s.getD t (.tup [])) H) [] retK [2]) = L89 E x0 H := by kernel_rfl
theorem E89 (ρ : Addr → Option Value) (k lim : Nat) (x0 : AV) (H : Heap) : evCall (cx ρ) (k + 1) lim 89 [x0] H = L89 ⟨ρ, evCall (cx ρ) k, (evCY (cx ρ) k).2, lim, k⟩ x0 H := by
  rw [evCall_body (cx ρ) k lim 89 _ H Tryz.f89 c89 [2] (by kernel_rfl) (by kernel_rfl) (by kernel_rfl) (by kernel_rfl) (by kernel_rfl)]
  have h := G89 ⟨ρ, evCall (cx ρ) k, (evCY (cx ρ) k).2, lim, k⟩ x0 H
  unfold jj at h
  exact h
-- haycroft/store.within
noncomputable def c90 : Code := Code.of Tryz.prog 90
noncomputable def L90 (E : LE) (x0 x1 x2 : AV) (H : Heap) : Res :=
  purK (binA P H .geq 3 x0 x1) fun x9 =>
  purK (gPur (wantV x9 true) (some x0)) fun x11 =>
  purK (gPur (wantV x9 true) (some x2)) fun x12 =>
  purK (gPur (wantV x9 true) (binA P H .leq 3 x11 x12)) fun x13 =>
  purK (pickA x9 x13 (.bool false)) fun x14 =>
  retK [x14] H
theorem G90 (E : LE) (x0 x1 x2 : AV) (H : Heap) : jj E 90 c90 [x0, x1, x2, (.tup []), (.tup []), (.tup []), (.tup []), (.tup []), (.tup []), (.tup []), (.tup []), (.tup []), (.tup []), (.tup []), (.tup [])] H (kk none (fun s H => retK (([6] : List Nat).map fun t => s.getD t (.tup [])) H) [] retK [6]) = L90 E x0 x1 x2 H := by kernel_rfl
theorem E90 (ρ : Addr → Option Value) (k lim : Nat) (x0 x1 x2 : AV) (H : Heap) : evCall (cx ρ) (k + 1) lim 90 [x0, x1, x2] H = L90 ⟨ρ, evCall (cx ρ) k, (evCY (cx ρ) k).2, lim, k⟩ x0 x1 x2 H := by
  rw [evCall_body (cx ρ) k lim 90 _ H Tryz.f90 c90 [6] (by kernel_rfl) (by kernel_rfl) (by kernel_rfl) (by kernel_rfl) (by kernel_rfl)]
  have h := G90 ⟨ρ, evCall (cx ρ) k, (evCY (cx ρ) k).2, lim, k⟩ x0 x1 x2 H
  unfold jj at h
  exact h
-- haycroft/mix.May
noncomputable def c91 : Code := Code.of Tryz.prog 91
noncomputable def L91 (E : LE) (x0 : AV) (H : Heap) : Res :=
  purK (binA P H .geq 3 x0 (.int .i64 1)) fun x4 =>
  purK (gPur (wantV x4 true) (some x0)) fun x6 =>
  purK (gPur (wantV x4 true) (binA P H .leq 3 x6 (.int .i64 1024))) fun x7 =>
  purK (pickA x4 x7 (.bool false)) fun x8 =>
  purK (gPur (wantV x8 true) (some x0)) fun x10 =>
  purK (gPur (wantV x8 true) (some x0)) fun x11 =>
  purK (gPur (wantV x8 true) (binA P H .sub 3 x11 (.int .i64 1))) fun x12 =>
  purK (gPur (wantV x8 true) (binA P H .and 3 x10 x12)) fun x13 =>
  purK (gPur (wantV x8 true) (binA P H .eql 3 x13 (.int .i64 0))) fun x14 =>
  purK (pickA x8 x14 (.bool false)) fun x15 =>
  retK [x15] H
theorem G91 (E : LE) (x0 : AV) (H : Heap) : jj E 91 c91 [x0, (.tup []), (.tup []), (.tup []), (.tup []), (.tup []), (.tup []), (.tup []), (.tup []), (.tup []), (.tup []), (.tup []), (.tup []), (.tup []), (.tup []), (.tup [])] H (kk none (fun s H => retK (([2] : List Nat).map fun t => s.getD t (.tup [])) H) [] retK [2]) = L91 E x0 H := by kernel_rfl
theorem E91 (ρ : Addr → Option Value) (k lim : Nat) (x0 : AV) (H : Heap) : evCall (cx ρ) (k + 1) lim 91 [x0] H = L91 ⟨ρ, evCall (cx ρ) k, (evCY (cx ρ) k).2, lim, k⟩ x0 H := by
  rw [evCall_body (cx ρ) k lim 91 _ H Tryz.f91 c91 [2] (by kernel_rfl) (by kernel_rfl) (by kernel_rfl) (by kernel_rfl) (by kernel_rfl)]
  have h := G91 ⟨ρ, evCall (cx ρ) k, (evCY (cx ρ) k).2, lim, k⟩ x0 H
  unfold jj at h
  exact h
-- (*haycroft/device.Device).power
noncomputable def c92 : Code := Code.of Tryz.prog 92
noncomputable def L92 (E : LE) (x0 : AV) (H : Heap) : Res :=
  purK (binA P H .eql 54 x0 .nilp) fun x5 =>
  condK x5
  (
    retK [(.int .i64 2)] H)
  (
    purK (nilChkA x0) fun x8 =>
    purK (fieldAddrA P 111 x8 0) fun x9 =>
    purK (loadA (Cx E) H 4 x9) fun x10 =>
    condK x10
    (
      retK [(.int .i64 6)] H)
    (
      retK [(.int .i64 0)] H))
theorem G92 (E : LE) (x0 : AV) (H : Heap) : jj E 92 c92 [x0, (.tup []), (.tup []), (.tup []), (.tup []), (.tup []), (.tup []), (.tup []), (.tup []), (.tup []), (.tup [])] H (kk none (fun s H => retK (([2] : List Nat).map fun t => s.getD t (.tup [])) H) [] retK [2]) = L92 E x0 H := by kernel_rfl
theorem E92 (ρ : Addr → Option Value) (k lim : Nat) (x0 : AV) (H : Heap) : evCall (cx ρ) (k + 1) lim 92 [x0] H = L92 ⟨ρ, evCall (cx ρ) k, (evCY (cx ρ) k).2, lim, k⟩ x0 H := by
  rw [evCall_body (cx ρ) k lim 92 _ H Tryz.f92 c92 [2] (by kernel_rfl) (by kernel_rfl) (by kernel_rfl) (by kernel_rfl) (by kernel_rfl)]
  have h := G92 ⟨ρ, evCall (cx ρ) k, (evCY (cx ρ) k).2, lim, k⟩ x0 H
  unfold jj at h
  exact h
-- haycroft/save.Find
noncomputable def c93 : Code := Code.of Tryz.prog 93
noncomputable def N93_1_k (s : Slots) (H : Heap) (R : RK) (J : CodeF) : Res := J (Code.at [1, 1, 1] c93) s H (kk none (fun s H => R (([2, 3] : List Nat).map fun t => s.getD t (.tup [])) H) [] R [2, 3])
noncomputable def N93_2_k (s : Slots) (H : Heap) (R : RK) (J : CodeF) : Res := J (Code.at [1, 1, 1, 1, 1] c93) s H (kk none (fun s H => R (([2, 3] : List Nat).map fun t => s.getD t (.tup [])) H) [] R [2, 3])
noncomputable def N93_2 (E : LE) (x2 : AV) (H : Heap) (R : RK) : Res :=
  purK (buildA P 173 []) fun x53_1 =>
  effK H ((storeA (Cx E) E.lim H 173 x2 x53_1).map skips) fun _ H =>
  R [x2, (.bool false)] H
theorem N93_2_eq (E : LE) (x2 : AV) (H : Heap) (R : RK) : N93_2_k (sp 54 [(2, x2)]) H R (jj E 93) = N93_2 E x2 H R := by kernel_rfl
noncomputable def N93_3_k (s : Slots) (H : Heap) (kn : KS) (R : RK) (J : CodeF) : Res := J (Code.at [1, 1, 1, 1, 0, 1] c93) s H (kk (some [2]) kn [] R [2, 3])
noncomputable def N93_3b_k (s : Slots) (H : Heap) (kn k2 : KS) (R : RK) (J : CodeF) : Res := J (Code.at [1, 1, 1, 1, 0, 1, 0, 0] c93) s H (kk (some [0, 2, 38, 39, 40]) kn [(2, (some [2]), k2)] R [2, 3])
noncomputable def N93_3b (E : LE) (x0 x2 x38 x39 x40 : AV) (H : Heap) (kn : AV → AV → AV → AV → AV → Heap → Res) (k2 : AV → Heap → Res) (R : RK) : Res :=
  purK (binA P H .lss 3 x40 x39) fun x41_1 =>
  condK x41_1
  (
    purK (indexAddrA P 234 x38 x40) fun x42_1 =>
    purK (loadA (Cx E) H 236 x42_1) fun x43_1 =>
    effK H (allocA (Cx E) H 236) fun x11_1 H =>
    effK H ((storeA (Cx E) E.lim H 236 x11_1 x43_1).map skips) fun _ H =>
    purK (loadA (Cx E) H 236 x11_1) fun x46_1 =>
    resK (E.call E.lim 156 [x0, x46_1] H) fun x47_1 H =>
    purK (extA 0 x47_1) fun x48_1 =>
    purK (extA 1 x47_1) fun x49_1 =>
    effK H (allocA (Cx E) H 173) fun x12_1 H =>
    effK H ((storeA (Cx E) E.lim H 173 x12_1 x48_1).map skips) fun _ H =>
    condK x49_1
    (
      purK (loadA (Cx E) H 173 x12_1) fun x51_1 =>
      effK H ((storeA (Cx E) E.lim H 173 x2 x51_1).map skips) fun _ H =>
      R [x2, (.bool true)] H)
    (
      purK (binA P H .add 3 x40 (.int .i64 1)) fun x52_1 =>
      kn x0 x2 x38 x39 x52_1 H))
  (
    k2 x2 H)
theorem N93_3b_eq (E : LE) (x0 x2 x38 x39 x40 : AV) (H : Heap) (kn k2 : KS) (R : RK) : N93_3b_k (sp 54 [(0, x0), (2, x2), (38, x38), (39, x39), (40, x40)]) H kn k2 R (jj E 93) = N93_3b E x0 x2 x38 x39 x40 H (fun x0 x2 x38 x39 x40 H => kn (sp 54 [(0, x0), (2, x2), (38, x38), (39, x39), (40, x40)]) H) (fun x2 H => k2 (sp 54 [(2, x2)]) H) R := by kernel_rfl
noncomputable def N93_3 (E : LE) (x0 x2 x38 x39 x40 : AV) (H : Heap) (kn : AV → Heap → Res) (R : RK) : Res :=
  loopL (fun (x : AV) H kl => N93_3b E x0 x2 x38 x39 x H (fun _ _ _ _ x40 H => kl x40 H) kn R) E.k x40 H
theorem N93_3_eq (E : LE) (x0 x2 x38 x39 x40 : AV) (H : Heap) (kn : KS) (R : RK) : N93_3_k (sp 54 [(0, x0), (2, x2), (38, x38), (39, x39), (40, x40)]) H kn R (jj E 93) = N93_3 E x0 x2 x38 x39 x40 H (fun x2 H => kn (sp 54 [(2, x2)]) H) R := by
  have e : Code.at [1, 1, 1, 1, 0, 1] c93 = Code.block 2 (Code.loop (Code.at [1, 1, 1, 1, 0, 1, 0, 0] c93)) := by kernel_rfl
  unfold N93_3_k N93_3 jj
  rw [e]
  rw [block_kk]
  exact loop_node [0, 2, 38, 39, 40] (fun x : AV => (sp 54 [(0, x0), (2, x2), (38, x38), (39, x39), (40, (x))])) (fun (x : AV) H kl => N93_3b E x0 x2 x38 x39 x H (fun _ _ _ _ x40 H => kl x40 H) (fun x2 H => kn (sp 54 [(2, x2)]) H) R) (by kernel_rfl) (fun x => by kernel_rfl) (fun x H kl => by
    have h := N93_3b_eq E x0 x2 x38 x39 (x) H kl kn R
    unfold N93_3b_k jj at h
    exact h) x40 (sp 54 [(0, x0), (2, x2), (38, x38), (39, x39), (40, x40)]) H (by kernel_rfl)
noncomputable def N93_1 (E : LE) (x0 x2 x4 : AV) (H : Heap) (R : RK) : Res :=
  resK (E.call E.lim 153 [x4, (.fn (.func 154) [] [])] H) fun x37_1 H =>
  purK (lenBA (Cx E) H 234 x4) fun x39_1 =>
  N93_3 E x0 x2 x4 x39_1 (.int .i64 0) H (fun x2_1 H =>
    N93_2 E x2_1 H R) R
theorem N93_1_x (E : LE) (J : CodeF) (x0 x2 x4 : AV) (H : Heap) (R : RK) : N93_1_k (sp 54 [(0, x0), (2, x2), (4, x4)]) H R (jx E 93 J) =
  resK (E.call E.lim 153 [x4, (.fn (.func 154) [] [])] H) fun x37_1 H =>
  purK (lenBA (Cx E) H 234 x4) fun x39_1 =>
  N93_3_k (sp 54 [(0, x0), (2, x2), (38, x4), (39, x39_1), (40, (.int .i64 0))]) H (fun s H => N93_2_k s H R J) R J := by kernel_rfl
theorem N93_1_eq (E : LE) (x0 x2 x4 : AV) (H : Heap) (R : RK) : N93_1_k (sp 54 [(0, x0), (2, x2), (4, x4)]) H R (jj E 93) = N93_1 E x0 x2 x4 H R := (jj_X E 93 _ _ H _).trans ((N93_1_x E (jj E 93) x0 x2 x4 H R).trans (by simp only [N93_1, N93_2_eq, N93_3_eq]))
noncomputable def N93_4_k (s : Slots) (H : Heap) (kn : KS) (R : RK) (J : CodeF) : Res := J (Code.at [1, 1, 0, 1] c93) s H (kk (some [0, 2, 4]) kn [] R [2, 3])
noncomputable def N93_4b_k (s : Slots) (H : Heap) (kn k0 : KS) (R : RK) (J : CodeF) : Res := J (Code.at [1, 1, 0, 1, 0, 0] c93) s H (kk (some [0, 2, 4, 14]) kn [(0, (some [0, 2, 4]), k0)] R [2, 3])
noncomputable def N93_5_k (s : Slots) (H : Heap) (kn k0 : KS) (R : RK) (J : CodeF) : Res := J (Code.at [1, 1, 0, 1, 0, 0, 1, 1, 1] c93) s H (kk (some [0, 2, 4, 14]) kn [(0, (some [0, 2, 4]), k0)] R [2, 3])
noncomputable def N93_5 (E : LE) (x0 x2 x4 x14 : AV) (H : Heap) (kn : AV → AV → AV → AV → Heap → Res) : Res :=
  purK (binA P H .add 3 x14 (.int .i64 1)) fun x35_1 =>
  kn x0 x2 x4 x35_1 H
theorem N93_5_eq (E : LE) (x0 x2 x4 x14 : AV) (H : Heap) (kn k0 : KS) (R : RK) : N93_5_k (sp 54 [(0, x0), (2, x2), (4, x4), (14, x14)]) H kn k0 R (jj E 93) = N93_5 E x0 x2 x4 x14 H (fun x0 x2 x4 x14 H => kn (sp 54 [(0, x0), (2, x2), (4, x4), (14, x14)]) H) := by kernel_rfl
noncomputable def N93_4b (E : LE) (x0 x2 x4 x14 : AV) (H : Heap) (kn : AV → AV → AV → AV → Heap → Res) (k0 : AV → AV → AV → Heap → Res) : Res :=
  purK (binA P H .lss 3 x14 (.int .i64 2)) fun x15_1 =>
  condK x15_1
  (
    purK (buildA P 128 [(0, (.int .i64 2)), (1, x14)]) fun x20_1 =>
    resK (E.call E.lim 56 [x0, x20_1] H) fun x21_1 H =>
    purK (extA 0 x21_1) fun x22_1 =>
    purK (extA 1 x21_1) fun x23_1 =>
    resK (E.call E.lim 152 [x22_1] H) fun x26_1 H =>
    purK (extA 0 x26_1) fun x27_1 =>
    purK (extA 1 x26_1) fun x28_1 =>
    effK H (allocA (Cx E) H 236) fun x8_1 H =>
    effK H ((storeA (Cx E) E.lim H 236 x8_1 x27_1).map skips) fun _ H =>
    purK (binA P H .eql 28 x28_1 (.int .i64 0)) fun x30_1 =>
    condK x30_1
    (
      purK (loadA (Cx E) H 236 x8_1) fun x32_1 =>
      effK H (buildSliceA (Cx E) H 234 1 [(0, x32_1)]) fun x33_1 H =>
      effK H (builtinA (Cx E) E.lim H .append #[234, 234] [x4, x33_1]) fun x34_1 H =>
      N93_5 E x0 x2 x34_1 x14 H kn)
    (
      N93_5 E x0 x2 x4 x14 H kn))
  (
    k0 x0 x2 x4 H)
theorem N93_4b_x (E : LE) (J : CodeF) (x0 x2 x4 x14 : AV) (H : Heap) (kn k0 : KS) (R : RK) : N93_4b_k (sp 54 [(0, x0), (2, x2), (4, x4), (14, x14)]) H kn k0 R (jx E 93 J) =
  purK (binA P H .lss 3 x14 (.int .i64 2)) fun x15_1 =>
  condK x15_1
  (
    purK (buildA P 128 [(0, (.int .i64 2)), (1, x14)]) fun x20_1 =>
    resK (E.call E.lim 56 [x0, x20_1] H) fun x21_1 H =>
    purK (extA 0 x21_1) fun x22_1 =>
    purK (extA 1 x21_1) fun x23_1 =>
    resK (E.call E.lim 152 [x22_1] H) fun x26_1 H =>
    purK (extA 0 x26_1) fun x27_1 =>
    purK (extA 1 x26_1) fun x28_1 =>
    effK H (allocA (Cx E) H 236) fun x8_1 H =>
    effK H ((storeA (Cx E) E.lim H 236 x8_1 x27_1).map skips) fun _ H =>
    purK (binA P H .eql 28 x28_1 (.int .i64 0)) fun x30_1 =>
    condK x30_1
    (
      purK (loadA (Cx E) H 236 x8_1) fun x32_1 =>
      effK H (buildSliceA (Cx E) H 234 1 [(0, x32_1)]) fun x33_1 H =>
      effK H (builtinA (Cx E) E.lim H .append #[234, 234] [x4, x33_1]) fun x34_1 H =>
      N93_5_k (sp 54 [(0, x0), (2, x2), (4, x34_1), (14, x14)]) H kn k0 R J)
    (
      N93_5_k (sp 54 [(0, x0), (2, x2), (4, x4), (14, x14)]) H kn k0 R J))
  (
    k0 (sp 54 [(0, x0), (2, x2), (4, x4)]) H) := by kernel_rfl
theorem N93_4b_eq (E : LE) (x0 x2 x4 x14 : AV) (H : Heap) (kn k0 : KS) (R : RK) : N93_4b_k (sp 54 [(0, x0), (2, x2), (4, x4), (14, x14)]) H kn k0 R (jj E 93) = N93_4b E x0 x2 x4 x14 H (fun x0 x2 x4 x14 H => kn (sp 54 [(0, x0), (2, x2), (4, x4), (14, x14)]) H) (fun x0 x2 x4 H => k0 (sp 54 [(0, x0), (2, x2), (4, x4)]) H) := (jj_X E 93 _ _ H _).trans ((N93_4b_x E (jj E 93) x0 x2 x4 x14 H kn k0 R).trans (by simp only [N93_4b, N93_5_eq]))
noncomputable def N93_4 (E : LE) (x0 x2 x4 x14 : AV) (H : Heap) (kn : AV → AV → AV → Heap → Res) : Res :=
  loopL (fun (x : AV × AV) H kl => N93_4b E x0 x2 x.1 x.2 H (fun _ _ x4 x14 H => kl (x4, x14) H) kn) E.k (x4, x14) H
theorem N93_4_eq (E : LE) (x0 x2 x4 x14 : AV) (H : Heap) (kn : KS) (R : RK) : N93_4_k (sp 54 [(0, x0), (2, x2), (4, x4), (14, x14)]) H kn R (jj E 93) = N93_4 E x0 x2 x4 x14 H (fun x0 x2 x4 H => kn (sp 54 [(0, x0), (2, x2), (4, x4)]) H) := by
  have e : Code.at [1, 1, 0, 1] c93 = Code.block 0 (Code.loop (Code.at [1, 1, 0, 1, 0, 0] c93)) := by kernel_rfl
  unfold N93_4_k N93_4 jj
  rw [e]
  rw [block_kk]
  exact loop_node [0, 2, 4, 14] (fun x : AV × AV => (sp 54 [(0, x0), (2, x2), (4, (x.1)), (14, (x.2))])) (fun (x : AV × AV) H kl => N93_4b E x0 x2 x.1 x.2 H (fun _ _ x4 x14 H => kl (x4, x14) H) (fun x0 x2 x4 H => kn (sp 54 [(0, x0), (2, x2), (4, x4)]) H)) (by kernel_rfl) (fun x => by kernel_rfl) (fun x H kl => by
    have h := N93_4b_eq E x0 x2 (x.1) (x.2) H kl kn R
    unfold N93_4b_k jj at h
    exact h) (x4, x14) (sp 54 [(0, x0), (2, x2), (4, x4), (14, x14)]) H (by kernel_rfl)
noncomputable def L93 (E : LE) (x0 : AV) (H : Heap) : Res :=
  effK H (allocA (Cx E) H 173) fun x2 H =>
  N93_4 E x0 x2 .nils (.int .i64 0) H (fun x0_1 x2_1 x4 H =>
    N93_1 E x0_1 x2_1 x4 H (retC (Cx E) [some 173, none]))
theorem L93_x (E : LE) (J : CodeF) (x0 : AV) (H : Heap) : jx E 93 J c93 [x0, (.tup []), (.tup []), (.tup []), (.tup []), (.tup []), (.tup []), (.tup []), (.tup []), (.tup []), (.tup []), (.tup []), (.tup []), (.tup []), (.tup []), (.tup []), (.tup []), (.tup []), (.tup []), (.tup []), (.tup []), (.tup []), (.tup []), (.tup []), (.tup []), (.tup []), (.tup []), (.tup []), (.tup []), (.tup []), (.tup []), (.tup []), (.tup []), (.tup []), (.tup []), (.tup []), (.tup []), (.tup []), (.tup []), (.tup []), (.tup []), (.tup []), (.tup []), (.tup []), (.tup []), (.tup []), (.tup []), (.tup []), (.tup []), (.tup []), (.tup []), (.tup []), (.tup []), (.tup [])] H (kk none (fun s H => (retC (Cx E) [some 173, none]) (([2, 3] : List Nat).map fun t => s.getD t (.tup [])) H) [] (retC (Cx E) [some 173, none]) [2, 3]) =
  effK H (allocA (Cx E) H 173) fun x2 H =>
  N93_4_k (sp 54 [(0, x0), (2, x2), (4, .nils), (14, (.int .i64 0))]) H (fun s H => N93_1_k s H (retC (Cx E) [some 173, none]) J) (retC (Cx E) [some 173, none]) J := by kernel_rfl
theorem G93 (E : LE) (x0 : AV) (H : Heap) : jj E 93 c93 [x0, (.tup []), (.tup []), (.tup []), (.tup []), (.tup []), (.tup []), (.tup []), (.tup []), (.tup []), (.tup []), (.tup []), (.tup []), (.tup []), (.tup []), (.tup []), (.tup []), (.tup []), (.tup []), (.tup []), (.tup []), (.tup []), (.tup []), (.tup []), (.tup []), (.tup []), (.tup []), (.tup []), (.tup []), (.tup []), (.tup []), (.tup []), (.tup []), (.tup []), (.tup []), (.tup []), (.tup []), (.tup []), (.tup []), (.tup []), (.tup []), (.tup []), (.tup []), (.tup []), (.tup []), (.tup []), (.tup []), (.tup []), (.tup []), (.tup []), (.tup []), (.tup []), (.tup []), (.tup [])] H (kk none (fun s H => (retC (Cx E) [some 173, none]) (([2, 3] : List Nat).map fun t => s.getD t (.tup [])) H) [] (retC (Cx E) [some 173, none]) [2, 3]) = L93 E x0 H := (jj_X E 93 _ _ H _).trans ((L93_x E (jj E 93) x0 H).trans (by simp only [L93, N93_1_eq, N93_4_eq]))
theorem E93 (ρ : Addr → Option Value) (k lim : Nat) (x0 : AV) (H : Heap) : evCall (cx ρ) (k + 1) lim 93 [x0] H = L93 ⟨ρ, evCall (cx ρ) k, (evCY (cx ρ) k).2, lim, k⟩ x0 H := by
  rw [evCall_cells (cx ρ) k lim 93 _ H Tryz.f93 c93 [2, 3] [some 173, none] (by kernel_rfl) (by kernel_rfl) (by kernel_rfl) (by kernel_rfl) (by kernel_rfl) (by kernel_rfl)]
  have h := G93 ⟨ρ, evCall (cx ρ) k, (evCY (cx ρ) k).2, lim, k⟩ x0 H
  unfold jj at h
  exact h
-- haycroft/store.fresh
noncomputable def c95 : Code := Code.of Tryz.prog 95
noncomputable def N95_1_k (s : Slots) (H : Heap) (R : RK) (J : CodeF) : Res := J (Code.at [1, 1, 1, 1, 1, 1, 1] c95) s H (kk none (fun s H => R (([4, 5] : List Nat).map fun t => s.getD t (.tup [])) H) [] R [4, 5])
noncomputable def N95_1 (E : LE) (x9 : AV) (H : Heap) (R : RK) : Res :=
  R [x9, (.int .i64 0)] H
theorem N95_1_eq (E : LE) (x9 : AV) (H : Heap) (R : RK) : N95_1_k (sp 64 [(9, x9)]) H R (jj E 95) = N95_1 E x9 H R := by kernel_rfl
noncomputable def N95_2_k (s : Slots) (H : Heap) (kn : KS) (R : RK) (J : CodeF) : Res := J (Code.at [1, 1, 1, 1, 1, 1, 0, 1] c95) s H (kk (some [9]) kn [] R [4, 5])
noncomputable def N95_2b_k (s : Slots) (H : Heap) (kn k0 : KS) (R : RK) (J : CodeF) : Res := J (Code.at [1, 1, 1, 1, 1, 1, 0, 1, 0, 0] c95) s H (kk (some [6, 8, 9, 38, 39]) kn [(0, (some [9]), k0)] R [4, 5])
noncomputable def N95_2b (E : LE) (x6 x8 x9 x38 x39 : AV) (H : Heap) (kn : AV → AV → AV → AV → AV → Heap → Res) (k0 : AV → Heap → Res) (R : RK) : Res :=
  purK (binA P H .lss 3 x39 x38) fun x40_1 =>
  condK x40_1
  (
    resK (E.call E.lim 161 [x6, x8, x39] H) fun x46_1 H =>
    purK (extA 0 x46_1) fun x47_1 =>
    purK (extA 1 x46_1) fun x48_1 =>
    purK (binA P H .neq 28 x48_1 (.int .i64 0)) fun x50_1 =>
    condK x50_1
    (
      R [.nilp, x48_1] H)
    (
      purK (nilChkA x9) fun x54_1 =>
      purK (fieldAddrA P 117 x54_1 2) fun x55_1 =>
      purK (loadA (Cx E) H 114 x55_1) fun x56_1 =>
      effK H (buildSliceA (Cx E) H 114 1 [(0, x47_1)]) fun x58_1 H =>
      effK H (builtinA (Cx E) E.lim H .append #[114, 114] [x56_1, x58_1]) fun x59_1 H =>
      purK (nilChkA x9) fun x60_1 =>
      purK (fieldAddrA P 117 x60_1 2) fun x61_1 =>
      effK H ((storeA (Cx E) E.lim H 114 x61_1 x59_1).map skips) fun _ H =>
      purK (binA P H .add 3 x39 (.int .i64 1)) fun x62_1 =>
      kn x6 x8 x9 x38 x62_1 H))
  (
    k0 x9 H)
theorem N95_2b_eq (E : LE) (x6 x8 x9 x38 x39 : AV) (H : Heap) (kn k0 : KS) (R : RK) : N95_2b_k (sp 64 [(6, x6), (8, x8), (9, x9), (38, x38), (39, x39)]) H kn k0 R (jj E 95) = N95_2b E x6 x8 x9 x38 x39 H (fun x6 x8 x9 x38 x39 H => kn (sp 64 [(6, x6), (8, x8), (9, x9), (38, x38), (39, x39)]) H) (fun x9 H => k0 (sp 64 [(9, x9)]) H) R := by kernel_rfl
noncomputable def N95_2 (E : LE) (x6 x8 x9 x38 x39 : AV) (H : Heap) (kn : AV → Heap → Res) (R : RK) : Res :=
  loopL (fun (x : AV) H kl => N95_2b E x6 x8 x9 x38 x H (fun _ _ _ _ x39 H => kl x39 H) kn R) E.k x39 H
theorem N95_2_eq (E : LE) (x6 x8 x9 x38 x39 : AV) (H : Heap) (kn : KS) (R : RK) : N95_2_k (sp 64 [(6, x6), (8, x8), (9, x9), (38, x38), (39, x39)]) H kn R (jj E 95) = N95_2 E x6 x8 x9 x38 x39 H (fun x9 H => kn (sp 64 [(9, x9)]) H) R := by
  have e : Code.at [1, 1, 1, 1, 1, 1, 0, 1] c95 = Code.block 0 (Code.loop (Code.at [1, 1, 1, 1, 1, 1, 0, 1, 0, 0] c95)) := by kernel_rfl
  unfold N95_2_k N95_2 jj
  rw [e]
  rw [block_kk]
  exact loop_node [6, 8, 9, 38, 39] (fun x : AV => (sp 64 [(6, x6), (8, x8), (9, x9), (38, x38), (39, (x))])) (fun (x : AV) H kl => N95_2b E x6 x8 x9 x38 x H (fun _ _ _ _ x39 H => kl x39 H) (fun x9 H => kn (sp 64 [(9, x9)]) H) R) (by kernel_rfl) (fun x => by kernel_rfl) (fun x H kl => by
    have h := N95_2b_eq E x6 x8 x9 x38 (x) H kl kn R
    unfold N95_2b_k jj at h
    exact h) x39 (sp 64 [(6, x6), (8, x8), (9, x9), (38, x38), (39, x39)]) H (by kernel_rfl)
noncomputable def L95 (E : LE) (x0 x1 : AV) (H : Heap) : Res :=
  effK H (boxA H 52 x0) fun x2 H =>
  purK (loadA (Cx E) H 52 x2) fun x14 =>
  resK (E.call E.lim 159 [x14, x1] H) fun x16 H =>
  purK (extA 0 x16) fun x17 =>
  purK (extA 1 x16) fun x18 =>
  purK (binA P H .neq 28 x18 (.int .i64 0)) fun x20 =>
  condK x20
  (
    retK [.nilp, x18] H)
  (
    purK (fieldAddrA P 52 x2 3) fun x23 =>
    purK (loadA (Cx E) H 3 x23) fun x24 =>
    purK (fieldAddrA P 52 x2 4) fun x25 =>
    purK (loadA (Cx E) H 3 x25) fun x26 =>
    resK (E.call E.lim 160 [x24, x26] H) fun x27 H =>
    purK (extA 0 x27) fun x28 =>
    purK (extA 1 x27) fun x29 =>
    purK (binA P H .neq 28 x29 (.int .i64 0)) fun x31 =>
    condK x31
    (
      retK [.nilp, x29] H)
    (
      purK (buildA P 117 [(0, x17), (1, x28)]) fun x35 =>
      effK H (boxA H 117 x35) fun x36 H =>
      purK (fieldAddrA P 52 x2 5) fun x37 =>
      purK (loadA (Cx E) H 3 x37) fun x38 =>
      N95_2 E x17 x28 x36 x38 (.int .i64 0) H (fun x9 H =>
        N95_1 E x9 H retK) retK))
theorem L95_x (E : LE) (J : CodeF) (x0 x1 : AV) (H : Heap) : jx E 95 J c95 [x0, x1, (.tup []), (.tup []), (.tup []), (.tup []), (.tup []), (.tup []), (.tup []), (.tup []), (.tup []), (.tup []), (.tup []), (.tup []), (.tup []), (.tup []), (.tup []), (.tup []), (.tup []), (.tup []), (.tup []), (.tup []), (.tup []), (.tup []), (.tup []), (.tup []), (.tup []), (.tup []), (.tup []), (.tup []), (.tup []), (.tup []), (.tup []), (.tup []), (.tup []), (.tup []), (.tup []), (.tup []), (.tup []), (.tup []), (.tup []), (.tup []), (.tup []), (.tup []), (.tup []), (.tup []), (.tup []), (.tup []), (.tup []), (.tup []), (.tup []), (.tup []), (.tup []), (.tup []), (.tup []), (.tup []), (.tup []), (.tup []), (.tup []), (.tup []), (.tup []), (.tup []), (.tup []), (.tup [])] H (kk none (fun s H => retK (([4, 5] : List Nat).map fun t => s.getD t (.tup [])) H) [] retK [4, 5]) =
  effK H (boxA H 52 x0) fun x2 H =>
  purK (loadA (Cx E) H 52 x2) fun x14 =>
  resK (E.call E.lim 159 [x14, x1] H) fun x16 H =>
  purK (extA 0 x16) fun x17 =>
  purK (extA 1 x16) fun x18 =>
  purK (binA P H .neq 28 x18 (.int .i64 0)) fun x20 =>
  condK x20
  (
    retK [.nilp, x18] H)
  (
    purK (fieldAddrA P 52 x2 3) fun x23 =>
    purK (loadA (Cx E) H 3 x23) fun x24 =>
    purK (fieldAddrA P 52 x2 4) fun x25 =>
    purK (loadA (Cx E) H 3 x25) fun x26 =>
    resK (E.call E.lim 160 [x24, x26] H) fun x27 H =>
    purK (extA 0 x27) fun x28 =>
    purK (extA 1 x27) fun x29 =>
    purK (binA P H .neq 28 x29 (.int .i64 0)) fun x31 =>
    condK x31
    (
      retK [.nilp, x29] H)
    (
      purK (buildA P 117 [(0, x17), (1, x28)]) fun x35 =>
      effK H (boxA H 117 x35) fun x36 H =>
      purK (fieldAddrA P 52 x2 5) fun x37 =>
      purK (loadA (Cx E) H 3 x37) fun x38 =>
      N95_2_k (sp 64 [(6, x17), (8, x28), (9, x36), (38, x38), (39, (.int .i64 0))]) H (fun s H => N95_1_k s H retK J) retK J)) := by kernel_rfl
theorem G95 (E : LE) (x0 x1 : AV) (H : Heap) : jj E 95 c95 [x0, x1, (.tup []), (.tup []), (.tup []), (.tup []), (.tup []), (.tup []), (.tup []), (.tup []), (.tup []), (.tup []), (.tup []), (.tup []), (.tup []), (.tup []), (.tup []), (.tup []), (.tup []), (.tup []), (.tup []), (.tup []), (.tup []), (.tup []), (.tup []), (.tup []), (.tup []), (.tup []), (.tup []), (.tup []), (.tup []), (.tup []), (.tup []), (.tup []), (.tup []), (.tup []), (.tup []), (.tup []), (.tup []), (.tup []), (.tup []), (.tup []), (.tup []), (.tup []), (.tup []), (.tup []), (.tup []), (.tup []), (.tup []), (.tup []), (.tup []), (.tup []), (.tup []), (.tup []), (.tup []), (.tup []), (.tup []), (.tup []), (.tup []), (.tup []), (.tup []), (.tup []), (.tup []), (.tup [])] H (kk none (fun s H => retK (([4, 5] : List Nat).map fun t => s.getD t (.tup [])) H) [] retK [4, 5]) = L95 E x0 x1 H := (jj_X E 95 _ _ H _).trans ((L95_x E (jj E 95) x0 x1 H).trans (by simp only [L95, N95_1_eq, N95_2_eq]))
theorem E95 (ρ : Addr → Option Value) (k lim : Nat) (x0 x1 : AV) (H : Heap) : evCall (cx ρ) (k + 1) lim 95 [x0, x1] H = L95 ⟨ρ, evCall (cx ρ) k, (evCY (cx ρ) k).2, lim, k⟩ x0 x1 H := by
  rw [evCall_body (cx ρ) k lim 95 _ H Tryz.f95 c95 [4, 5] (by kernel_rfl) (by kernel_rfl) (by kernel_rfl) (by kernel_rfl) (by kernel_rfl)]
  have h := G95 ⟨ρ, evCall (cx ρ) k, (evCY (cx ρ) k).2, lim, k⟩ x0 x1 H
  unfold jj at h
  exact h
-- (*haycroft/session.Session).Ask
noncomputable def c96 : Code := Code.of Tryz.prog 96
noncomputable def L96 (E : LE) (x0 x1 : AV) (H : Heap) : Res :=
  effK H (boxA H 59 x1) fun x3 H =>
  purK (binA P H .eql 113 x0 .nilp) fun x10 =>
  condK x10
  (
    retK [(.int .i64 0), (.int .i64 2)] H)
  (
    purK (nilChkA x0) fun x13 =>
    purK (fieldAddrA P 183 x13 5) fun x14 =>
    purK (loadA (Cx E) H 179 x14) fun x15 =>
    purK (binA P H .neq 179 x15 .nilp) fun x16 =>
    condK x16
    (
      retK [(.int .i64 0), (.int .i64 10)] H)
    (
      purK (nilChkA x0) fun x19 =>
      purK (fieldAddrA P 183 x19 6) fun x20 =>
      purK (loadA (Cx E) H 180 x20) fun x21 =>
      purK (lenBA (Cx E) H 180 x21) fun x22 =>
      purK (binA P H .geq 3 x22 (.int .i64 8)) fun x23 =>
      condK x23
      (
        retK [(.int .i64 0), (.int .i64 9)] H)
      (
        purK (nilChkA x0) fun x26 =>
        purK (fieldAddrA P 183 x26 0) fun x27 =>
        purK (loadA (Cx E) H 84 x27) fun x28 =>
        purK (nilChkA x0) fun x30 =>
        purK (fieldAddrA P 183 x30 1) fun x31 =>
        purK (loadA (Cx E) H 95 x31) fun x32 =>
        purK (nilChkA x0) fun x34 =>
        purK (fieldAddrA P 183 x34 2) fun x35 =>
        purK (loadA (Cx E) H 3 x35) fun x36 =>
        purK (loadA (Cx E) H 59 x3) fun x37 =>
        purK (nilChkA x0) fun x39 =>
        purK (fieldAddrA P 183 x39 7) fun x40 =>
        purK (loadA (Cx E) H 3 x40) fun x41 =>
        resK (E.call E.lim 162 [x28, x32, x36, x37, x41] H) fun x42 H =>
        purK (extA 0 x42) fun x43 =>
        purK (extA 1 x42) fun x44 =>
        purK (binA P H .neq 28 x44 (.int .i64 0)) fun x47 =>
        condK x47
        (
          retK [(.int .i64 0), x44] H)
        (
          purK (nilChkA x0) fun x51 =>
          purK (fieldAddrA P 183 x51 3) fun x52 =>
          purK (loadA (Cx E) H 3 x52) fun x53 =>
          purK (binA P H .geq 3 x53 (.int .i64 1073741824)) fun x54 =>
          condK x54
          (
            retK [(.int .i64 0), (.int .i64 13)] H)
          (
            purK (nilChkA x0) fun x56 =>
            purK (fieldAddrA P 183 x56 3) fun x57 =>
            purK (loadA (Cx E) H 3 x57) fun x58 =>
            purK (binA P H .add 3 x58 (.int .i64 1)) fun x59 =>
            purK (nilChkA x0) fun x60 =>
            purK (fieldAddrA P 183 x60 3) fun x61 =>
            effK H ((storeA (Cx E) E.lim H 3 x61 x59).map skips) fun _ H =>
            purK (nilChkA x0) fun x63 =>
            purK (fieldAddrA P 183 x63 4) fun x64 =>
            effK H ((storeA (Cx E) E.lim H 4 x64 (.bool true)).map skips) fun _ H =>
            purK (nilChkA x0) fun x68 =>
            purK (fieldAddrA P 183 x68 3) fun x69 =>
            purK (loadA (Cx E) H 3 x69) fun x70 =>
            purK (buildA P 187 [(0, x70), (1, x43)]) fun x72 =>
            effK H (boxA H 187 x72) fun x73 H =>
            purK (nilChkA x0) fun x74 =>
            purK (fieldAddrA P 183 x74 5) fun x75 =>
            effK H ((storeA (Cx E) E.lim H 179 x75 x73).map skips) fun _ H =>
            purK (nilChkA x0) fun x76 =>
            purK (fieldAddrA P 183 x76 7) fun x77 =>
            effK H ((storeA (Cx E) E.lim H 3 x77 (.int .i64 0)).map skips) fun _ H =>
            purK (nilChkA x0) fun x79 =>
            purK (fieldAddrA P 183 x79 3) fun x80 =>
            purK (loadA (Cx E) H 3 x80) fun x81 =>
            retK [x81, (.int .i64 0)] H)))))
theorem G96 (E : LE) (x0 x1 : AV) (H : Heap) : jj E 96 c96 [x0, x1, (.tup []), (.tup []), (.tup []), (.tup []), (.tup []), (.tup []), (.tup []), (.tup []), (.tup []), (.tup []), (.tup []), (.tup []), (.tup []), (.tup []), (.tup []), (.tup []), (.tup []), (.tup []), (.tup []), (.tup []), (.tup []), (.tup []), (.tup []), (.tup []), (.tup []), (.tup []), (.tup []), (.tup []), (.tup []), (.tup []), (.tup []), (.tup []), (.tup []), (.tup []), (.tup []), (.tup []), (.tup []), (.tup []), (.tup []), (.tup []), (.tup []), (.tup []), (.tup []), (.tup []), (.tup []), (.tup []), (.tup []), (.tup []), (.tup []), (.tup []), (.tup []), (.tup []), (.tup []), (.tup []), (.tup []), (.tup []), (.tup []), (.tup []), (.tup []), (.tup []), (.tup []), (.tup []), (.tup []), (.tup []), (.tup []), (.tup []), (.tup []), (.tup []), (.tup []), (.tup []), (.tup []), (.tup []), (.tup []), (.tup []), (.tup []), (.tup []), (.tup []), (.tup []), (.tup []), (.tup [])] H (kk none (fun s H => retK (([4, 5] : List Nat).map fun t => s.getD t (.tup [])) H) [] retK [4, 5]) = L96 E x0 x1 H := by kernel_rfl
theorem E96 (ρ : Addr → Option Value) (k lim : Nat) (x0 x1 : AV) (H : Heap) : evCall (cx ρ) (k + 1) lim 96 [x0, x1] H = L96 ⟨ρ, evCall (cx ρ) k, (evCY (cx ρ) k).2, lim, k⟩ x0 x1 H := by
  rw [evCall_body (cx ρ) k lim 96 _ H Tryz.f96 c96 [4, 5] (by kernel_rfl) (by kernel_rfl) (by kernel_rfl) (by kernel_rfl) (by kernel_rfl)]
  have h := G96 ⟨ρ, evCall (cx ρ) k, (evCY (cx ρ) k).2, lim, k⟩ x0 x1 H
  unfold jj at h
  exact h
-- (*haycroft/task.Task).Want
noncomputable def c97 : Code := Code.of Tryz.prog 97
noncomputable def L97 (E : LE) (x0 : AV) (H : Heap) : Res :=
  purK (binA P H .eql 185 x0 .nilp) fun x5 =>
  purK (gPur (wantV x5 false) (some x0)) fun x7 =>
  purK (gPur (wantV x5 false) (nilChkA x7)) fun x8 =>
  purK (gPur (wantV x5 false) (fieldAddrA P 258 x8 17)) fun x9 =>
  purK (gPur (wantV x5 false) (loadA (Cx E) H 4 x9)) fun x10 =>
  purK (pickA x5 (.bool true) x10) fun x11 =>
  purK (gPur (wantV x11 false) (some x0)) fun x13 =>
  purK (gPur (wantV x11 false) (nilChkA x13)) fun x14 =>
  purK (gPur (wantV x11 false) (fieldAddrA P 258 x14 16)) fun x15 =>
  purK (gPur (wantV x11 false) (loadA (Cx E) H 4 x15)) fun x16 =>
  purK (gPur (wantV x11 false) (unA .not x16)) fun x17 =>
  purK (pickA x11 (.bool true) x17) fun x18 =>
  condK x18
  (
    retK [(.int .u64 0), (.bool false)] H)
  (
    purK (nilChkA x0) fun x20 =>
    purK (fieldAddrA P 258 x20 10) fun x21 =>
    purK (loadA (Cx E) H 22 x21) fun x22 =>
    retK [x22, (.bool true)] H)
theorem G97 (E : LE) (x0 : AV) (H : Heap) : jj E 97 c97 [x0, (.tup []), (.tup []), (.tup []), (.tup []), (.tup []), (.tup []), (.tup []), (.tup []), (.tup []), (.tup []), (.tup []), (.tup []), (.tup []), (.tup []), (.tup []), (.tup []), (.tup []), (.tup []), (.tup []), (.tup []), (.tup []), (.tup [])] H (kk none (fun s H => retK (([2, 3] : List Nat).map fun t => s.getD t (.tup [])) H) [] retK [2, 3]) = L97 E x0 H := by kernel_rfl
theorem E97 (ρ : Addr → Option Value) (k lim : Nat) (x0 : AV) (H : Heap) : evCall (cx ρ) (k + 1) lim 97 [x0] H = L97 ⟨ρ, evCall (cx ρ) k, (evCY (cx ρ) k).2, lim, k⟩ x0 H := by
  rw [evCall_body (cx ρ) k lim 97 _ H Tryz.f97 c97 [2, 3] (by kernel_rfl) (by kernel_rfl) (by kernel_rfl) (by kernel_rfl) (by kernel_rfl)]
  have h := G97 ⟨ρ, evCall (cx ρ) k, (evCY (cx ρ) k).2, lim, k⟩ x0 H
  unfold jj at h
  exact h
-- (*haycroft/session.Session).comes
noncomputable def c98 : Code := Code.of Tryz.prog 98
noncomputable def N98_1_k (s : Slots) (H : Heap) (R : RK) (J : CodeF) : Res := J (Code.at [1, 1, 1, 1, 1] c98) s H (kk none (fun s H => R (([4] : List Nat).map fun t => s.getD t (.tup [])) H) [] R [4])
noncomputable def N98_1 (E : LE) (x0 x1 : AV) (H : Heap) (R : RK) : Res :=
  purK (nilChkA x0) fun x88_1 =>
  purK (fieldAddrA P 183 x88_1 5) fun x89_1 =>
  effK H ((storeA (Cx E) E.lim H 179 x89_1 x1).map skips) fun _ H =>
  R [(.int .i64 1)] H
theorem N98_1_eq (E : LE) (x0 x1 : AV) (H : Heap) (R : RK) : N98_1_k (sp 90 [(0, x0), (1, x1)]) H R (jj E 98) = N98_1 E x0 x1 H R := by kernel_rfl
noncomputable def N98_2_k (s : Slots) (H : Heap) (kn k0 : KS) (R : RK) (J : CodeF) : Res := J (Code.at [1, 1, 1, 1, 0, 0, 1, 0, 1, 1] c98) s H (kk (some [0, 1]) kn [(0, (some [0, 1]), k0)] R [4])
noncomputable def N98_2 (E : LE) (x0 x1 : AV) (H : Heap) (R : RK) : Res :=
  purK (nilChkA x0) fun x52_1 =>
  purK (fieldAddrA P 183 x52_1 9) fun x53_1 =>
  purK (loadA (Cx E) H 3 x53_1) fun x54_1 =>
  purK (nilChkA x1) fun x56_1 =>
  purK (fieldAddrA P 187 x56_1 1) fun x57_1 =>
  purK (loadA (Cx E) H 185 x57_1) fun x58_1 =>
  resK (E.call E.lim 165 [x58_1] H) fun x59_1 H => bif (agn (loadA (Cx E) H 3 x53_1) x54_1 && true) then
    purK (binA P H .add 3 x54_1 x59_1) fun x60_1 =>
    purK (nilChkA x0) fun x61_1 =>
    purK (fieldAddrA P 183 x61_1 9) fun x62_1 =>
    effK H ((storeA (Cx E) E.lim H 3 x62_1 x60_1).map skips) fun _ H =>
    R [(.int .i64 2)] H
  else none
theorem N98_2_eq (E : LE) (x0 x1 : AV) (H : Heap) (kn k0 : KS) (R : RK) : N98_2_k (sp 90 [(0, x0), (1, x1)]) H kn k0 R (jj E 98) = N98_2 E x0 x1 H R := by kernel_rfl
noncomputable def L98 (E : LE) (x0 x1 : AV) (H : Heap) : Res :=
  purK (nilChkA x1) fun x12 =>
  purK (fieldAddrA P 187 x12 1) fun x13 =>
  purK (loadA (Cx E) H 185 x13) fun x14 =>
  resK (E.call E.lim 163 [x14] H) fun x15 H =>
  purK (extA 0 x15) fun x16 =>
  purK (extA 1 x15) fun x17 =>
  effK H (allocA (Cx E) H 256) fun x5 H =>
  effK H ((storeA (Cx E) E.lim H 256 x5 x16).map skips) fun _ H =>
  purK (nilChkA x1) fun x20 =>
  purK (fieldAddrA P 187 x20 1) fun x21 =>
  purK (loadA (Cx E) H 185 x21) fun x22 =>
  resK (E.call E.lim 97 [x22] H) fun x23 H =>
  purK (extA 0 x23) fun x24 =>
  purK (extA 1 x23) fun x25 =>
  purK (nilChkA x0) fun x27 =>
  purK (fieldAddrA P 183 x27 5) fun x28 =>
  effK H ((storeA (Cx E) E.lim H 179 x28 .nilp).map skips) fun _ H =>
  condK x17
  (
    purK (nilChkA x0) fun x32 =>
    purK (fieldAddrA P 183 x32 8) fun x33 =>
    purK (loadA (Cx E) H 181 x33) fun x34 =>
    purK (nilChkA x1) fun x36 =>
    purK (fieldAddrA P 187 x36 0) fun x37 =>
    purK (loadA (Cx E) H 3 x37) fun x38 =>
    purK (loadA (Cx E) H 256 x5) fun x39 =>
    effK H ((mapPutA (Cx E) E.lim H 181 x34 x38 x39).map skips) fun _ H =>
    purK (nilChkA x1) fun x41 =>
    purK (fieldAddrA P 187 x41 1) fun x42 =>
    purK (loadA (Cx E) H 185 x42) fun x43 =>
    resK (E.call E.lim 164 [x43] H) fun x44 H =>
    purK (binA P H .gtr 3 x44 (.int .i64 0)) fun x46 =>
    condK x46
    (
      purK (nilChkA x0) fun x49 =>
      purK (fieldAddrA P 183 x49 7) fun x50 =>
      effK H ((storeA (Cx E) E.lim H 3 x50 x44).map skips) fun _ H =>
      N98_2 E x0 x1 H retK)
    (
      N98_2 E x0 x1 H retK))
  (
    purK (gPur (wantV x25 true) (some x0)) fun x66 =>
    purK (gPur (wantV x25 true) (some x1)) fun x67 =>
    resK (gRes (wantV x25 true) H (E.call E.lim 108 [x66, x67] H)) fun x68 H =>
    purK (pickA x25 x68 (.bool false)) fun x69 =>
    condK x69
    (
      purK (nilChkA x0) fun x72 =>
      purK (fieldAddrA P 183 x72 6) fun x73 =>
      purK (loadA (Cx E) H 180 x73) fun x74 =>
      effK H (buildSliceA (Cx E) H 180 1 [(0, x1)]) fun x76 H =>
      effK H (builtinA (Cx E) E.lim H .append #[180, 180] [x74, x76]) fun x77 H =>
      purK (nilChkA x0) fun x78 =>
      purK (fieldAddrA P 183 x78 6) fun x79 =>
      effK H ((storeA (Cx E) E.lim H 180 x79 x77).map skips) fun _ H =>
      retK [(.int .i64 4)] H)
    (
      condK x25
      (
        purK (nilChkA x0) fun x84 =>
        purK (fieldAddrA P 183 x84 5) fun x85 =>
        effK H ((storeA (Cx E) E.lim H 179 x85 x1).map skips) fun _ H =>
        retK [(.int .i64 3)] H)
      (
        N98_1 E x0 x1 H retK)))
theorem L98_x (E : LE) (J : CodeF) (x0 x1 : AV) (H : Heap) : jx E 98 J c98 [x0, x1, (.tup []), (.tup []), (.tup []), (.tup []), (.tup []), (.tup []), (.tup []), (.tup []), (.tup []), (.tup []), (.tup []), (.tup []), (.tup []), (.tup []), (.tup []), (.tup []), (.tup []), (.tup []), (.tup []), (.tup []), (.tup []), (.tup []), (.tup []), (.tup []), (.tup []), (.tup []), (.tup []), (.tup []), (.tup []), (.tup []), (.tup []), (.tup []), (.tup []), (.tup []), (.tup []), (.tup []), (.tup []), (.tup []), (.tup []), (.tup []), (.tup []), (.tup []), (.tup []), (.tup []), (.tup []), (.tup []), (.tup []), (.tup []), (.tup []), (.tup []), (.tup []), (.tup []), (.tup []), (.tup []), (.tup []), (.tup []), (.tup []), (.tup []), (.tup []), (.tup []), (.tup []), (.tup []), (.tup []), (.tup []), (.tup []), (.tup []), (.tup []), (.tup []), (.tup []), (.tup []), (.tup []), (.tup []), (.tup []), (.tup []), (.tup []), (.tup []), (.tup []), (.tup []), (.tup []), (.tup []), (.tup []), (.tup []), (.tup []), (.tup []), (.tup []), (.tup []), (.tup []), (.tup [])] H (kk none (fun s H => retK (([4] : List Nat).map fun t => s.getD t (.tup [])) H) [] retK [4]) =
  purK (nilChkA x1) fun x12 =>
  purK (fieldAddrA P 187 x12 1) fun x13 =>
  purK (loadA (Cx E) H 185 x13) fun x14 =>
  resK (E.call E.lim 163 [x14] H) fun x15 H =>
  purK (extA 0 x15) fun x16 =>
  purK (extA 1 x15) fun x17 =>
  effK H (allocA (Cx E) H 256) fun x5 H =>
  effK H ((storeA (Cx E) E.lim H 256 x5 x16).map skips) fun _ H =>
  purK (nilChkA x1) fun x20 =>
  purK (fieldAddrA P 187 x20 1) fun x21 =>
  purK (loadA (Cx E) H 185 x21) fun x22 =>
  resK (E.call E.lim 97 [x22] H) fun x23 H =>
  purK (extA 0 x23) fun x24 =>
  purK (extA 1 x23) fun x25 =>
  purK (nilChkA x0) fun x27 =>
  purK (fieldAddrA P 183 x27 5) fun x28 =>
  effK H ((storeA (Cx E) E.lim H 179 x28 .nilp).map skips) fun _ H =>
  condK x17
  (
    purK (nilChkA x0) fun x32 =>
    purK (fieldAddrA P 183 x32 8) fun x33 =>
    purK (loadA (Cx E) H 181 x33) fun x34 =>
    purK (nilChkA x1) fun x36 =>
    purK (fieldAddrA P 187 x36 0) fun x37 =>
    purK (loadA (Cx E) H 3 x37) fun x38 =>
    purK (loadA (Cx E) H 256 x5) fun x39 =>
    effK H ((mapPutA (Cx E) E.lim H 181 x34 x38 x39).map skips) fun _ H =>
    purK (nilChkA x1) fun x41 =>
    purK (fieldAddrA P 187 x41 1) fun x42 =>
    purK (loadA (Cx E) H 185 x42) fun x43 =>
    resK (E.call E.lim 164 [x43] H) fun x44 H =>
    purK (binA P H .gtr 3 x44 (.int .i64 0)) fun x46 =>
    condK x46
    (
      purK (nilChkA x0) fun x49 =>
      purK (fieldAddrA P 183 x49 7) fun x50 =>
      effK H ((storeA (Cx E) E.lim H 3 x50 x44).map skips) fun _ H =>
      N98_2_k (sp 90 [(0, x0), (1, x1)]) H (fun s H => N98_1_k s H retK J) (fun s H => N98_1_k s H retK J) retK J)
    (
      N98_2_k (sp 90 [(0, x0), (1, x1)]) H (fun s H => N98_1_k s H retK J) (fun s H => N98_1_k s H retK J) retK J))
  (
    purK (gPur (wantV x25 true) (some x0)) fun x66 =>
    purK (gPur (wantV x25 true) (some x1)) fun x67 =>
    resK (gRes (wantV x25 true) H (E.call E.lim 108 [x66, x67] H)) fun x68 H =>
    purK (pickA x25 x68 (.bool false)) fun x69 =>
    condK x69
    (
      purK (nilChkA x0) fun x72 =>
      purK (fieldAddrA P 183 x72 6) fun x73 =>
      purK (loadA (Cx E) H 180 x73) fun x74 =>
      effK H (buildSliceA (Cx E) H 180 1 [(0, x1)]) fun x76 H =>
      effK H (builtinA (Cx E) E.lim H .append #[180, 180] [x74, x76]) fun x77 H =>
      purK (nilChkA x0) fun x78 =>
      purK (fieldAddrA P 183 x78 6) fun x79 =>
      effK H ((storeA (Cx E) E.lim H 180 x79 x77).map skips) fun _ H =>
      retK [(.int .i64 4)] H)
    (
      condK x25
      (
        purK (nilChkA x0) fun x84 =>
        purK (fieldAddrA P 183 x84 5) fun x85 =>
        effK H ((storeA (Cx E) E.lim H 179 x85 x1).map skips) fun _ H =>
        retK [(.int .i64 3)] H)
      (
        N98_1_k (sp 90 [(0, x0), (1, x1)]) H retK J))) := by kernel_rfl
theorem G98 (E : LE) (x0 x1 : AV) (H : Heap) : jj E 98 c98 [x0, x1, (.tup []), (.tup []), (.tup []), (.tup []), (.tup []), (.tup []), (.tup []), (.tup []), (.tup []), (.tup []), (.tup []), (.tup []), (.tup []), (.tup []), (.tup []), (.tup []), (.tup []), (.tup []), (.tup []), (.tup []), (.tup []), (.tup []), (.tup []), (.tup []), (.tup []), (.tup []), (.tup []), (.tup []), (.tup []), (.tup []), (.tup []), (.tup []), (.tup []), (.tup []), (.tup []), (.tup []), (.tup []), (.tup []), (.tup []), (.tup []), (.tup []), (.tup []), (.tup []), (.tup []), (.tup []), (.tup []), (.tup []), (.tup []), (.tup []), (.tup []), (.tup []), (.tup []), (.tup []), (.tup []), (.tup []), (.tup []), (.tup []), (.tup []), (.tup []), (.tup []), (.tup []), (.tup []), (.tup []), (.tup []), (.tup []), (.tup []), (.tup []), (.tup []), (.tup []), (.tup []), (.tup []), (.tup []), (.tup []), (.tup []), (.tup []), (.tup []), (.tup []), (.tup []), (.tup []), (.tup []), (.tup []), (.tup []), (.tup []), (.tup []), (.tup []), (.tup []), (.tup []), (.tup [])] H (kk none (fun s H => retK (([4] : List Nat).map fun t => s.getD t (.tup [])) H) [] retK [4]) = L98 E x0 x1 H := (jj_X E 98 _ _ H _).trans ((L98_x E (jj E 98) x0 x1 H).trans (by simp only [L98, N98_1_eq, N98_2_eq]))
theorem E98 (ρ : Addr → Option Value) (k lim : Nat) (x0 x1 : AV) (H : Heap) : evCall (cx ρ) (k + 1) lim 98 [x0, x1] H = L98 ⟨ρ, evCall (cx ρ) k, (evCY (cx ρ) k).2, lim, k⟩ x0 x1 H := by
  rw [evCall_body (cx ρ) k lim 98 _ H Tryz.f98 c98 [4] (by kernel_rfl) (by kernel_rfl) (by kernel_rfl) (by kernel_rfl) (by kernel_rfl)]
  have h := G98 ⟨ρ, evCall (cx ρ) k, (evCY (cx ρ) k).2, lim, k⟩ x0 x1 H
  unfold jj at h
  exact h
-- (*haycroft/hlog.Log).Epoch
noncomputable def c99 : Code := Code.of Tryz.prog 99
noncomputable def L99 (E : LE) (x0 : AV) (H : Heap) : Res :=
  purK (binA P H .eql 84 x0 .nilp) fun x4 =>
  condK x4
  (
    retK [.nilp] H)
  (
    purK (nilChkA x0) fun x6 =>
    purK (fieldAddrA P 153 x6 3) fun x7 =>
    purK (loadA (Cx E) H 149 x7) fun x8 =>
    retK [x8] H)
theorem G99 (E : LE) (x0 : AV) (H : Heap) : jj E 99 c99 [x0, (.tup []), (.tup []), (.tup []), (.tup []), (.tup []), (.tup []), (.tup []), (.tup [])] H (kk none (fun s H => retK (([2] : List Nat).map fun t => s.getD t (.tup [])) H) [] retK [2]) = L99 E x0 H := by kernel_rfl
theorem E99 (ρ : Addr → Option Value) (k lim : Nat) (x0 : AV) (H : Heap) : evCall (cx ρ) (k + 1) lim 99 [x0] H = L99 ⟨ρ, evCall (cx ρ) k, (evCY (cx ρ) k).2, lim, k⟩ x0 H := by
  rw [evCall_body (cx ρ) k lim 99 _ H Tryz.f99 c99 [2] (by kernel_rfl) (by kernel_rfl) (by kernel_rfl) (by kernel_rfl) (by kernel_rfl)]
  have h := G99 ⟨ρ, evCall (cx ρ) k, (evCY (cx ρ) k).2, lim, k⟩ x0 H
  unfold jj at h
  exact h
-- (*haycroft/epoch.Table).Seen
noncomputable def c100 : Code := Code.of Tryz.prog 100
noncomputable def L100 (E : LE) (x0 x1 : AV) (H : Heap) : Res :=
  resK (E.call E.lim 166 [x0, x1] H) fun x7 H =>
  purK (unA .not x7) fun x8 =>
  condK x8
  (
    retK [(.int .u64 0)] H)
  (
    purK (nilChkA x0) fun x10 =>
    purK (fieldAddrA P 262 x10 0) fun x11 =>
    purK (loadA (Cx E) H 160 x11) fun x12 =>
    purK (binA P H .add 3 (.int .i64 1) x1) fun x14 =>
    resK (E.call E.lim 84 [x12, x14] H) fun x15 H =>
    retK [x15] H)
theorem G100 (E : LE) (x0 x1 : AV) (H : Heap) : jj E 100 c100 [x0, x1, (.tup []), (.tup []), (.tup []), (.tup []), (.tup []), (.tup []), (.tup []), (.tup []), (.tup []), (.tup []), (.tup []), (.tup []), (.tup []), (.tup [])] H (kk none (fun s H => retK (([4] : List Nat).map fun t => s.getD t (.tup [])) H) [] retK [4]) = L100 E x0 x1 H := by kernel_rfl
theorem E100 (ρ : Addr → Option Value) (k lim : Nat) (x0 x1 : AV) (H : Heap) : evCall (cx ρ) (k + 1) lim 100 [x0, x1] H = L100 ⟨ρ, evCall (cx ρ) k, (evCY (cx ρ) k).2, lim, k⟩ x0 x1 H := by
  rw [evCall_body (cx ρ) k lim 100 _ H Tryz.f100 c100 [4] (by kernel_rfl) (by kernel_rfl) (by kernel_rfl) (by kernel_rfl) (by kernel_rfl)]
  have h := G100 ⟨ρ, evCall (cx ρ) k, (evCY (cx ρ) k).2, lim, k⟩ x0 x1 H
  unfold jj at h
  exact h
-- (*haycroft/epoch.Table).Enter
noncomputable def c101 : Code := Code.of Tryz.prog 101
noncomputable def L101 (E : LE) (x0 x1 : AV) (H : Heap) : Res :=
  resK (E.call E.lim 168 [x0] H) fun x8 H =>
  resK (E.call E.lim 167 [x0, x1, (.bool false), x8, (.int .i64 8)] H) fun x9 H =>
  retK [x9] H
theorem G101 (E : LE) (x0 x1 : AV) (H : Heap) : jj E 101 c101 [x0, x1, (.tup []), (.tup []), (.tup []), (.tup []), (.tup []), (.tup []), (.tup []), (.tup [])] H (kk none (fun s H => retK (([4] : List Nat).map fun t => s.getD t (.tup [])) H) [] retK [4]) = L101 E x0 x1 H := by kernel_rfl
theorem E101 (ρ : Addr → Option Value) (k lim : Nat) (x0 x1 : AV) (H : Heap) : evCall (cx ρ) (k + 1) lim 101 [x0, x1] H = L101 ⟨ρ, evCall (cx ρ) k, (evCY (cx ρ) k).2, lim, k⟩ x0 x1 H := by
  rw [evCall_body (cx ρ) k lim 101 _ H Tryz.f101 c101 [4] (by kernel_rfl) (by kernel_rfl) (by kernel_rfl) (by kernel_rfl) (by kernel_rfl)]
  have h := G101 ⟨ρ, evCall (cx ρ) k, (evCY (cx ρ) k).2, lim, k⟩ x0 x1 H
  unfold jj at h
  exact h
-- (*haycroft/task.Task).Move
noncomputable def c102 : Code := Code.of Tryz.prog 102
noncomputable def L102 (E : LE) (x0 : AV) (H : Heap) : Res :=
  purK (binA P H .eql 185 x0 .nilp) fun x6 =>
  condK x6
  (
    resK (E.call E.lim 169 [(.int .i64 2)] H) fun x7 H =>
    purK (extA 0 x7) fun x8 =>
    purK (extA 1 x7) fun x9 =>
    retK [x8, x9] H)
  (
    purK (nilChkA x0) fun x12 =>
    purK (fieldAddrA P 258 x12 17) fun x13 =>
    purK (loadA (Cx E) H 4 x13) fun x14 =>
    condK x14
    (
      retK [(.int .i64 2), (.int .i64 0)] H)
    (
      purK (nilChkA x0) fun x17 =>
      purK (fieldAddrA P 258 x17 0) fun x18 =>
      purK (loadA (Cx E) H 84 x18) fun x19 =>
      purK (nilChkA x0) fun x22 =>
      purK (fieldAddrA P 258 x22 2) fun x23 =>
      purK (loadA (Cx E) H 3 x23) fun x24 =>
      resK (E.call E.lim 99 [x19] H) fun x20 H => bif (agn (loadA (Cx E) H 3 x23) x24 && true) then
        resK (E.call E.lim 100 [x20, x24] H) fun x25 H =>
        purK (binA P H .eql 22 x25 (.int .u64 0)) fun x26 =>
        condK x26
        (
          resK (E.call E.lim 169 [(.int .i64 7)] H) fun x27 H =>
          purK (extA 0 x27) fun x28 =>
          purK (extA 1 x27) fun x29 =>
          retK [x28, x29] H)
        (
          purK (nilChkA x0) fun x31 =>
          purK (fieldAddrA P 258 x31 5) fun x32 =>
          purK (loadA (Cx E) H 252 x32) fun x33 =>
          valK E.call E.yc E.lim x33 [x0] H fun x35 H =>
          purK (extA 0 x35) fun x36 =>
          purK (extA 1 x35) fun x37 =>
          retK [x36, x37] H)
      else none))
theorem G102 (E : LE) (x0 : AV) (H : Heap) : jj E 102 c102 [x0, (.tup []), (.tup []), (.tup []), (.tup []), (.tup []), (.tup []), (.tup []), (.tup []), (.tup []), (.tup []), (.tup []), (.tup []), (.tup []), (.tup []), (.tup []), (.tup []), (.tup []), (.tup []), (.tup []), (.tup []), (.tup []), (.tup []), (.tup []), (.tup []), (.tup []), (.tup []), (.tup []), (.tup []), (.tup []), (.tup []), (.tup []), (.tup []), (.tup []), (.tup []), (.tup []), (.tup []), (.tup [])] H (kk none (fun s H => retK (([2, 3] : List Nat).map fun t => s.getD t (.tup [])) H) [] retK [2, 3]) = L102 E x0 H := by kernel_rfl
theorem E102 (ρ : Addr → Option Value) (k lim : Nat) (x0 : AV) (H : Heap) : evCall (cx ρ) (k + 1) lim 102 [x0] H = L102 ⟨ρ, evCall (cx ρ) k, (evCY (cx ρ) k).2, lim, k⟩ x0 H := by
  rw [evCall_body (cx ρ) k lim 102 _ H Tryz.f102 c102 [2, 3] (by kernel_rfl) (by kernel_rfl) (by kernel_rfl) (by kernel_rfl) (by kernel_rfl)]
  have h := G102 ⟨ρ, evCall (cx ρ) k, (evCY (cx ρ) k).2, lim, k⟩ x0 H
  unfold jj at h
  exact h
end Go.Proofs.YtbnhlcgbigeceaaGreat
