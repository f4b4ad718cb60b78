/- Functions, lifted. Printed by a program of this repo. -/
import Derived.Test.YtdiafdmgenefnaaGreatLfTab
set_option linter.unusedVariables false
set_option linter.unusedSimpArgs false
set_option maxRecDepth 100000
set_option maxHeartbeats 4000000
namespace Go.Proofs.YtdiafdmgenefnaaGreat
open Go.Ev Go.RowKit
-- haycroft/haycroftlaw26.WatchNil
noncomputable def c3 : Code := Code.of Tryz.prog 3
noncomputable def L3 (ρ : Addr → Option Value) (call : CallF) (yc : YieldF) (lim k : Nat) (x0 : AV) (H : Heap) : Res :=
  effK H (boxA H 27 x0) fun x1 H =>
  resK (call lim 4 [] H) fun x10 H =>
  purK (unA .not x10) fun x11 =>
  condK x11
  (
    retK [(.bool false)] H)
  (
    purK (ldN ρ H 8 x1) fun x14 =>
    resK (call lim 5 [.nilp, x14] H) fun x15 H =>
    purK (extA 0 x15) fun x16 =>
    purK (extA 1 x15) fun x17 =>
    resK (call lim 6 [.nilp] H) fun x20 H =>
    purK (extA 0 x20) fun x21 =>
    purK (extA 1 x20) fun x22 =>
    resK (call lim 7 [.nilp] H) fun x24 H =>
    purK (extA 0 x24) fun x25 =>
    purK (extA 1 x24) fun x26 =>
    purK (binA Tryz.prog H .eql 3 x16 (.int .i64 0)) fun x28 =>
    purK (gPur (wantV x28 true) (some x17)) fun x30 =>
    purK (gPur (wantV x28 true) (binA Tryz.prog H .eql 30 x30 (.int .i64 2))) fun x31 =>
    purK (pickA x28 x31 (.bool false)) fun x32 =>
    purK (gPur (wantV x32 true) (some x21)) fun x34 =>
    purK (gPur (wantV x32 true) (unA .not x34)) fun x35 =>
    purK (pickA x32 x35 (.bool false)) fun x36 =>
    purK (gPur (wantV x36 true) (some x22)) fun x38 =>
    purK (gPur (wantV x36 true) (binA Tryz.prog H .eql 30 x38 (.int .i64 2))) fun x39 =>
    purK (pickA x36 x39 (.bool false)) fun x40 =>
    purK (gPur (wantV x40 true) (some x25)) fun x42 =>
    purK (gPur (wantV x40 true) (binA Tryz.prog H .eql 29 x42 .nilp)) fun x43 =>
    purK (pickA x40 x43 (.bool false)) fun x44 =>
    purK (gPur (wantV x44 true) (some x26)) fun x46 =>
    purK (gPur (wantV x44 true) (binA Tryz.prog H .eql 30 x46 (.int .i64 2))) fun x47 =>
    purK (pickA x44 x47 (.bool false)) fun x48 =>
    purK (gPur (wantV x48 true) (some .nilp)) fun x50 =>
    purK (gPur (wantV x48 true) (addA 2 x1)) fun x51 =>
    purK (gPur (wantV x48 true) (ld1 ρ H x51)) fun x52 =>
    resK (gRes (wantV x48 true) H (call lim 8 [x50, x52] H)) fun x53 H =>
    purK (gPur (wantV x48 true) (binA Tryz.prog H .eql 3 x53 (.int .i64 0))) fun x54 =>
    purK (pickA x48 x54 (.bool false)) fun x55 =>
    purK (gPur (wantV x55 true) (some .nilp)) fun x57 =>
    resK (gRes (wantV x55 true) H (call lim 9 [x57] H)) fun x58 H =>
    purK (gPur (wantV x55 true) (binA Tryz.prog H .eql 38 x58 .nilp)) fun x59 =>
    purK (pickA x55 x59 (.bool false)) fun x60 =>
    purK (gPur (wantV x60 true) (some .nilp)) fun x62 =>
    resK (gRes (wantV x60 true) H (call lim 10 [x62] H)) fun x63 H =>
    purK (gPur (wantV x60 true) (binA Tryz.prog H .eql 3 x63 (.int .i64 0))) fun x64 =>
    purK (pickA x60 x64 (.bool false)) fun x65 =>
    purK (gPur (wantV x65 true) (some .nilp)) fun x67 =>
    resK (gRes (wantV x65 true) H (call lim 11 [x67] H)) fun x68 H =>
    purK (gPur (wantV x65 true) (lenS x68)) fun x69 =>
    purK (gPur (wantV x65 true) (binA Tryz.prog H .eql 3 x69 (.int .i64 0))) fun x70 =>
    purK (pickA x65 x70 (.bool false)) fun x71 =>
    purK (gPur (wantV x71 true) (some .nilp)) fun x73 =>
    resK (gRes (wantV x71 true) H (call lim 12 [x73] H)) fun x74 H =>
    purK (gPur (wantV x71 true) (binA Tryz.prog H .eql 3 x74 (.int .i64 0))) fun x75 =>
    purK (pickA x71 x75 (.bool false)) fun x76 =>
    purK (gPur (wantV x76 true) (some .nilp)) fun x78 =>
    resK (gRes (wantV x76 true) H (call lim 13 [x78] H)) fun x79 H =>
    purK (gPur (wantV x76 true) (binA Tryz.prog H .eql 3 x79 (.int .i64 0))) fun x80 =>
    purK (pickA x76 x80 (.bool false)) fun x81 =>
    retK [x81] H)
theorem G3 (ρ : Addr → Option Value) (call : CallF) (yc : YieldF) (lim k : Nat) (x0 : AV) (H : Heap) :
    evL (cx ρ) call yc false 3 lim k c3 [x0, (.tup []), (.tup []), (.tup []), (.tup []), (.tup []), (.tup []), (.tup []), (.tup []), (.tup []), (.tup []), (.tup []), (.tup []), (.tup []), (.tup []), (.tup []), (.tup []), (.tup []), (.tup []), (.tup []), (.tup []), (.tup []), (.tup []), (.tup []), (.tup []), (.tup []), (.tup []), (.tup []), (.tup []), (.tup []), (.tup []), (.tup []), (.tup []), (.tup []), (.tup []), (.tup []), (.tup []), (.tup []), (.tup []), (.tup []), (.tup []), (.tup []), (.tup []), (.tup []), (.tup []), (.tup []), (.tup []), (.tup []), (.tup []), (.tup []), (.tup []), (.tup []), (.tup []), (.tup []), (.tup []), (.tup []), (.tup []), (.tup []), (.tup []), (.tup []), (.tup []), (.tup []), (.tup []), (.tup []), (.tup []), (.tup []), (.tup []), (.tup []), (.tup []), (.tup []), (.tup []), (.tup []), (.tup []), (.tup []), (.tup []), (.tup []), (.tup []), (.tup []), (.tup []), (.tup []), (.tup []), (.tup [])] H (kk none (fun s H => retK (([2] : List Nat).map fun t => s.getD t (.tup [])) H) [] retK [2]) = L3 ρ call yc lim k x0 H := by
  kernel_rfl
theorem E3 (ρ : Addr → Option Value) (k lim : Nat) (x0 : AV) (H : Heap) : evCall (cx ρ) (k + 1) lim 3 [x0] H = L3 ρ (evCall (cx ρ) k) (evCY (cx ρ) k).2 lim k x0 H := by
  rw [evCall_body (cx ρ) k lim 3 _ H Tryz.f3 c3 [2] (by kernel_rfl) (by kernel_rfl) (by kernel_rfl) (by kernel_rfl) (by kernel_rfl)]
  exact G3 ρ (evCall (cx ρ) k) (evCY (cx ρ) k).2 lim k x0 H
-- haycroft/haycroftlaw26.awake
noncomputable def c4 : Code := Code.of Tryz.prog 4
noncomputable def L4 (ρ : Addr → Option Value) (call : CallF) (yc : YieldF) (lim k : Nat) (H : Heap) : Res :=
  resK (call lim 15 [] H) fun x9 H =>
  resK (call lim 14 [x9] H) fun x10 H =>
  purK (extA 0 x10) fun x11 =>
  purK (extA 1 x10) fun x12 =>
  purK (unA .not x12) fun x14 =>
  condK x14
  (
    retK [(.bool false)] H)
  (
    purK (bldA [.int .i64 0, .str ByteArray.empty, .str ByteArray.empty, .int .u64 0] [(0, 1, (.int .i64 3)), (1, 1, (.str (ByteArray.mk #[107]))), (3, 1, (.int .u64 1))]) fun x17 =>
    purK (bldA [.int .i64 0, .int .i64 0, .int .i64 0, .int .i64 0, .str ByteArray.empty, .str ByteArray.empty, .int .u64 0, .nils] [(0, 1, (.int .i64 1)), (3, 4, x17)]) fun x18 =>
    resK (call lim 5 [x11, x18] H) fun x19 H =>
    purK (extA 0 x19) fun x20 =>
    purK (extA 1 x19) fun x21 =>
    resK (call lim 12 [x11] H) fun x23 H =>
    resK (call lim 8 [x11, (.int .i64 20)] H) fun x25 H =>
    resK (call lim 11 [x11] H) fun x27 H =>
    purK (binA Tryz.prog H .eql 30 x21 (.int .i64 0)) fun x29 =>
    purK (gPur (wantV x29 true) (some x23)) fun x31 =>
    purK (gPur (wantV x29 true) (binA Tryz.prog H .eql 3 x31 (.int .i64 1))) fun x32 =>
    purK (pickA x29 x32 (.bool false)) fun x33 =>
    purK (gPur (wantV x33 true) (some x25)) fun x35 =>
    purK (gPur (wantV x33 true) (binA Tryz.prog H .gtr 3 x35 (.int .i64 1))) fun x36 =>
    purK (pickA x33 x36 (.bool false)) fun x37 =>
    purK (gPur (wantV x37 true) (some x11)) fun x39 =>
    resK (gRes (wantV x37 true) H (call lim 12 [x39] H)) fun x40 H =>
    purK (gPur (wantV x37 true) (binA Tryz.prog H .eql 3 x40 (.int .i64 0))) fun x41 =>
    purK (pickA x37 x41 (.bool false)) fun x42 =>
    purK (gPur (wantV x42 true) (some x27)) fun x44 =>
    purK (gPur (wantV x42 true) (lenS x44)) fun x45 =>
    purK (gPur (wantV x42 true) (binA Tryz.prog H .eql 3 x45 (.int .i64 1))) fun x46 =>
    purK (pickA x42 x46 (.bool false)) fun x47 =>
    purK (gPur (wantV x47 true) (some x27)) fun x49 =>
    purK (gPur (wantV x47 true) (ixS 8 x49 (.int .i64 0))) fun x50 =>
    purK (gPur (wantV x47 true) (addA 7 x50)) fun x51 =>
    purK (gPur (wantV x47 true) (ld1 ρ H x51)) fun x52 =>
    purK (gPur (wantV x47 true) (binA Tryz.prog H .gtr 3 x52 (.int .i64 0))) fun x53 =>
    purK (pickA x47 x53 (.bool false)) fun x54 =>
    retK [x54] H)
theorem G4 (ρ : Addr → Option Value) (call : CallF) (yc : YieldF) (lim k : Nat) (H : Heap) :
    evL (cx ρ) call yc false 4 lim k c4 [(.tup []), (.tup []), (.tup []), (.tup []), (.tup []), (.tup []), (.tup []), (.tup []), (.tup []), (.tup []), (.tup []), (.tup []), (.tup []), (.tup []), (.tup []), (.tup []), (.tup []), (.tup []), (.tup []), (.tup []), (.tup []), (.tup []), (.tup []), (.tup []), (.tup []), (.tup []), (.tup []), (.tup []), (.tup []), (.tup []), (.tup []), (.tup []), (.tup []), (.tup []), (.tup []), (.tup []), (.tup []), (.tup []), (.tup []), (.tup []), (.tup []), (.tup []), (.tup []), (.tup []), (.tup []), (.tup []), (.tup []), (.tup []), (.tup []), (.tup []), (.tup []), (.tup []), (.tup []), (.tup []), (.tup [])] H (kk none (fun s H => retK (([0] : List Nat).map fun t => s.getD t (.tup [])) H) [] retK [0]) = L4 ρ call yc lim k H := by
  kernel_rfl
theorem E4 (ρ : Addr → Option Value) (k lim : Nat) (H : Heap) : evCall (cx ρ) (k + 1) lim 4 [] H = L4 ρ (evCall (cx ρ) k) (evCY (cx ρ) k).2 lim k H := by
  rw [evCall_body (cx ρ) k lim 4 _ H Tryz.f4 c4 [0] (by kernel_rfl) (by kernel_rfl) (by kernel_rfl) (by kernel_rfl) (by kernel_rfl)]
  exact G4 ρ (evCall (cx ρ) k) (evCY (cx ρ) k).2 lim k H
-- (*haycroft/watch.Watch).Do
noncomputable def c5 : Code := Code.of Tryz.prog 5
noncomputable def N5_1 (ρ : Addr → Option Value) (call : CallF) (yc : YieldF) (lim k : Nat) (x0 x6 x7 : AV) (H : Heap) (R : List AV → Heap → Res) : Res :=
  purK (nilChkA x0) fun x89_1 =>
  purK (addA 3 x89_1) fun x90_1 =>
  purK (ld1 ρ H x90_1) fun x91_1 =>
  resK (call lim 17 [x91_1, (.fn (.func 18) [x0] [])] H) fun x94_1 H =>
  purK (nilChkA x0) fun x95_1 =>
  purK (addA 3 x95_1) fun x96_1 =>
  effK H (stA lim H 1 x96_1 x94_1) fun _ H =>
  R [x6, x7] H
theorem N5_1_eq (ρ : Addr → Option Value) (call : CallF) (yc : YieldF) (lim k : Nat) (x0 x6 x7 : AV) (H : Heap) (R : List AV → Heap → Res) :
    evL (cx ρ) call yc false 5 lim k (Code.at [1, 1, 1, 1, 1] c5) (sp 99 [(0, x0), (6, x6), (7, x7)]) H (kk none (fun s H => R (([4, 5] : List Nat).map fun t => s.getD t (.tup [])) H) [] R [4, 5]) = N5_1 ρ call yc lim k x0 x6 x7 H R := by
  kernel_rfl
noncomputable def L5 (ρ : Addr → Option Value) (call : CallF) (yc : YieldF) (lim k : Nat) (x0 x1 : AV) (H : Heap) : Res :=
  effK H (boxA H 27 x1) fun x3 H =>
  purK (binA Tryz.prog H .eql 29 x0 .nilp) fun x9 =>
  condK x9
  (
    retK [(.int .i64 0), (.int .i64 2)] H)
  (
    purK (nilChkA x0) fun x11 =>
    purK (addA 1 x11) fun x12 =>
    purK (ld1 ρ H x12) fun x13 =>
    purK (binA Tryz.prog H .add 3 x13 (.int .i64 2)) fun x14 =>
    purK (nilChkA x0) fun x15 =>
    purK (addA 1 x15) fun x16 =>
    effK H (stA lim H 1 x16 x14) fun _ H =>
    purK (nilChkA x0) fun x19 =>
    purK (addA 0 x19) fun x20 =>
    purK (ld1 ρ H x20) fun x21 =>
    purK (ldN ρ H 8 x3) fun x22 =>
    resK (call lim 16 [x21, x22] H) fun x23 H =>
    purK (extA 0 x23) fun x24 =>
    purK (extA 1 x23) fun x25 =>
    purK (binA Tryz.prog H .neq 30 x25 (.int .i64 0)) fun x28 =>
    condK x28
    (
      N5_1 ρ call yc lim k x0 x24 x25 H retK)
    (
      purK (addA 0 x3) fun x30 =>
      purK (ld1 ρ H x30) fun x31 =>
      purK (binA Tryz.prog H .eql 3 x31 (.int .i64 1)) fun x32 =>
      condK x32
      (
        purK (nilChkA x0) fun x35 =>
        purK (addA 3 x35) fun x36 =>
        purK (ld1 ρ H x36) fun x37 =>
        purK (addA 1 x3) fun x38 =>
        purK (ld1 ρ H x38) fun x39 =>
        purK (nilChkA x0) fun x42 =>
        purK (addA 2 x42) fun x43 =>
        purK (ld1 ρ H x43) fun x44 =>
        purK (lenS x44) fun x45 =>
        purK (bldA [.int .i64 0, .int .i64 0, .int .i64 0] [(0, 1, x39), (1, 1, x24), (2, 1, x45)]) fun x46 =>
        mkK H (bldS H 57 3 [.int .i64 0, .int .i64 0, .int .i64 0] 1 [(0, 3, x46)]) true fun x47 H => bif (agn (lenS x44) x45 && (agn (ld1 ρ H x43) x44 && (agn (ld1 ρ H x38) x39 && (agn (ld1 ρ H x36) x37 && true)))) then
          effK H (apA ρ lim H 57 3 24 x37 x47) fun x48 H =>
          purK (nilChkA x0) fun x49 =>
          purK (addA 3 x49) fun x50 =>
          effK H (stA lim H 1 x50 x48) fun _ H =>
          purK (nilChkA x0) fun x53 =>
          purK (addA 2 x53) fun x54 =>
          purK (ld1 ρ H x54) fun x55 =>
          purK (addA 3 x3) fun x56 =>
          purK (ldN ρ H 4 x56) fun x57 =>
          purK (nilChkA x0) fun x59 =>
          purK (addA 1 x59) fun x60 =>
          purK (ld1 ρ H x60) fun x61 =>
          purK (bldA [.int .i64 0, .str ByteArray.empty, .str ByteArray.empty, .int .u64 0, .int .i64 0, .str ByteArray.empty, .int .i64 0, .int .i64 0] [(0, 4, x57), (6, 1, x61)]) fun x62 =>
          mkK H (bldS H 52 8 [.int .i64 0, .str ByteArray.empty, .str ByteArray.empty, .int .u64 0, .int .i64 0, .str ByteArray.empty, .int .i64 0, .int .i64 0] 1 [(0, 8, x62)]) true fun x63 H => bif (agn (ld1 ρ H x60) x61 && (agn (ldN ρ H 4 x56) x57 && (agn (ld1 ρ H x54) x55 && true))) then
            effK H (apA ρ lim H 52 8 88 x55 x63) fun x64 H =>
            purK (nilChkA x0) fun x65 =>
            purK (addA 2 x65) fun x66 =>
            effK H (stA lim H 1 x66 x64) fun _ H =>
            N5_1 ρ call yc lim k x0 x24 x25 H retK
          else none
        else none)
      (
        purK (addA 0 x3) fun x68 =>
        purK (ld1 ρ H x68) fun x69 =>
        purK (binA Tryz.prog H .eql 3 x69 (.int .i64 9)) fun x70 =>
        condK x70
        (
          purK (nilChkA x0) fun x72 =>
          purK (addA 3 x72) fun x73 =>
          effK H (stA lim H 1 x73 .nils) fun _ H =>
          purK (nilChkA x0) fun x75 =>
          purK (addA 4 x75) fun x76 =>
          purK (ld1 ρ H x76) fun x77 =>
          purK (binA Tryz.prog H .lss 3 x77 (.int .i64 0)) fun x78 =>
          condK x78
          (
            purK (nilChkA x0) fun x81 =>
            purK (addA 2 x81) fun x82 =>
            purK (ld1 ρ H x82) fun x83 =>
            purK (lenS x83) fun x84 =>
            purK (nilChkA x0) fun x85 =>
            purK (addA 4 x85) fun x86 =>
            effK H (stA lim H 1 x86 x84) fun _ H =>
            N5_1 ρ call yc lim k x0 x24 x25 H retK)
          (
            N5_1 ρ call yc lim k x0 x24 x25 H retK))
        (
          N5_1 ρ call yc lim k x0 x24 x25 H retK))))
theorem L5_x (ρ : Addr → Option Value) (call : CallF) (yc : YieldF) (lim k : Nat) (J : CodeF) (x0 x1 : AV) (H : Heap) :
    evX (cx ρ) call yc false 5 lim k J c5 [x0, x1, (.tup []), (.tup []), (.tup []), (.tup []), (.tup []), (.tup []), (.tup []), (.tup []), (.tup []), (.tup []), (.tup []), (.tup []), (.tup []), (.tup []), (.tup []), (.tup []), (.tup []), (.tup []), (.tup []), (.tup []), (.tup []), (.tup []), (.tup []), (.tup []), (.tup []), (.tup []), (.tup []), (.tup []), (.tup []), (.tup []), (.tup []), (.tup []), (.tup []), (.tup []), (.tup []), (.tup []), (.tup []), (.tup []), (.tup []), (.tup []), (.tup []), (.tup []), (.tup []), (.tup []), (.tup []), (.tup []), (.tup []), (.tup []), (.tup []), (.tup []), (.tup []), (.tup []), (.tup []), (.tup []), (.tup []), (.tup []), (.tup []), (.tup []), (.tup []), (.tup []), (.tup []), (.tup []), (.tup []), (.tup []), (.tup []), (.tup []), (.tup []), (.tup []), (.tup []), (.tup []), (.tup []), (.tup []), (.tup []), (.tup []), (.tup []), (.tup []), (.tup []), (.tup []), (.tup []), (.tup []), (.tup []), (.tup []), (.tup []), (.tup []), (.tup []), (.tup []), (.tup []), (.tup []), (.tup []), (.tup []), (.tup []), (.tup []), (.tup []), (.tup []), (.tup []), (.tup []), (.tup [])] H (kk none (fun s H => retK (([4, 5] : List Nat).map fun t => s.getD t (.tup [])) H) [] retK [4, 5]) =
  effK H (boxA H 27 x1) fun x3 H =>
  purK (binA Tryz.prog H .eql 29 x0 .nilp) fun x9 =>
  condK x9
  (
    retK [(.int .i64 0), (.int .i64 2)] H)
  (
    purK (nilChkA x0) fun x11 =>
    purK (addA 1 x11) fun x12 =>
    purK (ld1 ρ H x12) fun x13 =>
    purK (binA Tryz.prog H .add 3 x13 (.int .i64 2)) fun x14 =>
    purK (nilChkA x0) fun x15 =>
    purK (addA 1 x15) fun x16 =>
    effK H (stA lim H 1 x16 x14) fun _ H =>
    purK (nilChkA x0) fun x19 =>
    purK (addA 0 x19) fun x20 =>
    purK (ld1 ρ H x20) fun x21 =>
    purK (ldN ρ H 8 x3) fun x22 =>
    resK (call lim 16 [x21, x22] H) fun x23 H =>
    purK (extA 0 x23) fun x24 =>
    purK (extA 1 x23) fun x25 =>
    purK (binA Tryz.prog H .neq 30 x25 (.int .i64 0)) fun x28 =>
    condK x28
    (
      J (Code.at [1, 1, 1, 1, 1] c5) (sp 99 [(0, x0), (6, x24), (7, x25)]) H (kk none (fun s H => retK (([4, 5] : List Nat).map fun t => s.getD t (.tup [])) H) [] retK [4, 5]))
    (
      purK (addA 0 x3) fun x30 =>
      purK (ld1 ρ H x30) fun x31 =>
      purK (binA Tryz.prog H .eql 3 x31 (.int .i64 1)) fun x32 =>
      condK x32
      (
        purK (nilChkA x0) fun x35 =>
        purK (addA 3 x35) fun x36 =>
        purK (ld1 ρ H x36) fun x37 =>
        purK (addA 1 x3) fun x38 =>
        purK (ld1 ρ H x38) fun x39 =>
        purK (nilChkA x0) fun x42 =>
        purK (addA 2 x42) fun x43 =>
        purK (ld1 ρ H x43) fun x44 =>
        purK (lenS x44) fun x45 =>
        purK (bldA [.int .i64 0, .int .i64 0, .int .i64 0] [(0, 1, x39), (1, 1, x24), (2, 1, x45)]) fun x46 =>
        mkK H (bldS H 57 3 [.int .i64 0, .int .i64 0, .int .i64 0] 1 [(0, 3, x46)]) true fun x47 H => bif (agn (lenS x44) x45 && (agn (ld1 ρ H x43) x44 && (agn (ld1 ρ H x38) x39 && (agn (ld1 ρ H x36) x37 && true)))) then
          effK H (apA ρ lim H 57 3 24 x37 x47) fun x48 H =>
          purK (nilChkA x0) fun x49 =>
          purK (addA 3 x49) fun x50 =>
          effK H (stA lim H 1 x50 x48) fun _ H =>
          purK (nilChkA x0) fun x53 =>
          purK (addA 2 x53) fun x54 =>
          purK (ld1 ρ H x54) fun x55 =>
          purK (addA 3 x3) fun x56 =>
          purK (ldN ρ H 4 x56) fun x57 =>
          purK (nilChkA x0) fun x59 =>
          purK (addA 1 x59) fun x60 =>
          purK (ld1 ρ H x60) fun x61 =>
          purK (bldA [.int .i64 0, .str ByteArray.empty, .str ByteArray.empty, .int .u64 0, .int .i64 0, .str ByteArray.empty, .int .i64 0, .int .i64 0] [(0, 4, x57), (6, 1, x61)]) fun x62 =>
          mkK H (bldS H 52 8 [.int .i64 0, .str ByteArray.empty, .str ByteArray.empty, .int .u64 0, .int .i64 0, .str ByteArray.empty, .int .i64 0, .int .i64 0] 1 [(0, 8, x62)]) true fun x63 H => bif (agn (ld1 ρ H x60) x61 && (agn (ldN ρ H 4 x56) x57 && (agn (ld1 ρ H x54) x55 && true))) then
            effK H (apA ρ lim H 52 8 88 x55 x63) fun x64 H =>
            purK (nilChkA x0) fun x65 =>
            purK (addA 2 x65) fun x66 =>
            effK H (stA lim H 1 x66 x64) fun _ H =>
            J (Code.at [1, 1, 1, 1, 1] c5) (sp 99 [(0, x0), (6, x24), (7, x25)]) H (kk none (fun s H => retK (([4, 5] : List Nat).map fun t => s.getD t (.tup [])) H) [] retK [4, 5])
          else none
        else none)
      (
        purK (addA 0 x3) fun x68 =>
        purK (ld1 ρ H x68) fun x69 =>
        purK (binA Tryz.prog H .eql 3 x69 (.int .i64 9)) fun x70 =>
        condK x70
        (
          purK (nilChkA x0) fun x72 =>
          purK (addA 3 x72) fun x73 =>
          effK H (stA lim H 1 x73 .nils) fun _ H =>
          purK (nilChkA x0) fun x75 =>
          purK (addA 4 x75) fun x76 =>
          purK (ld1 ρ H x76) fun x77 =>
          purK (binA Tryz.prog H .lss 3 x77 (.int .i64 0)) fun x78 =>
          condK x78
          (
            purK (nilChkA x0) fun x81 =>
            purK (addA 2 x81) fun x82 =>
            purK (ld1 ρ H x82) fun x83 =>
            purK (lenS x83) fun x84 =>
            purK (nilChkA x0) fun x85 =>
            purK (addA 4 x85) fun x86 =>
            effK H (stA lim H 1 x86 x84) fun _ H =>
            J (Code.at [1, 1, 1, 1, 1] c5) (sp 99 [(0, x0), (6, x24), (7, x25)]) H (kk none (fun s H => retK (([4, 5] : List Nat).map fun t => s.getD t (.tup [])) H) [] retK [4, 5]))
          (
            J (Code.at [1, 1, 1, 1, 1] c5) (sp 99 [(0, x0), (6, x24), (7, x25)]) H (kk none (fun s H => retK (([4, 5] : List Nat).map fun t => s.getD t (.tup [])) H) [] retK [4, 5])))
        (
          J (Code.at [1, 1, 1, 1, 1] c5) (sp 99 [(0, x0), (6, x24), (7, x25)]) H (kk none (fun s H => retK (([4, 5] : List Nat).map fun t => s.getD t (.tup [])) H) [] retK [4, 5]))))) := by
  kernel_rfl
theorem G5 (ρ : Addr → Option Value) (call : CallF) (yc : YieldF) (lim k : Nat) (x0 x1 : AV) (H : Heap) :
    evL (cx ρ) call yc false 5 lim k c5 [x0, x1, (.tup []), (.tup []), (.tup []), (.tup []), (.tup []), (.tup []), (.tup []), (.tup []), (.tup []), (.tup []), (.tup []), (.tup []), (.tup []), (.tup []), (.tup []), (.tup []), (.tup []), (.tup []), (.tup []), (.tup []), (.tup []), (.tup []), (.tup []), (.tup []), (.tup []), (.tup []), (.tup []), (.tup []), (.tup []), (.tup []), (.tup []), (.tup []), (.tup []), (.tup []), (.tup []), (.tup []), (.tup []), (.tup []), (.tup []), (.tup []), (.tup []), (.tup []), (.tup []), (.tup []), (.tup []), (.tup []), (.tup []), (.tup []), (.tup []), (.tup []), (.tup []), (.tup []), (.tup []), (.tup []), (.tup []), (.tup []), (.tup []), (.tup []), (.tup []), (.tup []), (.tup []), (.tup []), (.tup []), (.tup []), (.tup []), (.tup []), (.tup []), (.tup []), (.tup []), (.tup []), (.tup []), (.tup []), (.tup []), (.tup []), (.tup []), (.tup []), (.tup []), (.tup []), (.tup []), (.tup []), (.tup []), (.tup []), (.tup []), (.tup []), (.tup []), (.tup []), (.tup []), (.tup []), (.tup []), (.tup []), (.tup []), (.tup []), (.tup []), (.tup []), (.tup []), (.tup []), (.tup [])] H (kk none (fun s H => retK (([4, 5] : List Nat).map fun t => s.getD t (.tup [])) H) [] retK [4, 5]) = L5 ρ call yc lim k x0 x1 H := by
  rw [evL_X, L5_x]
  simp only [← evL_X, L5, N5_1_eq]
theorem E5 (ρ : Addr → Option Value) (k lim : Nat) (x0 x1 : AV) (H : Heap) : evCall (cx ρ) (k + 1) lim 5 [x0, x1] H = L5 ρ (evCall (cx ρ) k) (evCY (cx ρ) k).2 lim k x0 x1 H := by
  rw [evCall_body (cx ρ) k lim 5 _ H Tryz.f5 c5 [4, 5] (by kernel_rfl) (by kernel_rfl) (by kernel_rfl) (by kernel_rfl) (by kernel_rfl)]
  exact G5 ρ (evCall (cx ρ) k) (evCY (cx ρ) k).2 lim k x0 x1 H
-- (*haycroft/watch.Watch).Ordered
noncomputable def c6 : Code := Code.of Tryz.prog 6
noncomputable def N6_1 (ρ : Addr → Option Value) (call : CallF) (yc : YieldF) (lim k : Nat) (x4 : AV) (H : Heap) (R : List AV → Heap → Res) : Res :=
  resK (call lim 19 [x4] H) fun x23_1 H =>
  purK (extA 0 x23_1) fun x24_1 =>
  purK (extA 1 x23_1) fun x25_1 =>
  R [x24_1, x25_1] H
theorem N6_1_eq (ρ : Addr → Option Value) (call : CallF) (yc : YieldF) (lim k : Nat) (x4 : AV) (H : Heap) (R : List AV → Heap → Res) :
    evL (cx ρ) call yc false 6 lim k (Code.at [1, 1, 1, 1] c6) (sp 26 [(4, x4)]) H (kk none (fun s H => R (([2, 3] : List Nat).map fun t => s.getD t (.tup [])) H) [] R [2, 3]) = N6_1 ρ call yc lim k x4 H R := by
  kernel_rfl
noncomputable def L6 (ρ : Addr → Option Value) (call : CallF) (yc : YieldF) (lim k : Nat) (x0 : AV) (H : Heap) : Res :=
  purK (binA Tryz.prog H .eql 29 x0 .nilp) fun x6 =>
  condK x6
  (
    retK [(.bool false), (.int .i64 2)] H)
  (
    purK (nilChkA x0) fun x8 =>
    purK (addA 2 x8) fun x9 =>
    purK (ld1 ρ H x9) fun x10 =>
    purK (nilChkA x0) fun x12 =>
    purK (addA 4 x12) fun x13 =>
    purK (ld1 ρ H x13) fun x14 =>
    purK (binA Tryz.prog H .geq 3 x14 (.int .i64 0)) fun x15 =>
    condK x15
    (
      purK (nilChkA x0) fun x18 =>
      purK (addA 4 x18) fun x19 =>
      purK (ld1 ρ H x19) fun x20 =>
      purK (slS 8 x10 none (some x20) none) fun x21 =>
      N6_1 ρ call yc lim k x21 H retK)
    (
      N6_1 ρ call yc lim k x10 H retK))
theorem L6_x (ρ : Addr → Option Value) (call : CallF) (yc : YieldF) (lim k : Nat) (J : CodeF) (x0 : AV) (H : Heap) :
    evX (cx ρ) call yc false 6 lim k J c6 [x0, (.tup []), (.tup []), (.tup []), (.tup []), (.tup []), (.tup []), (.tup []), (.tup []), (.tup []), (.tup []), (.tup []), (.tup []), (.tup []), (.tup []), (.tup []), (.tup []), (.tup []), (.tup []), (.tup []), (.tup []), (.tup []), (.tup []), (.tup []), (.tup []), (.tup [])] H (kk none (fun s H => retK (([2, 3] : List Nat).map fun t => s.getD t (.tup [])) H) [] retK [2, 3]) =
  purK (binA Tryz.prog H .eql 29 x0 .nilp) fun x6 =>
  condK x6
  (
    retK [(.bool false), (.int .i64 2)] H)
  (
    purK (nilChkA x0) fun x8 =>
    purK (addA 2 x8) fun x9 =>
    purK (ld1 ρ H x9) fun x10 =>
    purK (nilChkA x0) fun x12 =>
    purK (addA 4 x12) fun x13 =>
    purK (ld1 ρ H x13) fun x14 =>
    purK (binA Tryz.prog H .geq 3 x14 (.int .i64 0)) fun x15 =>
    condK x15
    (
      purK (nilChkA x0) fun x18 =>
      purK (addA 4 x18) fun x19 =>
      purK (ld1 ρ H x19) fun x20 =>
      purK (slS 8 x10 none (some x20) none) fun x21 =>
      J (Code.at [1, 1, 1, 1] c6) (sp 26 [(4, x21)]) H (kk none (fun s H => retK (([2, 3] : List Nat).map fun t => s.getD t (.tup [])) H) [] retK [2, 3]))
    (
      J (Code.at [1, 1, 1, 1] c6) (sp 26 [(4, x10)]) H (kk none (fun s H => retK (([2, 3] : List Nat).map fun t => s.getD t (.tup [])) H) [] retK [2, 3]))) := by
  kernel_rfl
theorem G6 (ρ : Addr → Option Value) (call : CallF) (yc : YieldF) (lim k : Nat) (x0 : AV) (H : Heap) :
    evL (cx ρ) call yc false 6 lim k c6 [x0, (.tup []), (.tup []), (.tup []), (.tup []), (.tup []), (.tup []), (.tup []), (.tup []), (.tup []), (.tup []), (.tup []), (.tup []), (.tup []), (.tup []), (.tup []), (.tup []), (.tup []), (.tup []), (.tup []), (.tup []), (.tup []), (.tup []), (.tup []), (.tup []), (.tup [])] H (kk none (fun s H => retK (([2, 3] : List Nat).map fun t => s.getD t (.tup [])) H) [] retK [2, 3]) = L6 ρ call yc lim k x0 H := by
  rw [evL_X, L6_x]
  simp only [← evL_X, L6, N6_1_eq]
theorem E6 (ρ : Addr → Option Value) (k lim : Nat) (x0 : AV) (H : Heap) : evCall (cx ρ) (k + 1) lim 6 [x0] H = L6 ρ (evCall (cx ρ) k) (evCY (cx ρ) k).2 lim k x0 H := by
  rw [evCall_body (cx ρ) k lim 6 _ H Tryz.f6 c6 [2, 3] (by kernel_rfl) (by kernel_rfl) (by kernel_rfl) (by kernel_rfl) (by kernel_rfl)]
  exact G6 ρ (evCall (cx ρ) k) (evCY (cx ρ) k).2 lim k x0 H
-- haycroft/watch.New
noncomputable def c7 : Code := Code.of Tryz.prog 7
noncomputable def L7 (ρ : Addr → Option Value) (call : CallF) (yc : YieldF) (lim k : Nat) (x0 : AV) (H : Heap) : Res :=
  purK (binA Tryz.prog H .eql 38 x0 .nilp) fun x5 =>
  condK x5
  (
    retK [.nilp, (.int .i64 2)] H)
  (
    purK (bldA [.nilp, .int .i64 0, .nils, .nils, .int .i64 0] [(0, 1, x0), (4, 1, (.int .i64 (-1)))]) fun x7 =>
    effK H (boxA H 55 x7) fun x8 H =>
    retK [x8, (.int .i64 0)] H)
theorem G7 (ρ : Addr → Option Value) (call : CallF) (yc : YieldF) (lim k : Nat) (x0 : AV) (H : Heap) :
    evL (cx ρ) call yc false 7 lim k c7 [x0, (.tup []), (.tup []), (.tup []), (.tup []), (.tup []), (.tup []), (.tup []), (.tup [])] H (kk none (fun s H => retK (([2, 3] : List Nat).map fun t => s.getD t (.tup [])) H) [] retK [2, 3]) = L7 ρ call yc lim k x0 H := by
  kernel_rfl
theorem E7 (ρ : Addr → Option Value) (k lim : Nat) (x0 : AV) (H : Heap) : evCall (cx ρ) (k + 1) lim 7 [x0] H = L7 ρ (evCall (cx ρ) k) (evCY (cx ρ) k).2 lim k x0 H := by
  rw [evCall_body (cx ρ) k lim 7 _ H Tryz.f7 c7 [2, 3] (by kernel_rfl) (by kernel_rfl) (by kernel_rfl) (by kernel_rfl) (by kernel_rfl)]
  exact G7 ρ (evCall (cx ρ) k) (evCY (cx ρ) k).2 lim k x0 H
-- (*haycroft/watch.Watch).Calm
noncomputable def c8 : Code := Code.of Tryz.prog 8
noncomputable def N8_2 (ρ : Addr → Option Value) (call : CallF) (yc : YieldF) (lim k : Nat) (x5 : AV) (H : Heap) (R : List AV → Heap → Res) : Res :=
  R [x5] H
theorem N8_2_eq (ρ : Addr → Option Value) (call : CallF) (yc : YieldF) (lim k : Nat) (x5 : AV) (H : Heap) (R : List AV → Heap → Res) :
    evL (cx ρ) call yc false 8 lim k (Code.at [1, 1, 1] c8) (sp 27 [(5, x5)]) H (kk none (fun s H => R (([4] : List Nat).map fun t => s.getD t (.tup [])) H) [] R [4]) = N8_2 ρ call yc lim k x5 H R := by
  kernel_rfl
noncomputable def N8_3b (ρ : Addr → Option Value) (call : CallF) (yc : YieldF) (lim k : Nat) (x0 x1 x5 : AV) (H : Heap) (kn : AV → AV → AV → Heap → Res) (k0 : AV → Heap → Res) : Res :=
  resK (call lim 12 [x0] H) fun x7_1 H =>
  purK (binA Tryz.prog H .gtr 3 x7_1 (.int .i64 0)) fun x8_1 =>
  purK (gPur (wantV x8_1 true) (some x0)) fun x10_1 =>
  purK (gPur (wantV x8_1 true) (nilChkA x10_1)) fun x11_1 =>
  purK (gPur (wantV x8_1 true) (addA 0 x11_1)) fun x12_1 =>
  purK (gPur (wantV x8_1 true) (ld1 ρ H x12_1)) fun x13_1 =>
  resK (gRes (wantV x8_1 true) H (call lim 20 [x13_1] H)) fun x14_1 H =>
  purK (pickA x8_1 x14_1 (.bool false)) fun x15_1 =>
  purK (gPur (wantV x15_1 true) (some x5)) fun x17_1 =>
  purK (gPur (wantV x15_1 true) (some x1)) fun x18_1 =>
  purK (gPur (wantV x15_1 true) (foldsA minA [x18_1, (.int .i64 65536)])) fun x19_1 =>
  purK (gPur (wantV x15_1 true) (binA Tryz.prog H .lss 3 x17_1 x19_1)) fun x20_1 =>
  purK (pickA x15_1 x20_1 (.bool false)) fun x21_1 =>
  condK x21_1
  (
    resK (call lim 21 [x0] H) fun x23_1 H =>
    purK (binA Tryz.prog H .add 3 x5 (.int .i64 1)) fun x25_1 =>
    kn x0 x1 x25_1 H)
  (
    k0 x5 H)
theorem N8_3b_eq (ρ : Addr → Option Value) (call : CallF) (yc : YieldF) (lim k : Nat) (x0 x1 x5 : AV) (H : Heap) (kn : KS) (k0 : KS) (R : List AV → Heap → Res) :
    evL (cx ρ) call yc false 8 lim k (Code.at [1, 1, 0, 0, 0] c8) (sp 27 [(0, x0), (1, x1), (5, x5)]) H (kk (some [0, 1, 5]) kn [(0, (some [5]), k0)] R [4]) = N8_3b ρ call yc lim k x0 x1 x5 H (fun x0 x1 x5 H => kn (sp 27 [(0, x0), (1, x1), (5, x5)]) H) (fun x5 H => k0 (sp 27 [(5, x5)]) H) := by
  kernel_rfl
noncomputable def N8_3 (ρ : Addr → Option Value) (call : CallF) (yc : YieldF) (lim k : Nat) (x0 x1 x5 : AV) (H : Heap) (k0 : AV → Heap → Res) : Res :=
  loopL (fun (x : AV) H kn => N8_3b ρ call yc lim k x0 x1 x H (fun _ _ x5 H => kn x5 H) k0) k x5 H
theorem N8_3_eq (ρ : Addr → Option Value) (call : CallF) (yc : YieldF) (lim k : Nat) (x0 x1 x5 : AV) (H : Heap) (kn : KS) (k0 : KS) (R : List AV → Heap → Res) :
    evL (cx ρ) call yc false 8 lim k (Code.at [1, 1, 0, 0] c8) (sp 27 [(0, x0), (1, x1), (5, x5)]) H (kk (some [5]) kn [(0, (some [5]), k0)] R [4]) = N8_3 ρ call yc lim k x0 x1 x5 H (fun x5 H => k0 (sp 27 [(5, x5)]) H) := by
  have e : Code.at [1, 1, 0, 0] c8 = .loop (Code.at [1, 1, 0, 0, 0] c8) := by kernel_rfl
  rw [e]
  unfold N8_3
  exact loop_node [0, 1, 5] (fun x : AV => (sp 27 [(0, x0), (1, x1), (5, (x))])) (fun (x : AV) H kn => N8_3b ρ call yc lim k x0 x1 x H (fun _ _ x5 H => kn x5 H) (fun x5 H => k0 (sp 27 [(5, x5)]) H)) (by kernel_rfl) (fun x => by kernel_rfl) (fun x H kn => N8_3b_eq ρ call yc lim k x0 x1 (x) H kn k0 R) x5 (sp 27 [(0, x0), (1, x1), (5, x5)]) H (by kernel_rfl)
noncomputable def N8_1 (ρ : Addr → Option Value) (call : CallF) (yc : YieldF) (lim k : Nat) (x0 x1 x5 : AV) (H : Heap) (R : List AV → Heap → Res) : Res :=
  N8_3 ρ call yc lim k x0 x1 x5 H (fun x5_1 H =>
    N8_2 ρ call yc lim k x5_1 H R)
theorem N8_1_x (ρ : Addr → Option Value) (call : CallF) (yc : YieldF) (lim k : Nat) (J : CodeF) (x0 x1 x5 : AV) (H : Heap) (R : List AV → Heap → Res) :
    evX (cx ρ) call yc false 8 lim k J (Code.at [1, 1] c8) (sp 27 [(0, x0), (1, x1), (5, x5)]) H (kk none (fun s H => R (([4] : List Nat).map fun t => s.getD t (.tup [])) H) [] R [4]) =
  J (Code.at [1, 1, 0, 0] c8) (sp 27 [(0, x0), (1, x1), (5, x5)]) H (kk (some [5]) (fun s H => J (Code.at [1, 1, 1] c8) s H (kk none (fun s H => R (([4] : List Nat).map fun t => s.getD t (.tup [])) H) [] R [4])) [(0, (some [5]), (fun s H => J (Code.at [1, 1, 1] c8) s H (kk none (fun s H => R (([4] : List Nat).map fun t => s.getD t (.tup [])) H) [] R [4])))] R [4]) := by
  kernel_rfl
theorem N8_1_eq (ρ : Addr → Option Value) (call : CallF) (yc : YieldF) (lim k : Nat) (x0 x1 x5 : AV) (H : Heap) (R : List AV → Heap → Res) :
    evL (cx ρ) call yc false 8 lim k (Code.at [1, 1] c8) (sp 27 [(0, x0), (1, x1), (5, x5)]) H (kk none (fun s H => R (([4] : List Nat).map fun t => s.getD t (.tup [])) H) [] R [4]) = N8_1 ρ call yc lim k x0 x1 x5 H R := by
  rw [evL_X, N8_1_x]
  simp only [← evL_X, N8_1, N8_2_eq, N8_3_eq]
noncomputable def L8 (ρ : Addr → Option Value) (call : CallF) (yc : YieldF) (lim k : Nat) (x0 x1 : AV) (H : Heap) : Res :=
  N8_1 ρ call yc lim k x0 x1 (.int .i64 0) H retK
theorem L8_x (ρ : Addr → Option Value) (call : CallF) (yc : YieldF) (lim k : Nat) (J : CodeF) (x0 x1 : AV) (H : Heap) :
    evX (cx ρ) call yc false 8 lim k J c8 [x0, x1, (.tup []), (.tup []), (.tup []), (.tup []), (.tup []), (.tup []), (.tup []), (.tup []), (.tup []), (.tup []), (.tup []), (.tup []), (.tup []), (.tup []), (.tup []), (.tup []), (.tup []), (.tup []), (.tup []), (.tup []), (.tup []), (.tup []), (.tup []), (.tup []), (.tup [])] H (kk none (fun s H => retK (([4] : List Nat).map fun t => s.getD t (.tup [])) H) [] retK [4]) =
  J (Code.at [1, 1] c8) (sp 27 [(0, x0), (1, x1), (5, (.int .i64 0))]) H (kk none (fun s H => retK (([4] : List Nat).map fun t => s.getD t (.tup [])) H) [] retK [4]) := by
  kernel_rfl
theorem G8 (ρ : Addr → Option Value) (call : CallF) (yc : YieldF) (lim k : Nat) (x0 x1 : AV) (H : Heap) :
    evL (cx ρ) call yc false 8 lim k c8 [x0, x1, (.tup []), (.tup []), (.tup []), (.tup []), (.tup []), (.tup []), (.tup []), (.tup []), (.tup []), (.tup []), (.tup []), (.tup []), (.tup []), (.tup []), (.tup []), (.tup []), (.tup []), (.tup []), (.tup []), (.tup []), (.tup []), (.tup []), (.tup []), (.tup []), (.tup [])] H (kk none (fun s H => retK (([4] : List Nat).map fun t => s.getD t (.tup [])) H) [] retK [4]) = L8 ρ call yc lim k x0 x1 H := by
  rw [evL_X, L8_x]
  simp only [← evL_X, L8, N8_1_eq]
theorem E8 (ρ : Addr → Option Value) (k lim : Nat) (x0 x1 : AV) (H : Heap) : evCall (cx ρ) (k + 1) lim 8 [x0, x1] H = L8 ρ (evCall (cx ρ) k) (evCY (cx ρ) k).2 lim k x0 x1 H := by
  rw [evCall_body (cx ρ) k lim 8 _ H Tryz.f8 c8 [4] (by kernel_rfl) (by kernel_rfl) (by kernel_rfl) (by kernel_rfl) (by kernel_rfl)]
  exact G8 ρ (evCall (cx ρ) k) (evCY (cx ρ) k).2 lim k x0 x1 H
-- (*haycroft/watch.Watch).Store
noncomputable def c9 : Code := Code.of Tryz.prog 9
noncomputable def L9 (ρ : Addr → Option Value) (call : CallF) (yc : YieldF) (lim k : Nat) (x0 : AV) (H : Heap) : Res :=
  purK (binA Tryz.prog H .eql 29 x0 .nilp) fun x4 =>
  condK x4
  (
    retK [.nilp] H)
  (
    purK (nilChkA x0) fun x6 =>
    purK (addA 0 x6) fun x7 =>
    purK (ld1 ρ H x7) fun x8 =>
    retK [x8] H)
theorem G9 (ρ : Addr → Option Value) (call : CallF) (yc : YieldF) (lim k : Nat) (x0 : AV) (H : Heap) :
    evL (cx ρ) call yc false 9 lim k c9 [x0, (.tup []), (.tup []), (.tup []), (.tup []), (.tup []), (.tup []), (.tup []), (.tup [])] H (kk none (fun s H => retK (([2] : List Nat).map fun t => s.getD t (.tup [])) H) [] retK [2]) = L9 ρ call yc lim k x0 H := by
  kernel_rfl
theorem E9 (ρ : Addr → Option Value) (k lim : Nat) (x0 : AV) (H : Heap) : evCall (cx ρ) (k + 1) lim 9 [x0] H = L9 ρ (evCall (cx ρ) k) (evCY (cx ρ) k).2 lim k x0 H := by
  rw [evCall_body (cx ρ) k lim 9 _ H Tryz.f9 c9 [2] (by kernel_rfl) (by kernel_rfl) (by kernel_rfl) (by kernel_rfl) (by kernel_rfl)]
  exact G9 ρ (evCall (cx ρ) k) (evCY (cx ρ) k).2 lim k x0 H
-- (*haycroft/watch.Watch).Now
noncomputable def c10 : Code := Code.of Tryz.prog 10
noncomputable def L10 (ρ : Addr → Option Value) (call : CallF) (yc : YieldF) (lim k : Nat) (x0 : AV) (H : Heap) : Res :=
  purK (binA Tryz.prog H .eql 29 x0 .nilp) fun x4 =>
  condK x4
  (
    retK [(.int .i64 0)] H)
  (
    purK (nilChkA x0) fun x6 =>
    purK (addA 1 x6) fun x7 =>
    purK (ld1 ρ H x7) fun x8 =>
    retK [x8] H)
theorem G10 (ρ : Addr → Option Value) (call : CallF) (yc : YieldF) (lim k : Nat) (x0 : AV) (H : Heap) :
    evL (cx ρ) call yc false 10 lim k c10 [x0, (.tup []), (.tup []), (.tup []), (.tup []), (.tup []), (.tup []), (.tup []), (.tup [])] H (kk none (fun s H => retK (([2] : List Nat).map fun t => s.getD t (.tup [])) H) [] retK [2]) = L10 ρ call yc lim k x0 H := by
  kernel_rfl
theorem E10 (ρ : Addr → Option Value) (k lim : Nat) (x0 : AV) (H : Heap) : evCall (cx ρ) (k + 1) lim 10 [x0] H = L10 ρ (evCall (cx ρ) k) (evCY (cx ρ) k).2 lim k x0 H := by
  rw [evCall_body (cx ρ) k lim 10 _ H Tryz.f10 c10 [2] (by kernel_rfl) (by kernel_rfl) (by kernel_rfl) (by kernel_rfl) (by kernel_rfl)]
  exact G10 ρ (evCall (cx ρ) k) (evCY (cx ρ) k).2 lim k x0 H
-- (*haycroft/watch.Watch).Events
noncomputable def c11 : Code := Code.of Tryz.prog 11
noncomputable def L11 (ρ : Addr → Option Value) (call : CallF) (yc : YieldF) (lim k : Nat) (x0 : AV) (H : Heap) : Res :=
  purK (binA Tryz.prog H .eql 29 x0 .nilp) fun x4 =>
  condK x4
  (
    retK [.nils] H)
  (
    purK (nilChkA x0) fun x6 =>
    purK (addA 2 x6) fun x7 =>
    purK (ld1 ρ H x7) fun x8 =>
    resK (call lim 22 [x8] H) fun x9 H =>
    retK [x9] H)
theorem G11 (ρ : Addr → Option Value) (call : CallF) (yc : YieldF) (lim k : Nat) (x0 : AV) (H : Heap) :
    evL (cx ρ) call yc false 11 lim k c11 [x0, (.tup []), (.tup []), (.tup []), (.tup []), (.tup []), (.tup []), (.tup []), (.tup []), (.tup [])] H (kk none (fun s H => retK (([2] : List Nat).map fun t => s.getD t (.tup [])) H) [] retK [2]) = L11 ρ call yc lim k x0 H := by
  kernel_rfl
theorem E11 (ρ : Addr → Option Value) (k lim : Nat) (x0 : AV) (H : Heap) : evCall (cx ρ) (k + 1) lim 11 [x0] H = L11 ρ (evCall (cx ρ) k) (evCY (cx ρ) k).2 lim k x0 H := by
  rw [evCall_body (cx ρ) k lim 11 _ H Tryz.f11 c11 [2] (by kernel_rfl) (by kernel_rfl) (by kernel_rfl) (by kernel_rfl) (by kernel_rfl)]
  exact G11 ρ (evCall (cx ρ) k) (evCY (cx ρ) k).2 lim k x0 H
-- (*haycroft/watch.Watch).Open
noncomputable def c12 : Code := Code.of Tryz.prog 12
noncomputable def L12 (ρ : Addr → Option Value) (call : CallF) (yc : YieldF) (lim k : Nat) (x0 : AV) (H : Heap) : Res :=
  purK (binA Tryz.prog H .eql 29 x0 .nilp) fun x4 =>
  condK x4
  (
    retK [(.int .i64 0)] H)
  (
    purK (nilChkA x0) fun x6 =>
    purK (addA 3 x6) fun x7 =>
    purK (ld1 ρ H x7) fun x8 =>
    purK (lenS x8) fun x9 =>
    retK [x9] H)
theorem G12 (ρ : Addr → Option Value) (call : CallF) (yc : YieldF) (lim k : Nat) (x0 : AV) (H : Heap) :
    evL (cx ρ) call yc false 12 lim k c12 [x0, (.tup []), (.tup []), (.tup []), (.tup []), (.tup []), (.tup []), (.tup []), (.tup []), (.tup [])] H (kk none (fun s H => retK (([2] : List Nat).map fun t => s.getD t (.tup [])) H) [] retK [2]) = L12 ρ call yc lim k x0 H := by
  kernel_rfl
theorem E12 (ρ : Addr → Option Value) (k lim : Nat) (x0 : AV) (H : Heap) : evCall (cx ρ) (k + 1) lim 12 [x0] H = L12 ρ (evCall (cx ρ) k) (evCY (cx ρ) k).2 lim k x0 H := by
  rw [evCall_body (cx ρ) k lim 12 _ H Tryz.f12 c12 [2] (by kernel_rfl) (by kernel_rfl) (by kernel_rfl) (by kernel_rfl) (by kernel_rfl)]
  exact G12 ρ (evCall (cx ρ) k) (evCY (cx ρ) k).2 lim k x0 H
-- (*haycroft/watch.Watch).Bound
noncomputable def c13 : Code := Code.of Tryz.prog 13
noncomputable def L13 (ρ : Addr → Option Value) (call : CallF) (yc : YieldF) (lim k : Nat) (x0 : AV) (H : Heap) : Res :=
  purK (binA Tryz.prog H .eql 29 x0 .nilp) fun x5 =>
  condK x5
  (
    retK [(.int .i64 0)] H)
  (
    purK (nilChkA x0) fun x7 =>
    purK (addA 0 x7) fun x8 =>
    purK (ld1 ρ H x8) fun x9 =>
    resK (call lim 23 [x9] H) fun x10 H =>
    effK H (some (.ptr H.sz 0 0, .new (newCells 47 false [.int .i64 0, .int .i64 0, .int .i64 0, .int .i64 0, .int .i64 0, .int .i64 0]))) fun x3 H =>
    effK H (stA lim H 6 x3 x10) fun _ H =>
    purK (addA 1 x3) fun x15 =>
    purK (ld1 ρ H x15) fun x16 =>
    purK (addA 5 x3) fun x17 =>
    purK (ld1 ρ H x17) fun x18 =>
    purK (binA Tryz.prog H .add 3 x16 x18) fun x19 =>
    purK (binA Tryz.prog H .add 3 x19 (.int .i64 8)) fun x20 =>
    purK (nilChkA x0) fun x22 =>
    purK (addA 2 x22) fun x23 =>
    purK (ld1 ρ H x23) fun x24 =>
    purK (lenS x24) fun x25 =>
    purK (binA Tryz.prog H .add 3 x20 x25) fun x26 =>
    resK (call lim 12 [x0] H) fun x12 H => bif (agn (binA Tryz.prog H .add 3 x20 x25) x26 && (agn (lenS x24) x25 && (agn (ld1 ρ H x23) x24 && (agn (binA Tryz.prog H .add 3 x19 (.int .i64 8)) x20 && (agn (binA Tryz.prog H .add 3 x16 x18) x19 && (agn (ld1 ρ H x17) x18 && (agn (ld1 ρ H x15) x16 && true))))))) then
      purK (binA Tryz.prog H .add 3 x12 (.int .i64 1)) fun x13 =>
      purK (binA Tryz.prog H .mul 3 (.int .i64 64) x13) fun x14 =>
      purK (binA Tryz.prog H .mul 3 x14 x26) fun x27 =>
      retK [x27] H
    else none)
theorem G13 (ρ : Addr → Option Value) (call : CallF) (yc : YieldF) (lim k : Nat) (x0 : AV) (H : Heap) :
    evL (cx ρ) call yc false 13 lim k c13 [x0, (.tup []), (.tup []), (.tup []), (.tup []), (.tup []), (.tup []), (.tup []), (.tup []), (.tup []), (.tup []), (.tup []), (.tup []), (.tup []), (.tup []), (.tup []), (.tup []), (.tup []), (.tup []), (.tup []), (.tup []), (.tup []), (.tup []), (.tup []), (.tup []), (.tup []), (.tup []), (.tup [])] H (kk none (fun s H => retK (([2] : List Nat).map fun t => s.getD t (.tup [])) H) [] retK [2]) = L13 ρ call yc lim k x0 H := by
  kernel_rfl
theorem E13 (ρ : Addr → Option Value) (k lim : Nat) (x0 : AV) (H : Heap) : evCall (cx ρ) (k + 1) lim 13 [x0] H = L13 ρ (evCall (cx ρ) k) (evCY (cx ρ) k).2 lim k x0 H := by
  rw [evCall_body (cx ρ) k lim 13 _ H Tryz.f13 c13 [2] (by kernel_rfl) (by kernel_rfl) (by kernel_rfl) (by kernel_rfl) (by kernel_rfl)]
  exact G13 ρ (evCall (cx ρ) k) (evCY (cx ρ) k).2 lim k x0 H
-- haycroft/haycroftlaw26.Open
noncomputable def c14 : Code := Code.of Tryz.prog 14
noncomputable def L14 (ρ : Addr → Option Value) (call : CallF) (yc : YieldF) (lim k : Nat) (x0 : AV) (H : Heap) : Res :=
  effK H (boxA H 47 x0) fun x1 H =>
  purK (ldN ρ H 6 x1) fun x9 =>
  resK (call lim 25 [] H) fun x10 H => bif (agn (ldN ρ H 6 x1) x9 && true) then
    resK (call lim 24 [x9, x10] H) fun x11 H =>
    purK (extA 0 x11) fun x12 =>
    purK (extA 1 x11) fun x13 =>
    purK (binA Tryz.prog H .neq 30 x13 (.int .i64 0)) fun x15 =>
    condK x15
    (
      retK [.nilp, (.bool false)] H)
    (
      resK (call lim 7 [x12] H) fun x18 H =>
      purK (extA 0 x18) fun x19 =>
      purK (extA 1 x18) fun x20 =>
      purK (binA Tryz.prog H .eql 30 x20 (.int .i64 0)) fun x23 =>
      retK [x19, x23] H)
  else none
theorem G14 (ρ : Addr → Option Value) (call : CallF) (yc : YieldF) (lim k : Nat) (x0 : AV) (H : Heap) :
    evL (cx ρ) call yc false 14 lim k c14 [x0, (.tup []), (.tup []), (.tup []), (.tup []), (.tup []), (.tup []), (.tup []), (.tup []), (.tup []), (.tup []), (.tup []), (.tup []), (.tup []), (.tup []), (.tup []), (.tup []), (.tup []), (.tup []), (.tup []), (.tup []), (.tup []), (.tup []), (.tup [])] H (kk none (fun s H => retK (([2, 3] : List Nat).map fun t => s.getD t (.tup [])) H) [] retK [2, 3]) = L14 ρ call yc lim k x0 H := by
  kernel_rfl
theorem E14 (ρ : Addr → Option Value) (k lim : Nat) (x0 : AV) (H : Heap) : evCall (cx ρ) (k + 1) lim 14 [x0] H = L14 ρ (evCall (cx ρ) k) (evCY (cx ρ) k).2 lim k x0 H := by
  rw [evCall_body (cx ρ) k lim 14 _ H Tryz.f14 c14 [2, 3] (by kernel_rfl) (by kernel_rfl) (by kernel_rfl) (by kernel_rfl) (by kernel_rfl)]
  exact G14 ρ (evCall (cx ρ) k) (evCY (cx ρ) k).2 lim k x0 H
-- haycroft/haycroftlaw24.Plain
noncomputable def c15 : Code := Code.of Tryz.prog 15
noncomputable def L15 (ρ : Addr → Option Value) (call : CallF) (yc : YieldF) (lim k : Nat) (H : Heap) : Res :=
  effK H (some (.ptr H.sz 0 0, .new (newCells 47 false [.int .i64 0, .int .i64 0, .int .i64 0, .int .i64 0, .int .i64 0, .int .i64 0]))) fun x0 H =>
  purK (bldA [.int .i64 0, .int .i64 0, .int .i64 0, .int .i64 0, .int .i64 0, .int .i64 0] [(0, 1, (.int .i64 5)), (1, 1, (.int .i64 2)), (2, 1, (.int .i64 8)), (3, 1, (.int .i64 1)), (4, 1, (.int .i64 1)), (5, 1, (.int .i64 2))]) fun x1 =>
  effK H (stA lim H 6 x0 x1) fun _ H =>
  (retC (cx ρ) [some 47]) [x0] H
theorem G15 (ρ : Addr → Option Value) (call : CallF) (yc : YieldF) (lim k : Nat) (H : Heap) :
    evL (cx ρ) call yc false 15 lim k c15 [(.tup []), (.tup [])] H (kk none (fun s H => (retC (cx ρ) [some 47]) (([0] : List Nat).map fun t => s.getD t (.tup [])) H) [] (retC (cx ρ) [some 47]) [0]) = L15 ρ call yc lim k H := by
  kernel_rfl
theorem E15 (ρ : Addr → Option Value) (k lim : Nat) (H : Heap) : evCall (cx ρ) (k + 1) lim 15 [] H = L15 ρ (evCall (cx ρ) k) (evCY (cx ρ) k).2 lim k H := by
  rw [evCall_cells (cx ρ) k lim 15 _ H Tryz.f15 c15 [0] [some 47] (by kernel_rfl) (by kernel_rfl) (by kernel_rfl) (by kernel_rfl) (by kernel_rfl) (by kernel_rfl)]
  exact G15 ρ (evCall (cx ρ) k) (evCY (cx ρ) k).2 lim k H
-- (*haycroft/store.Store).Do
noncomputable def c16 : Code := Code.of Tryz.prog 16
noncomputable def L16 (ρ : Addr → Option Value) (call : CallF) (yc : YieldF) (lim k : Nat) (x0 x1 : AV) (H : Heap) : Res :=
  effK H (boxA H 27 x1) fun x3 H =>
  purK (ldN ρ H 8 x3) fun x8 =>
  resK (call lim 26 [x0, x8] H) fun x9 H =>
  purK (binA Tryz.prog H .neq 30 x9 (.int .i64 0)) fun x11 =>
  condK x11
  (
    retK [(.int .i64 0), x9] H)
  (
    purK (addA 0 x3) fun x13 =>
    purK (ld1 ρ H x13) fun x14 =>
    purK (binA Tryz.prog H .eql 3 x14 (.int .i64 1)) fun x16 =>
    condK x16
    (
      purK (ldN ρ H 8 x3) fun x18 =>
      resK (call lim 27 [x0, x18] H) fun x19 H =>
      purK (extA 0 x19) fun x20 =>
      purK (extA 1 x19) fun x21 =>
      retK [x20, x21] H)
    (
      purK (binA Tryz.prog H .eql 3 x14 (.int .i64 2)) fun x23 =>
      condK x23
      (
        purK (nilChkA x0) fun x25 =>
        purK (addA 7 x25) fun x26 =>
        purK (ld1 ρ H x26) fun x27 =>
        purK (nilChkA x27) fun x28 =>
        purK (addA 2 x28) fun x29 =>
        purK (ld1 ρ H x29) fun x30 =>
        purK (addA 1 x3) fun x31 =>
        purK (ld1 ρ H x31) fun x32 =>
        purK (ixS 1 x30 x32) fun x33 =>
        purK (ld1 ρ H x33) fun x34 =>
        resK (call lim 28 [x34] H) fun x35 H =>
        purK (extA 0 x35) fun x36 =>
        purK (extA 1 x35) fun x37 =>
        retK [x36, x37] H)
      (
        purK (binA Tryz.prog H .eql 3 x14 (.int .i64 3)) fun x39 =>
        condK x39
        (
          purK (nilChkA x0) fun x41 =>
          purK (addA 7 x41) fun x42 =>
          purK (ld1 ρ H x42) fun x43 =>
          purK (nilChkA x43) fun x44 =>
          purK (addA 2 x44) fun x45 =>
          purK (ld1 ρ H x45) fun x46 =>
          purK (addA 1 x3) fun x47 =>
          purK (ld1 ρ H x47) fun x48 =>
          purK (ixS 1 x46 x48) fun x49 =>
          purK (ld1 ρ H x49) fun x50 =>
          resK (call lim 29 [x50] H) fun x51 H =>
          purK (extA 0 x51) fun x52 =>
          purK (extA 1 x51) fun x53 =>
          retK [x52, x53] H)
        (
          purK (binA Tryz.prog H .eql 3 x14 (.int .i64 4)) fun x55 =>
          condK x55
          (
            purK (addA 2 x3) fun x57 =>
            purK (ld1 ρ H x57) fun x58 =>
            resK (call lim 30 [x0, x58] H) fun x59 H =>
            purK (extA 0 x59) fun x60 =>
            purK (extA 1 x59) fun x61 =>
            retK [x60, x61] H)
          (
            purK (binA Tryz.prog H .eql 3 x14 (.int .i64 5)) fun x63 =>
            condK x63
            (
              purK (nilChkA x0) fun x65 =>
              purK (addA 7 x65) fun x66 =>
              purK (ld1 ρ H x66) fun x67 =>
              purK (nilChkA x67) fun x68 =>
              purK (addA 0 x68) fun x69 =>
              purK (ld1 ρ H x69) fun x70 =>
              purK (addA 2 x3) fun x71 =>
              purK (ld1 ρ H x71) fun x72 =>
              resK (call lim 31 [x70, x72] H) fun x73 H =>
              retK [(.int .i64 0), x73] H)
            (
              purK (binA Tryz.prog H .eql 3 x14 (.int .i64 6)) fun x75 =>
              condK x75
              (
                purK (nilChkA x0) fun x77 =>
                purK (addA 7 x77) fun x78 =>
                purK (ld1 ρ H x78) fun x79 =>
                purK (nilChkA x79) fun x80 =>
                purK (addA 0 x80) fun x81 =>
                purK (ld1 ρ H x81) fun x82 =>
                purK (addA 2 x3) fun x83 =>
                purK (ld1 ρ H x83) fun x84 =>
                resK (call lim 32 [x82, x84] H) fun x85 H =>
                retK [(.int .i64 0), x85] H)
              (
                purK (binA Tryz.prog H .eql 3 x14 (.int .i64 7)) fun x87 =>
                condK x87
                (
                  purK (nilChkA x0) fun x89 =>
                  purK (addA 7 x89) fun x90 =>
                  purK (ld1 ρ H x90) fun x91 =>
                  purK (nilChkA x91) fun x92 =>
                  purK (addA 0 x92) fun x93 =>
                  purK (ld1 ρ H x93) fun x94 =>
                  purK (addA 2 x3) fun x95 =>
                  purK (ld1 ρ H x95) fun x96 =>
                  resK (call lim 33 [x94, x96] H) fun x97 H =>
                  purK (extA 0 x97) fun x98 =>
                  purK (extA 1 x97) fun x99 =>
                  retK [x98, x99] H)
                (
                  purK (binA Tryz.prog H .eql 3 x14 (.int .i64 8)) fun x101 =>
                  condK x101
                  (
                    resK (call lim 34 [x0] H) fun x103 H =>
                    purK (extA 0 x103) fun x104 =>
                    purK (extA 1 x103) fun x105 =>
                    retK [x104, x105] H)
                  (
                    purK (binA Tryz.prog H .eql 3 x14 (.int .i64 9)) fun x107 =>
                    condK x107
                    (
                      purK (addA 7 x3) fun x109 =>
                      purK (ld1 ρ H x109) fun x110 =>
                      resK (call lim 35 [x0, x110] H) fun x111 H =>
                      purK (extA 0 x111) fun x112 =>
                      purK (extA 1 x111) fun x113 =>
                      retK [x112, x113] H)
                    (
                      resK (call lim 36 [x0] H) fun x115 H =>
                      purK (extA 0 x115) fun x116 =>
                      purK (extA 1 x115) fun x117 =>
                      retK [x116, x117] H))))))))))
theorem G16 (ρ : Addr → Option Value) (call : CallF) (yc : YieldF) (lim k : Nat) (x0 x1 : AV) (H : Heap) :
    evL (cx ρ) call yc false 16 lim k c16 [x0, x1, (.tup []), (.tup []), (.tup []), (.tup []), (.tup []), (.tup []), (.tup []), (.tup []), (.tup []), (.tup []), (.tup []), (.tup []), (.tup []), (.tup []), (.tup []), (.tup []), (.tup []), (.tup []), (.tup []), (.tup []), (.tup []), (.tup []), (.tup []), (.tup []), (.tup []), (.tup []), (.tup []), (.tup []), (.tup []), (.tup []), (.tup []), (.tup []), (.tup []), (.tup []), (.tup []), (.tup []), (.tup []), (.tup []), (.tup []), (.tup []), (.tup []), (.tup []), (.tup []), (.tup []), (.tup []), (.tup []), (.tup []), (.tup []), (.tup []), (.tup []), (.tup []), (.tup []), (.tup []), (.tup []), (.tup []), (.tup []), (.tup []), (.tup []), (.tup []), (.tup []), (.tup []), (.tup []), (.tup []), (.tup []), (.tup []), (.tup []), (.tup []), (.tup []), (.tup []), (.tup []), (.tup []), (.tup []), (.tup []), (.tup []), (.tup []), (.tup []), (.tup []), (.tup []), (.tup []), (.tup []), (.tup []), (.tup []), (.tup []), (.tup []), (.tup []), (.tup []), (.tup []), (.tup []), (.tup []), (.tup []), (.tup []), (.tup []), (.tup []), (.tup []), (.tup []), (.tup []), (.tup []), (.tup []), (.tup []), (.tup []), (.tup []), (.tup []), (.tup []), (.tup []), (.tup []), (.tup []), (.tup []), (.tup []), (.tup []), (.tup []), (.tup []), (.tup []), (.tup []), (.tup []), (.tup []), (.tup [])] H (kk none (fun s H => retK (([4, 5] : List Nat).map fun t => s.getD t (.tup [])) H) [] retK [4, 5]) = L16 ρ call yc lim k x0 x1 H := by
  kernel_rfl
theorem E16 (ρ : Addr → Option Value) (k lim : Nat) (x0 x1 : AV) (H : Heap) : evCall (cx ρ) (k + 1) lim 16 [x0, x1] H = L16 ρ (evCall (cx ρ) k) (evCY (cx ρ) k).2 lim k x0 x1 H := by
  rw [evCall_body (cx ρ) k lim 16 _ H Tryz.f16 c16 [4, 5] (by kernel_rfl) (by kernel_rfl) (by kernel_rfl) (by kernel_rfl) (by kernel_rfl)]
  exact G16 ρ (evCall (cx ρ) k) (evCY (cx ρ) k).2 lim k x0 x1 H
-- slices.DeleteFunc[[]haycroft/watch.asked,haycroft/watch.asked]
noncomputable def c17 : Code := Code.of Tryz.prog 17
noncomputable def N17_1 (ρ : Addr → Option Value) (call : CallF) (yc : YieldF) (lim k : Nat) (x0 x5 : AV) (H : Heap) (R : List AV → Heap → Res) : Res :=
  purK (slS 3 x0 (some x5) none none) fun x38_1 =>
  effK H (builtinA (cx ρ) lim H .clear #[53] [x38_1]) fun _ H =>
  purK (slS 3 x0 none (some x5) none) fun x41_1 =>
  R [x41_1] H
theorem N17_1_eq (ρ : Addr → Option Value) (call : CallF) (yc : YieldF) (lim k : Nat) (x0 x5 : AV) (H : Heap) (R : List AV → Heap → Res) :
    evL (cx ρ) call yc false 17 lim k (Code.at [1, 1, 1, 1] c17) (sp 42 [(0, x0), (5, x5)]) H (kk none (fun s H => R (([4] : List Nat).map fun t => s.getD t (.tup [])) H) [] R [4]) = N17_1 ρ call yc lim k x0 x5 H R := by
  kernel_rfl
noncomputable def N17_4 (ρ : Addr → Option Value) (call : CallF) (yc : YieldF) (lim k : Nat) (x0 x1 x5 x6 : AV) (H : Heap) (kn : AV → AV → AV → AV → Heap → Res) : Res :=
  purK (binA Tryz.prog H .add 3 x6 (.int .i64 1)) fun x21_1 =>
  kn x0 x1 x5 x21_1 H
theorem N17_4_eq (ρ : Addr → Option Value) (call : CallF) (yc : YieldF) (lim k : Nat) (x0 x1 x5 x6 : AV) (H : Heap) (kn : KS) (k0 : KS) (R : List AV → Heap → Res) :
    evL (cx ρ) call yc false 17 lim k (Code.at [1, 1, 1, 0, 1, 0, 0, 1, 1] c17) (sp 42 [(0, x0), (1, x1), (5, x5), (6, x6)]) H (kk (some [0, 1, 5, 6]) kn [(0, (some [0, 5]), k0)] R [4]) = N17_4 ρ call yc lim k x0 x1 x5 x6 H (fun x0 x1 x5 x6 H => kn (sp 42 [(0, x0), (1, x1), (5, x5), (6, x6)]) H) := by
  kernel_rfl
noncomputable def N17_3b (ρ : Addr → Option Value) (call : CallF) (yc : YieldF) (lim k : Nat) (x0 x1 x5 x6 : AV) (H : Heap) (kn : AV → AV → AV → AV → Heap → Res) (k0 : AV → AV → Heap → Res) : Res :=
  purK (lenS x0) fun x18_1 =>
  purK (binA Tryz.prog H .lss 3 x6 x18_1) fun x19_1 =>
  condK x19_1
  (
    purK (ixS 3 x0 x6) fun x24_1 =>
    purK (ldN ρ H 3 x24_1) fun x25_1 =>
    effK H (some (.ptr H.sz 0 0, .new (newCells 57 false [.int .i64 0, .int .i64 0, .int .i64 0]))) fun x7_1 H =>
    effK H (stA lim H 3 x7_1 x25_1) fun _ H =>
    purK (ldN ρ H 3 x7_1) fun x27_1 =>
    valK call yc lim x1 [x27_1] H fun x28_1 H =>
    purK (unA .not x28_1) fun x29_1 =>
    condK x29_1
    (
      purK (ldN ρ H 3 x7_1) fun x32_1 =>
      purK (ixS 3 x0 x5) fun x33_1 =>
      effK H (stA lim H 3 x33_1 x32_1) fun _ H =>
      purK (binA Tryz.prog H .add 3 x5 (.int .i64 1)) fun x35_1 =>
      N17_4 ρ call yc lim k x0 x1 x35_1 x6 H kn)
    (
      N17_4 ρ call yc lim k x0 x1 x5 x6 H kn))
  (
    k0 x0 x5 H)
theorem N17_3b_x (ρ : Addr → Option Value) (call : CallF) (yc : YieldF) (lim k : Nat) (J : CodeF) (x0 x1 x5 x6 : AV) (H : Heap) (kn : KS) (k0 : KS) (R : List AV → Heap → Res) :
    evX (cx ρ) call yc false 17 lim k J (Code.at [1, 1, 1, 0, 1, 0, 0] c17) (sp 42 [(0, x0), (1, x1), (5, x5), (6, x6)]) H (kk (some [0, 1, 5, 6]) kn [(0, (some [0, 5]), k0)] R [4]) =
  purK (lenS x0) fun x18_1 =>
  purK (binA Tryz.prog H .lss 3 x6 x18_1) fun x19_1 =>
  condK x19_1
  (
    purK (ixS 3 x0 x6) fun x24_1 =>
    purK (ldN ρ H 3 x24_1) fun x25_1 =>
    effK H (some (.ptr H.sz 0 0, .new (newCells 57 false [.int .i64 0, .int .i64 0, .int .i64 0]))) fun x7_1 H =>
    effK H (stA lim H 3 x7_1 x25_1) fun _ H =>
    purK (ldN ρ H 3 x7_1) fun x27_1 =>
    valK call yc lim x1 [x27_1] H fun x28_1 H =>
    purK (unA .not x28_1) fun x29_1 =>
    condK x29_1
    (
      purK (ldN ρ H 3 x7_1) fun x32_1 =>
      purK (ixS 3 x0 x5) fun x33_1 =>
      effK H (stA lim H 3 x33_1 x32_1) fun _ H =>
      purK (binA Tryz.prog H .add 3 x5 (.int .i64 1)) fun x35_1 =>
      J (Code.at [1, 1, 1, 0, 1, 0, 0, 1, 1] c17) (sp 42 [(0, x0), (1, x1), (5, x35_1), (6, x6)]) H (kk (some [0, 1, 5, 6]) kn [(0, (some [0, 5]), k0)] R [4]))
    (
      J (Code.at [1, 1, 1, 0, 1, 0, 0, 1, 1] c17) (sp 42 [(0, x0), (1, x1), (5, x5), (6, x6)]) H (kk (some [0, 1, 5, 6]) kn [(0, (some [0, 5]), k0)] R [4])))
  (
    k0 (sp 42 [(0, x0), (5, x5)]) H) := by
  kernel_rfl
theorem N17_3b_eq (ρ : Addr → Option Value) (call : CallF) (yc : YieldF) (lim k : Nat) (x0 x1 x5 x6 : AV) (H : Heap) (kn : KS) (k0 : KS) (R : List AV → Heap → Res) :
    evL (cx ρ) call yc false 17 lim k (Code.at [1, 1, 1, 0, 1, 0, 0] c17) (sp 42 [(0, x0), (1, x1), (5, x5), (6, x6)]) H (kk (some [0, 1, 5, 6]) kn [(0, (some [0, 5]), k0)] R [4]) = N17_3b ρ call yc lim k x0 x1 x5 x6 H (fun x0 x1 x5 x6 H => kn (sp 42 [(0, x0), (1, x1), (5, x5), (6, x6)]) H) (fun x0 x5 H => k0 (sp 42 [(0, x0), (5, x5)]) H) := by
  rw [evL_X, N17_3b_x]
  simp only [← evL_X, N17_3b, N17_4_eq]
noncomputable def N17_3 (ρ : Addr → Option Value) (call : CallF) (yc : YieldF) (lim k : Nat) (x0 x1 x5 x6 : AV) (H : Heap) (k0 : AV → AV → Heap → Res) : Res :=
  loopL (fun (x : AV × AV) H kn => N17_3b ρ call yc lim k x0 x1 x.1 x.2 H (fun _ _ x5 x6 H => kn (x5, x6) H) k0) k (x5, x6) H
theorem N17_3_eq (ρ : Addr → Option Value) (call : CallF) (yc : YieldF) (lim k : Nat) (x0 x1 x5 x6 : AV) (H : Heap) (kn : KS) (k0 : KS) (R : List AV → Heap → Res) :
    evL (cx ρ) call yc false 17 lim k (Code.at [1, 1, 1, 0, 1, 0] c17) (sp 42 [(0, x0), (1, x1), (5, x5), (6, x6)]) H (kk (some [0, 5]) kn [(0, (some [0, 5]), k0)] R [4]) = N17_3 ρ call yc lim k x0 x1 x5 x6 H (fun x0 x5 H => k0 (sp 42 [(0, x0), (5, x5)]) H) := by
  have e : Code.at [1, 1, 1, 0, 1, 0] c17 = .loop (Code.at [1, 1, 1, 0, 1, 0, 0] c17) := by kernel_rfl
  rw [e]
  unfold N17_3
  exact loop_node [0, 1, 5, 6] (fun x : AV × AV => (sp 42 [(0, x0), (1, x1), (5, (x.1)), (6, (x.2))])) (fun (x : AV × AV) H kn => N17_3b ρ call yc lim k x0 x1 x.1 x.2 H (fun _ _ x5 x6 H => kn (x5, x6) H) (fun x0 x5 H => k0 (sp 42 [(0, x0), (5, x5)]) H)) (by kernel_rfl) (fun x => by kernel_rfl) (fun x H kn => N17_3b_eq ρ call yc lim k x0 x1 (x.1) (x.2) H kn k0 R) (x5, x6) (sp 42 [(0, x0), (1, x1), (5, x5), (6, x6)]) H (by kernel_rfl)
noncomputable def N17_2 (ρ : Addr → Option Value) (call : CallF) (yc : YieldF) (lim k : Nat) (x0 x1 x5 x6 : AV) (H : Heap) (kn : AV → AV → Heap → Res) : Res :=
  N17_3 ρ call yc lim k x0 x1 x5 x6 H kn
theorem N17_2_x (ρ : Addr → Option Value) (call : CallF) (yc : YieldF) (lim k : Nat) (J : CodeF) (x0 x1 x5 x6 : AV) (H : Heap) (kn : KS) (R : List AV → Heap → Res) :
    evX (cx ρ) call yc false 17 lim k J (Code.at [1, 1, 1, 0, 1] c17) (sp 42 [(0, x0), (1, x1), (5, x5), (6, x6)]) H (kk (some [0, 5]) kn [] R [4]) =
  J (Code.at [1, 1, 1, 0, 1, 0] c17) (sp 42 [(0, x0), (1, x1), (5, x5), (6, x6)]) H (kk (some [0, 5]) kn [(0, (some [0, 5]), kn)] R [4]) := by
  kernel_rfl
theorem N17_2_eq (ρ : Addr → Option Value) (call : CallF) (yc : YieldF) (lim k : Nat) (x0 x1 x5 x6 : AV) (H : Heap) (kn : KS) (R : List AV → Heap → Res) :
    evL (cx ρ) call yc false 17 lim k (Code.at [1, 1, 1, 0, 1] c17) (sp 42 [(0, x0), (1, x1), (5, x5), (6, x6)]) H (kk (some [0, 5]) kn [] R [4]) = N17_2 ρ call yc lim k x0 x1 x5 x6 H (fun x0 x5 H => kn (sp 42 [(0, x0), (5, x5)]) H) := by
  rw [evL_X, N17_2_x]
  simp only [← evL_X, N17_2, N17_3_eq]
noncomputable def L17 (ρ : Addr → Option Value) (call : CallF) (yc : YieldF) (lim k : Nat) (x0 x1 : AV) (H : Heap) : Res :=
  resK (call lim 37 [x0, x1] H) fun x10 H =>
  purK (binA Tryz.prog H .eql 3 x10 (.int .i64 (-1))) fun x12 =>
  condK x12
  (
    retK [x0] H)
  (
    purK (binA Tryz.prog H .add 3 x10 (.int .i64 1)) fun x15 =>
    N17_2 ρ call yc lim k x0 x1 x10 x15 H (fun x0_1 x5 H =>
      N17_1 ρ call yc lim k x0_1 x5 H retK))
theorem L17_x (ρ : Addr → Option Value) (call : CallF) (yc : YieldF) (lim k : Nat) (J : CodeF) (x0 x1 : AV) (H : Heap) :
    evX (cx ρ) call yc false 17 lim k J c17 [x0, x1, (.tup []), (.tup []), (.tup []), (.tup []), (.tup []), (.tup []), (.tup []), (.tup []), (.tup []), (.tup []), (.tup []), (.tup []), (.tup []), (.tup []), (.tup []), (.tup []), (.tup []), (.tup []), (.tup []), (.tup []), (.tup []), (.tup []), (.tup []), (.tup []), (.tup []), (.tup []), (.tup []), (.tup []), (.tup []), (.tup []), (.tup []), (.tup []), (.tup []), (.tup []), (.tup []), (.tup []), (.tup []), (.tup []), (.tup []), (.tup [])] H (kk none (fun s H => retK (([4] : List Nat).map fun t => s.getD t (.tup [])) H) [] retK [4]) =
  resK (call lim 37 [x0, x1] H) fun x10 H =>
  purK (binA Tryz.prog H .eql 3 x10 (.int .i64 (-1))) fun x12 =>
  condK x12
  (
    retK [x0] H)
  (
    purK (binA Tryz.prog H .add 3 x10 (.int .i64 1)) fun x15 =>
    J (Code.at [1, 1, 1, 0, 1] c17) (sp 42 [(0, x0), (1, x1), (5, x10), (6, x15)]) H (kk (some [0, 5]) (fun s H => J (Code.at [1, 1, 1, 1] c17) s H (kk none (fun s H => retK (([4] : List Nat).map fun t => s.getD t (.tup [])) H) [] retK [4])) [] retK [4])) := by
  kernel_rfl
theorem G17 (ρ : Addr → Option Value) (call : CallF) (yc : YieldF) (lim k : Nat) (x0 x1 : AV) (H : Heap) :
    evL (cx ρ) call yc false 17 lim k c17 [x0, x1, (.tup []), (.tup []), (.tup []), (.tup []), (.tup []), (.tup []), (.tup []), (.tup []), (.tup []), (.tup []), (.tup []), (.tup []), (.tup []), (.tup []), (.tup []), (.tup []), (.tup []), (.tup []), (.tup []), (.tup []), (.tup []), (.tup []), (.tup []), (.tup []), (.tup []), (.tup []), (.tup []), (.tup []), (.tup []), (.tup []), (.tup []), (.tup []), (.tup []), (.tup []), (.tup []), (.tup []), (.tup []), (.tup []), (.tup []), (.tup [])] H (kk none (fun s H => retK (([4] : List Nat).map fun t => s.getD t (.tup [])) H) [] retK [4]) = L17 ρ call yc lim k x0 x1 H := by
  rw [evL_X, L17_x]
  simp only [← evL_X, L17, N17_1_eq, N17_2_eq]
theorem E17 (ρ : Addr → Option Value) (k lim : Nat) (x0 x1 : AV) (H : Heap) : evCall (cx ρ) (k + 1) lim 17 [x0, x1] H = L17 ρ (evCall (cx ρ) k) (evCY (cx ρ) k).2 lim k x0 x1 H := by
  rw [evCall_body (cx ρ) k lim 17 _ H Tryz.f17 c17 [4] (by kernel_rfl) (by kernel_rfl) (by kernel_rfl) (by kernel_rfl) (by kernel_rfl)]
  exact G17 ρ (evCall (cx ρ) k) (evCY (cx ρ) k).2 lim k x0 x1 H
-- (*haycroft/watch.Watch).answered
noncomputable def c18 : Code := Code.of Tryz.prog 18
noncomputable def N18_1 (ρ : Addr → Option Value) (call : CallF) (yc : YieldF) (lim k : Nat) (x6 : AV) (H : Heap) (R : List AV → Heap → Res) : Res :=
  R [x6] H
theorem N18_1_eq (ρ : Addr → Option Value) (call : CallF) (yc : YieldF) (lim k : Nat) (x6 : AV) (H : Heap) (R : List AV → Heap → Res) :
    evL (cx ρ) call yc false 18 lim k (Code.at [1, 1, 1] c18) (sp 43 [(6, x6)]) H (kk none (fun s H => R (([4] : List Nat).map fun t => s.getD t (.tup [])) H) [] R [4]) = N18_1 ρ call yc lim k x6 H R := by
  kernel_rfl
noncomputable def L18 (ρ : Addr → Option Value) (call : CallF) (yc : YieldF) (lim k : Nat) (x0 x1 : AV) (H : Heap) : Res :=
  effK H (boxA H 57 x1) fun x3 H =>
  mkK H (some (.ptr H.sz 0 0, .new (newCells 50 false [.int .i64 0, .str ByteArray.empty]))) true fun x5 H =>
  purK (nilChkA x0) fun x9 =>
  purK (addA 0 x9) fun x10 =>
  purK (ld1 ρ H x10) fun x11 =>
  purK (addA 0 x3) fun x12 =>
  purK (ld1 ρ H x12) fun x13 =>
  purK (addA 1 x3) fun x14 =>
  purK (ld1 ρ H x14) fun x15 =>
  resK (call lim 38 [x11, x13, x15] H) fun x16 H =>
  purK (extA 0 x16) fun x17 =>
  purK (extA 1 x16) fun x18 =>
  effK H (stA lim H 2 x5 x17) fun _ H =>
  condK x18
  (
    purK (nilChkA x0) fun x21 =>
    purK (addA 2 x21) fun x22 =>
    purK (ld1 ρ H x22) fun x23 =>
    purK (addA 2 x3) fun x24 =>
    purK (ld1 ρ H x24) fun x25 =>
    purK (nilChkA x0) fun x27 =>
    purK (addA 2 x27) fun x28 =>
    purK (ld1 ρ H x28) fun x29 =>
    purK (addA 2 x3) fun x30 =>
    purK (ld1 ρ H x30) fun x31 =>
    purK (nilChkA x0) fun x33 =>
    purK (addA 1 x33) fun x34 =>
    purK (ld1 ρ H x34) fun x35 =>
    purK (binA Tryz.prog H .add 3 x35 (.int .i64 1)) fun x36 =>
    purK (ldN ρ H 2 x5) fun x37 =>
    purK (ixS 8 x23 x25) fun x38 =>
    purK (addA 7 x38) fun x39 =>
    effK H (stA lim H 1 x39 x36) fun _ H => bif (agn (ldN ρ H 2 x5) x37 && (agn (ld1 ρ H x30) x31 && true)) then
      purK (ixS 8 x29 x31) fun x40 =>
      purK (addA 4 x40) fun x41 =>
      effK H (stA lim H 2 x41 x37) fun _ H =>
      N18_1 ρ call yc lim k x18 H retK
    else none)
  (
    N18_1 ρ call yc lim k x18 H retK)
theorem L18_x (ρ : Addr → Option Value) (call : CallF) (yc : YieldF) (lim k : Nat) (J : CodeF) (x0 x1 : AV) (H : Heap) :
    evX (cx ρ) call yc false 18 lim k J c18 [x0, x1, (.tup []), (.tup []), (.tup []), (.tup []), (.tup []), (.tup []), (.tup []), (.tup []), (.tup []), (.tup []), (.tup []), (.tup []), (.tup []), (.tup []), (.tup []), (.tup []), (.tup []), (.tup []), (.tup []), (.tup []), (.tup []), (.tup []), (.tup []), (.tup []), (.tup []), (.tup []), (.tup []), (.tup []), (.tup []), (.tup []), (.tup []), (.tup []), (.tup []), (.tup []), (.tup []), (.tup []), (.tup []), (.tup []), (.tup []), (.tup []), (.tup [])] H (kk none (fun s H => retK (([4] : List Nat).map fun t => s.getD t (.tup [])) H) [] retK [4]) =
  effK H (boxA H 57 x1) fun x3 H =>
  mkK H (some (.ptr H.sz 0 0, .new (newCells 50 false [.int .i64 0, .str ByteArray.empty]))) true fun x5 H =>
  purK (nilChkA x0) fun x9 =>
  purK (addA 0 x9) fun x10 =>
  purK (ld1 ρ H x10) fun x11 =>
  purK (addA 0 x3) fun x12 =>
  purK (ld1 ρ H x12) fun x13 =>
  purK (addA 1 x3) fun x14 =>
  purK (ld1 ρ H x14) fun x15 =>
  resK (call lim 38 [x11, x13, x15] H) fun x16 H =>
  purK (extA 0 x16) fun x17 =>
  purK (extA 1 x16) fun x18 =>
  effK H (stA lim H 2 x5 x17) fun _ H =>
  condK x18
  (
    purK (nilChkA x0) fun x21 =>
    purK (addA 2 x21) fun x22 =>
    purK (ld1 ρ H x22) fun x23 =>
    purK (addA 2 x3) fun x24 =>
    purK (ld1 ρ H x24) fun x25 =>
    purK (nilChkA x0) fun x27 =>
    purK (addA 2 x27) fun x28 =>
    purK (ld1 ρ H x28) fun x29 =>
    purK (addA 2 x3) fun x30 =>
    purK (ld1 ρ H x30) fun x31 =>
    purK (nilChkA x0) fun x33 =>
    purK (addA 1 x33) fun x34 =>
    purK (ld1 ρ H x34) fun x35 =>
    purK (binA Tryz.prog H .add 3 x35 (.int .i64 1)) fun x36 =>
    purK (ldN ρ H 2 x5) fun x37 =>
    purK (ixS 8 x23 x25) fun x38 =>
    purK (addA 7 x38) fun x39 =>
    effK H (stA lim H 1 x39 x36) fun _ H => bif (agn (ldN ρ H 2 x5) x37 && (agn (ld1 ρ H x30) x31 && true)) then
      purK (ixS 8 x29 x31) fun x40 =>
      purK (addA 4 x40) fun x41 =>
      effK H (stA lim H 2 x41 x37) fun _ H =>
      J (Code.at [1, 1, 1] c18) (sp 43 [(6, x18)]) H (kk none (fun s H => retK (([4] : List Nat).map fun t => s.getD t (.tup [])) H) [] retK [4])
    else none)
  (
    J (Code.at [1, 1, 1] c18) (sp 43 [(6, x18)]) H (kk none (fun s H => retK (([4] : List Nat).map fun t => s.getD t (.tup [])) H) [] retK [4])) := by
  kernel_rfl
theorem G18 (ρ : Addr → Option Value) (call : CallF) (yc : YieldF) (lim k : Nat) (x0 x1 : AV) (H : Heap) :
    evL (cx ρ) call yc false 18 lim k c18 [x0, x1, (.tup []), (.tup []), (.tup []), (.tup []), (.tup []), (.tup []), (.tup []), (.tup []), (.tup []), (.tup []), (.tup []), (.tup []), (.tup []), (.tup []), (.tup []), (.tup []), (.tup []), (.tup []), (.tup []), (.tup []), (.tup []), (.tup []), (.tup []), (.tup []), (.tup []), (.tup []), (.tup []), (.tup []), (.tup []), (.tup []), (.tup []), (.tup []), (.tup []), (.tup []), (.tup []), (.tup []), (.tup []), (.tup []), (.tup []), (.tup []), (.tup [])] H (kk none (fun s H => retK (([4] : List Nat).map fun t => s.getD t (.tup [])) H) [] retK [4]) = L18 ρ call yc lim k x0 x1 H := by
  rw [evL_X, L18_x]
  simp only [← evL_X, L18, N18_1_eq]
theorem E18 (ρ : Addr → Option Value) (k lim : Nat) (x0 x1 : AV) (H : Heap) : evCall (cx ρ) (k + 1) lim 18 [x0, x1] H = L18 ρ (evCall (cx ρ) k) (evCY (cx ρ) k).2 lim k x0 x1 H := by
  rw [evCall_body (cx ρ) k lim 18 _ H Tryz.f18 c18 [4] (by kernel_rfl) (by kernel_rfl) (by kernel_rfl) (by kernel_rfl) (by kernel_rfl)]
  exact G18 ρ (evCall (cx ρ) k) (evCY (cx ρ) k).2 lim k x0 x1 H
-- (*haycroft/store.Store).Up
noncomputable def c20 : Code := Code.of Tryz.prog 20
noncomputable def L20 (ρ : Addr → Option Value) (call : CallF) (yc : YieldF) (lim k : Nat) (x0 : AV) (H : Heap) : Res :=
  purK (binA Tryz.prog H .neq 38 x0 .nilp) fun x4 =>
  purK (gPur (wantV x4 true) (some x0)) fun x6 =>
  purK (gPur (wantV x4 true) (nilChkA x6)) fun x7 =>
  purK (gPur (wantV x4 true) (addA 7 x7)) fun x8 =>
  purK (gPur (wantV x4 true) (ld1 ρ H x8)) fun x9 =>
  purK (gPur (wantV x4 true) (binA Tryz.prog H .neq 68 x9 .nilp)) fun x10 =>
  purK (pickA x4 x10 (.bool false)) fun x11 =>
  retK [x11] H
theorem G20 (ρ : Addr → Option Value) (call : CallF) (yc : YieldF) (lim k : Nat) (x0 : AV) (H : Heap) :
    evL (cx ρ) call yc false 20 lim k c20 [x0, (.tup []), (.tup []), (.tup []), (.tup []), (.tup []), (.tup []), (.tup []), (.tup []), (.tup []), (.tup []), (.tup [])] H (kk none (fun s H => retK (([2] : List Nat).map fun t => s.getD t (.tup [])) H) [] retK [2]) = L20 ρ call yc lim k x0 H := by
  kernel_rfl
theorem E20 (ρ : Addr → Option Value) (k lim : Nat) (x0 : AV) (H : Heap) : evCall (cx ρ) (k + 1) lim 20 [x0] H = L20 ρ (evCall (cx ρ) k) (evCY (cx ρ) k).2 lim k x0 H := by
  rw [evCall_body (cx ρ) k lim 20 _ H Tryz.f20 c20 [2] (by kernel_rfl) (by kernel_rfl) (by kernel_rfl) (by kernel_rfl) (by kernel_rfl)]
  exact G20 ρ (evCall (cx ρ) k) (evCY (cx ρ) k).2 lim k x0 H
-- (*haycroft/watch.Watch).round
noncomputable def c21 : Code := Code.of Tryz.prog 21
noncomputable def N21_3b (ρ : Addr → Option Value) (call : CallF) (yc : YieldF) (lim k : Nat) (x0 x28 x29 x30 : AV) (H : Heap) (kn : AV → AV → AV → AV → Heap → Res) (R : List AV → Heap → Res) : Res :=
  purK (binA Tryz.prog H .lss 3 x30 x29) fun x31_1 =>
  condK x31_1
  (
    purK (ixS 1 x28 x30) fun x32_1 =>
    purK (ld1 ρ H x32_1) fun x33_1 =>
    purK (bldA [.int .i64 0, .int .i64 0, .int .i64 0, .int .i64 0, .str ByteArray.empty, .str ByteArray.empty, .int .u64 0, .nils] [(0, 1, (.int .i64 4)), (2, 1, x33_1)]) fun x36_1 =>
    resK (call lim 5 [x0, x36_1] H) fun x37_1 H =>
    purK (binA Tryz.prog H .add 3 x30 (.int .i64 1)) fun x38_1 =>
    kn x0 x28 x29 x38_1 H)
  (
    R [] H)
theorem N21_3b_eq (ρ : Addr → Option Value) (call : CallF) (yc : YieldF) (lim k : Nat) (x0 x28 x29 x30 : AV) (H : Heap) (kn : KS) (R : List AV → Heap → Res) :
    evL (cx ρ) call yc false 21 lim k (Code.at [1, 1, 0, 0] c21) (sp 39 [(0, x0), (28, x28), (29, x29), (30, x30)]) H (kk (some [0, 28, 29, 30]) kn [(2, none, (fun s H => R (([] : List Nat).map fun t => s.getD t (.tup [])) H))] R []) = N21_3b ρ call yc lim k x0 x28 x29 x30 H (fun x0 x28 x29 x30 H => kn (sp 39 [(0, x0), (28, x28), (29, x29), (30, x30)]) H) R := by
  kernel_rfl
noncomputable def N21_3 (ρ : Addr → Option Value) (call : CallF) (yc : YieldF) (lim k : Nat) (x0 x28 x29 x30 : AV) (H : Heap) (R : List AV → Heap → Res) : Res :=
  loopL (fun (x : AV) H kn => N21_3b ρ call yc lim k x0 x28 x29 x H (fun _ _ _ x30 H => kn x30 H) R) k x30 H
theorem N21_3_eq (ρ : Addr → Option Value) (call : CallF) (yc : YieldF) (lim k : Nat) (x0 x28 x29 x30 : AV) (H : Heap) (R : List AV → Heap → Res) :
    evL (cx ρ) call yc false 21 lim k (Code.at [1, 1, 0] c21) (sp 39 [(0, x0), (28, x28), (29, x29), (30, x30)]) H (kk none (fun s H => R (([] : List Nat).map fun t => s.getD t (.tup [])) H) [(2, none, (fun s H => R (([] : List Nat).map fun t => s.getD t (.tup [])) H))] R []) = N21_3 ρ call yc lim k x0 x28 x29 x30 H R := by
  have e : Code.at [1, 1, 0] c21 = .loop (Code.at [1, 1, 0, 0] c21) := by kernel_rfl
  rw [e]
  unfold N21_3
  exact loop_node [0, 28, 29, 30] (fun x : AV => (sp 39 [(0, x0), (28, x28), (29, x29), (30, (x))])) (fun (x : AV) H kn => N21_3b ρ call yc lim k x0 x28 x29 x H (fun _ _ _ x30 H => kn x30 H) R) (by kernel_rfl) (fun x => by kernel_rfl) (fun x H kn => N21_3b_eq ρ call yc lim k x0 x28 x29 (x) H kn R) x30 (sp 39 [(0, x0), (28, x28), (29, x29), (30, x30)]) H (by kernel_rfl)
noncomputable def N21_2 (ρ : Addr → Option Value) (call : CallF) (yc : YieldF) (lim k : Nat) (x0 x28 x29 x30 : AV) (H : Heap) (R : List AV → Heap → Res) : Res :=
  N21_3 ρ call yc lim k x0 x28 x29 x30 H R
theorem N21_2_x (ρ : Addr → Option Value) (call : CallF) (yc : YieldF) (lim k : Nat) (J : CodeF) (x0 x28 x29 x30 : AV) (H : Heap) (R : List AV → Heap → Res) :
    evX (cx ρ) call yc false 21 lim k J (Code.at [1, 1] c21) (sp 39 [(0, x0), (28, x28), (29, x29), (30, x30)]) H (kk none (fun s H => R (([] : List Nat).map fun t => s.getD t (.tup [])) H) [] R []) =
  J (Code.at [1, 1, 0] c21) (sp 39 [(0, x0), (28, x28), (29, x29), (30, x30)]) H (kk none (fun s H => R (([] : List Nat).map fun t => s.getD t (.tup [])) H) [(2, none, (fun s H => R (([] : List Nat).map fun t => s.getD t (.tup [])) H))] R []) := by
  kernel_rfl
theorem N21_2_eq (ρ : Addr → Option Value) (call : CallF) (yc : YieldF) (lim k : Nat) (x0 x28 x29 x30 : AV) (H : Heap) (R : List AV → Heap → Res) :
    evL (cx ρ) call yc false 21 lim k (Code.at [1, 1] c21) (sp 39 [(0, x0), (28, x28), (29, x29), (30, x30)]) H (kk none (fun s H => R (([] : List Nat).map fun t => s.getD t (.tup [])) H) [] R []) = N21_2 ρ call yc lim k x0 x28 x29 x30 H R := by
  rw [evL_X, N21_2_x]
  simp only [← evL_X, N21_2, N21_3_eq]
noncomputable def N21_1 (ρ : Addr → Option Value) (call : CallF) (yc : YieldF) (lim k : Nat) (x0 : AV) (H : Heap) (R : List AV → Heap → Res) : Res :=
  purK (nilChkA x0) fun x24_1 =>
  purK (addA 0 x24_1) fun x25_1 =>
  purK (ld1 ρ H x25_1) fun x26_1 =>
  resK (call lim 42 [x26_1] H) fun x27_1 H =>
  resK (call lim 43 [x27_1] H) fun x28_1 H =>
  purK (lenS x28_1) fun x29_1 =>
  N21_2 ρ call yc lim k x0 x28_1 x29_1 (.int .i64 0) H R
theorem N21_1_x (ρ : Addr → Option Value) (call : CallF) (yc : YieldF) (lim k : Nat) (J : CodeF) (x0 : AV) (H : Heap) (R : List AV → Heap → Res) :
    evX (cx ρ) call yc false 21 lim k J (Code.at [1] c21) (sp 39 [(0, x0)]) H (kk none (fun s H => R (([] : List Nat).map fun t => s.getD t (.tup [])) H) [] R []) =
  purK (nilChkA x0) fun x24_1 =>
  purK (addA 0 x24_1) fun x25_1 =>
  purK (ld1 ρ H x25_1) fun x26_1 =>
  resK (call lim 42 [x26_1] H) fun x27_1 H =>
  resK (call lim 43 [x27_1] H) fun x28_1 H =>
  purK (lenS x28_1) fun x29_1 =>
  J (Code.at [1, 1] c21) (sp 39 [(0, x0), (28, x28_1), (29, x29_1), (30, (.int .i64 0))]) H (kk none (fun s H => R (([] : List Nat).map fun t => s.getD t (.tup [])) H) [] R []) := by
  kernel_rfl
theorem N21_1_eq (ρ : Addr → Option Value) (call : CallF) (yc : YieldF) (lim k : Nat) (x0 : AV) (H : Heap) (R : List AV → Heap → Res) :
    evL (cx ρ) call yc false 21 lim k (Code.at [1] c21) (sp 39 [(0, x0)]) H (kk none (fun s H => R (([] : List Nat).map fun t => s.getD t (.tup [])) H) [] R []) = N21_1 ρ call yc lim k x0 H R := by
  rw [evL_X, N21_1_x]
  simp only [← evL_X, N21_1, N21_2_eq]
noncomputable def N21_5b (ρ : Addr → Option Value) (call : CallF) (yc : YieldF) (lim k : Nat) (x0 x10 x11 : AV) (H : Heap) (kn : AV → AV → AV → Heap → Res) (k0 : AV → Heap → Res) : Res :=
  purK (binA Tryz.prog H .lss 3 x11 x10) fun x12_1 =>
  condK x12_1
  (
    purK (bldA [.int .i64 0, .int .i64 0, .int .i64 0, .int .i64 0, .str ByteArray.empty, .str ByteArray.empty, .int .u64 0, .nils] [(0, 1, (.int .i64 2)), (1, 1, x11)]) fun x16_1 =>
    resK (call lim 5 [x0, x16_1] H) fun x17_1 H =>
    purK (bldA [.int .i64 0, .int .i64 0, .int .i64 0, .int .i64 0, .str ByteArray.empty, .str ByteArray.empty, .int .u64 0, .nils] [(0, 1, (.int .i64 3)), (1, 1, x11)]) fun x20_1 =>
    resK (call lim 5 [x0, x20_1] H) fun x21_1 H =>
    purK (binA Tryz.prog H .add 3 x11 (.int .i64 1)) fun x22_1 =>
    kn x0 x10 x22_1 H)
  (
    k0 x0 H)
theorem N21_5b_eq (ρ : Addr → Option Value) (call : CallF) (yc : YieldF) (lim k : Nat) (x0 x10 x11 : AV) (H : Heap) (kn : KS) (k0 : KS) (R : List AV → Heap → Res) :
    evL (cx ρ) call yc false 21 lim k (Code.at [0, 1, 0, 0] c21) (sp 39 [(0, x0), (10, x10), (11, x11)]) H (kk (some [0, 10, 11]) kn [(0, (some [0]), k0)] R []) = N21_5b ρ call yc lim k x0 x10 x11 H (fun x0 x10 x11 H => kn (sp 39 [(0, x0), (10, x10), (11, x11)]) H) (fun x0 H => k0 (sp 39 [(0, x0)]) H) := by
  kernel_rfl
noncomputable def N21_5 (ρ : Addr → Option Value) (call : CallF) (yc : YieldF) (lim k : Nat) (x0 x10 x11 : AV) (H : Heap) (k0 : AV → Heap → Res) : Res :=
  loopL (fun (x : AV) H kn => N21_5b ρ call yc lim k x0 x10 x H (fun _ _ x11 H => kn x11 H) k0) k x11 H
theorem N21_5_eq (ρ : Addr → Option Value) (call : CallF) (yc : YieldF) (lim k : Nat) (x0 x10 x11 : AV) (H : Heap) (kn : KS) (k0 : KS) (R : List AV → Heap → Res) :
    evL (cx ρ) call yc false 21 lim k (Code.at [0, 1, 0] c21) (sp 39 [(0, x0), (10, x10), (11, x11)]) H (kk (some [0]) kn [(0, (some [0]), k0)] R []) = N21_5 ρ call yc lim k x0 x10 x11 H (fun x0 H => k0 (sp 39 [(0, x0)]) H) := by
  have e : Code.at [0, 1, 0] c21 = .loop (Code.at [0, 1, 0, 0] c21) := by kernel_rfl
  rw [e]
  unfold N21_5
  exact loop_node [0, 10, 11] (fun x : AV => (sp 39 [(0, x0), (10, x10), (11, (x))])) (fun (x : AV) H kn => N21_5b ρ call yc lim k x0 x10 x H (fun _ _ x11 H => kn x11 H) (fun x0 H => k0 (sp 39 [(0, x0)]) H)) (by kernel_rfl) (fun x => by kernel_rfl) (fun x H kn => N21_5b_eq ρ call yc lim k x0 x10 (x) H kn k0 R) x11 (sp 39 [(0, x0), (10, x10), (11, x11)]) H (by kernel_rfl)
noncomputable def N21_4 (ρ : Addr → Option Value) (call : CallF) (yc : YieldF) (lim k : Nat) (x0 x10 x11 : AV) (H : Heap) (kn : AV → Heap → Res) : Res :=
  N21_5 ρ call yc lim k x0 x10 x11 H kn
theorem N21_4_x (ρ : Addr → Option Value) (call : CallF) (yc : YieldF) (lim k : Nat) (J : CodeF) (x0 x10 x11 : AV) (H : Heap) (kn : KS) (R : List AV → Heap → Res) :
    evX (cx ρ) call yc false 21 lim k J (Code.at [0, 1] c21) (sp 39 [(0, x0), (10, x10), (11, x11)]) H (kk (some [0]) kn [] R []) =
  J (Code.at [0, 1, 0] c21) (sp 39 [(0, x0), (10, x10), (11, x11)]) H (kk (some [0]) kn [(0, (some [0]), kn)] R []) := by
  kernel_rfl
theorem N21_4_eq (ρ : Addr → Option Value) (call : CallF) (yc : YieldF) (lim k : Nat) (x0 x10 x11 : AV) (H : Heap) (kn : KS) (R : List AV → Heap → Res) :
    evL (cx ρ) call yc false 21 lim k (Code.at [0, 1] c21) (sp 39 [(0, x0), (10, x10), (11, x11)]) H (kk (some [0]) kn [] R []) = N21_4 ρ call yc lim k x0 x10 x11 H (fun x0 H => kn (sp 39 [(0, x0)]) H) := by
  rw [evL_X, N21_4_x]
  simp only [← evL_X, N21_4, N21_5_eq]
noncomputable def L21 (ρ : Addr → Option Value) (call : CallF) (yc : YieldF) (lim k : Nat) (x0 : AV) (H : Heap) : Res :=
  purK (nilChkA x0) fun x6 =>
  purK (addA 0 x6) fun x7 =>
  purK (ld1 ρ H x7) fun x8 =>
  resK (call lim 23 [x8] H) fun x9 H =>
  purK (fld1 5 x9) fun x10 =>
  N21_4 ρ call yc lim k x0 x10 (.int .i64 0) H (fun x0_1 H =>
    N21_1 ρ call yc lim k x0_1 H retK)
theorem L21_x (ρ : Addr → Option Value) (call : CallF) (yc : YieldF) (lim k : Nat) (J : CodeF) (x0 : AV) (H : Heap) :
    evX (cx ρ) call yc false 21 lim k J c21 [x0, (.tup []), (.tup []), (.tup []), (.tup []), (.tup []), (.tup []), (.tup []), (.tup []), (.tup []), (.tup []), (.tup []), (.tup []), (.tup []), (.tup []), (.tup []), (.tup []), (.tup []), (.tup []), (.tup []), (.tup []), (.tup []), (.tup []), (.tup []), (.tup []), (.tup []), (.tup []), (.tup []), (.tup []), (.tup []), (.tup []), (.tup []), (.tup []), (.tup []), (.tup []), (.tup []), (.tup []), (.tup []), (.tup [])] H (kk none (fun s H => retK (([] : List Nat).map fun t => s.getD t (.tup [])) H) [] retK []) =
  purK (nilChkA x0) fun x6 =>
  purK (addA 0 x6) fun x7 =>
  purK (ld1 ρ H x7) fun x8 =>
  resK (call lim 23 [x8] H) fun x9 H =>
  purK (fld1 5 x9) fun x10 =>
  J (Code.at [0, 1] c21) (sp 39 [(0, x0), (10, x10), (11, (.int .i64 0))]) H (kk (some [0]) (fun s H => J (Code.at [1] c21) s H (kk none (fun s H => retK (([] : List Nat).map fun t => s.getD t (.tup [])) H) [] retK [])) [] retK []) := by
  kernel_rfl
theorem G21 (ρ : Addr → Option Value) (call : CallF) (yc : YieldF) (lim k : Nat) (x0 : AV) (H : Heap) :
    evL (cx ρ) call yc false 21 lim k c21 [x0, (.tup []), (.tup []), (.tup []), (.tup []), (.tup []), (.tup []), (.tup []), (.tup []), (.tup []), (.tup []), (.tup []), (.tup []), (.tup []), (.tup []), (.tup []), (.tup []), (.tup []), (.tup []), (.tup []), (.tup []), (.tup []), (.tup []), (.tup []), (.tup []), (.tup []), (.tup []), (.tup []), (.tup []), (.tup []), (.tup []), (.tup []), (.tup []), (.tup []), (.tup []), (.tup []), (.tup []), (.tup []), (.tup [])] H (kk none (fun s H => retK (([] : List Nat).map fun t => s.getD t (.tup [])) H) [] retK []) = L21 ρ call yc lim k x0 H := by
  rw [evL_X, L21_x]
  simp only [← evL_X, L21, N21_1_eq, N21_4_eq]
theorem E21 (ρ : Addr → Option Value) (k lim : Nat) (x0 : AV) (H : Heap) : evCall (cx ρ) (k + 1) lim 21 [x0] H = L21 ρ (evCall (cx ρ) k) (evCY (cx ρ) k).2 lim k x0 H := by
  rw [evCall_body (cx ρ) k lim 21 _ H Tryz.f21 c21 [] (by kernel_rfl) (by kernel_rfl) (by kernel_rfl) (by kernel_rfl) (by kernel_rfl)]
  exact G21 ρ (evCall (cx ρ) k) (evCY (cx ρ) k).2 lim k x0 H
-- slices.Clone[[]haycroft/api.Event,haycroft/api.Event]
noncomputable def c22 : Code := Code.of Tryz.prog 22
noncomputable def L22 (ρ : Addr → Option Value) (call : CallF) (yc : YieldF) (lim k : Nat) (x0 : AV) (H : Heap) : Res :=
  purK (binA Tryz.prog H .eql 41 x0 .nils) fun x4 =>
  condK x4
  (
    retK [.nils] H)
  (
    effK H (bldS H 52 8 [.int .i64 0, .str ByteArray.empty, .str ByteArray.empty, .int .u64 0, .int .i64 0, .str ByteArray.empty, .int .i64 0, .int .i64 0] 0 []) fun x5 H =>
    effK H (apA ρ lim H 52 8 88 x5 x0) fun x7 H =>
    retK [x7] H)
theorem G22 (ρ : Addr → Option Value) (call : CallF) (yc : YieldF) (lim k : Nat) (x0 : AV) (H : Heap) :
    evL (cx ρ) call yc false 22 lim k c22 [x0, (.tup []), (.tup []), (.tup []), (.tup []), (.tup []), (.tup []), (.tup [])] H (kk none (fun s H => retK (([2] : List Nat).map fun t => s.getD t (.tup [])) H) [] retK [2]) = L22 ρ call yc lim k x0 H := by
  kernel_rfl
theorem E22 (ρ : Addr → Option Value) (k lim : Nat) (x0 : AV) (H : Heap) : evCall (cx ρ) (k + 1) lim 22 [x0] H = L22 ρ (evCall (cx ρ) k) (evCY (cx ρ) k).2 lim k x0 H := by
  rw [evCall_body (cx ρ) k lim 22 _ H Tryz.f22 c22 [2] (by kernel_rfl) (by kernel_rfl) (by kernel_rfl) (by kernel_rfl) (by kernel_rfl)]
  exact G22 ρ (evCall (cx ρ) k) (evCY (cx ρ) k).2 lim k x0 H
-- (*haycroft/store.Store).Config
noncomputable def c23 : Code := Code.of Tryz.prog 23
noncomputable def L23 (ρ : Addr → Option Value) (call : CallF) (yc : YieldF) (lim k : Nat) (x0 : AV) (H : Heap) : Res :=
  effK H (some (.ptr H.sz 0 0, .new (newCells 47 false [.int .i64 0, .int .i64 0, .int .i64 0, .int .i64 0, .int .i64 0, .int .i64 0]))) fun x2 H =>
  purK (binA Tryz.prog H .eql 38 x0 .nilp) fun x4 =>
  condK x4
  (
    purK (bldA [.int .i64 0, .int .i64 0, .int .i64 0, .int .i64 0, .int .i64 0, .int .i64 0] []) fun x5 =>
    effK H (stA lim H 6 x2 x5) fun _ H =>
    (retC (cx ρ) [some 47]) [x2] H)
  (
    purK (nilChkA x0) fun x7 =>
    purK (addA 0 x7) fun x8 =>
    purK (ldN ρ H 6 x8) fun x9 =>
    effK H (stA lim H 6 x2 x9) fun _ H =>
    (retC (cx ρ) [some 47]) [x2] H)
theorem G23 (ρ : Addr → Option Value) (call : CallF) (yc : YieldF) (lim k : Nat) (x0 : AV) (H : Heap) :
    evL (cx ρ) call yc false 23 lim k c23 [x0, (.tup []), (.tup []), (.tup []), (.tup []), (.tup []), (.tup []), (.tup []), (.tup []), (.tup [])] H (kk none (fun s H => (retC (cx ρ) [some 47]) (([2] : List Nat).map fun t => s.getD t (.tup [])) H) [] (retC (cx ρ) [some 47]) [2]) = L23 ρ call yc lim k x0 H := by
  kernel_rfl
theorem E23 (ρ : Addr → Option Value) (k lim : Nat) (x0 : AV) (H : Heap) : evCall (cx ρ) (k + 1) lim 23 [x0] H = L23 ρ (evCall (cx ρ) k) (evCY (cx ρ) k).2 lim k x0 H := by
  rw [evCall_cells (cx ρ) k lim 23 _ H Tryz.f23 c23 [2] [some 47] (by kernel_rfl) (by kernel_rfl) (by kernel_rfl) (by kernel_rfl) (by kernel_rfl) (by kernel_rfl)]
  exact G23 ρ (evCall (cx ρ) k) (evCY (cx ρ) k).2 lim k x0 H
-- haycroft/store.Open
noncomputable def c24 : Code := Code.of Tryz.prog 24
noncomputable def L24 (ρ : Addr → Option Value) (call : CallF) (yc : YieldF) (lim k : Nat) (x0 x1 : AV) (H : Heap) : Res :=
  effK H (boxA H 47 x0) fun x2 H =>
  purK (binA Tryz.prog H .eql 64 x1 .nilp) fun x10 =>
  condK x10
  (
    retK [.nilp, (.int .i64 2)] H)
  (
    purK (ldN ρ H 6 x2) fun x12 =>
    resK (call lim 44 [x12] H) fun x13 H =>
    purK (unA .not x13) fun x14 =>
    condK x14
    (
      retK [.nilp, (.int .i64 1)] H)
    (
      resK (call lim 45 [x1] H) fun x17 H =>
      purK (unA .not x17) fun x18 =>
      condK x18
      (
        retK [.nilp, (.int .i64 6)] H)
      (
        purK (ldN ρ H 6 x2) fun x20 =>
        resK (call lim 46 [x20, x1] H) fun x22 H =>
        purK (extA 0 x22) fun x23 =>
        purK (extA 1 x22) fun x24 =>
        purK (binA Tryz.prog H .neq 30 x24 (.int .i64 0)) fun x26 =>
        condK x26
        (
          retK [.nilp, x24] H)
        (
          purK (ldN ρ H 6 x2) fun x28 =>
          purK (bldA [.int .i64 0, .int .i64 0, .int .i64 0, .int .i64 0, .int .i64 0, .int .i64 0, .nilp, .nilp] [(0, 6, x28), (6, 1, x1), (7, 1, x23)]) fun x31 =>
          effK H (boxA H 70 x31) fun x32 H =>
          retK [x32, (.int .i64 0)] H))))
theorem G24 (ρ : Addr → Option Value) (call : CallF) (yc : YieldF) (lim k : Nat) (x0 x1 : AV) (H : Heap) :
    evL (cx ρ) call yc false 24 lim k c24 [x0, x1, (.tup []), (.tup []), (.tup []), (.tup []), (.tup []), (.tup []), (.tup []), (.tup []), (.tup []), (.tup []), (.tup []), (.tup []), (.tup []), (.tup []), (.tup []), (.tup []), (.tup []), (.tup []), (.tup []), (.tup []), (.tup []), (.tup []), (.tup []), (.tup []), (.tup []), (.tup []), (.tup []), (.tup []), (.tup []), (.tup []), (.tup [])] H (kk none (fun s H => retK (([4, 5] : List Nat).map fun t => s.getD t (.tup [])) H) [] retK [4, 5]) = L24 ρ call yc lim k x0 x1 H := by
  kernel_rfl
theorem E24 (ρ : Addr → Option Value) (k lim : Nat) (x0 x1 : AV) (H : Heap) : evCall (cx ρ) (k + 1) lim 24 [x0, x1] H = L24 ρ (evCall (cx ρ) k) (evCY (cx ρ) k).2 lim k x0 x1 H := by
  rw [evCall_body (cx ρ) k lim 24 _ H Tryz.f24 c24 [4, 5] (by kernel_rfl) (by kernel_rfl) (by kernel_rfl) (by kernel_rfl) (by kernel_rfl)]
  exact G24 ρ (evCall (cx ρ) k) (evCY (cx ρ) k).2 lim k x0 x1 H
-- haycroft/device.New
noncomputable def c25 : Code := Code.of Tryz.prog 25
noncomputable def L25 (ρ : Addr → Option Value) (call : CallF) (yc : YieldF) (lim k : Nat) (H : Heap) : Res :=
  effK H (some (makeMapA H)) fun x1 H =>
  effK H (some (makeMapA H)) fun x2 H =>
  effK H (some (makeMapA H)) fun x3 H =>
  purK (bldA [.bool false, .nilm, .nilm, .nilm, .int .i64 0] [(1, 1, x1), (2, 1, x2), (3, 1, x3)]) fun x4 =>
  effK H (boxA H 97 x4) fun x5 H =>
  retK [x5] H
theorem G25 (ρ : Addr → Option Value) (call : CallF) (yc : YieldF) (lim k : Nat) (H : Heap) :
    evL (cx ρ) call yc false 25 lim k c25 [(.tup []), (.tup []), (.tup []), (.tup []), (.tup []), (.tup [])] H (kk none (fun s H => retK (([0] : List Nat).map fun t => s.getD t (.tup [])) H) [] retK [0]) = L25 ρ call yc lim k H := by
  kernel_rfl
theorem E25 (ρ : Addr → Option Value) (k lim : Nat) (H : Heap) : evCall (cx ρ) (k + 1) lim 25 [] H = L25 ρ (evCall (cx ρ) k) (evCY (cx ρ) k).2 lim k H := by
  rw [evCall_body (cx ρ) k lim 25 _ H Tryz.f25 c25 [0] (by kernel_rfl) (by kernel_rfl) (by kernel_rfl) (by kernel_rfl) (by kernel_rfl)]
  exact G25 ρ (evCall (cx ρ) k) (evCY (cx ρ) k).2 lim k H
-- (*haycroft/store.Store).may
noncomputable def c26 : Code := Code.of Tryz.prog 26
noncomputable def L26 (ρ : Addr → Option Value) (call : CallF) (yc : YieldF) (lim k : Nat) (x0 x1 : AV) (H : Heap) : Res :=
  effK H (boxA H 27 x1) fun x3 H =>
  purK (addA 0 x3) fun x6 =>
  purK (ld1 ρ H x6) fun x7 =>
  resK (call lim 47 [x7, (.int .i64 1), (.int .i64 3)] H) fun x8 H =>
  purK (binA Tryz.prog H .eql 38 x0 .nilp) fun x11 =>
  condK x11
  (
    retK [(.int .i64 2)] H)
  (
    purK (addA 0 x3) fun x13 =>
    purK (ld1 ρ H x13) fun x14 =>
    resK (call lim 47 [x14, (.int .i64 1), (.int .i64 10)] H) fun x15 H =>
    purK (unA .not x15) fun x16 =>
    condK x16
    (
      retK [(.int .i64 1)] H)
    (
      purK (addA 0 x3) fun x18 =>
      purK (ld1 ρ H x18) fun x19 =>
      purK (binA Tryz.prog H .eql 3 x19 (.int .i64 10)) fun x20 =>
      purK (gPur (wantV x20 true) (some x0)) fun x22 =>
      resK (gRes (wantV x20 true) H (call lim 20 [x22] H)) fun x23 H =>
      purK (pickA x20 x23 (.bool false)) fun x24 =>
      condK x24
      (
        retK [(.int .i64 8)] H)
      (
        purK (addA 0 x3) fun x26 =>
        purK (ld1 ρ H x26) fun x27 =>
        purK (binA Tryz.prog H .neq 3 x27 (.int .i64 10)) fun x28 =>
        purK (gPur (wantV x28 true) (some x0)) fun x30 =>
        resK (gRes (wantV x28 true) H (call lim 20 [x30] H)) fun x31 H =>
        purK (gPur (wantV x28 true) (unA .not x31)) fun x32 =>
        purK (pickA x28 x32 (.bool false)) fun x33 =>
        condK x33
        (
          retK [(.int .i64 6)] H)
        (
          boolK (wantV x8 true) fun b1 => purK (bif b1 then addA 1 x3 else some (.tup [])) fun x37 =>
          boolK (wantV x8 true) fun b2 => purK (bif b2 then ld1 ρ H x37 else some (.tup [])) fun x38 =>
          boolK (wantV x8 true) fun b3 => purK (bif b3 then some x0 else some (.tup [])) fun x39 =>
          boolK (wantV x8 true) fun b4 => purK (bif b4 then nilChkA x39 else some (.tup [])) fun x40 =>
          boolK (wantV x8 true) fun b5 => purK (bif b5 then addA 0 x40 else some (.tup [])) fun x41 =>
          boolK (wantV x8 true) fun b6 => purK (bif b6 then addA 5 x41 else some (.tup [])) fun x42 =>
          boolK (wantV x8 true) fun b7 => purK (bif b7 then ld1 ρ H x42 else some (.tup [])) fun x43 =>
          boolK (wantV x8 true) fun b8 => purK (bif b8 then binA Tryz.prog H .sub 3 x43 (.int .i64 1) else some (.tup [])) fun x44 =>
          boolK (wantV x8 true) fun b9 => resK (gRes (some b9) H (call lim 47 [x38, (.int .i64 0), x44] H)) fun x45 H => bif !b9 || ((!b8 || true) && ((!b7 || true) && ((!b2 || true) && true))) then
            purK (gPur (wantV x8 true) (unA .not x45)) fun x46 =>
            purK (pickA x8 x46 (.bool false)) fun x47 =>
            condK x47
            (
              retK [(.int .i64 1)] H)
            (
              retK [(.int .i64 0)] H)
          else none))))
theorem G26 (ρ : Addr → Option Value) (call : CallF) (yc : YieldF) (lim k : Nat) (x0 x1 : AV) (H : Heap) :
    evL (cx ρ) call yc false 26 lim k c26 [x0, x1, (.tup []), (.tup []), (.tup []), (.tup []), (.tup []), (.tup []), (.tup []), (.tup []), (.tup []), (.tup []), (.tup []), (.tup []), (.tup []), (.tup []), (.tup []), (.tup []), (.tup []), (.tup []), (.tup []), (.tup []), (.tup []), (.tup []), (.tup []), (.tup []), (.tup []), (.tup []), (.tup []), (.tup []), (.tup []), (.tup []), (.tup []), (.tup []), (.tup []), (.tup []), (.tup []), (.tup []), (.tup []), (.tup []), (.tup []), (.tup []), (.tup []), (.tup []), (.tup []), (.tup []), (.tup []), (.tup [])] H (kk none (fun s H => retK (([4] : List Nat).map fun t => s.getD t (.tup [])) H) [] retK [4]) = L26 ρ call yc lim k x0 x1 H := by
  kernel_rfl
theorem E26 (ρ : Addr → Option Value) (k lim : Nat) (x0 x1 : AV) (H : Heap) : evCall (cx ρ) (k + 1) lim 26 [x0, x1] H = L26 ρ (evCall (cx ρ) k) (evCY (cx ρ) k).2 lim k x0 x1 H := by
  rw [evCall_body (cx ρ) k lim 26 _ H Tryz.f26 c26 [4] (by kernel_rfl) (by kernel_rfl) (by kernel_rfl) (by kernel_rfl) (by kernel_rfl)]
  exact G26 ρ (evCall (cx ρ) k) (evCY (cx ρ) k).2 lim k x0 x1 H
-- (*haycroft/store.Store).ask
noncomputable def c27 : Code := Code.of Tryz.prog 27
noncomputable def L27 (ρ : Addr → Option Value) (call : CallF) (yc : YieldF) (lim k : Nat) (x0 x1 : AV) (H : Heap) : Res :=
  effK H (boxA H 27 x1) fun x3 H =>
  purK (nilChkA x0) fun x7 =>
  purK (addA 7 x7) fun x8 =>
  purK (ld1 ρ H x8) fun x9 =>
  purK (nilChkA x9) fun x10 =>
  purK (addA 4 x10) fun x11 =>
  purK (ld1 ρ H x11) fun x12 =>
  purK (binA Tryz.prog H .neq 74 x12 .nilp) fun x13 =>
  condK x13
  (
    retK [(.int .i64 0), (.int .i64 10)] H)
  (
    purK (nilChkA x0) fun x15 =>
    purK (addA 7 x15) fun x16 =>
    purK (ld1 ρ H x16) fun x17 =>
    purK (nilChkA x17) fun x18 =>
    purK (addA 2 x18) fun x19 =>
    purK (ld1 ρ H x19) fun x20 =>
    purK (addA 1 x3) fun x21 =>
    purK (ld1 ρ H x21) fun x22 =>
    purK (ixS 1 x20 x22) fun x23 =>
    purK (ld1 ρ H x23) fun x24 =>
    purK (addA 3 x3) fun x25 =>
    purK (ldN ρ H 4 x25) fun x26 =>
    resK (call lim 48 [x24, x26] H) fun x27 H =>
    purK (extA 0 x27) fun x28 =>
    purK (extA 1 x27) fun x29 =>
    retK [x28, x29] H)
theorem G27 (ρ : Addr → Option Value) (call : CallF) (yc : YieldF) (lim k : Nat) (x0 x1 : AV) (H : Heap) :
    evL (cx ρ) call yc false 27 lim k c27 [x0, x1, (.tup []), (.tup []), (.tup []), (.tup []), (.tup []), (.tup []), (.tup []), (.tup []), (.tup []), (.tup []), (.tup []), (.tup []), (.tup []), (.tup []), (.tup []), (.tup []), (.tup []), (.tup []), (.tup []), (.tup []), (.tup []), (.tup []), (.tup []), (.tup []), (.tup []), (.tup []), (.tup []), (.tup [])] H (kk none (fun s H => retK (([4, 5] : List Nat).map fun t => s.getD t (.tup [])) H) [] retK [4, 5]) = L27 ρ call yc lim k x0 x1 H := by
  kernel_rfl
theorem E27 (ρ : Addr → Option Value) (k lim : Nat) (x0 x1 : AV) (H : Heap) : evCall (cx ρ) (k + 1) lim 27 [x0, x1] H = L27 ρ (evCall (cx ρ) k) (evCY (cx ρ) k).2 lim k x0 x1 H := by
  rw [evCall_body (cx ρ) k lim 27 _ H Tryz.f27 c27 [4, 5] (by kernel_rfl) (by kernel_rfl) (by kernel_rfl) (by kernel_rfl) (by kernel_rfl)]
  exact G27 ρ (evCall (cx ρ) k) (evCY (cx ρ) k).2 lim k x0 x1 H
-- (*haycroft/session.Session).Move
noncomputable def c28 : Code := Code.of Tryz.prog 28
noncomputable def N28_1 (ρ : Addr → Option Value) (call : CallF) (yc : YieldF) (lim k : Nat) (x0 x4 : AV) (H : Heap) (R : List AV → Heap → Res) : Res :=
  purK (nilChkA x4) fun x63_1 =>
  purK (addA 1 x63_1) fun x64_1 =>
  purK (ld1 ρ H x64_1) fun x65_1 =>
  resK (call lim 54 [x65_1] H) fun x66_1 H =>
  purK (extA 0 x66_1) fun x67_1 =>
  purK (extA 1 x66_1) fun x68_1 =>
  purK (nilChkA x4) fun x71_1 =>
  purK (addA 1 x71_1) fun x72_1 =>
  purK (ld1 ρ H x72_1) fun x73_1 =>
  resK (call lim 49 [x73_1] H) fun x74_1 H =>
  purK (extA 0 x74_1) fun x75_1 =>
  purK (extA 1 x74_1) fun x76_1 =>
  purK (binA Tryz.prog H .neq 30 x68_1 (.int .i64 0)) fun x78_1 =>
  purK (gPur (wantV x78_1 false) (some x67_1)) fun x80_1 =>
  purK (gPur (wantV x78_1 false) (binA Tryz.prog H .neq 3 x80_1 (.int .i64 2))) fun x81_1 =>
  purK (gPur (wantV x78_1 false) (some x81_1)) fun x82_1 =>
  purK (gPur (wantV x82_1 true) (some x76_1)) fun x83_1 =>
  purK (gPur (wantV x82_1 true) (unA .not x83_1)) fun x84_1 =>
  purK (gPur (wantV x78_1 false) (pickA x82_1 x84_1 (.bool false))) fun x85_1 =>
  purK (pickA x78_1 (.bool true) x85_1) fun x86_1 =>
  condK x86_1
  (
    R [x67_1, x68_1] H)
  (
    purK (nilChkA x0) fun x90_1 =>
    purK (addA 0 x90_1) fun x91_1 =>
    purK (ld1 ρ H x91_1) fun x92_1 =>
    purK (nilChkA x0) fun x95_1 =>
    purK (addA 2 x95_1) fun x96_1 =>
    purK (ld1 ρ H x96_1) fun x97_1 =>
    resK (call lim 51 [x92_1] H) fun x93_1 H => bif (agn (ld1 ρ H x96_1) x97_1 && true) then
      resK (call lim 55 [x93_1, x97_1] H) fun x98_1 H =>
      purK (nilChkA x0) fun x100_1 =>
      purK (addA 0 x100_1) fun x101_1 =>
      purK (ld1 ρ H x101_1) fun x102_1 =>
      resK (call lim 56 [x102_1] H) fun x103_1 H =>
      resK (call lim 50 [x0, x4] H) fun x106_1 H =>
      R [x106_1, (.int .i64 0)] H
    else none)
theorem N28_1_eq (ρ : Addr → Option Value) (call : CallF) (yc : YieldF) (lim k : Nat) (x0 x4 : AV) (H : Heap) (R : List AV → Heap → Res) :
    evL (cx ρ) call yc false 28 lim k (Code.at [1, 1, 1, 1, 1] c28) (sp 107 [(0, x0), (4, x4)]) H (kk none (fun s H => R (([2, 3] : List Nat).map fun t => s.getD t (.tup [])) H) [] R [2, 3]) = N28_1 ρ call yc lim k x0 x4 H R := by
  kernel_rfl
noncomputable def L28 (ρ : Addr → Option Value) (call : CallF) (yc : YieldF) (lim k : Nat) (x0 : AV) (H : Heap) : Res :=
  purK (binA Tryz.prog H .eql 67 x0 .nilp) fun x14 =>
  condK x14
  (
    retK [(.int .i64 0), (.int .i64 2)] H)
  (
    purK (nilChkA x0) fun x17 =>
    purK (addA 5 x17) fun x18 =>
    purK (ld1 ρ H x18) fun x19 =>
    purK (binA Tryz.prog H .eql 100 x19 .nilp) fun x20 =>
    condK x20
    (
      retK [(.int .i64 0), (.int .i64 7)] H)
    (
      purK (nilChkA x0) fun x22 =>
      purK (addA 5 x22) fun x23 =>
      purK (ld1 ρ H x23) fun x24 =>
      purK (nilChkA x24) fun x27 =>
      purK (addA 1 x27) fun x28 =>
      purK (ld1 ρ H x28) fun x29 =>
      resK (call lim 49 [x29] H) fun x30 H =>
      purK (extA 0 x30) fun x31 =>
      purK (extA 1 x30) fun x32 =>
      condK x32
      (
        resK (call lim 50 [x0, x24] H) fun x36 H =>
        retK [x36, (.int .i64 0)] H)
      (
        purK (nilChkA x0) fun x38 =>
        purK (addA 0 x38) fun x39 =>
        purK (ld1 ρ H x39) fun x40 =>
        purK (nilChkA x0) fun x43 =>
        purK (addA 2 x43) fun x44 =>
        purK (ld1 ρ H x44) fun x45 =>
        resK (call lim 51 [x40] H) fun x41 H => bif (agn (ld1 ρ H x44) x45 && true) then
          resK (call lim 52 [x41, x45] H) fun x46 H =>
          purK (binA Tryz.prog H .eql 22 x46 (.int .u64 0)) fun x47 =>
          condK x47
          (
            purK (nilChkA x0) fun x49 =>
            purK (addA 0 x49) fun x50 =>
            purK (ld1 ρ H x50) fun x51 =>
            purK (nilChkA x0) fun x54 =>
            purK (addA 2 x54) fun x55 =>
            purK (ld1 ρ H x55) fun x56 =>
            resK (call lim 51 [x51] H) fun x52 H => bif (agn (ld1 ρ H x55) x56 && true) then
              resK (call lim 53 [x52, x56] H) fun x57 H =>
              purK (binA Tryz.prog H .neq 30 x57 (.int .i64 0)) fun x59 =>
              condK x59
              (
                retK [(.int .i64 0), x57] H)
              (
                N28_1 ρ call yc lim k x0 x24 H retK)
            else none)
          (
            N28_1 ρ call yc lim k x0 x24 H retK)
        else none)))
theorem L28_x (ρ : Addr → Option Value) (call : CallF) (yc : YieldF) (lim k : Nat) (J : CodeF) (x0 : AV) (H : Heap) :
    evX (cx ρ) call yc false 28 lim k J c28 [x0, (.tup []), (.tup []), (.tup []), (.tup []), (.tup []), (.tup []), (.tup []), (.tup []), (.tup []), (.tup []), (.tup []), (.tup []), (.tup []), (.tup []), (.tup []), (.tup []), (.tup []), (.tup []), (.tup []), (.tup []), (.tup []), (.tup []), (.tup []), (.tup []), (.tup []), (.tup []), (.tup []), (.tup []), (.tup []), (.tup []), (.tup []), (.tup []), (.tup []), (.tup []), (.tup []), (.tup []), (.tup []), (.tup []), (.tup []), (.tup []), (.tup []), (.tup []), (.tup []), (.tup []), (.tup []), (.tup []), (.tup []), (.tup []), (.tup []), (.tup []), (.tup []), (.tup []), (.tup []), (.tup []), (.tup []), (.tup []), (.tup []), (.tup []), (.tup []), (.tup []), (.tup []), (.tup []), (.tup []), (.tup []), (.tup []), (.tup []), (.tup []), (.tup []), (.tup []), (.tup []), (.tup []), (.tup []), (.tup []), (.tup []), (.tup []), (.tup []), (.tup []), (.tup []), (.tup []), (.tup []), (.tup []), (.tup []), (.tup []), (.tup []), (.tup []), (.tup []), (.tup []), (.tup []), (.tup []), (.tup []), (.tup []), (.tup []), (.tup []), (.tup []), (.tup []), (.tup []), (.tup []), (.tup []), (.tup []), (.tup []), (.tup []), (.tup []), (.tup []), (.tup []), (.tup []), (.tup [])] H (kk none (fun s H => retK (([2, 3] : List Nat).map fun t => s.getD t (.tup [])) H) [] retK [2, 3]) =
  purK (binA Tryz.prog H .eql 67 x0 .nilp) fun x14 =>
  condK x14
  (
    retK [(.int .i64 0), (.int .i64 2)] H)
  (
    purK (nilChkA x0) fun x17 =>
    purK (addA 5 x17) fun x18 =>
    purK (ld1 ρ H x18) fun x19 =>
    purK (binA Tryz.prog H .eql 100 x19 .nilp) fun x20 =>
    condK x20
    (
      retK [(.int .i64 0), (.int .i64 7)] H)
    (
      purK (nilChkA x0) fun x22 =>
      purK (addA 5 x22) fun x23 =>
      purK (ld1 ρ H x23) fun x24 =>
      purK (nilChkA x24) fun x27 =>
      purK (addA 1 x27) fun x28 =>
      purK (ld1 ρ H x28) fun x29 =>
      resK (call lim 49 [x29] H) fun x30 H =>
      purK (extA 0 x30) fun x31 =>
      purK (extA 1 x30) fun x32 =>
      condK x32
      (
        resK (call lim 50 [x0, x24] H) fun x36 H =>
        retK [x36, (.int .i64 0)] H)
      (
        purK (nilChkA x0) fun x38 =>
        purK (addA 0 x38) fun x39 =>
        purK (ld1 ρ H x39) fun x40 =>
        purK (nilChkA x0) fun x43 =>
        purK (addA 2 x43) fun x44 =>
        purK (ld1 ρ H x44) fun x45 =>
        resK (call lim 51 [x40] H) fun x41 H => bif (agn (ld1 ρ H x44) x45 && true) then
          resK (call lim 52 [x41, x45] H) fun x46 H =>
          purK (binA Tryz.prog H .eql 22 x46 (.int .u64 0)) fun x47 =>
          condK x47
          (
            purK (nilChkA x0) fun x49 =>
            purK (addA 0 x49) fun x50 =>
            purK (ld1 ρ H x50) fun x51 =>
            purK (nilChkA x0) fun x54 =>
            purK (addA 2 x54) fun x55 =>
            purK (ld1 ρ H x55) fun x56 =>
            resK (call lim 51 [x51] H) fun x52 H => bif (agn (ld1 ρ H x55) x56 && true) then
              resK (call lim 53 [x52, x56] H) fun x57 H =>
              purK (binA Tryz.prog H .neq 30 x57 (.int .i64 0)) fun x59 =>
              condK x59
              (
                retK [(.int .i64 0), x57] H)
              (
                J (Code.at [1, 1, 1, 1, 1] c28) (sp 107 [(0, x0), (4, x24)]) H (kk none (fun s H => retK (([2, 3] : List Nat).map fun t => s.getD t (.tup [])) H) [] retK [2, 3]))
            else none)
          (
            J (Code.at [1, 1, 1, 1, 1] c28) (sp 107 [(0, x0), (4, x24)]) H (kk none (fun s H => retK (([2, 3] : List Nat).map fun t => s.getD t (.tup [])) H) [] retK [2, 3]))
        else none))) := by
  kernel_rfl
theorem G28 (ρ : Addr → Option Value) (call : CallF) (yc : YieldF) (lim k : Nat) (x0 : AV) (H : Heap) :
    evL (cx ρ) call yc false 28 lim k c28 [x0, (.tup []), (.tup []), (.tup []), (.tup []), (.tup []), (.tup []), (.tup []), (.tup []), (.tup []), (.tup []), (.tup []), (.tup []), (.tup []), (.tup []), (.tup []), (.tup []), (.tup []), (.tup []), (.tup []), (.tup []), (.tup []), (.tup []), (.tup []), (.tup []), (.tup []), (.tup []), (.tup []), (.tup []), (.tup []), (.tup []), (.tup []), (.tup []), (.tup []), (.tup []), (.tup []), (.tup []), (.tup []), (.tup []), (.tup []), (.tup []), (.tup []), (.tup []), (.tup []), (.tup []), (.tup []), (.tup []), (.tup []), (.tup []), (.tup []), (.tup []), (.tup []), (.tup []), (.tup []), (.tup []), (.tup []), (.tup []), (.tup []), (.tup []), (.tup []), (.tup []), (.tup []), (.tup []), (.tup []), (.tup []), (.tup []), (.tup []), (.tup []), (.tup []), (.tup []), (.tup []), (.tup []), (.tup []), (.tup []), (.tup []), (.tup []), (.tup []), (.tup []), (.tup []), (.tup []), (.tup []), (.tup []), (.tup []), (.tup []), (.tup []), (.tup []), (.tup []), (.tup []), (.tup []), (.tup []), (.tup []), (.tup []), (.tup []), (.tup []), (.tup []), (.tup []), (.tup []), (.tup []), (.tup []), (.tup []), (.tup []), (.tup []), (.tup []), (.tup []), (.tup []), (.tup []), (.tup [])] H (kk none (fun s H => retK (([2, 3] : List Nat).map fun t => s.getD t (.tup [])) H) [] retK [2, 3]) = L28 ρ call yc lim k x0 H := by
  rw [evL_X, L28_x]
  simp only [← evL_X, L28, N28_1_eq]
theorem E28 (ρ : Addr → Option Value) (k lim : Nat) (x0 : AV) (H : Heap) : evCall (cx ρ) (k + 1) lim 28 [x0] H = L28 ρ (evCall (cx ρ) k) (evCY (cx ρ) k).2 lim k x0 H := by
  rw [evCall_body (cx ρ) k lim 28 _ H Tryz.f28 c28 [2, 3] (by kernel_rfl) (by kernel_rfl) (by kernel_rfl) (by kernel_rfl) (by kernel_rfl)]
  exact G28 ρ (evCall (cx ρ) k) (evCY (cx ρ) k).2 lim k x0 H
end Go.Proofs.YtdiafdmgenefnaaGreat
