/- Functions, lifted. Printed by a program of this repo. -/
import Derived.Test.YtahfgahnkacobaaGreatLfTab
set_option linter.unusedVariables false
set_option linter.unusedSimpArgs false
set_option maxRecDepth 100000
set_option maxHeartbeats 4000000
namespace Go.Proofs.YtahfgahnkacobaaGreat
open Go.Ev Go.RowKit
-- haycroft/haycroftlaw19.TaskNil
noncomputable def c3 : Code := Code.of Tryz.prog 3
noncomputable def L3 (ρ : Addr → Option Value) (call : CallF) (yc : YieldF) (lim k : Nat) (x0 x1 x2 : AV) (H : Heap) : Res :=
  effK H (boxA H 24 x0) fun x3 H =>
  resK (call lim 4 [] H) fun x16 H =>
  purK (unA .not x16) fun x17 =>
  condK x17
  (
    retK [(.bool false)] H)
  (
    resK (call lim 5 [.nilp] H) fun x20 H =>
    purK (extA 0 x20) fun x21 =>
    purK (extA 1 x20) fun x22 =>
    resK (call lim 6 [.nilp] H) fun x25 H =>
    purK (extA 0 x25) fun x26 =>
    purK (extA 1 x25) fun x27 =>
    resK (call lim 7 [.nilp] H) fun x30 H =>
    purK (extA 0 x30) fun x31 =>
    purK (extA 1 x30) fun x32 =>
    effK H (some (.ptr H.sz 0 0, .new (newCells 34 false [.int .i64 0, .str ByteArray.empty]))) fun x12 H =>
    effK H (stA lim H 2 x12 x31) fun _ H =>
    purK (ldN ρ H 4 x3) fun x35 =>
    resK (call lim 8 [.nilp, .nilp, x1, x35, (.int .i64 0)] H) fun x36 H =>
    purK (extA 0 x36) fun x37 =>
    purK (extA 1 x36) fun x38 =>
    purK (ldN ρ H 4 x3) fun x39 =>
    purK (ldN ρ H 4 x3) fun x41 =>
    resK (call lim 9 [x39] H) fun x40 H => bif (agn (ldN ρ H 4 x3) x41 && true) then
      resK (call lim 10 [x41] H) fun x42 H =>
      purK (binA Tryz.prog H .eql 28 x40 x42) fun x43 =>
      boolK (wantV x43 true) fun b1 => purK (bif b1 then some x21 else some (.tup [])) fun x45 =>
      boolK (wantV x43 true) fun b2 => purK (bif b2 then binA Tryz.prog H .eql 3 x45 (.int .i64 0) else some (.tup [])) fun x46 =>
      purK (pickA x43 x46 (.bool false)) fun x47 =>
      boolK (wantV x47 true) fun b3 => purK (bif b3 then some x22 else some (.tup [])) fun x49 =>
      boolK (wantV x47 true) fun b4 => purK (bif b4 then binA Tryz.prog H .eql 28 x49 (.int .i64 2) else some (.tup [])) fun x50 =>
      purK (pickA x47 x50 (.bool false)) fun x51 =>
      boolK (wantV x51 true) fun b5 => purK (bif b5 then some x26 else some (.tup [])) fun x53 =>
      boolK (wantV x51 true) fun b6 => purK (bif b6 then binA Tryz.prog H .eql 22 x53 (.int .u64 0) else some (.tup [])) fun x54 =>
      purK (pickA x51 x54 (.bool false)) fun x55 =>
      boolK (wantV x55 true) fun b7 => purK (bif b7 then some x27 else some (.tup [])) fun x57 =>
      boolK (wantV x55 true) fun b8 => purK (bif b8 then unA .not x57 else some (.tup [])) fun x58 =>
      purK (pickA x55 x58 (.bool false)) fun x59 =>
      boolK (wantV x59 true) fun b9 => purK (bif b9 then some .nilp else some (.tup [])) fun x61 =>
      boolK (wantV x59 true) fun b10 => purK (bif b10 then some x2 else some (.tup [])) fun x62 =>
      boolK (wantV x59 true) fun b11 => resK (gRes (some b11) H (call lim 11 [x61, x62] H)) fun x63 H => bif !b11 || ((!b6 || true) && ((!b4 || true) && ((!b2 || true) && true))) then
        boolK (wantV x59 true) fun b12 => purK (bif b12 then binA Tryz.prog H .eql 28 x63 (.int .i64 2) else some (.tup [])) fun x64 =>
        purK (pickA x59 x64 (.bool false)) fun x65 =>
        boolK (wantV x65 true) fun b13 => purK (bif b13 then ldN ρ H 2 x12 else some (.tup [])) fun x67 =>
        boolK (wantV x65 true) fun b14 => purK (bif b14 then bldA [.int .i64 0, .str ByteArray.empty] [] else some (.tup [])) fun x68 =>
        boolK (wantV x65 true) fun b15 => purK (bif b15 then binA Tryz.prog H .eql 34 x67 x68 else some (.tup [])) fun x69 =>
        purK (pickA x65 x69 (.bool false)) fun x70 =>
        boolK (wantV x70 true) fun b16 => purK (bif b16 then some x32 else some (.tup [])) fun x72 =>
        boolK (wantV x70 true) fun b17 => purK (bif b17 then unA .not x72 else some (.tup [])) fun x73 =>
        purK (pickA x70 x73 (.bool false)) fun x74 =>
        boolK (wantV x74 true) fun b18 => purK (bif b18 then some .nilp else some (.tup [])) fun x76 =>
        boolK (wantV x74 true) fun b19 => resK (gRes (some b19) H (call lim 12 [x76] H)) fun x77 H => bif !b19 || ((!b15 || true) && ((!b13 || true) && ((!b12 || true) && ((!b6 || true) && ((!b4 || true) && ((!b2 || true) && true)))))) then
          boolK (wantV x74 true) fun b20 => purK (bif b20 then binA Tryz.prog H .eql 3 x77 (.int .i64 0) else some (.tup [])) fun x78 =>
          purK (pickA x74 x78 (.bool false)) fun x79 =>
          boolK (wantV x79 true) fun b21 => purK (bif b21 then some .nilp else some (.tup [])) fun x81 =>
          boolK (wantV x79 true) fun b22 => resK (gRes (some b22) H (call lim 13 [x81] H)) fun x82 H => bif !b22 || ((!b20 || true) && ((!b15 || true) && ((!b13 || true) && ((!b12 || true) && ((!b6 || true) && ((!b4 || true) && ((!b2 || true) && true))))))) then
            boolK (wantV x79 true) fun b23 => purK (bif b23 then binA Tryz.prog H .eql 3 x82 (.int .i64 0) else some (.tup [])) fun x83 =>
            purK (pickA x79 x83 (.bool false)) fun x84 =>
            boolK (wantV x84 true) fun b24 => purK (bif b24 then some .nilp else some (.tup [])) fun x86 =>
            boolK (wantV x84 true) fun b25 => purK (bif b25 then bldA [.int .i64 0, .str ByteArray.empty, .str ByteArray.empty, .int .u64 0] [] else some (.tup [])) fun x88 =>
            boolK (wantV x84 true) fun b26 => resK (gRes (some b26) H (call lim 14 [x86] H)) fun x87 H => bif !b26 || ((!b23 || true) && ((!b20 || true) && ((!b15 || true) && ((!b13 || true) && ((!b12 || true) && ((!b6 || true) && ((!b4 || true) && ((!b2 || true) && true)))))))) then
              purK (gPur (wantV x84 true) (binA Tryz.prog H .eql 24 x87 x88)) fun x89 =>
              purK (pickA x84 x89 (.bool false)) fun x90 =>
              purK (gPur (wantV x90 true) (some x37)) fun x92 =>
              purK (gPur (wantV x90 true) (binA Tryz.prog H .eql 27 x92 .nilp)) fun x93 =>
              purK (pickA x90 x93 (.bool false)) fun x94 =>
              purK (gPur (wantV x94 true) (some x38)) fun x96 =>
              purK (gPur (wantV x94 true) (binA Tryz.prog H .eql 28 x96 (.int .i64 2))) fun x97 =>
              purK (pickA x94 x97 (.bool false)) fun x98 =>
              retK [x98] H
            else none
          else none
        else none
      else none
    else none)
theorem G3 (ρ : Addr → Option Value) (call : CallF) (yc : YieldF) (lim k : Nat) (x0 x1 x2 : AV) (H : Heap) :
    evL (cx ρ) call yc false 3 lim k c3 [x0, x1, x2, (.tup []), (.tup []), (.tup []), (.tup []), (.tup []), (.tup []), (.tup []), (.tup []), (.tup []), (.tup []), (.tup []), (.tup []), (.tup []), (.tup []), (.tup []), (.tup []), (.tup []), (.tup []), (.tup []), (.tup []), (.tup []), (.tup []), (.tup []), (.tup []), (.tup []), (.tup []), (.tup []), (.tup []), (.tup []), (.tup []), (.tup []), (.tup []), (.tup []), (.tup []), (.tup []), (.tup []), (.tup []), (.tup []), (.tup []), (.tup []), (.tup []), (.tup []), (.tup []), (.tup []), (.tup []), (.tup []), (.tup []), (.tup []), (.tup []), (.tup []), (.tup []), (.tup []), (.tup []), (.tup []), (.tup []), (.tup []), (.tup []), (.tup []), (.tup []), (.tup []), (.tup []), (.tup []), (.tup []), (.tup []), (.tup []), (.tup []), (.tup []), (.tup []), (.tup []), (.tup []), (.tup []), (.tup []), (.tup []), (.tup []), (.tup []), (.tup []), (.tup []), (.tup []), (.tup []), (.tup []), (.tup []), (.tup []), (.tup []), (.tup []), (.tup []), (.tup []), (.tup []), (.tup []), (.tup []), (.tup []), (.tup []), (.tup []), (.tup []), (.tup []), (.tup []), (.tup [])] H (kk none (fun s H => retK (([6] : List Nat).map fun t => s.getD t (.tup [])) H) [] retK [6]) = L3 ρ call yc lim k x0 x1 x2 H := by
  kernel_rfl
theorem E3 (ρ : Addr → Option Value) (k lim : Nat) (x0 x1 x2 : AV) (H : Heap) : evCall (cx ρ) (k + 1) lim 3 [x0, x1, x2] H = L3 ρ (evCall (cx ρ) k) (evCY (cx ρ) k).2 lim k x0 x1 x2 H := by
  rw [evCall_body (cx ρ) k lim 3 _ H Tryz.f3 c3 [6] (by kernel_rfl) (by kernel_rfl) (by kernel_rfl) (by kernel_rfl) (by kernel_rfl)]
  exact G3 ρ (evCall (cx ρ) k) (evCY (cx ρ) k).2 lim k x0 x1 x2 H
-- haycroft/haycroftlaw19.awake
noncomputable def c4 : Code := Code.of Tryz.prog 4
noncomputable def L4 (ρ : Addr → Option Value) (call : CallF) (yc : YieldF) (lim k : Nat) (H : Heap) : Res :=
  resK (call lim 16 [] H) fun x14 H =>
  resK (call lim 17 [] H) fun x15 H =>
  resK (call lim 15 [x14, x15] H) fun x16 H =>
  purK (extA 0 x16) fun x17 =>
  purK (extA 1 x16) fun x18 =>
  resK (call lim 18 [(.int .i64 1), (.int .i64 1)] H) fun x20 H =>
  purK (extA 0 x20) fun x21 =>
  purK (extA 1 x20) fun x22 =>
  purK (bldA [.int .i64 0, .str ByteArray.empty, .str ByteArray.empty, .int .u64 0] [(0, 1, (.int .i64 1)), (1, 1, (.str (ByteArray.mk #[107])))]) fun x26 =>
  resK (call lim 8 [x17, x21, (.int .i64 0), x26, (.int .i64 0)] H) fun x27 H =>
  purK (extA 0 x27) fun x28 =>
  purK (extA 1 x27) fun x29 =>
  purK (binA Tryz.prog H .neq 28 x18 (.int .i64 0)) fun x31 =>
  purK (gPur (wantV x31 false) (some x22)) fun x33 =>
  purK (gPur (wantV x31 false) (binA Tryz.prog H .neq 28 x33 (.int .i64 0))) fun x34 =>
  purK (pickA x31 (.bool true) x34) fun x35 =>
  purK (gPur (wantV x35 false) (some x29)) fun x37 =>
  purK (gPur (wantV x35 false) (binA Tryz.prog H .neq 28 x37 (.int .i64 0))) fun x38 =>
  purK (pickA x35 (.bool true) x38) fun x39 =>
  condK x39
  (
    retK [(.bool false)] H)
  (
    resK (call lim 5 [x28] H) fun x42 H =>
    purK (extA 0 x42) fun x43 =>
    purK (extA 1 x42) fun x44 =>
    resK (call lim 19 [x17] H) fun x46 H =>
    resK (call lim 20 [x46, (.int .i64 0)] H) fun x47 H =>
    resK (call lim 5 [x28] H) fun x50 H =>
    purK (extA 0 x50) fun x51 =>
    purK (extA 1 x50) fun x52 =>
    resK (call lim 7 [x28] H) fun x55 H =>
    purK (extA 0 x55) fun x56 =>
    purK (extA 1 x55) fun x57 =>
    effK H (some (.ptr H.sz 0 0, .new (newCells 34 false [.int .i64 0, .str ByteArray.empty]))) fun x11 H =>
    effK H (stA lim H 2 x11 x56) fun _ H =>
    purK (binA Tryz.prog H .eql 28 x44 (.int .i64 7)) fun x59 =>
    purK (gPur (wantV x59 true) (some x51)) fun x61 =>
    purK (gPur (wantV x59 true) (binA Tryz.prog H .eql 3 x61 (.int .i64 2))) fun x62 =>
    purK (pickA x59 x62 (.bool false)) fun x63 =>
    purK (gPur (wantV x63 true) (some x52)) fun x65 =>
    purK (gPur (wantV x63 true) (binA Tryz.prog H .eql 28 x65 (.int .i64 0))) fun x66 =>
    purK (pickA x63 x66 (.bool false)) fun x67 =>
    purK (gPur (wantV x67 true) (addA 0 x11)) fun x69 =>
    purK (gPur (wantV x67 true) (ld1 ρ H x69)) fun x70 =>
    purK (gPur (wantV x67 true) (binA Tryz.prog H .eql 28 x70 (.int .i64 7))) fun x71 =>
    purK (pickA x67 x71 (.bool false)) fun x72 =>
    purK (gPur (wantV x72 true) (some x57)) fun x74 =>
    purK (pickA x72 x74 (.bool false)) fun x75 =>
    retK [x75] H)
theorem G4 (ρ : Addr → Option Value) (call : CallF) (yc : YieldF) (lim k : Nat) (H : Heap) :
    evL (cx ρ) call yc false 4 lim k c4 [(.tup []), (.tup []), (.tup []), (.tup []), (.tup []), (.tup []), (.tup []), (.tup []), (.tup []), (.tup []), (.tup []), (.tup []), (.tup []), (.tup []), (.tup []), (.tup []), (.tup []), (.tup []), (.tup []), (.tup []), (.tup []), (.tup []), (.tup []), (.tup []), (.tup []), (.tup []), (.tup []), (.tup []), (.tup []), (.tup []), (.tup []), (.tup []), (.tup []), (.tup []), (.tup []), (.tup []), (.tup []), (.tup []), (.tup []), (.tup []), (.tup []), (.tup []), (.tup []), (.tup []), (.tup []), (.tup []), (.tup []), (.tup []), (.tup []), (.tup []), (.tup []), (.tup []), (.tup []), (.tup []), (.tup []), (.tup []), (.tup []), (.tup []), (.tup []), (.tup []), (.tup []), (.tup []), (.tup []), (.tup []), (.tup []), (.tup []), (.tup []), (.tup []), (.tup []), (.tup []), (.tup []), (.tup []), (.tup []), (.tup []), (.tup []), (.tup [])] H (kk none (fun s H => retK (([0] : List Nat).map fun t => s.getD t (.tup [])) H) [] retK [0]) = L4 ρ call yc lim k H := by
  kernel_rfl
theorem E4 (ρ : Addr → Option Value) (k lim : Nat) (H : Heap) : evCall (cx ρ) (k + 1) lim 4 [] H = L4 ρ (evCall (cx ρ) k) (evCY (cx ρ) k).2 lim k H := by
  rw [evCall_body (cx ρ) k lim 4 _ H Tryz.f4 c4 [0] (by kernel_rfl) (by kernel_rfl) (by kernel_rfl) (by kernel_rfl) (by kernel_rfl)]
  exact G4 ρ (evCall (cx ρ) k) (evCY (cx ρ) k).2 lim k H
-- (*haycroft/task.Task).Move
noncomputable def c5 : Code := Code.of Tryz.prog 5
noncomputable def L5 (ρ : Addr → Option Value) (call : CallF) (yc : YieldF) (lim k : Nat) (x0 : AV) (H : Heap) : Res :=
  purK (binA Tryz.prog H .eql 27 x0 .nilp) fun x6 =>
  condK x6
  (
    resK (call lim 21 [(.int .i64 2)] H) fun x7 H =>
    purK (extA 0 x7) fun x8 =>
    purK (extA 1 x7) fun x9 =>
    retK [x8, x9] H)
  (
    purK (nilChkA x0) fun x12 =>
    purK (addA 20 x12) fun x13 =>
    purK (ld1 ρ H x13) fun x14 =>
    condK x14
    (
      retK [(.int .i64 2), (.int .i64 0)] H)
    (
      purK (nilChkA x0) fun x17 =>
      purK (addA 0 x17) fun x18 =>
      purK (ld1 ρ H x18) fun x19 =>
      purK (nilChkA x0) fun x22 =>
      purK (addA 2 x22) fun x23 =>
      purK (ld1 ρ H x23) fun x24 =>
      resK (call lim 19 [x19] H) fun x20 H => bif (agn (ld1 ρ H x23) x24 && true) then
        resK (call lim 22 [x20, x24] H) fun x25 H =>
        purK (binA Tryz.prog H .eql 22 x25 (.int .u64 0)) fun x26 =>
        condK x26
        (
          resK (call lim 21 [(.int .i64 7)] H) fun x27 H =>
          purK (extA 0 x27) fun x28 =>
          purK (extA 1 x27) fun x29 =>
          retK [x28, x29] H)
        (
          purK (nilChkA x0) fun x31 =>
          purK (addA 8 x31) fun x32 =>
          purK (ld1 ρ H x32) fun x33 =>
          valK call yc lim x33 [x0] H fun x35 H =>
          purK (extA 0 x35) fun x36 =>
          purK (extA 1 x35) fun x37 =>
          retK [x36, x37] H)
      else none))
theorem G5 (ρ : Addr → Option Value) (call : CallF) (yc : YieldF) (lim k : Nat) (x0 : AV) (H : Heap) :
    evL (cx ρ) call yc false 5 lim k c5 [x0, (.tup []), (.tup []), (.tup []), (.tup []), (.tup []), (.tup []), (.tup []), (.tup []), (.tup []), (.tup []), (.tup []), (.tup []), (.tup []), (.tup []), (.tup []), (.tup []), (.tup []), (.tup []), (.tup []), (.tup []), (.tup []), (.tup []), (.tup []), (.tup []), (.tup []), (.tup []), (.tup []), (.tup []), (.tup []), (.tup []), (.tup []), (.tup []), (.tup []), (.tup []), (.tup []), (.tup []), (.tup [])] H (kk none (fun s H => retK (([2, 3] : List Nat).map fun t => s.getD t (.tup [])) H) [] retK [2, 3]) = L5 ρ call yc lim k x0 H := by
  kernel_rfl
theorem E5 (ρ : Addr → Option Value) (k lim : Nat) (x0 : AV) (H : Heap) : evCall (cx ρ) (k + 1) lim 5 [x0] H = L5 ρ (evCall (cx ρ) k) (evCY (cx ρ) k).2 lim k x0 H := by
  rw [evCall_body (cx ρ) k lim 5 _ H Tryz.f5 c5 [2, 3] (by kernel_rfl) (by kernel_rfl) (by kernel_rfl) (by kernel_rfl) (by kernel_rfl)]
  exact G5 ρ (evCall (cx ρ) k) (evCY (cx ρ) k).2 lim k x0 H
-- (*haycroft/task.Task).Want
noncomputable def c6 : Code := Code.of Tryz.prog 6
noncomputable def L6 (ρ : Addr → Option Value) (call : CallF) (yc : YieldF) (lim k : Nat) (x0 : AV) (H : Heap) : Res :=
  purK (binA Tryz.prog H .eql 27 x0 .nilp) fun x5 =>
  purK (gPur (wantV x5 false) (some x0)) fun x7 =>
  purK (gPur (wantV x5 false) (nilChkA x7)) fun x8 =>
  purK (gPur (wantV x5 false) (addA 20 x8)) fun x9 =>
  purK (gPur (wantV x5 false) (ld1 ρ H x9)) fun x10 =>
  purK (pickA x5 (.bool true) x10) fun x11 =>
  purK (gPur (wantV x11 false) (some x0)) fun x13 =>
  purK (gPur (wantV x11 false) (nilChkA x13)) fun x14 =>
  purK (gPur (wantV x11 false) (addA 19 x14)) fun x15 =>
  purK (gPur (wantV x11 false) (ld1 ρ H x15)) fun x16 =>
  purK (gPur (wantV x11 false) (unA .not x16)) fun x17 =>
  purK (pickA x11 (.bool true) x17) fun x18 =>
  condK x18
  (
    retK [(.int .u64 0), (.bool false)] H)
  (
    purK (nilChkA x0) fun x20 =>
    purK (addA 13 x20) fun x21 =>
    purK (ld1 ρ H x21) fun x22 =>
    retK [x22, (.bool true)] H)
theorem G6 (ρ : Addr → Option Value) (call : CallF) (yc : YieldF) (lim k : Nat) (x0 : AV) (H : Heap) :
    evL (cx ρ) call yc false 6 lim k c6 [x0, (.tup []), (.tup []), (.tup []), (.tup []), (.tup []), (.tup []), (.tup []), (.tup []), (.tup []), (.tup []), (.tup []), (.tup []), (.tup []), (.tup []), (.tup []), (.tup []), (.tup []), (.tup []), (.tup []), (.tup []), (.tup []), (.tup [])] H (kk none (fun s H => retK (([2, 3] : List Nat).map fun t => s.getD t (.tup [])) H) [] retK [2, 3]) = L6 ρ call yc lim k x0 H := by
  kernel_rfl
theorem E6 (ρ : Addr → Option Value) (k lim : Nat) (x0 : AV) (H : Heap) : evCall (cx ρ) (k + 1) lim 6 [x0] H = L6 ρ (evCall (cx ρ) k) (evCY (cx ρ) k).2 lim k x0 H := by
  rw [evCall_body (cx ρ) k lim 6 _ H Tryz.f6 c6 [2, 3] (by kernel_rfl) (by kernel_rfl) (by kernel_rfl) (by kernel_rfl) (by kernel_rfl)]
  exact G6 ρ (evCall (cx ρ) k) (evCY (cx ρ) k).2 lim k x0 H
-- (*haycroft/task.Task).Outcome
noncomputable def c7 : Code := Code.of Tryz.prog 7
noncomputable def L7 (ρ : Addr → Option Value) (call : CallF) (yc : YieldF) (lim k : Nat) (x0 : AV) (H : Heap) : Res :=
  effK H (some (.ptr H.sz 0 0, .new (newCells 34 false [.int .i64 0, .str ByteArray.empty]))) fun x2 H =>
  purK (binA Tryz.prog H .eql 27 x0 .nilp) fun x5 =>
  condK x5
  (
    purK (bldA [.int .i64 0, .str ByteArray.empty] []) fun x6 =>
    effK H (stA lim H 2 x2 x6) fun _ H =>
    (retC (cx ρ) [some 34, none]) [x2, (.bool false)] H)
  (
    purK (nilChkA x0) fun x8 =>
    purK (addA 21 x8) fun x9 =>
    purK (ldN ρ H 2 x9) fun x10 =>
    purK (nilChkA x0) fun x12 =>
    purK (addA 20 x12) fun x13 =>
    purK (ld1 ρ H x13) fun x14 =>
    effK H (stA lim H 2 x2 x10) fun _ H => bif (agn (ld1 ρ H x13) x14 && true) then
      (retC (cx ρ) [some 34, none]) [x2, x14] H
    else none)
theorem G7 (ρ : Addr → Option Value) (call : CallF) (yc : YieldF) (lim k : Nat) (x0 : AV) (H : Heap) :
    evL (cx ρ) call yc false 7 lim k c7 [x0, (.tup []), (.tup []), (.tup []), (.tup []), (.tup []), (.tup []), (.tup []), (.tup []), (.tup []), (.tup []), (.tup []), (.tup []), (.tup []), (.tup [])] H (kk none (fun s H => (retC (cx ρ) [some 34, none]) (([2, 3] : List Nat).map fun t => s.getD t (.tup [])) H) [] (retC (cx ρ) [some 34, none]) [2, 3]) = L7 ρ call yc lim k x0 H := by
  kernel_rfl
theorem E7 (ρ : Addr → Option Value) (k lim : Nat) (x0 : AV) (H : Heap) : evCall (cx ρ) (k + 1) lim 7 [x0] H = L7 ρ (evCall (cx ρ) k) (evCY (cx ρ) k).2 lim k x0 H := by
  rw [evCall_cells (cx ρ) k lim 7 _ H Tryz.f7 c7 [2, 3] [some 34, none] (by kernel_rfl) (by kernel_rfl) (by kernel_rfl) (by kernel_rfl) (by kernel_rfl) (by kernel_rfl)]
  exact G7 ρ (evCall (cx ρ) k) (evCY (cx ρ) k).2 lim k x0 H
-- haycroft/task.New
noncomputable def c8 : Code := Code.of Tryz.prog 8
noncomputable def L8 (ρ : Addr → Option Value) (call : CallF) (yc : YieldF) (lim k : Nat) (x0 x1 x2 x3 x4 : AV) (H : Heap) : Res :=
  effK H (boxA H 24 x3) fun x8 H =>
  purK (binA Tryz.prog H .eql 44 x0 .nilp) fun x14 =>
  purK (gPur (wantV x14 false) (some x1)) fun x16 =>
  purK (gPur (wantV x14 false) (binA Tryz.prog H .eql 52 x16 .nilp)) fun x17 =>
  purK (pickA x14 (.bool true) x17) fun x18 =>
  condK x18
  (
    retK [.nilp, (.int .i64 2)] H)
  (
    purK (ldN ρ H 4 x8) fun x19 =>
    resK (call lim 9 [x19] H) fun x20 H =>
    purK (binA Tryz.prog H .neq 28 x20 (.int .i64 0)) fun x22 =>
    condK x22
    (
      retK [.nilp, x20] H)
    (
      purK (ldN ρ H 4 x8) fun x27 =>
      purK (addA 1 x8) fun x28 =>
      purK (ld1 ρ H x28) fun x29 =>
      resK (call lim 23 [x29] H) fun x30 H => bif (agn (ldN ρ H 4 x8) x27 && true) then
        purK (bldA [.nilp, .nilp, .int .i64 0, .int .i64 0, .str ByteArray.empty, .str ByteArray.empty, .int .u64 0, .int .u64 0, .nilf, .int .i64 0, .int .u64 0, .int .i64 0, .int .i64 0, .int .u64 0, .int .u64 0, .int .u64 0, .str ByteArray.empty, .nilp, .nilp, .bool false, .bool false, .int .i64 0, .str ByteArray.empty, .int .i64 0] [(0, 1, x0), (1, 1, x1), (2, 1, x2), (3, 4, x27), (7, 1, x30), (8, 1, (.fn (.func 24) [] [])), (12, 1, x4)]) fun x32 =>
        effK H (boxA H 64 x32) fun x33 H =>
        retK [x33, (.int .i64 0)] H
      else none))
theorem G8 (ρ : Addr → Option Value) (call : CallF) (yc : YieldF) (lim k : Nat) (x0 x1 x2 x3 x4 : AV) (H : Heap) :
    evL (cx ρ) call yc false 8 lim k c8 [x0, x1, x2, x3, x4, (.tup []), (.tup []), (.tup []), (.tup []), (.tup []), (.tup []), (.tup []), (.tup []), (.tup []), (.tup []), (.tup []), (.tup []), (.tup []), (.tup []), (.tup []), (.tup []), (.tup []), (.tup []), (.tup []), (.tup []), (.tup []), (.tup []), (.tup []), (.tup []), (.tup []), (.tup []), (.tup []), (.tup []), (.tup [])] H (kk none (fun s H => retK (([10, 11] : List Nat).map fun t => s.getD t (.tup [])) H) [] retK [10, 11]) = L8 ρ call yc lim k x0 x1 x2 x3 x4 H := by
  kernel_rfl
theorem E8 (ρ : Addr → Option Value) (k lim : Nat) (x0 x1 x2 x3 x4 : AV) (H : Heap) : evCall (cx ρ) (k + 1) lim 8 [x0, x1, x2, x3, x4] H = L8 ρ (evCall (cx ρ) k) (evCY (cx ρ) k).2 lim k x0 x1 x2 x3 x4 H := by
  rw [evCall_body (cx ρ) k lim 8 _ H Tryz.f8 c8 [10, 11] (by kernel_rfl) (by kernel_rfl) (by kernel_rfl) (by kernel_rfl) (by kernel_rfl)]
  exact G8 ρ (evCall (cx ρ) k) (evCY (cx ρ) k).2 lim k x0 x1 x2 x3 x4 H
-- haycroft/task.Right
noncomputable def c9 : Code := Code.of Tryz.prog 9
noncomputable def N9_1 (ρ : Addr → Option Value) (call : CallF) (yc : YieldF) (lim k : Nat) (H : Heap) (R : List AV → Heap → Res) : Res :=
  R [(.int .i64 0)] H
theorem N9_1_eq (ρ : Addr → Option Value) (call : CallF) (yc : YieldF) (lim k : Nat) (H : Heap) (R : List AV → Heap → Res) :
    evL (cx ρ) call yc false 9 lim k (Code.at [1, 1] c9) (sp 29 []) H (kk none (fun s H => R (([2] : List Nat).map fun t => s.getD t (.tup [])) H) [] R [2]) = N9_1 ρ call yc lim k H R := by
  kernel_rfl
noncomputable def N9_3 (ρ : Addr → Option Value) (call : CallF) (yc : YieldF) (lim k : Nat) (x15 : AV) (H : Heap) (kn : Heap → Res) (R : List AV → Heap → Res) : Res :=
  condK x15
  (
    R [(.int .i64 5)] H)
  (
    kn H)
theorem N9_3_eq (ρ : Addr → Option Value) (call : CallF) (yc : YieldF) (lim k : Nat) (x15 : AV) (H : Heap) (kn : KS) (k0 : KS) (R : List AV → Heap → Res) :
    evL (cx ρ) call yc false 9 lim k (Code.at [1, 0, 0, 1, 1, 1] c9) (sp 29 [(15, x15)]) H (kk (some []) kn [(0, (some []), k0)] R [2]) = N9_3 ρ call yc lim k x15 H (fun H => kn (sp 29 []) H) R := by
  kernel_rfl
noncomputable def N9_2 (ρ : Addr → Option Value) (call : CallF) (yc : YieldF) (lim k : Nat) (x1 x3 : AV) (H : Heap) (kn : Heap → Res) (R : List AV → Heap → Res) : Res :=
  condK x3
  (
    R [(.int .i64 1)] H)
  (
    purK (addA 1 x1) fun x16_1 =>
    purK (ld1 ρ H x16_1) fun x17_1 =>
    purK (lenT x17_1) fun x18_1 =>
    purK (binA Tryz.prog H .gtr 3 x18_1 (.int .i64 64)) fun x19_1 =>
    condK x19_1
    (
      N9_3 ρ call yc lim k x19_1 H kn R)
    (
      purK (addA 0 x1) fun x20_1 =>
      purK (ld1 ρ H x20_1) fun x21_1 =>
      purK (binA Tryz.prog H .eql 3 x21_1 (.int .i64 2)) fun x22_1 =>
      purK (gPur (wantV x22_1 true) (addA 2 x1)) fun x24_1 =>
      purK (gPur (wantV x22_1 true) (ld1 ρ H x24_1)) fun x25_1 =>
      purK (gPur (wantV x22_1 true) (lenT x25_1)) fun x26_1 =>
      purK (gPur (wantV x22_1 true) (binA Tryz.prog H .gtr 3 x26_1 (.int .i64 128))) fun x27_1 =>
      purK (pickA x22_1 x27_1 (.bool false)) fun x28_1 =>
      N9_3 ρ call yc lim k x28_1 H kn R))
theorem N9_2_x (ρ : Addr → Option Value) (call : CallF) (yc : YieldF) (lim k : Nat) (J : CodeF) (x1 x3 : AV) (H : Heap) (kn : KS) (k0 : KS) (R : List AV → Heap → Res) :
    evX (cx ρ) call yc false 9 lim k J (Code.at [1, 0, 0, 1] c9) (sp 29 [(1, x1), (3, x3)]) H (kk (some []) kn [(0, (some []), k0)] R [2]) =
  condK x3
  (
    R [(.int .i64 1)] H)
  (
    purK (addA 1 x1) fun x16_1 =>
    purK (ld1 ρ H x16_1) fun x17_1 =>
    purK (lenT x17_1) fun x18_1 =>
    purK (binA Tryz.prog H .gtr 3 x18_1 (.int .i64 64)) fun x19_1 =>
    condK x19_1
    (
      J (Code.at [1, 0, 0, 1, 1, 1] c9) (sp 29 [(15, x19_1)]) H (kk (some []) kn [(0, (some []), k0)] R [2]))
    (
      purK (addA 0 x1) fun x20_1 =>
      purK (ld1 ρ H x20_1) fun x21_1 =>
      purK (binA Tryz.prog H .eql 3 x21_1 (.int .i64 2)) fun x22_1 =>
      purK (gPur (wantV x22_1 true) (addA 2 x1)) fun x24_1 =>
      purK (gPur (wantV x22_1 true) (ld1 ρ H x24_1)) fun x25_1 =>
      purK (gPur (wantV x22_1 true) (lenT x25_1)) fun x26_1 =>
      purK (gPur (wantV x22_1 true) (binA Tryz.prog H .gtr 3 x26_1 (.int .i64 128))) fun x27_1 =>
      purK (pickA x22_1 x27_1 (.bool false)) fun x28_1 =>
      J (Code.at [1, 0, 0, 1, 1, 1] c9) (sp 29 [(15, x28_1)]) H (kk (some []) kn [(0, (some []), k0)] R [2]))) := by
  kernel_rfl
theorem N9_2_eq (ρ : Addr → Option Value) (call : CallF) (yc : YieldF) (lim k : Nat) (x1 x3 : AV) (H : Heap) (kn : KS) (k0 : KS) (R : List AV → Heap → Res) :
    evL (cx ρ) call yc false 9 lim k (Code.at [1, 0, 0, 1] c9) (sp 29 [(1, x1), (3, x3)]) H (kk (some []) kn [(0, (some []), k0)] R [2]) = N9_2 ρ call yc lim k x1 x3 H (fun H => kn (sp 29 []) H) R := by
  rw [evL_X, N9_2_x]
  simp only [← evL_X, N9_2, N9_3_eq]
noncomputable def L9 (ρ : Addr → Option Value) (call : CallF) (yc : YieldF) (lim k : Nat) (x0 : AV) (H : Heap) : Res :=
  effK H (boxA H 24 x0) fun x1 H =>
  purK (addA 0 x1) fun x4 =>
  purK (ld1 ρ H x4) fun x5 =>
  purK (binA Tryz.prog H .lss 3 x5 (.int .i64 1)) fun x6 =>
  purK (gPur (wantV x6 false) (addA 0 x1)) fun x8 =>
  purK (gPur (wantV x6 false) (ld1 ρ H x8)) fun x9 =>
  purK (gPur (wantV x6 false) (binA Tryz.prog H .gtr 3 x9 (.int .i64 4))) fun x10 =>
  purK (pickA x6 (.bool true) x10) fun x11 =>
  condK x11
  (
    N9_2 ρ call yc lim k x1 x11 H (fun H =>
      N9_1 ρ call yc lim k H retK) retK)
  (
    purK (addA 1 x1) fun x12 =>
    purK (ld1 ρ H x12) fun x13 =>
    purK (binA Tryz.prog H .eql 9 x13 (.str (ByteArray.mk #[]))) fun x14 =>
    N9_2 ρ call yc lim k x1 x14 H (fun H =>
      N9_1 ρ call yc lim k H retK) retK)
theorem L9_x (ρ : Addr → Option Value) (call : CallF) (yc : YieldF) (lim k : Nat) (J : CodeF) (x0 : AV) (H : Heap) :
    evX (cx ρ) call yc false 9 lim k J c9 [x0, (.tup []), (.tup []), (.tup []), (.tup []), (.tup []), (.tup []), (.tup []), (.tup []), (.tup []), (.tup []), (.tup []), (.tup []), (.tup []), (.tup []), (.tup []), (.tup []), (.tup []), (.tup []), (.tup []), (.tup []), (.tup []), (.tup []), (.tup []), (.tup []), (.tup []), (.tup []), (.tup []), (.tup [])] H (kk none (fun s H => retK (([2] : List Nat).map fun t => s.getD t (.tup [])) H) [] retK [2]) =
  effK H (boxA H 24 x0) fun x1 H =>
  purK (addA 0 x1) fun x4 =>
  purK (ld1 ρ H x4) fun x5 =>
  purK (binA Tryz.prog H .lss 3 x5 (.int .i64 1)) fun x6 =>
  purK (gPur (wantV x6 false) (addA 0 x1)) fun x8 =>
  purK (gPur (wantV x6 false) (ld1 ρ H x8)) fun x9 =>
  purK (gPur (wantV x6 false) (binA Tryz.prog H .gtr 3 x9 (.int .i64 4))) fun x10 =>
  purK (pickA x6 (.bool true) x10) fun x11 =>
  condK x11
  (
    J (Code.at [1, 0, 0, 1] c9) (sp 29 [(1, x1), (3, x11)]) H (kk (some []) (fun s H => J (Code.at [1, 1] c9) s H (kk none (fun s H => retK (([2] : List Nat).map fun t => s.getD t (.tup [])) H) [] retK [2])) [(0, (some []), (fun s H => J (Code.at [1, 1] c9) s H (kk none (fun s H => retK (([2] : List Nat).map fun t => s.getD t (.tup [])) H) [] retK [2])))] retK [2]))
  (
    purK (addA 1 x1) fun x12 =>
    purK (ld1 ρ H x12) fun x13 =>
    purK (binA Tryz.prog H .eql 9 x13 (.str (ByteArray.mk #[]))) fun x14 =>
    J (Code.at [1, 0, 0, 1] c9) (sp 29 [(1, x1), (3, x14)]) H (kk (some []) (fun s H => J (Code.at [1, 1] c9) s H (kk none (fun s H => retK (([2] : List Nat).map fun t => s.getD t (.tup [])) H) [] retK [2])) [(0, (some []), (fun s H => J (Code.at [1, 1] c9) s H (kk none (fun s H => retK (([2] : List Nat).map fun t => s.getD t (.tup [])) H) [] retK [2])))] retK [2])) := by
  kernel_rfl
theorem G9 (ρ : Addr → Option Value) (call : CallF) (yc : YieldF) (lim k : Nat) (x0 : AV) (H : Heap) :
    evL (cx ρ) call yc false 9 lim k c9 [x0, (.tup []), (.tup []), (.tup []), (.tup []), (.tup []), (.tup []), (.tup []), (.tup []), (.tup []), (.tup []), (.tup []), (.tup []), (.tup []), (.tup []), (.tup []), (.tup []), (.tup []), (.tup []), (.tup []), (.tup []), (.tup []), (.tup []), (.tup []), (.tup []), (.tup []), (.tup []), (.tup []), (.tup [])] H (kk none (fun s H => retK (([2] : List Nat).map fun t => s.getD t (.tup [])) H) [] retK [2]) = L9 ρ call yc lim k x0 H := by
  rw [evL_X, L9_x]
  simp only [← evL_X, L9, N9_1_eq, N9_2_eq]
theorem E9 (ρ : Addr → Option Value) (k lim : Nat) (x0 : AV) (H : Heap) : evCall (cx ρ) (k + 1) lim 9 [x0] H = L9 ρ (evCall (cx ρ) k) (evCY (cx ρ) k).2 lim k x0 H := by
  rw [evCall_body (cx ρ) k lim 9 _ H Tryz.f9 c9 [2] (by kernel_rfl) (by kernel_rfl) (by kernel_rfl) (by kernel_rfl) (by kernel_rfl)]
  exact G9 ρ (evCall (cx ρ) k) (evCY (cx ρ) k).2 lim k x0 H
-- haycroft/haycroftref19.Right
noncomputable def c10 : Code := Code.of Tryz.prog 10
noncomputable def L10 (ρ : Addr → Option Value) (call : CallF) (yc : YieldF) (lim k : Nat) (x0 : AV) (H : Heap) : Res :=
  effK H (boxA H 24 x0) fun x1 H =>
  purK (addA 0 x1) fun x3 =>
  purK (ld1 ρ H x3) fun x4 =>
  purK (binA Tryz.prog H .lss 3 x4 (.int .i64 1)) fun x5 =>
  purK (gPur (wantV x5 false) (addA 0 x1)) fun x7 =>
  purK (gPur (wantV x5 false) (ld1 ρ H x7)) fun x8 =>
  purK (gPur (wantV x5 false) (binA Tryz.prog H .gtr 3 x8 (.int .i64 4))) fun x9 =>
  purK (pickA x5 (.bool true) x9) fun x10 =>
  purK (gPur (wantV x10 false) (addA 1 x1)) fun x12 =>
  purK (gPur (wantV x10 false) (ld1 ρ H x12)) fun x13 =>
  purK (gPur (wantV x10 false) (lenT x13)) fun x14 =>
  purK (gPur (wantV x10 false) (binA Tryz.prog H .eql 3 x14 (.int .i64 0))) fun x15 =>
  purK (pickA x10 (.bool true) x15) fun x16 =>
  condK x16
  (
    retK [(.int .i64 1)] H)
  (
    purK (addA 1 x1) fun x17 =>
    purK (ld1 ρ H x17) fun x18 =>
    purK (lenT x18) fun x19 =>
    purK (binA Tryz.prog H .gtr 3 x19 (.int .i64 64)) fun x20 =>
    purK (gPur (wantV x20 false) (addA 0 x1)) fun x22 =>
    purK (gPur (wantV x20 false) (ld1 ρ H x22)) fun x23 =>
    purK (gPur (wantV x20 false) (binA Tryz.prog H .eql 3 x23 (.int .i64 2))) fun x24 =>
    purK (gPur (wantV x20 false) (some x24)) fun x25 =>
    purK (gPur (wantV x25 true) (addA 2 x1)) fun x26 =>
    purK (gPur (wantV x25 true) (ld1 ρ H x26)) fun x27 =>
    purK (gPur (wantV x25 true) (lenT x27)) fun x28 =>
    purK (gPur (wantV x25 true) (binA Tryz.prog H .gtr 3 x28 (.int .i64 128))) fun x29 =>
    purK (gPur (wantV x20 false) (pickA x25 x29 (.bool false))) fun x30 =>
    purK (pickA x20 (.bool true) x30) fun x31 =>
    condK x31
    (
      retK [(.int .i64 5)] H)
    (
      retK [(.int .i64 0)] H))
theorem G10 (ρ : Addr → Option Value) (call : CallF) (yc : YieldF) (lim k : Nat) (x0 : AV) (H : Heap) :
    evL (cx ρ) call yc false 10 lim k c10 [x0, (.tup []), (.tup []), (.tup []), (.tup []), (.tup []), (.tup []), (.tup []), (.tup []), (.tup []), (.tup []), (.tup []), (.tup []), (.tup []), (.tup []), (.tup []), (.tup []), (.tup []), (.tup []), (.tup []), (.tup []), (.tup []), (.tup []), (.tup []), (.tup []), (.tup []), (.tup []), (.tup []), (.tup []), (.tup []), (.tup []), (.tup [])] H (kk none (fun s H => retK (([2] : List Nat).map fun t => s.getD t (.tup [])) H) [] retK [2]) = L10 ρ call yc lim k x0 H := by
  kernel_rfl
theorem E10 (ρ : Addr → Option Value) (k lim : Nat) (x0 : AV) (H : Heap) : evCall (cx ρ) (k + 1) lim 10 [x0] H = L10 ρ (evCall (cx ρ) k) (evCY (cx ρ) k).2 lim k x0 H := by
  rw [evCall_body (cx ρ) k lim 10 _ H Tryz.f10 c10 [2] (by kernel_rfl) (by kernel_rfl) (by kernel_rfl) (by kernel_rfl) (by kernel_rfl)]
  exact G10 ρ (evCall (cx ρ) k) (evCY (cx ρ) k).2 lim k x0 H
-- (*haycroft/task.Task).Give
noncomputable def c11 : Code := Code.of Tryz.prog 11
noncomputable def N11_1 (ρ : Addr → Option Value) (call : CallF) (yc : YieldF) (lim k : Nat) (x0 : AV) (H : Heap) (R : List AV → Heap → Res) : Res :=
  purK (nilChkA x0) fun x88_1 =>
  purK (addA 19 x88_1) fun x89_1 =>
  effK H (stA lim H 1 x89_1 (.bool false)) fun _ H =>
  R [(.int .i64 0)] H
theorem N11_1_eq (ρ : Addr → Option Value) (call : CallF) (yc : YieldF) (lim k : Nat) (x0 : AV) (H : Heap) (R : List AV → Heap → Res) :
    evL (cx ρ) call yc false 11 lim k (Code.at [1, 1, 1, 1, 1, 1] c11) (sp 90 [(0, x0)]) H (kk none (fun s H => R (([4] : List Nat).map fun t => s.getD t (.tup [])) H) [] R [4]) = N11_1 ρ call yc lim k x0 H R := by
  kernel_rfl
noncomputable def L11 (ρ : Addr → Option Value) (call : CallF) (yc : YieldF) (lim k : Nat) (x0 x1 : AV) (H : Heap) : Res :=
  resK (call lim 6 [x0] H) fun x12 H =>
  purK (extA 0 x12) fun x13 =>
  purK (extA 1 x12) fun x14 =>
  purK (binA Tryz.prog H .eql 27 x0 .nilp) fun x17 =>
  condK x17
  (
    retK [(.int .i64 2)] H)
  (
    purK (unA .not x14) fun x20 =>
    condK x20
    (
      retK [(.int .i64 10)] H)
    (
      purK (lenS x1) fun x23 =>
      purK (nilChkA x0) fun x25 =>
      purK (addA 0 x25) fun x26 =>
      purK (ld1 ρ H x26) fun x27 =>
      resK (call lim 26 [x27] H) fun x28 H =>
      resK (call lim 27 [x28] H) fun x29 H =>
      resK (call lim 25 [x29] H) fun x30 H =>
      purK (binA Tryz.prog H .neq 3 x23 x30) fun x31 =>
      condK x31
      (
        retK [(.int .i64 4)] H)
      (
        purK (nilChkA x0) fun x35 =>
        purK (addA 0 x35) fun x36 =>
        purK (ld1 ρ H x36) fun x37 =>
        resK (call lim 26 [x37] H) fun x38 H =>
        resK (call lim 27 [x38] H) fun x39 H =>
        resK (call lim 29 [x39, x13] H) fun x41 H =>
        purK (slS 1 x1 (some x41) none none) fun x42 =>
        resK (call lim 28 [x42] H) fun x43 H =>
        purK (extA 0 x43) fun x44 =>
        purK (extA 1 x43) fun x45 =>
        purK (extA 2 x43) fun x46 =>
        effK H (some (.ptr H.sz 0 0, .new (newCells 73 false [.int .u64 0, .bool false, .bool false, .str ByteArray.empty, .str ByteArray.empty]))) fun x7 H =>
        effK H (stA lim H 5 x7 x44) fun _ H =>
        purK (binA Tryz.prog H .neq 28 x46 (.int .i64 0)) fun x48 =>
        condK x48
        (
          retK [(.int .i64 4)] H)
        (
          purK (addA 3 x7) fun x57 =>
          purK (ld1 ρ H x57) fun x58 =>
          purK (nilChkA x0) fun x60 =>
          purK (addA 3 x60) fun x61 =>
          purK (addA 1 x61) fun x62 =>
          purK (ld1 ρ H x62) fun x63 =>
          purK (binA Tryz.prog H .neq 9 x58 x63) fun x64 =>
          condK x64
          (
            purK (addA 0 x7) fun x66 =>
            purK (addA 0 x66) fun x67 =>
            purK (ld1 ρ H x67) fun x68 =>
            resK (call lim 30 [x0, x68, (.fn (.func 31) [] [])] H) fun x69 H =>
            retK [(.int .i64 0)] H)
          (
            resK (call lim 32 [x0, (.int .i64 1)] H) fun x72 H =>
            purK (gPur (wantV x72 true) (addA 0 x7)) fun x74 =>
            purK (gPur (wantV x72 true) (addA 1 x74)) fun x75 =>
            purK (gPur (wantV x72 true) (ld1 ρ H x75)) fun x76 =>
            purK (pickA x72 x76 (.bool false)) fun x77 =>
            condK x77
            (
              resK (call lim 33 [x0, (.int .i64 7), (.str (ByteArray.mk #[]))] H) fun x79 H =>
              N11_1 ρ call yc lim k x0 H retK)
            (
              resK (call lim 32 [x0, (.int .i64 1)] H) fun x82 H =>
              condK x82
              (
                purK (addA 4 x7) fun x84 =>
                purK (ld1 ρ H x84) fun x85 =>
                resK (call lim 33 [x0, (.int .i64 0), x85] H) fun x86 H =>
                N11_1 ρ call yc lim k x0 H retK)
              (
                purK (addA 4 x7) fun x50 =>
                purK (ld1 ρ H x50) fun x51 =>
                purK (nilChkA x0) fun x52 =>
                purK (addA 16 x52) fun x53 =>
                effK H (stA lim H 1 x53 x51) fun _ H =>
                resK (call lim 34 [x0, (.fn (.func 35) [] [])] H) fun x55 H =>
                N11_1 ρ call yc lim k x0 H retK)))))))
theorem L11_x (ρ : Addr → Option Value) (call : CallF) (yc : YieldF) (lim k : Nat) (J : CodeF) (x0 x1 : AV) (H : Heap) :
    evX (cx ρ) call yc false 11 lim k J c11 [x0, x1, (.tup []), (.tup []), (.tup []), (.tup []), (.tup []), (.tup []), (.tup []), (.tup []), (.tup []), (.tup []), (.tup []), (.tup []), (.tup []), (.tup []), (.tup []), (.tup []), (.tup []), (.tup []), (.tup []), (.tup []), (.tup []), (.tup []), (.tup []), (.tup []), (.tup []), (.tup []), (.tup []), (.tup []), (.tup []), (.tup []), (.tup []), (.tup []), (.tup []), (.tup []), (.tup []), (.tup []), (.tup []), (.tup []), (.tup []), (.tup []), (.tup []), (.tup []), (.tup []), (.tup []), (.tup []), (.tup []), (.tup []), (.tup []), (.tup []), (.tup []), (.tup []), (.tup []), (.tup []), (.tup []), (.tup []), (.tup []), (.tup []), (.tup []), (.tup []), (.tup []), (.tup []), (.tup []), (.tup []), (.tup []), (.tup []), (.tup []), (.tup []), (.tup []), (.tup []), (.tup []), (.tup []), (.tup []), (.tup []), (.tup []), (.tup []), (.tup []), (.tup []), (.tup []), (.tup []), (.tup []), (.tup []), (.tup []), (.tup []), (.tup []), (.tup []), (.tup []), (.tup []), (.tup [])] H (kk none (fun s H => retK (([4] : List Nat).map fun t => s.getD t (.tup [])) H) [] retK [4]) =
  resK (call lim 6 [x0] H) fun x12 H =>
  purK (extA 0 x12) fun x13 =>
  purK (extA 1 x12) fun x14 =>
  purK (binA Tryz.prog H .eql 27 x0 .nilp) fun x17 =>
  condK x17
  (
    retK [(.int .i64 2)] H)
  (
    purK (unA .not x14) fun x20 =>
    condK x20
    (
      retK [(.int .i64 10)] H)
    (
      purK (lenS x1) fun x23 =>
      purK (nilChkA x0) fun x25 =>
      purK (addA 0 x25) fun x26 =>
      purK (ld1 ρ H x26) fun x27 =>
      resK (call lim 26 [x27] H) fun x28 H =>
      resK (call lim 27 [x28] H) fun x29 H =>
      resK (call lim 25 [x29] H) fun x30 H =>
      purK (binA Tryz.prog H .neq 3 x23 x30) fun x31 =>
      condK x31
      (
        retK [(.int .i64 4)] H)
      (
        purK (nilChkA x0) fun x35 =>
        purK (addA 0 x35) fun x36 =>
        purK (ld1 ρ H x36) fun x37 =>
        resK (call lim 26 [x37] H) fun x38 H =>
        resK (call lim 27 [x38] H) fun x39 H =>
        resK (call lim 29 [x39, x13] H) fun x41 H =>
        purK (slS 1 x1 (some x41) none none) fun x42 =>
        resK (call lim 28 [x42] H) fun x43 H =>
        purK (extA 0 x43) fun x44 =>
        purK (extA 1 x43) fun x45 =>
        purK (extA 2 x43) fun x46 =>
        effK H (some (.ptr H.sz 0 0, .new (newCells 73 false [.int .u64 0, .bool false, .bool false, .str ByteArray.empty, .str ByteArray.empty]))) fun x7 H =>
        effK H (stA lim H 5 x7 x44) fun _ H =>
        purK (binA Tryz.prog H .neq 28 x46 (.int .i64 0)) fun x48 =>
        condK x48
        (
          retK [(.int .i64 4)] H)
        (
          purK (addA 3 x7) fun x57 =>
          purK (ld1 ρ H x57) fun x58 =>
          purK (nilChkA x0) fun x60 =>
          purK (addA 3 x60) fun x61 =>
          purK (addA 1 x61) fun x62 =>
          purK (ld1 ρ H x62) fun x63 =>
          purK (binA Tryz.prog H .neq 9 x58 x63) fun x64 =>
          condK x64
          (
            purK (addA 0 x7) fun x66 =>
            purK (addA 0 x66) fun x67 =>
            purK (ld1 ρ H x67) fun x68 =>
            resK (call lim 30 [x0, x68, (.fn (.func 31) [] [])] H) fun x69 H =>
            retK [(.int .i64 0)] H)
          (
            resK (call lim 32 [x0, (.int .i64 1)] H) fun x72 H =>
            purK (gPur (wantV x72 true) (addA 0 x7)) fun x74 =>
            purK (gPur (wantV x72 true) (addA 1 x74)) fun x75 =>
            purK (gPur (wantV x72 true) (ld1 ρ H x75)) fun x76 =>
            purK (pickA x72 x76 (.bool false)) fun x77 =>
            condK x77
            (
              resK (call lim 33 [x0, (.int .i64 7), (.str (ByteArray.mk #[]))] H) fun x79 H =>
              J (Code.at [1, 1, 1, 1, 1, 1] c11) (sp 90 [(0, x0)]) H (kk none (fun s H => retK (([4] : List Nat).map fun t => s.getD t (.tup [])) H) [] retK [4]))
            (
              resK (call lim 32 [x0, (.int .i64 1)] H) fun x82 H =>
              condK x82
              (
                purK (addA 4 x7) fun x84 =>
                purK (ld1 ρ H x84) fun x85 =>
                resK (call lim 33 [x0, (.int .i64 0), x85] H) fun x86 H =>
                J (Code.at [1, 1, 1, 1, 1, 1] c11) (sp 90 [(0, x0)]) H (kk none (fun s H => retK (([4] : List Nat).map fun t => s.getD t (.tup [])) H) [] retK [4]))
              (
                purK (addA 4 x7) fun x50 =>
                purK (ld1 ρ H x50) fun x51 =>
                purK (nilChkA x0) fun x52 =>
                purK (addA 16 x52) fun x53 =>
                effK H (stA lim H 1 x53 x51) fun _ H =>
                resK (call lim 34 [x0, (.fn (.func 35) [] [])] H) fun x55 H =>
                J (Code.at [1, 1, 1, 1, 1, 1] c11) (sp 90 [(0, x0)]) H (kk none (fun s H => retK (([4] : List Nat).map fun t => s.getD t (.tup [])) H) [] retK [4])))))))) := by
  kernel_rfl
theorem G11 (ρ : Addr → Option Value) (call : CallF) (yc : YieldF) (lim k : Nat) (x0 x1 : AV) (H : Heap) :
    evL (cx ρ) call yc false 11 lim k c11 [x0, x1, (.tup []), (.tup []), (.tup []), (.tup []), (.tup []), (.tup []), (.tup []), (.tup []), (.tup []), (.tup []), (.tup []), (.tup []), (.tup []), (.tup []), (.tup []), (.tup []), (.tup []), (.tup []), (.tup []), (.tup []), (.tup []), (.tup []), (.tup []), (.tup []), (.tup []), (.tup []), (.tup []), (.tup []), (.tup []), (.tup []), (.tup []), (.tup []), (.tup []), (.tup []), (.tup []), (.tup []), (.tup []), (.tup []), (.tup []), (.tup []), (.tup []), (.tup []), (.tup []), (.tup []), (.tup []), (.tup []), (.tup []), (.tup []), (.tup []), (.tup []), (.tup []), (.tup []), (.tup []), (.tup []), (.tup []), (.tup []), (.tup []), (.tup []), (.tup []), (.tup []), (.tup []), (.tup []), (.tup []), (.tup []), (.tup []), (.tup []), (.tup []), (.tup []), (.tup []), (.tup []), (.tup []), (.tup []), (.tup []), (.tup []), (.tup []), (.tup []), (.tup []), (.tup []), (.tup []), (.tup []), (.tup []), (.tup []), (.tup []), (.tup []), (.tup []), (.tup []), (.tup []), (.tup [])] H (kk none (fun s H => retK (([4] : List Nat).map fun t => s.getD t (.tup [])) H) [] retK [4]) = L11 ρ call yc lim k x0 x1 H := by
  rw [evL_X, L11_x]
  simp only [← evL_X, L11, N11_1_eq]
theorem E11 (ρ : Addr → Option Value) (k lim : Nat) (x0 x1 : AV) (H : Heap) : evCall (cx ρ) (k + 1) lim 11 [x0, x1] H = L11 ρ (evCall (cx ρ) k) (evCY (cx ρ) k).2 lim k x0 x1 H := by
  rw [evCall_body (cx ρ) k lim 11 _ H Tryz.f11 c11 [4] (by kernel_rfl) (by kernel_rfl) (by kernel_rfl) (by kernel_rfl) (by kernel_rfl)]
  exact G11 ρ (evCall (cx ρ) k) (evCY (cx ρ) k).2 lim k x0 x1 H
-- (*haycroft/task.Task).Held
noncomputable def c12 : Code := Code.of Tryz.prog 12
noncomputable def L12 (ρ : Addr → Option Value) (call : CallF) (yc : YieldF) (lim k : Nat) (x0 : AV) (H : Heap) : Res :=
  purK (binA Tryz.prog H .eql 27 x0 .nilp) fun x4 =>
  condK x4
  (
    retK [(.int .i64 0)] H)
  (
    purK (nilChkA x0) fun x6 =>
    purK (addA 12 x6) fun x7 =>
    purK (ld1 ρ H x7) fun x8 =>
    retK [x8] H)
theorem G12 (ρ : Addr → Option Value) (call : CallF) (yc : YieldF) (lim k : Nat) (x0 : AV) (H : Heap) :
    evL (cx ρ) call yc false 12 lim k c12 [x0, (.tup []), (.tup []), (.tup []), (.tup []), (.tup []), (.tup []), (.tup []), (.tup [])] H (kk none (fun s H => retK (([2] : List Nat).map fun t => s.getD t (.tup [])) H) [] retK [2]) = L12 ρ call yc lim k x0 H := by
  kernel_rfl
theorem E12 (ρ : Addr → Option Value) (k lim : Nat) (x0 : AV) (H : Heap) : evCall (cx ρ) (k + 1) lim 12 [x0] H = L12 ρ (evCall (cx ρ) k) (evCY (cx ρ) k).2 lim k x0 H := by
  rw [evCall_body (cx ρ) k lim 12 _ H Tryz.f12 c12 [2] (by kernel_rfl) (by kernel_rfl) (by kernel_rfl) (by kernel_rfl) (by kernel_rfl)]
  exact G12 ρ (evCall (cx ρ) k) (evCY (cx ρ) k).2 lim k x0 H
-- (*haycroft/task.Task).Lost
noncomputable def c13 : Code := Code.of Tryz.prog 13
noncomputable def L13 (ρ : Addr → Option Value) (call : CallF) (yc : YieldF) (lim k : Nat) (x0 : AV) (H : Heap) : Res :=
  purK (binA Tryz.prog H .eql 27 x0 .nilp) fun x4 =>
  condK x4
  (
    retK [(.int .i64 0)] H)
  (
    purK (nilChkA x0) fun x6 =>
    purK (addA 23 x6) fun x7 =>
    purK (ld1 ρ H x7) fun x8 =>
    retK [x8] H)
theorem G13 (ρ : Addr → Option Value) (call : CallF) (yc : YieldF) (lim k : Nat) (x0 : AV) (H : Heap) :
    evL (cx ρ) call yc false 13 lim k c13 [x0, (.tup []), (.tup []), (.tup []), (.tup []), (.tup []), (.tup []), (.tup []), (.tup [])] H (kk none (fun s H => retK (([2] : List Nat).map fun t => s.getD t (.tup [])) H) [] retK [2]) = L13 ρ call yc lim k x0 H := by
  kernel_rfl
theorem E13 (ρ : Addr → Option Value) (k lim : Nat) (x0 : AV) (H : Heap) : evCall (cx ρ) (k + 1) lim 13 [x0] H = L13 ρ (evCall (cx ρ) k) (evCY (cx ρ) k).2 lim k x0 H := by
  rw [evCall_body (cx ρ) k lim 13 _ H Tryz.f13 c13 [2] (by kernel_rfl) (by kernel_rfl) (by kernel_rfl) (by kernel_rfl) (by kernel_rfl)]
  exact G13 ρ (evCall (cx ρ) k) (evCY (cx ρ) k).2 lim k x0 H
-- (*haycroft/task.Task).Op
noncomputable def c14 : Code := Code.of Tryz.prog 14
noncomputable def L14 (ρ : Addr → Option Value) (call : CallF) (yc : YieldF) (lim k : Nat) (x0 : AV) (H : Heap) : Res :=
  effK H (some (.ptr H.sz 0 0, .new (newCells 24 false [.int .i64 0, .str ByteArray.empty, .str ByteArray.empty, .int .u64 0]))) fun x2 H =>
  purK (binA Tryz.prog H .eql 27 x0 .nilp) fun x4 =>
  condK x4
  (
    purK (bldA [.int .i64 0, .str ByteArray.empty, .str ByteArray.empty, .int .u64 0] []) fun x5 =>
    effK H (stA lim H 4 x2 x5) fun _ H =>
    (retC (cx ρ) [some 24]) [x2] H)
  (
    purK (nilChkA x0) fun x7 =>
    purK (addA 3 x7) fun x8 =>
    purK (ldN ρ H 4 x8) fun x9 =>
    effK H (stA lim H 4 x2 x9) fun _ H =>
    (retC (cx ρ) [some 24]) [x2] H)
theorem G14 (ρ : Addr → Option Value) (call : CallF) (yc : YieldF) (lim k : Nat) (x0 : AV) (H : Heap) :
    evL (cx ρ) call yc false 14 lim k c14 [x0, (.tup []), (.tup []), (.tup []), (.tup []), (.tup []), (.tup []), (.tup []), (.tup []), (.tup [])] H (kk none (fun s H => (retC (cx ρ) [some 24]) (([2] : List Nat).map fun t => s.getD t (.tup [])) H) [] (retC (cx ρ) [some 24]) [2]) = L14 ρ call yc lim k x0 H := by
  kernel_rfl
theorem E14 (ρ : Addr → Option Value) (k lim : Nat) (x0 : AV) (H : Heap) : evCall (cx ρ) (k + 1) lim 14 [x0] H = L14 ρ (evCall (cx ρ) k) (evCY (cx ρ) k).2 lim k x0 H := by
  rw [evCall_cells (cx ρ) k lim 14 _ H Tryz.f14 c14 [2] [some 24] (by kernel_rfl) (by kernel_rfl) (by kernel_rfl) (by kernel_rfl) (by kernel_rfl) (by kernel_rfl)]
  exact G14 ρ (evCall (cx ρ) k) (evCY (cx ρ) k).2 lim k x0 H
-- haycroft/hlog.New
noncomputable def c15 : Code := Code.of Tryz.prog 15
noncomputable def L15 (ρ : Addr → Option Value) (call : CallF) (yc : YieldF) (lim k : Nat) (x0 x1 : AV) (H : Heap) : Res :=
  effK H (boxA H 48 x0) fun x2 H =>
  purK (binA Tryz.prog H .eql 50 x1 .nilp) fun x13 =>
  condK x13
  (
    retK [.nilp, (.int .i64 2)] H)
  (
    purK (addA 0 x2) fun x15 =>
    purK (ld1 ρ H x15) fun x16 =>
    purK (addA 2 x2) fun x17 =>
    purK (ld1 ρ H x17) fun x18 =>
    resK (call lim 36 [x16, x18] H) fun x19 H =>
    purK (extA 0 x19) fun x20 =>
    purK (extA 1 x19) fun x21 =>
    purK (addA 0 x2) fun x23 =>
    purK (ld1 ρ H x23) fun x24 =>
    purK (addA 1 x2) fun x25 =>
    purK (ld1 ρ H x25) fun x26 =>
    resK (call lim 37 [x24, x26] H) fun x27 H =>
    purK (extA 0 x27) fun x28 =>
    purK (extA 1 x27) fun x29 =>
    purK (addA 5 x2) fun x31 =>
    purK (ld1 ρ H x31) fun x32 =>
    resK (call lim 38 [x32] H) fun x33 H =>
    purK (extA 0 x33) fun x34 =>
    purK (extA 1 x33) fun x35 =>
    purK (binA Tryz.prog H .neq 28 x21 (.int .i64 0)) fun x37 =>
    purK (gPur (wantV x37 false) (some x29)) fun x39 =>
    purK (gPur (wantV x37 false) (binA Tryz.prog H .neq 28 x39 (.int .i64 0))) fun x40 =>
    purK (pickA x37 (.bool true) x40) fun x41 =>
    purK (gPur (wantV x41 false) (some x35)) fun x43 =>
    purK (gPur (wantV x41 false) (binA Tryz.prog H .neq 28 x43 (.int .i64 0))) fun x44 =>
    purK (pickA x41 (.bool true) x44) fun x45 =>
    condK x45
    (
      retK [.nilp, (.int .i64 1)] H)
    (
      resK (call lim 39 [] H) fun x48 H =>
      resK (call lim 40 [] H) fun x50 H =>
      effK H (some (makeMapA H)) fun x52 H =>
      effK H (some (makeMapA H)) fun x53 H =>
      purK (bldA [.nilp, .nilp, .nilp, .nilp, .nilp, .nilp, .nilm, .nilm] [(0, 1, x20), (1, 1, x28), (2, 1, x48), (3, 1, x34), (4, 1, x50), (5, 1, x1), (6, 1, x52), (7, 1, x53)]) fun x54 =>
      effK H (boxA H 94 x54) fun x55 H =>
      resK (call lim 41 [x28, (.int .i64 0)] H) fun x57 H =>
      retK [x55, x57] H))
theorem G15 (ρ : Addr → Option Value) (call : CallF) (yc : YieldF) (lim k : Nat) (x0 x1 : AV) (H : Heap) :
    evL (cx ρ) call yc false 15 lim k c15 [x0, x1, (.tup []), (.tup []), (.tup []), (.tup []), (.tup []), (.tup []), (.tup []), (.tup []), (.tup []), (.tup []), (.tup []), (.tup []), (.tup []), (.tup []), (.tup []), (.tup []), (.tup []), (.tup []), (.tup []), (.tup []), (.tup []), (.tup []), (.tup []), (.tup []), (.tup []), (.tup []), (.tup []), (.tup []), (.tup []), (.tup []), (.tup []), (.tup []), (.tup []), (.tup []), (.tup []), (.tup []), (.tup []), (.tup []), (.tup []), (.tup []), (.tup []), (.tup []), (.tup []), (.tup []), (.tup []), (.tup []), (.tup []), (.tup []), (.tup []), (.tup []), (.tup []), (.tup []), (.tup []), (.tup []), (.tup []), (.tup [])] H (kk none (fun s H => retK (([4, 5] : List Nat).map fun t => s.getD t (.tup [])) H) [] retK [4, 5]) = L15 ρ call yc lim k x0 x1 H := by
  kernel_rfl
theorem E15 (ρ : Addr → Option Value) (k lim : Nat) (x0 x1 : AV) (H : Heap) : evCall (cx ρ) (k + 1) lim 15 [x0, x1] H = L15 ρ (evCall (cx ρ) k) (evCY (cx ρ) k).2 lim k x0 x1 H := by
  rw [evCall_body (cx ρ) k lim 15 _ H Tryz.f15 c15 [4, 5] (by kernel_rfl) (by kernel_rfl) (by kernel_rfl) (by kernel_rfl) (by kernel_rfl)]
  exact G15 ρ (evCall (cx ρ) k) (evCY (cx ρ) k).2 lim k x0 x1 H
-- haycroft/haycroftlaw19.plain
noncomputable def c16 : Code := Code.of Tryz.prog 16
noncomputable def L16 (ρ : Addr → Option Value) (call : CallF) (yc : YieldF) (lim k : Nat) (H : Heap) : Res :=
  effK H (some (.ptr H.sz 0 0, .new (newCells 48 false [.int .i64 0, .int .i64 0, .int .i64 0, .int .i64 0, .int .i64 0, .int .i64 0]))) fun x0 H =>
  purK (bldA [.int .i64 0, .int .i64 0, .int .i64 0, .int .i64 0, .int .i64 0, .int .i64 0] [(0, 1, (.int .i64 5)), (1, 1, (.int .i64 2)), (2, 1, (.int .i64 8)), (3, 1, (.int .i64 1)), (4, 1, (.int .i64 1)), (5, 1, (.int .i64 2))]) fun x1 =>
  effK H (stA lim H 6 x0 x1) fun _ H =>
  (retC (cx ρ) [some 48]) [x0] H
theorem G16 (ρ : Addr → Option Value) (call : CallF) (yc : YieldF) (lim k : Nat) (H : Heap) :
    evL (cx ρ) call yc false 16 lim k c16 [(.tup []), (.tup [])] H (kk none (fun s H => (retC (cx ρ) [some 48]) (([0] : List Nat).map fun t => s.getD t (.tup [])) H) [] (retC (cx ρ) [some 48]) [0]) = L16 ρ call yc lim k H := by
  kernel_rfl
theorem E16 (ρ : Addr → Option Value) (k lim : Nat) (H : Heap) : evCall (cx ρ) (k + 1) lim 16 [] H = L16 ρ (evCall (cx ρ) k) (evCY (cx ρ) k).2 lim k H := by
  rw [evCall_cells (cx ρ) k lim 16 _ H Tryz.f16 c16 [0] [some 48] (by kernel_rfl) (by kernel_rfl) (by kernel_rfl) (by kernel_rfl) (by kernel_rfl) (by kernel_rfl)]
  exact G16 ρ (evCall (cx ρ) k) (evCY (cx ρ) k).2 lim k H
-- haycroft/device.New
noncomputable def c17 : Code := Code.of Tryz.prog 17
noncomputable def L17 (ρ : Addr → Option Value) (call : CallF) (yc : YieldF) (lim k : Nat) (H : Heap) : Res :=
  effK H (some (makeMapA H)) fun x1 H =>
  effK H (some (makeMapA H)) fun x2 H =>
  effK H (some (makeMapA H)) fun x3 H =>
  purK (bldA [.bool false, .nilm, .nilm, .nilm, .int .i64 0] [(1, 1, x1), (2, 1, x2), (3, 1, x3)]) fun x4 =>
  effK H (boxA H 99 x4) fun x5 H =>
  retK [x5] H
theorem G17 (ρ : Addr → Option Value) (call : CallF) (yc : YieldF) (lim k : Nat) (H : Heap) :
    evL (cx ρ) call yc false 17 lim k c17 [(.tup []), (.tup []), (.tup []), (.tup []), (.tup []), (.tup [])] H (kk none (fun s H => retK (([0] : List Nat).map fun t => s.getD t (.tup [])) H) [] retK [0]) = L17 ρ call yc lim k H := by
  kernel_rfl
theorem E17 (ρ : Addr → Option Value) (k lim : Nat) (H : Heap) : evCall (cx ρ) (k + 1) lim 17 [] H = L17 ρ (evCall (cx ρ) k) (evCY (cx ρ) k).2 lim k H := by
  rw [evCall_body (cx ρ) k lim 17 _ H Tryz.f17 c17 [0] (by kernel_rfl) (by kernel_rfl) (by kernel_rfl) (by kernel_rfl) (by kernel_rfl)]
  exact G17 ρ (evCall (cx ρ) k) (evCY (cx ρ) k).2 lim k H
-- haycroft/index.New
noncomputable def c18 : Code := Code.of Tryz.prog 18
noncomputable def L18 (ρ : Addr → Option Value) (call : CallF) (yc : YieldF) (lim k : Nat) (x0 x1 : AV) (H : Heap) : Res :=
  resK (call lim 42 [x0] H) fun x10 H =>
  purK (unA .not x10) fun x11 =>
  purK (gPur (wantV x11 false) (some x1)) fun x13 =>
  purK (gPur (wantV x11 false) (binA Tryz.prog H .lss 3 x13 (.int .i64 0))) fun x14 =>
  purK (pickA x11 (.bool true) x14) fun x15 =>
  purK (gPur (wantV x15 false) (some x1)) fun x17 =>
  purK (gPur (wantV x15 false) (binA Tryz.prog H .gtr 3 x17 (.int .i64 64))) fun x18 =>
  purK (pickA x15 (.bool true) x18) fun x19 =>
  condK x19
  (
    retK [.nilp, (.int .i64 1)] H)
  (
    purK (binA Tryz.prog H .add 3 x0 x1) fun x23 =>
    purK (binA Tryz.prog H .mul 3 x23 (.int .i64 8)) fun x24 =>
    resK (call lim 43 [x24] H) fun x25 H =>
    purK (extA 0 x25) fun x26 =>
    purK (extA 1 x25) fun x27 =>
    purK (binA Tryz.prog H .neq 28 x27 (.int .i64 0)) fun x29 =>
    condK x29
    (
      retK [.nilp, x27] H)
    (
      resK (call lim 43 [(.int .i64 1)] H) fun x32 H =>
      purK (extA 0 x32) fun x33 =>
      purK (extA 1 x32) fun x34 =>
      purK (binA Tryz.prog H .neq 28 x34 (.int .i64 0)) fun x36 =>
      condK x36
      (
        retK [.nilp, x34] H)
      (
        purK (bldA [.int .i64 0, .int .i64 0, .nilp, .nilp] [(0, 1, x0), (1, 1, x1), (2, 1, x26), (3, 1, x33)]) fun x42 =>
        effK H (boxA H 104 x42) fun x43 H =>
        retK [x43, (.int .i64 0)] H)))
theorem G18 (ρ : Addr → Option Value) (call : CallF) (yc : YieldF) (lim k : Nat) (x0 x1 : AV) (H : Heap) :
    evL (cx ρ) call yc false 18 lim k c18 [x0, x1, (.tup []), (.tup []), (.tup []), (.tup []), (.tup []), (.tup []), (.tup []), (.tup []), (.tup []), (.tup []), (.tup []), (.tup []), (.tup []), (.tup []), (.tup []), (.tup []), (.tup []), (.tup []), (.tup []), (.tup []), (.tup []), (.tup []), (.tup []), (.tup []), (.tup []), (.tup []), (.tup []), (.tup []), (.tup []), (.tup []), (.tup []), (.tup []), (.tup []), (.tup []), (.tup []), (.tup []), (.tup []), (.tup []), (.tup []), (.tup []), (.tup []), (.tup [])] H (kk none (fun s H => retK (([4, 5] : List Nat).map fun t => s.getD t (.tup [])) H) [] retK [4, 5]) = L18 ρ call yc lim k x0 x1 H := by
  kernel_rfl
theorem E18 (ρ : Addr → Option Value) (k lim : Nat) (x0 x1 : AV) (H : Heap) : evCall (cx ρ) (k + 1) lim 18 [x0, x1] H = L18 ρ (evCall (cx ρ) k) (evCY (cx ρ) k).2 lim k x0 x1 H := by
  rw [evCall_body (cx ρ) k lim 18 _ H Tryz.f18 c18 [4, 5] (by kernel_rfl) (by kernel_rfl) (by kernel_rfl) (by kernel_rfl) (by kernel_rfl)]
  exact G18 ρ (evCall (cx ρ) k) (evCY (cx ρ) k).2 lim k x0 x1 H
-- (*haycroft/hlog.Log).Epoch
noncomputable def c19 : Code := Code.of Tryz.prog 19
noncomputable def L19 (ρ : Addr → Option Value) (call : CallF) (yc : YieldF) (lim k : Nat) (x0 : AV) (H : Heap) : Res :=
  purK (binA Tryz.prog H .eql 44 x0 .nilp) fun x4 =>
  condK x4
  (
    retK [.nilp] H)
  (
    purK (nilChkA x0) fun x6 =>
    purK (addA 3 x6) fun x7 =>
    purK (ld1 ρ H x7) fun x8 =>
    retK [x8] H)
theorem G19 (ρ : Addr → Option Value) (call : CallF) (yc : YieldF) (lim k : Nat) (x0 : AV) (H : Heap) :
    evL (cx ρ) call yc false 19 lim k c19 [x0, (.tup []), (.tup []), (.tup []), (.tup []), (.tup []), (.tup []), (.tup []), (.tup [])] H (kk none (fun s H => retK (([2] : List Nat).map fun t => s.getD t (.tup [])) H) [] retK [2]) = L19 ρ call yc lim k x0 H := by
  kernel_rfl
theorem E19 (ρ : Addr → Option Value) (k lim : Nat) (x0 : AV) (H : Heap) : evCall (cx ρ) (k + 1) lim 19 [x0] H = L19 ρ (evCall (cx ρ) k) (evCY (cx ρ) k).2 lim k x0 H := by
  rw [evCall_body (cx ρ) k lim 19 _ H Tryz.f19 c19 [2] (by kernel_rfl) (by kernel_rfl) (by kernel_rfl) (by kernel_rfl) (by kernel_rfl)]
  exact G19 ρ (evCall (cx ρ) k) (evCY (cx ρ) k).2 lim k x0 H
-- (*haycroft/epoch.Table).Enter
noncomputable def c20 : Code := Code.of Tryz.prog 20
noncomputable def L20 (ρ : Addr → Option Value) (call : CallF) (yc : YieldF) (lim k : Nat) (x0 x1 : AV) (H : Heap) : Res :=
  resK (call lim 45 [x0] H) fun x8 H =>
  resK (call lim 44 [x0, x1, (.bool false), x8, (.int .i64 8)] H) fun x9 H =>
  retK [x9] H
theorem G20 (ρ : Addr → Option Value) (call : CallF) (yc : YieldF) (lim k : Nat) (x0 x1 : AV) (H : Heap) :
    evL (cx ρ) call yc false 20 lim k c20 [x0, x1, (.tup []), (.tup []), (.tup []), (.tup []), (.tup []), (.tup []), (.tup []), (.tup [])] H (kk none (fun s H => retK (([4] : List Nat).map fun t => s.getD t (.tup [])) H) [] retK [4]) = L20 ρ call yc lim k x0 x1 H := by
  kernel_rfl
theorem E20 (ρ : Addr → Option Value) (k lim : Nat) (x0 x1 : AV) (H : Heap) : evCall (cx ρ) (k + 1) lim 20 [x0, x1] H = L20 ρ (evCall (cx ρ) k) (evCY (cx ρ) k).2 lim k x0 x1 H := by
  rw [evCall_body (cx ρ) k lim 20 _ H Tryz.f20 c20 [4] (by kernel_rfl) (by kernel_rfl) (by kernel_rfl) (by kernel_rfl) (by kernel_rfl)]
  exact G20 ρ (evCall (cx ρ) k) (evCY (cx ρ) k).2 lim k x0 x1 H
-- haycroft/task.bad
noncomputable def c21 : Code := Code.of Tryz.prog 21
noncomputable def L21 (ρ : Addr → Option Value) (call : CallF) (yc : YieldF) (lim k : Nat) (x0 : AV) (H : Heap) : Res :=
  retK [(.int .i64 0), x0] H
theorem G21 (ρ : Addr → Option Value) (call : CallF) (yc : YieldF) (lim k : Nat) (x0 : AV) (H : Heap) :
    evL (cx ρ) call yc false 21 lim k c21 [x0, (.tup []), (.tup []), (.tup []), (.tup [])] H (kk none (fun s H => retK (([2, 3] : List Nat).map fun t => s.getD t (.tup [])) H) [] retK [2, 3]) = L21 ρ call yc lim k x0 H := by
  kernel_rfl
theorem E21 (ρ : Addr → Option Value) (k lim : Nat) (x0 : AV) (H : Heap) : evCall (cx ρ) (k + 1) lim 21 [x0] H = L21 ρ (evCall (cx ρ) k) (evCY (cx ρ) k).2 lim k x0 H := by
  rw [evCall_body (cx ρ) k lim 21 _ H Tryz.f21 c21 [2, 3] (by kernel_rfl) (by kernel_rfl) (by kernel_rfl) (by kernel_rfl) (by kernel_rfl)]
  exact G21 ρ (evCall (cx ρ) k) (evCY (cx ρ) k).2 lim k x0 H
-- (*haycroft/epoch.Table).Seen
noncomputable def c22 : Code := Code.of Tryz.prog 22
noncomputable def L22 (ρ : Addr → Option Value) (call : CallF) (yc : YieldF) (lim k : Nat) (x0 x1 : AV) (H : Heap) : Res :=
  resK (call lim 46 [x0, x1] H) fun x7 H =>
  purK (unA .not x7) fun x8 =>
  condK x8
  (
    retK [(.int .u64 0)] H)
  (
    purK (nilChkA x0) fun x10 =>
    purK (addA 0 x10) fun x11 =>
    purK (ld1 ρ H x11) fun x12 =>
    purK (binA Tryz.prog H .add 3 (.int .i64 1) x1) fun x14 =>
    resK (call lim 47 [x12, x14] H) fun x15 H =>
    retK [x15] H)
theorem G22 (ρ : Addr → Option Value) (call : CallF) (yc : YieldF) (lim k : Nat) (x0 x1 : AV) (H : Heap) :
    evL (cx ρ) call yc false 22 lim k c22 [x0, x1, (.tup []), (.tup []), (.tup []), (.tup []), (.tup []), (.tup []), (.tup []), (.tup []), (.tup []), (.tup []), (.tup []), (.tup []), (.tup []), (.tup [])] H (kk none (fun s H => retK (([4] : List Nat).map fun t => s.getD t (.tup [])) H) [] retK [4]) = L22 ρ call yc lim k x0 x1 H := by
  kernel_rfl
theorem E22 (ρ : Addr → Option Value) (k lim : Nat) (x0 x1 : AV) (H : Heap) : evCall (cx ρ) (k + 1) lim 22 [x0, x1] H = L22 ρ (evCall (cx ρ) k) (evCY (cx ρ) k).2 lim k x0 x1 H := by
  rw [evCall_body (cx ρ) k lim 22 _ H Tryz.f22 c22 [4] (by kernel_rfl) (by kernel_rfl) (by kernel_rfl) (by kernel_rfl) (by kernel_rfl)]
  exact G22 ρ (evCall (cx ρ) k) (evCY (cx ρ) k).2 lim k x0 x1 H
-- haycroft/mix.Key
noncomputable def c23 : Code := Code.of Tryz.prog 23
noncomputable def N23_2 (ρ : Addr → Option Value) (call : CallF) (yc : YieldF) (lim k : Nat) (x3 : AV) (H : Heap) (R : List AV → Heap → Res) : Res :=
  R [x3] H
theorem N23_2_eq (ρ : Addr → Option Value) (call : CallF) (yc : YieldF) (lim k : Nat) (x3 : AV) (H : Heap) (R : List AV → Heap → Res) :
    evL (cx ρ) call yc false 23 lim k (Code.at [1, 1, 1, 1] c23) (sp 32 [(3, x3)]) H (kk none (fun s H => R (([2] : List Nat).map fun t => s.getD t (.tup [])) H) [] R [2]) = N23_2 ρ call yc lim k x3 H R := by
  kernel_rfl
noncomputable def N23_5 (ρ : Addr → Option Value) (call : CallF) (yc : YieldF) (lim k : Nat) (x3 x19 : AV) (H : Heap) (kn : AV → AV → Heap → Res) : Res :=
  purK (binA Tryz.prog H .add 3 x19 (.int .i64 1)) fun x30_1 =>
  kn x3 x30_1 H
theorem N23_5_eq (ρ : Addr → Option Value) (call : CallF) (yc : YieldF) (lim k : Nat) (x3 x19 : AV) (H : Heap) (kn : KS) (k2 : KS) (R : List AV → Heap → Res) :
    evL (cx ρ) call yc false 23 lim k (Code.at [1, 1, 1, 0, 1, 0, 0, 1, 1, 1] c23) (sp 32 [(3, x3), (19, x19)]) H (kk (some [3, 19]) kn [(2, (some [3]), k2)] R [2]) = N23_5 ρ call yc lim k x3 x19 H (fun x3 x19 H => kn (sp 32 [(3, x3), (19, x19)]) H) := by
  kernel_rfl
noncomputable def N23_4b (ρ : Addr → Option Value) (call : CallF) (yc : YieldF) (lim k : Nat) (x3 x19 : AV) (H : Heap) (kn : AV → AV → Heap → Res) (k2 : AV → Heap → Res) : Res :=
  purK (binA Tryz.prog H .lss 3 x19 (.int .i64 3)) fun x20_1 =>
  condK x20_1
  (
    purK (binA Tryz.prog H .shr 22 x3 (.int .u64 32)) fun x24_1 =>
    purK (binA Tryz.prog H .xor 22 x3 x24_1) fun x25_1 =>
    purK (binA Tryz.prog H .lss 3 x19 (.int .i64 2)) fun x27_1 =>
    condK x27_1
    (
      purK (binA Tryz.prog H .mul 22 x25_1 (.int .u64 15480190943371904987)) fun x29_1 =>
      N23_5 ρ call yc lim k x29_1 x19 H kn)
    (
      N23_5 ρ call yc lim k x25_1 x19 H kn))
  (
    k2 x3 H)
theorem N23_4b_x (ρ : Addr → Option Value) (call : CallF) (yc : YieldF) (lim k : Nat) (J : CodeF) (x3 x19 : AV) (H : Heap) (kn : KS) (k2 : KS) (R : List AV → Heap → Res) :
    evX (cx ρ) call yc false 23 lim k J (Code.at [1, 1, 1, 0, 1, 0, 0] c23) (sp 32 [(3, x3), (19, x19)]) H (kk (some [3, 19]) kn [(2, (some [3]), k2)] R [2]) =
  purK (binA Tryz.prog H .lss 3 x19 (.int .i64 3)) fun x20_1 =>
  condK x20_1
  (
    purK (binA Tryz.prog H .shr 22 x3 (.int .u64 32)) fun x24_1 =>
    purK (binA Tryz.prog H .xor 22 x3 x24_1) fun x25_1 =>
    purK (binA Tryz.prog H .lss 3 x19 (.int .i64 2)) fun x27_1 =>
    condK x27_1
    (
      purK (binA Tryz.prog H .mul 22 x25_1 (.int .u64 15480190943371904987)) fun x29_1 =>
      J (Code.at [1, 1, 1, 0, 1, 0, 0, 1, 1, 1] c23) (sp 32 [(3, x29_1), (19, x19)]) H (kk (some [3, 19]) kn [(2, (some [3]), k2)] R [2]))
    (
      J (Code.at [1, 1, 1, 0, 1, 0, 0, 1, 1, 1] c23) (sp 32 [(3, x25_1), (19, x19)]) H (kk (some [3, 19]) kn [(2, (some [3]), k2)] R [2])))
  (
    k2 (sp 32 [(3, x3)]) H) := by
  kernel_rfl
theorem N23_4b_eq (ρ : Addr → Option Value) (call : CallF) (yc : YieldF) (lim k : Nat) (x3 x19 : AV) (H : Heap) (kn : KS) (k2 : KS) (R : List AV → Heap → Res) :
    evL (cx ρ) call yc false 23 lim k (Code.at [1, 1, 1, 0, 1, 0, 0] c23) (sp 32 [(3, x3), (19, x19)]) H (kk (some [3, 19]) kn [(2, (some [3]), k2)] R [2]) = N23_4b ρ call yc lim k x3 x19 H (fun x3 x19 H => kn (sp 32 [(3, x3), (19, x19)]) H) (fun x3 H => k2 (sp 32 [(3, x3)]) H) := by
  rw [evL_X, N23_4b_x]
  simp only [← evL_X, N23_4b, N23_5_eq]
noncomputable def N23_4 (ρ : Addr → Option Value) (call : CallF) (yc : YieldF) (lim k : Nat) (x3 x19 : AV) (H : Heap) (k2 : AV → Heap → Res) : Res :=
  loopL (fun (x : AV × AV) H kn => N23_4b ρ call yc lim k x.1 x.2 H (fun x3 x19 H => kn (x3, x19) H) k2) k (x3, x19) H
theorem N23_4_eq (ρ : Addr → Option Value) (call : CallF) (yc : YieldF) (lim k : Nat) (x3 x19 : AV) (H : Heap) (kn : KS) (k2 : KS) (R : List AV → Heap → Res) :
    evL (cx ρ) call yc false 23 lim k (Code.at [1, 1, 1, 0, 1, 0] c23) (sp 32 [(3, x3), (19, x19)]) H (kk (some [3]) kn [(2, (some [3]), k2)] R [2]) = N23_4 ρ call yc lim k x3 x19 H (fun x3 H => k2 (sp 32 [(3, x3)]) H) := by
  have e : Code.at [1, 1, 1, 0, 1, 0] c23 = .loop (Code.at [1, 1, 1, 0, 1, 0, 0] c23) := by kernel_rfl
  rw [e]
  unfold N23_4
  exact loop_node [3, 19] (fun x : AV × AV => (sp 32 [(3, (x.1)), (19, (x.2))])) (fun (x : AV × AV) H kn => N23_4b ρ call yc lim k x.1 x.2 H (fun x3 x19 H => kn (x3, x19) H) (fun x3 H => k2 (sp 32 [(3, x3)]) H)) (by kernel_rfl) (fun x => by kernel_rfl) (fun x H kn => N23_4b_eq ρ call yc lim k (x.1) (x.2) H kn k2 R) (x3, x19) (sp 32 [(3, x3), (19, x19)]) H (by kernel_rfl)
noncomputable def N23_3 (ρ : Addr → Option Value) (call : CallF) (yc : YieldF) (lim k : Nat) (x3 x19 : AV) (H : Heap) (kn : AV → Heap → Res) : Res :=
  N23_4 ρ call yc lim k x3 x19 H kn
theorem N23_3_x (ρ : Addr → Option Value) (call : CallF) (yc : YieldF) (lim k : Nat) (J : CodeF) (x3 x19 : AV) (H : Heap) (kn : KS) (R : List AV → Heap → Res) :
    evX (cx ρ) call yc false 23 lim k J (Code.at [1, 1, 1, 0, 1] c23) (sp 32 [(3, x3), (19, x19)]) H (kk (some [3]) kn [] R [2]) =
  J (Code.at [1, 1, 1, 0, 1, 0] c23) (sp 32 [(3, x3), (19, x19)]) H (kk (some [3]) kn [(2, (some [3]), kn)] R [2]) := by
  kernel_rfl
theorem N23_3_eq (ρ : Addr → Option Value) (call : CallF) (yc : YieldF) (lim k : Nat) (x3 x19 : AV) (H : Heap) (kn : KS) (R : List AV → Heap → Res) :
    evL (cx ρ) call yc false 23 lim k (Code.at [1, 1, 1, 0, 1] c23) (sp 32 [(3, x3), (19, x19)]) H (kk (some [3]) kn [] R [2]) = N23_3 ρ call yc lim k x3 x19 H (fun x3 H => kn (sp 32 [(3, x3)]) H) := by
  rw [evL_X, N23_3_x]
  simp only [← evL_X, N23_3, N23_4_eq]
noncomputable def N23_1 (ρ : Addr → Option Value) (call : CallF) (yc : YieldF) (lim k : Nat) (x3 : AV) (H : Heap) (R : List AV → Heap → Res) : Res :=
  N23_3 ρ call yc lim k x3 (.int .i64 0) H (fun x3_1 H =>
    N23_2 ρ call yc lim k x3_1 H R)
theorem N23_1_x (ρ : Addr → Option Value) (call : CallF) (yc : YieldF) (lim k : Nat) (J : CodeF) (x3 : AV) (H : Heap) (R : List AV → Heap → Res) :
    evX (cx ρ) call yc false 23 lim k J (Code.at [1, 1, 1] c23) (sp 32 [(3, x3)]) H (kk none (fun s H => R (([2] : List Nat).map fun t => s.getD t (.tup [])) H) [] R [2]) =
  J (Code.at [1, 1, 1, 0, 1] c23) (sp 32 [(3, x3), (19, (.int .i64 0))]) H (kk (some [3]) (fun s H => J (Code.at [1, 1, 1, 1] c23) s H (kk none (fun s H => R (([2] : List Nat).map fun t => s.getD t (.tup [])) H) [] R [2])) [] R [2]) := by
  kernel_rfl
theorem N23_1_eq (ρ : Addr → Option Value) (call : CallF) (yc : YieldF) (lim k : Nat) (x3 : AV) (H : Heap) (R : List AV → Heap → Res) :
    evL (cx ρ) call yc false 23 lim k (Code.at [1, 1, 1] c23) (sp 32 [(3, x3)]) H (kk none (fun s H => R (([2] : List Nat).map fun t => s.getD t (.tup [])) H) [] R [2]) = N23_1 ρ call yc lim k x3 H R := by
  rw [evL_X, N23_1_x]
  simp only [← evL_X, N23_1, N23_2_eq, N23_3_eq]
noncomputable def N23_7b (ρ : Addr → Option Value) (call : CallF) (yc : YieldF) (lim k : Nat) (x0 x3 x7 x8 : AV) (H : Heap) (kn : AV → AV → AV → AV → Heap → Res) (k0 : AV → Heap → Res) : Res :=
  purK (binA Tryz.prog H .lss 3 x8 x7) fun x9_1 =>
  condK x9_1
  (
    purK (ixT x0 x8) fun x14_1 =>
    purK (cvI .u64 x14_1) fun x15_1 =>
    purK (binA Tryz.prog H .xor 22 x3 x15_1) fun x16_1 =>
    purK (binA Tryz.prog H .mul 22 x16_1 (.int .u64 1099511628211)) fun x17_1 =>
    purK (binA Tryz.prog H .add 3 x8 (.int .i64 1)) fun x18_1 =>
    kn x0 x17_1 x7 x18_1 H)
  (
    k0 x3 H)
theorem N23_7b_eq (ρ : Addr → Option Value) (call : CallF) (yc : YieldF) (lim k : Nat) (x0 x3 x7 x8 : AV) (H : Heap) (kn : KS) (k0 : KS) (R : List AV → Heap → Res) :
    evL (cx ρ) call yc false 23 lim k (Code.at [1, 1, 0, 1, 0, 0] c23) (sp 32 [(0, x0), (3, x3), (7, x7), (8, x8)]) H (kk (some [0, 3, 7, 8]) kn [(0, (some [3]), k0)] R [2]) = N23_7b ρ call yc lim k x0 x3 x7 x8 H (fun x0 x3 x7 x8 H => kn (sp 32 [(0, x0), (3, x3), (7, x7), (8, x8)]) H) (fun x3 H => k0 (sp 32 [(3, x3)]) H) := by
  kernel_rfl
noncomputable def N23_7 (ρ : Addr → Option Value) (call : CallF) (yc : YieldF) (lim k : Nat) (x0 x3 x7 x8 : AV) (H : Heap) (k0 : AV → Heap → Res) : Res :=
  loopL (fun (x : AV × AV) H kn => N23_7b ρ call yc lim k x0 x.1 x7 x.2 H (fun _ x3 _ x8 H => kn (x3, x8) H) k0) k (x3, x8) H
theorem N23_7_eq (ρ : Addr → Option Value) (call : CallF) (yc : YieldF) (lim k : Nat) (x0 x3 x7 x8 : AV) (H : Heap) (kn : KS) (k0 : KS) (R : List AV → Heap → Res) :
    evL (cx ρ) call yc false 23 lim k (Code.at [1, 1, 0, 1, 0] c23) (sp 32 [(0, x0), (3, x3), (7, x7), (8, x8)]) H (kk (some [3]) kn [(0, (some [3]), k0)] R [2]) = N23_7 ρ call yc lim k x0 x3 x7 x8 H (fun x3 H => k0 (sp 32 [(3, x3)]) H) := by
  have e : Code.at [1, 1, 0, 1, 0] c23 = .loop (Code.at [1, 1, 0, 1, 0, 0] c23) := by kernel_rfl
  rw [e]
  unfold N23_7
  exact loop_node [0, 3, 7, 8] (fun x : AV × AV => (sp 32 [(0, x0), (3, (x.1)), (7, x7), (8, (x.2))])) (fun (x : AV × AV) H kn => N23_7b ρ call yc lim k x0 x.1 x7 x.2 H (fun _ x3 _ x8 H => kn (x3, x8) H) (fun x3 H => k0 (sp 32 [(3, x3)]) H)) (by kernel_rfl) (fun x => by kernel_rfl) (fun x H kn => N23_7b_eq ρ call yc lim k x0 (x.1) x7 (x.2) H kn k0 R) (x3, x8) (sp 32 [(0, x0), (3, x3), (7, x7), (8, x8)]) H (by kernel_rfl)
noncomputable def N23_6 (ρ : Addr → Option Value) (call : CallF) (yc : YieldF) (lim k : Nat) (x0 x3 x7 x8 : AV) (H : Heap) (kn : AV → Heap → Res) : Res :=
  N23_7 ρ call yc lim k x0 x3 x7 x8 H kn
theorem N23_6_x (ρ : Addr → Option Value) (call : CallF) (yc : YieldF) (lim k : Nat) (J : CodeF) (x0 x3 x7 x8 : AV) (H : Heap) (kn : KS) (R : List AV → Heap → Res) :
    evX (cx ρ) call yc false 23 lim k J (Code.at [1, 1, 0, 1] c23) (sp 32 [(0, x0), (3, x3), (7, x7), (8, x8)]) H (kk (some [3]) kn [] R [2]) =
  J (Code.at [1, 1, 0, 1, 0] c23) (sp 32 [(0, x0), (3, x3), (7, x7), (8, x8)]) H (kk (some [3]) kn [(0, (some [3]), kn)] R [2]) := by
  kernel_rfl
theorem N23_6_eq (ρ : Addr → Option Value) (call : CallF) (yc : YieldF) (lim k : Nat) (x0 x3 x7 x8 : AV) (H : Heap) (kn : KS) (R : List AV → Heap → Res) :
    evL (cx ρ) call yc false 23 lim k (Code.at [1, 1, 0, 1] c23) (sp 32 [(0, x0), (3, x3), (7, x7), (8, x8)]) H (kk (some [3]) kn [] R [2]) = N23_6 ρ call yc lim k x0 x3 x7 x8 H (fun x3 H => kn (sp 32 [(3, x3)]) H) := by
  rw [evL_X, N23_6_x]
  simp only [← evL_X, N23_6, N23_7_eq]
noncomputable def L23 (ρ : Addr → Option Value) (call : CallF) (yc : YieldF) (lim k : Nat) (x0 : AV) (H : Heap) : Res :=
  purK (lenT x0) fun x7 =>
  N23_6 ρ call yc lim k x0 (.int .u64 14695981039346656037) x7 (.int .i64 0) H (fun x3 H =>
    N23_1 ρ call yc lim k x3 H retK)
theorem L23_x (ρ : Addr → Option Value) (call : CallF) (yc : YieldF) (lim k : Nat) (J : CodeF) (x0 : AV) (H : Heap) :
    evX (cx ρ) call yc false 23 lim k J c23 [x0, (.tup []), (.tup []), (.tup []), (.tup []), (.tup []), (.tup []), (.tup []), (.tup []), (.tup []), (.tup []), (.tup []), (.tup []), (.tup []), (.tup []), (.tup []), (.tup []), (.tup []), (.tup []), (.tup []), (.tup []), (.tup []), (.tup []), (.tup []), (.tup []), (.tup []), (.tup []), (.tup []), (.tup []), (.tup []), (.tup []), (.tup [])] H (kk none (fun s H => retK (([2] : List Nat).map fun t => s.getD t (.tup [])) H) [] retK [2]) =
  purK (lenT x0) fun x7 =>
  J (Code.at [1, 1, 0, 1] c23) (sp 32 [(0, x0), (3, (.int .u64 14695981039346656037)), (7, x7), (8, (.int .i64 0))]) H (kk (some [3]) (fun s H => J (Code.at [1, 1, 1] c23) s H (kk none (fun s H => retK (([2] : List Nat).map fun t => s.getD t (.tup [])) H) [] retK [2])) [] retK [2]) := by
  kernel_rfl
theorem G23 (ρ : Addr → Option Value) (call : CallF) (yc : YieldF) (lim k : Nat) (x0 : AV) (H : Heap) :
    evL (cx ρ) call yc false 23 lim k c23 [x0, (.tup []), (.tup []), (.tup []), (.tup []), (.tup []), (.tup []), (.tup []), (.tup []), (.tup []), (.tup []), (.tup []), (.tup []), (.tup []), (.tup []), (.tup []), (.tup []), (.tup []), (.tup []), (.tup []), (.tup []), (.tup []), (.tup []), (.tup []), (.tup []), (.tup []), (.tup []), (.tup []), (.tup []), (.tup []), (.tup []), (.tup [])] H (kk none (fun s H => retK (([2] : List Nat).map fun t => s.getD t (.tup [])) H) [] retK [2]) = L23 ρ call yc lim k x0 H := by
  rw [evL_X, L23_x]
  simp only [← evL_X, L23, N23_1_eq, N23_6_eq]
theorem E23 (ρ : Addr → Option Value) (k lim : Nat) (x0 : AV) (H : Heap) : evCall (cx ρ) (k + 1) lim 23 [x0] H = L23 ρ (evCall (cx ρ) k) (evCY (cx ρ) k).2 lim k x0 H := by
  rw [evCall_body (cx ρ) k lim 23 _ H Tryz.f23 c23 [2] (by kernel_rfl) (by kernel_rfl) (by kernel_rfl) (by kernel_rfl) (by kernel_rfl)]
  exact G23 ρ (evCall (cx ρ) k) (evCY (cx ρ) k).2 lim k x0 H
-- (*haycroft/task.Task).look
noncomputable def c24 : Code := Code.of Tryz.prog 24
noncomputable def L24 (ρ : Addr → Option Value) (call : CallF) (yc : YieldF) (lim k : Nat) (x0 : AV) (H : Heap) : Res :=
  mkK H (some (.ptr H.sz 0 0, .new (newCells 111 false [.int .i64 0, .int .i64 0, .int .u64 0, .int .i64 0]))) true fun x4 H =>
  purK (nilChkA x0) fun x8 =>
  purK (addA 1 x8) fun x9 =>
  purK (ld1 ρ H x9) fun x10 =>
  purK (nilChkA x0) fun x12 =>
  purK (addA 7 x12) fun x13 =>
  purK (ld1 ρ H x13) fun x14 =>
  resK (call lim 48 [x10, x14] H) fun x15 H =>
  purK (extA 0 x15) fun x16 =>
  purK (extA 1 x15) fun x17 =>
  effK H (stA lim H 4 x4 x16) fun _ H =>
  purK (binA Tryz.prog H .neq 28 x17 (.int .i64 0)) fun x19 =>
  condK x19
  (
    resK (call lim 21 [x17] H) fun x21 H =>
    purK (extA 0 x21) fun x22 =>
    purK (extA 1 x21) fun x23 =>
    retK [x22, x23] H)
  (
    purK (addA 0 x4) fun x24 =>
    purK (ld1 ρ H x24) fun x25 =>
    purK (binA Tryz.prog H .neq 3 x25 (.int .i64 1)) fun x26 =>
    condK x26
    (
      purK (ldN ρ H 4 x4) fun x28 =>
      resK (call lim 49 [x0, x28] H) fun x29 H =>
      purK (extA 0 x29) fun x30 =>
      purK (extA 1 x29) fun x31 =>
      retK [x30, x31] H)
    (
      purK (addA 1 x4) fun x34 =>
      purK (ld1 ρ H x34) fun x35 =>
      purK (addA 2 x4) fun x36 =>
      purK (ld1 ρ H x36) fun x37 =>
      purK (nilChkA x0) fun x38 =>
      purK (addA 9 x38) fun x39 =>
      effK H (stA lim H 1 x39 x35) fun _ H => bif (agn (ld1 ρ H x36) x37 && true) then
        purK (nilChkA x0) fun x40 =>
        purK (addA 10 x40) fun x41 =>
        effK H (stA lim H 1 x41 x37) fun _ H =>
        purK (addA 2 x4) fun x43 =>
        purK (ld1 ρ H x43) fun x44 =>
        resK (call lim 50 [x44, (.int .i64 0), (.int .i64 48)] H) fun x45 H =>
        purK (nilChkA x0) fun x46 =>
        purK (addA 13 x46) fun x47 =>
        effK H (stA lim H 1 x47 x45) fun _ H =>
        purK (nilChkA x0) fun x50 =>
        purK (addA 13 x50) fun x51 =>
        purK (ld1 ρ H x51) fun x52 =>
        purK (nilChkA x0) fun x53 =>
        purK (addA 14 x53) fun x54 =>
        effK H (stA lim H 1 x54 x52) fun _ H =>
        purK (nilChkA x0) fun x57 =>
        purK (addA 13 x57) fun x58 =>
        purK (ld1 ρ H x58) fun x59 =>
        purK (binA Tryz.prog H .eql 22 x59 (.int .u64 0)) fun x60 =>
        condK x60
        (
          resK (call lim 51 [x0] H) fun x62 H =>
          purK (extA 0 x62) fun x63 =>
          purK (extA 1 x62) fun x64 =>
          retK [x63, x64] H)
        (
          resK (call lim 32 [x0, (.int .i64 4)] H) fun x67 H =>
          condK x67
          (
            resK (call lim 34 [x0, (.fn (.func 35) [] [])] H) fun x69 H =>
            purK (extA 0 x69) fun x70 =>
            purK (extA 1 x69) fun x71 =>
            retK [x70, x71] H)
          (
            resK (call lim 34 [x0, (.fn (.func 52) [] [])] H) fun x73 H =>
            purK (extA 0 x73) fun x74 =>
            purK (extA 1 x73) fun x75 =>
            retK [x74, x75] H))
      else none))
theorem G24 (ρ : Addr → Option Value) (call : CallF) (yc : YieldF) (lim k : Nat) (x0 : AV) (H : Heap) :
    evL (cx ρ) call yc false 24 lim k c24 [x0, (.tup []), (.tup []), (.tup []), (.tup []), (.tup []), (.tup []), (.tup []), (.tup []), (.tup []), (.tup []), (.tup []), (.tup []), (.tup []), (.tup []), (.tup []), (.tup []), (.tup []), (.tup []), (.tup []), (.tup []), (.tup []), (.tup []), (.tup []), (.tup []), (.tup []), (.tup []), (.tup []), (.tup []), (.tup []), (.tup []), (.tup []), (.tup []), (.tup []), (.tup []), (.tup []), (.tup []), (.tup []), (.tup []), (.tup []), (.tup []), (.tup []), (.tup []), (.tup []), (.tup []), (.tup []), (.tup []), (.tup []), (.tup []), (.tup []), (.tup []), (.tup []), (.tup []), (.tup []), (.tup []), (.tup []), (.tup []), (.tup []), (.tup []), (.tup []), (.tup []), (.tup []), (.tup []), (.tup []), (.tup []), (.tup []), (.tup []), (.tup []), (.tup []), (.tup []), (.tup []), (.tup []), (.tup []), (.tup []), (.tup []), (.tup [])] H (kk none (fun s H => retK (([2, 3] : List Nat).map fun t => s.getD t (.tup [])) H) [] retK [2, 3]) = L24 ρ call yc lim k x0 H := by
  kernel_rfl
theorem E24 (ρ : Addr → Option Value) (k lim : Nat) (x0 : AV) (H : Heap) : evCall (cx ρ) (k + 1) lim 24 [x0] H = L24 ρ (evCall (cx ρ) k) (evCY (cx ρ) k).2 lim k x0 H := by
  rw [evCall_body (cx ρ) k lim 24 _ H Tryz.f24 c24 [2, 3] (by kernel_rfl) (by kernel_rfl) (by kernel_rfl) (by kernel_rfl) (by kernel_rfl)]
  exact G24 ρ (evCall (cx ρ) k) (evCY (cx ρ) k).2 lim k x0 H
-- haycroft/place.Size
noncomputable def c25 : Code := Code.of Tryz.prog 25
noncomputable def L25 (ρ : Addr → Option Value) (call : CallF) (yc : YieldF) (lim k : Nat) (x0 : AV) (H : Heap) : Res :=
  resK (call lim 53 [x0] H) fun x4 H =>
  purK (unA .not x4) fun x5 =>
  condK x5
  (
    retK [(.int .i64 0)] H)
  (
    purK (binA Tryz.prog H .shl 3 (.int .i64 1) x0) fun x7 =>
    retK [x7] H)
theorem G25 (ρ : Addr → Option Value) (call : CallF) (yc : YieldF) (lim k : Nat) (x0 : AV) (H : Heap) :
    evL (cx ρ) call yc false 25 lim k c25 [x0, (.tup []), (.tup []), (.tup []), (.tup []), (.tup []), (.tup []), (.tup [])] H (kk none (fun s H => retK (([2] : List Nat).map fun t => s.getD t (.tup [])) H) [] retK [2]) = L25 ρ call yc lim k x0 H := by
  kernel_rfl
theorem E25 (ρ : Addr → Option Value) (k lim : Nat) (x0 : AV) (H : Heap) : evCall (cx ρ) (k + 1) lim 25 [x0] H = L25 ρ (evCall (cx ρ) k) (evCY (cx ρ) k).2 lim k x0 H := by
  rw [evCall_body (cx ρ) k lim 25 _ H Tryz.f25 c25 [2] (by kernel_rfl) (by kernel_rfl) (by kernel_rfl) (by kernel_rfl) (by kernel_rfl)]
  exact G25 ρ (evCall (cx ρ) k) (evCY (cx ρ) k).2 lim k x0 H
-- (*haycroft/task.Task).is
noncomputable def c32 : Code := Code.of Tryz.prog 32
noncomputable def L32 (ρ : Addr → Option Value) (call : CallF) (yc : YieldF) (lim k : Nat) (x0 x1 : AV) (H : Heap) : Res :=
  purK (nilChkA x0) fun x6 =>
  purK (addA 3 x6) fun x7 =>
  purK (addA 0 x7) fun x8 =>
  purK (ld1 ρ H x8) fun x9 =>
  purK (binA Tryz.prog H .eql 3 x9 x1) fun x11 =>
  retK [x11] H
theorem G32 (ρ : Addr → Option Value) (call : CallF) (yc : YieldF) (lim k : Nat) (x0 x1 : AV) (H : Heap) :
    evL (cx ρ) call yc false 32 lim k c32 [x0, x1, (.tup []), (.tup []), (.tup []), (.tup []), (.tup []), (.tup []), (.tup []), (.tup []), (.tup []), (.tup [])] H (kk none (fun s H => retK (([4] : List Nat).map fun t => s.getD t (.tup [])) H) [] retK [4]) = L32 ρ call yc lim k x0 x1 H := by
  kernel_rfl
theorem E32 (ρ : Addr → Option Value) (k lim : Nat) (x0 x1 : AV) (H : Heap) : evCall (cx ρ) (k + 1) lim 32 [x0, x1] H = L32 ρ (evCall (cx ρ) k) (evCY (cx ρ) k).2 lim k x0 x1 H := by
  rw [evCall_body (cx ρ) k lim 32 _ H Tryz.f32 c32 [4] (by kernel_rfl) (by kernel_rfl) (by kernel_rfl) (by kernel_rfl) (by kernel_rfl)]
  exact G32 ρ (evCall (cx ρ) k) (evCY (cx ρ) k).2 lim k x0 x1 H
-- (*haycroft/task.Task).ends
noncomputable def c33 : Code := Code.of Tryz.prog 33
noncomputable def L33 (ρ : Addr → Option Value) (call : CallF) (yc : YieldF) (lim k : Nat) (x0 x1 x2 : AV) (H : Heap) : Res :=
  purK (bldA [.int .i64 0, .str ByteArray.empty] [(0, 1, x1), (1, 1, x2)]) fun x12 =>
  purK (nilChkA x0) fun x13 =>
  purK (addA 20 x13) fun x14 =>
  effK H (stA lim H 1 x14 (.bool true)) fun _ H =>
  purK (nilChkA x0) fun x15 =>
  purK (addA 21 x15) fun x16 =>
  effK H (stA lim H 2 x16 x12) fun _ H =>
  retK [(.int .i64 2), (.int .i64 0)] H
theorem G33 (ρ : Addr → Option Value) (call : CallF) (yc : YieldF) (lim k : Nat) (x0 x1 x2 : AV) (H : Heap) :
    evL (cx ρ) call yc false 33 lim k c33 [x0, x1, x2, (.tup []), (.tup []), (.tup []), (.tup []), (.tup []), (.tup []), (.tup []), (.tup []), (.tup []), (.tup []), (.tup []), (.tup []), (.tup []), (.tup [])] H (kk none (fun s H => retK (([6, 7] : List Nat).map fun t => s.getD t (.tup [])) H) [] retK [6, 7]) = L33 ρ call yc lim k x0 x1 x2 H := by
  kernel_rfl
theorem E33 (ρ : Addr → Option Value) (k lim : Nat) (x0 x1 x2 : AV) (H : Heap) : evCall (cx ρ) (k + 1) lim 33 [x0, x1, x2] H = L33 ρ (evCall (cx ρ) k) (evCY (cx ρ) k).2 lim k x0 x1 x2 H := by
  rw [evCall_body (cx ρ) k lim 33 _ H Tryz.f33 c33 [6, 7] (by kernel_rfl) (by kernel_rfl) (by kernel_rfl) (by kernel_rfl) (by kernel_rfl)]
  exact G33 ρ (evCall (cx ρ) k) (evCY (cx ρ) k).2 lim k x0 x1 x2 H
-- haycroft/tail.New
noncomputable def c36 : Code := Code.of Tryz.prog 36
noncomputable def L36 (ρ : Addr → Option Value) (call : CallF) (yc : YieldF) (lim k : Nat) (x0 x1 : AV) (H : Heap) : Res :=
  resK (call lim 53 [x0] H) fun x10 H =>
  purK (unA .not x10) fun x11 =>
  purK (gPur (wantV x11 false) (some x1)) fun x13 =>
  purK (gPur (wantV x11 false) (binA Tryz.prog H .lss 3 x13 (.int .i64 1))) fun x14 =>
  purK (pickA x11 (.bool true) x14) fun x15 =>
  purK (gPur (wantV x15 false) (some x1)) fun x17 =>
  purK (gPur (wantV x15 false) (binA Tryz.prog H .gtr 3 x17 (.int .i64 64))) fun x18 =>
  purK (pickA x15 (.bool true) x18) fun x19 =>
  condK x19
  (
    retK [.nilp, (.int .i64 1)] H)
  (
    resK (call lim 43 [(.int .i64 1)] H) fun x21 H =>
    purK (extA 0 x21) fun x22 =>
    purK (extA 1 x21) fun x23 =>
    purK (binA Tryz.prog H .neq 28 x23 (.int .i64 0)) fun x25 =>
    condK x25
    (
      retK [.nilp, x23] H)
    (
      purK (bldA [.int .i64 0, .int .i64 0, .nilp] [(0, 1, x0), (1, 1, x1), (2, 1, x22)]) fun x30 =>
      effK H (boxA H 132 x30) fun x31 H =>
      resK (call lim 67 [x31, (.int .i64 0)] H) fun x34 H =>
      retK [x31, x34] H))
theorem G36 (ρ : Addr → Option Value) (call : CallF) (yc : YieldF) (lim k : Nat) (x0 x1 : AV) (H : Heap) :
    evL (cx ρ) call yc false 36 lim k c36 [x0, x1, (.tup []), (.tup []), (.tup []), (.tup []), (.tup []), (.tup []), (.tup []), (.tup []), (.tup []), (.tup []), (.tup []), (.tup []), (.tup []), (.tup []), (.tup []), (.tup []), (.tup []), (.tup []), (.tup []), (.tup []), (.tup []), (.tup []), (.tup []), (.tup []), (.tup []), (.tup []), (.tup []), (.tup []), (.tup []), (.tup []), (.tup []), (.tup []), (.tup [])] H (kk none (fun s H => retK (([4, 5] : List Nat).map fun t => s.getD t (.tup [])) H) [] retK [4, 5]) = L36 ρ call yc lim k x0 x1 H := by
  kernel_rfl
theorem E36 (ρ : Addr → Option Value) (k lim : Nat) (x0 x1 : AV) (H : Heap) : evCall (cx ρ) (k + 1) lim 36 [x0, x1] H = L36 ρ (evCall (cx ρ) k) (evCY (cx ρ) k).2 lim k x0 x1 H := by
  rw [evCall_body (cx ρ) k lim 36 _ H Tryz.f36 c36 [4, 5] (by kernel_rfl) (by kernel_rfl) (by kernel_rfl) (by kernel_rfl) (by kernel_rfl)]
  exact G36 ρ (evCall (cx ρ) k) (evCY (cx ρ) k).2 lim k x0 x1 H
-- haycroft/pages.New
noncomputable def c37 : Code := Code.of Tryz.prog 37
noncomputable def L37 (ρ : Addr → Option Value) (call : CallF) (yc : YieldF) (lim k : Nat) (x0 x1 : AV) (H : Heap) : Res :=
  resK (call lim 53 [x0] H) fun x10 H =>
  purK (unA .not x10) fun x11 =>
  purK (gPur (wantV x11 false) (some x1)) fun x13 =>
  purK (gPur (wantV x11 false) (binA Tryz.prog H .lss 3 x13 (.int .i64 2))) fun x14 =>
  purK (pickA x11 (.bool true) x14) fun x15 =>
  purK (gPur (wantV x15 false) (some x1)) fun x17 =>
  purK (gPur (wantV x15 false) (binA Tryz.prog H .gtr 3 x17 (.int .i64 8))) fun x18 =>
  purK (pickA x15 (.bool true) x18) fun x19 =>
  condK x19
  (
    retK [.nilp, (.int .i64 1)] H)
  (
    resK (call lim 25 [x0] H) fun x23 H =>
    purK (binA Tryz.prog H .mul 3 x1 x23) fun x24 =>
    resK (call lim 43 [x24] H) fun x25 H =>
    purK (extA 0 x25) fun x26 =>
    purK (extA 1 x25) fun x27 =>
    purK (binA Tryz.prog H .neq 28 x27 (.int .i64 0)) fun x29 =>
    condK x29
    (
      retK [.nilp, x27] H)
    (
      resK (call lim 43 [x1] H) fun x33 H =>
      purK (extA 0 x33) fun x34 =>
      purK (extA 1 x33) fun x35 =>
      purK (binA Tryz.prog H .neq 28 x35 (.int .i64 0)) fun x37 =>
      condK x37
      (
        retK [.nilp, x35] H)
      (
        purK (bldA [.int .i64 0, .nilp, .nilp] [(0, 1, x0), (1, 1, x26), (2, 1, x34)]) fun x42 =>
        effK H (boxA H 117 x42) fun x43 H =>
        retK [x43, (.int .i64 0)] H)))
theorem G37 (ρ : Addr → Option Value) (call : CallF) (yc : YieldF) (lim k : Nat) (x0 x1 : AV) (H : Heap) :
    evL (cx ρ) call yc false 37 lim k c37 [x0, x1, (.tup []), (.tup []), (.tup []), (.tup []), (.tup []), (.tup []), (.tup []), (.tup []), (.tup []), (.tup []), (.tup []), (.tup []), (.tup []), (.tup []), (.tup []), (.tup []), (.tup []), (.tup []), (.tup []), (.tup []), (.tup []), (.tup []), (.tup []), (.tup []), (.tup []), (.tup []), (.tup []), (.tup []), (.tup []), (.tup []), (.tup []), (.tup []), (.tup []), (.tup []), (.tup []), (.tup []), (.tup []), (.tup []), (.tup []), (.tup []), (.tup []), (.tup [])] H (kk none (fun s H => retK (([4, 5] : List Nat).map fun t => s.getD t (.tup [])) H) [] retK [4, 5]) = L37 ρ call yc lim k x0 x1 H := by
  kernel_rfl
theorem E37 (ρ : Addr → Option Value) (k lim : Nat) (x0 x1 : AV) (H : Heap) : evCall (cx ρ) (k + 1) lim 37 [x0, x1] H = L37 ρ (evCall (cx ρ) k) (evCY (cx ρ) k).2 lim k x0 x1 H := by
  rw [evCall_body (cx ρ) k lim 37 _ H Tryz.f37 c37 [4, 5] (by kernel_rfl) (by kernel_rfl) (by kernel_rfl) (by kernel_rfl) (by kernel_rfl)]
  exact G37 ρ (evCall (cx ρ) k) (evCY (cx ρ) k).2 lim k x0 x1 H
-- haycroft/epoch.New
noncomputable def c38 : Code := Code.of Tryz.prog 38
noncomputable def L38 (ρ : Addr → Option Value) (call : CallF) (yc : YieldF) (lim k : Nat) (x0 : AV) (H : Heap) : Res :=
  purK (binA Tryz.prog H .lss 3 x0 (.int .i64 1)) fun x7 =>
  purK (gPur (wantV x7 false) (some x0)) fun x9 =>
  purK (gPur (wantV x7 false) (binA Tryz.prog H .gtr 3 x9 (.int .i64 8))) fun x10 =>
  purK (pickA x7 (.bool true) x10) fun x11 =>
  condK x11
  (
    retK [.nilp, (.int .i64 1)] H)
  (
    purK (binA Tryz.prog H .add 3 (.int .i64 1) x0) fun x14 =>
    resK (call lim 43 [x14] H) fun x15 H =>
    purK (extA 0 x15) fun x16 =>
    purK (extA 1 x15) fun x17 =>
    purK (binA Tryz.prog H .neq 28 x17 (.int .i64 0)) fun x19 =>
    condK x19
    (
      retK [.nilp, x17] H)
    (
      resK (call lim 68 [x16, (.int .i64 0), (.int .u64 1)] H) fun x22 H =>
      purK (bldA [.nilp] [(0, 1, x16)]) fun x24 =>
      effK H (boxA H 108 x24) fun x25 H =>
      retK [x25, (.int .i64 0)] H))
theorem G38 (ρ : Addr → Option Value) (call : CallF) (yc : YieldF) (lim k : Nat) (x0 : AV) (H : Heap) :
    evL (cx ρ) call yc false 38 lim k c38 [x0, (.tup []), (.tup []), (.tup []), (.tup []), (.tup []), (.tup []), (.tup []), (.tup []), (.tup []), (.tup []), (.tup []), (.tup []), (.tup []), (.tup []), (.tup []), (.tup []), (.tup []), (.tup []), (.tup []), (.tup []), (.tup []), (.tup []), (.tup []), (.tup []), (.tup [])] H (kk none (fun s H => retK (([2, 3] : List Nat).map fun t => s.getD t (.tup [])) H) [] retK [2, 3]) = L38 ρ call yc lim k x0 H := by
  kernel_rfl
theorem E38 (ρ : Addr → Option Value) (k lim : Nat) (x0 : AV) (H : Heap) : evCall (cx ρ) (k + 1) lim 38 [x0] H = L38 ρ (evCall (cx ρ) k) (evCY (cx ρ) k).2 lim k x0 H := by
  rw [evCall_body (cx ρ) k lim 38 _ H Tryz.f38 c38 [2, 3] (by kernel_rfl) (by kernel_rfl) (by kernel_rfl) (by kernel_rfl) (by kernel_rfl)]
  exact G38 ρ (evCall (cx ρ) k) (evCY (cx ρ) k).2 lim k x0 H
-- haycroft/marks.New
noncomputable def c39 : Code := Code.of Tryz.prog 39
noncomputable def L39 (ρ : Addr → Option Value) (call : CallF) (yc : YieldF) (lim k : Nat) (H : Heap) : Res :=
  resK (call lim 43 [(.int .i64 5)] H) fun x4 H =>
  purK (extA 0 x4) fun x5 =>
  purK (extA 1 x4) fun x6 =>
  purK (bldA [.nilp] [(0, 1, x5)]) fun x8 =>
  effK H (boxA H 135 x8) fun x9 H =>
  retK [x9] H
theorem G39 (ρ : Addr → Option Value) (call : CallF) (yc : YieldF) (lim k : Nat) (H : Heap) :
    evL (cx ρ) call yc false 39 lim k c39 [(.tup []), (.tup []), (.tup []), (.tup []), (.tup []), (.tup []), (.tup []), (.tup []), (.tup []), (.tup [])] H (kk none (fun s H => retK (([0] : List Nat).map fun t => s.getD t (.tup [])) H) [] retK [0]) = L39 ρ call yc lim k H := by
  kernel_rfl
theorem E39 (ρ : Addr → Option Value) (k lim : Nat) (H : Heap) : evCall (cx ρ) (k + 1) lim 39 [] H = L39 ρ (evCall (cx ρ) k) (evCY (cx ρ) k).2 lim k H := by
  rw [evCall_body (cx ρ) k lim 39 _ H Tryz.f39 c39 [0] (by kernel_rfl) (by kernel_rfl) (by kernel_rfl) (by kernel_rfl) (by kernel_rfl)]
  exact G39 ρ (evCall (cx ρ) k) (evCY (cx ρ) k).2 lim k H
-- haycroft/drain.New
noncomputable def c40 : Code := Code.of Tryz.prog 40
noncomputable def L40 (ρ : Addr → Option Value) (call : CallF) (yc : YieldF) (lim k : Nat) (H : Heap) : Res :=
  purK (bldA [.nils] []) fun x1 =>
  effK H (boxA H 138 x1) fun x2 H =>
  retK [x2] H
theorem G40 (ρ : Addr → Option Value) (call : CallF) (yc : YieldF) (lim k : Nat) (H : Heap) :
    evL (cx ρ) call yc false 40 lim k c40 [(.tup []), (.tup []), (.tup [])] H (kk none (fun s H => retK (([0] : List Nat).map fun t => s.getD t (.tup [])) H) [] retK [0]) = L40 ρ call yc lim k H := by
  kernel_rfl
theorem E40 (ρ : Addr → Option Value) (k lim : Nat) (H : Heap) : evCall (cx ρ) (k + 1) lim 40 [] H = L40 ρ (evCall (cx ρ) k) (evCY (cx ρ) k).2 lim k H := by
  rw [evCall_body (cx ρ) k lim 40 _ H Tryz.f40 c40 [0] (by kernel_rfl) (by kernel_rfl) (by kernel_rfl) (by kernel_rfl) (by kernel_rfl)]
  exact G40 ρ (evCall (cx ρ) k) (evCY (cx ρ) k).2 lim k H
-- (*haycroft/pages.Buffer).Open
noncomputable def c41 : Code := Code.of Tryz.prog 41
noncomputable def L41 (ρ : Addr → Option Value) (call : CallF) (yc : YieldF) (lim k : Nat) (x0 x1 : AV) (H : Heap) : Res :=
  purK (binA Tryz.prog H .eql 68 x0 .nilp) fun x11 =>
  condK x11
  (
    retK [(.int .i64 2)] H)
  (
    purK (binA Tryz.prog H .lss 3 x1 (.int .i64 0)) fun x14 =>
    condK x14
    (
      retK [(.int .i64 1)] H)
    (
      resK (call lim 69 [x0, x1] H) fun x18 H =>
      condK x18
      (
        retK [(.int .i64 8)] H)
      (
        resK (call lim 70 [x0, x1] H) fun x21 H =>
        purK (nilChkA x0) fun x24 =>
        purK (addA 2 x24) fun x25 =>
        purK (ld1 ρ H x25) fun x26 =>
        resK (call lim 72 [x1] H) fun x29 H => bif (agn (ld1 ρ H x25) x26 && true) then
          resK (call lim 71 [x26, x21, (.int .u64 0), x29] H) fun x30 H =>
          purK (extA 0 x30) fun x31 =>
          purK (extA 1 x30) fun x32 =>
          purK (unA .not x31) fun x34 =>
          condK x34
          (
            retK [(.int .i64 10)] H)
          (
            purK (nilChkA x0) fun x36 =>
            purK (addA 0 x36) fun x37 =>
            purK (ld1 ρ H x37) fun x38 =>
            resK (call lim 25 [x38] H) fun x39 H =>
            purK (nilChkA x0) fun x41 =>
            purK (addA 1 x41) fun x42 =>
            purK (ld1 ρ H x42) fun x43 =>
            purK (binA Tryz.prog H .mul 3 x21 x39) fun x46 =>
            effK H (mkS H 22 1 8 [.int .u64 0] x39 x39) fun x48 H => bif (agn (binA Tryz.prog H .mul 3 x21 x39) x46 && (agn (ld1 ρ H x42) x43 && true)) then
              resK (call lim 73 [x43, x46, x48] H) fun x49 H =>
              retK [x49] H
            else none)
        else none)))
theorem G41 (ρ : Addr → Option Value) (call : CallF) (yc : YieldF) (lim k : Nat) (x0 x1 : AV) (H : Heap) :
    evL (cx ρ) call yc false 41 lim k c41 [x0, x1, (.tup []), (.tup []), (.tup []), (.tup []), (.tup []), (.tup []), (.tup []), (.tup []), (.tup []), (.tup []), (.tup []), (.tup []), (.tup []), (.tup []), (.tup []), (.tup []), (.tup []), (.tup []), (.tup []), (.tup []), (.tup []), (.tup []), (.tup []), (.tup []), (.tup []), (.tup []), (.tup []), (.tup []), (.tup []), (.tup []), (.tup []), (.tup []), (.tup []), (.tup []), (.tup []), (.tup []), (.tup []), (.tup []), (.tup []), (.tup []), (.tup []), (.tup []), (.tup []), (.tup []), (.tup []), (.tup []), (.tup []), (.tup [])] H (kk none (fun s H => retK (([4] : List Nat).map fun t => s.getD t (.tup [])) H) [] retK [4]) = L41 ρ call yc lim k x0 x1 H := by
  kernel_rfl
theorem E41 (ρ : Addr → Option Value) (k lim : Nat) (x0 x1 : AV) (H : Heap) : evCall (cx ρ) (k + 1) lim 41 [x0, x1] H = L41 ρ (evCall (cx ρ) k) (evCY (cx ρ) k).2 lim k x0 x1 H := by
  rw [evCall_body (cx ρ) k lim 41 _ H Tryz.f41 c41 [4] (by kernel_rfl) (by kernel_rfl) (by kernel_rfl) (by kernel_rfl) (by kernel_rfl)]
  exact G41 ρ (evCall (cx ρ) k) (evCY (cx ρ) k).2 lim k x0 x1 H
-- haycroft/mix.May
noncomputable def c42 : Code := Code.of Tryz.prog 42
noncomputable def L42 (ρ : Addr → Option Value) (call : CallF) (yc : YieldF) (lim k : Nat) (x0 : AV) (H : Heap) : Res :=
  purK (binA Tryz.prog H .geq 3 x0 (.int .i64 1)) fun x4 =>
  purK (gPur (wantV x4 true) (some x0)) fun x6 =>
  purK (gPur (wantV x4 true) (binA Tryz.prog H .leq 3 x6 (.int .i64 1024))) fun x7 =>
  purK (pickA x4 x7 (.bool false)) fun x8 =>
  purK (gPur (wantV x8 true) (some x0)) fun x10 =>
  purK (gPur (wantV x8 true) (some x0)) fun x11 =>
  purK (gPur (wantV x8 true) (binA Tryz.prog H .sub 3 x11 (.int .i64 1))) fun x12 =>
  purK (gPur (wantV x8 true) (binA Tryz.prog H .and 3 x10 x12)) fun x13 =>
  purK (gPur (wantV x8 true) (binA Tryz.prog H .eql 3 x13 (.int .i64 0))) fun x14 =>
  purK (pickA x8 x14 (.bool false)) fun x15 =>
  retK [x15] H
theorem G42 (ρ : Addr → Option Value) (call : CallF) (yc : YieldF) (lim k : Nat) (x0 : AV) (H : Heap) :
    evL (cx ρ) call yc false 42 lim k c42 [x0, (.tup []), (.tup []), (.tup []), (.tup []), (.tup []), (.tup []), (.tup []), (.tup []), (.tup []), (.tup []), (.tup []), (.tup []), (.tup []), (.tup []), (.tup [])] H (kk none (fun s H => retK (([2] : List Nat).map fun t => s.getD t (.tup [])) H) [] retK [2]) = L42 ρ call yc lim k x0 H := by
  kernel_rfl
theorem E42 (ρ : Addr → Option Value) (k lim : Nat) (x0 : AV) (H : Heap) : evCall (cx ρ) (k + 1) lim 42 [x0] H = L42 ρ (evCall (cx ρ) k) (evCY (cx ρ) k).2 lim k x0 H := by
  rw [evCall_body (cx ρ) k lim 42 _ H Tryz.f42 c42 [2] (by kernel_rfl) (by kernel_rfl) (by kernel_rfl) (by kernel_rfl) (by kernel_rfl)]
  exact G42 ρ (evCall (cx ρ) k) (evCY (cx ρ) k).2 lim k x0 H
-- haycroft/cell.New
noncomputable def c43 : Code := Code.of Tryz.prog 43
noncomputable def L43 (ρ : Addr → Option Value) (call : CallF) (yc : YieldF) (lim k : Nat) (x0 : AV) (H : Heap) : Res :=
  purK (binA Tryz.prog H .lss 3 x0 (.int .i64 1)) fun x5 =>
  purK (gPur (wantV x5 false) (some x0)) fun x7 =>
  purK (gPur (wantV x5 false) (binA Tryz.prog H .gtr 3 x7 (.int .i64 65536))) fun x8 =>
  purK (pickA x5 (.bool true) x8) fun x9 =>
  condK x9
  (
    retK [.nilp, (.int .i64 1)] H)
  (
    effK H (mkS H 151 1 8 [.int .u64 0] x0 x0) fun x11 H =>
    purK (bldA [.nils, .int .i64 0, .int .i64 0] [(0, 1, x11)]) fun x12 =>
    effK H (boxA H 149 x12) fun x13 H =>
    retK [x13, (.int .i64 0)] H)
theorem G43 (ρ : Addr → Option Value) (call : CallF) (yc : YieldF) (lim k : Nat) (x0 : AV) (H : Heap) :
    evL (cx ρ) call yc false 43 lim k c43 [x0, (.tup []), (.tup []), (.tup []), (.tup []), (.tup []), (.tup []), (.tup []), (.tup []), (.tup []), (.tup []), (.tup []), (.tup []), (.tup [])] H (kk none (fun s H => retK (([2, 3] : List Nat).map fun t => s.getD t (.tup [])) H) [] retK [2, 3]) = L43 ρ call yc lim k x0 H := by
  kernel_rfl
theorem E43 (ρ : Addr → Option Value) (k lim : Nat) (x0 : AV) (H : Heap) : evCall (cx ρ) (k + 1) lim 43 [x0] H = L43 ρ (evCall (cx ρ) k) (evCY (cx ρ) k).2 lim k x0 H := by
  rw [evCall_body (cx ρ) k lim 43 _ H Tryz.f43 c43 [2, 3] (by kernel_rfl) (by kernel_rfl) (by kernel_rfl) (by kernel_rfl) (by kernel_rfl)]
  exact G43 ρ (evCall (cx ρ) k) (evCY (cx ρ) k).2 lim k x0 H
-- (*haycroft/epoch.Table).turn
noncomputable def c44 : Code := Code.of Tryz.prog 44
noncomputable def L44 (ρ : Addr → Option Value) (call : CallF) (yc : YieldF) (lim k : Nat) (x0 x1 x2 x3 x4 : AV) (H : Heap) : Res :=
  purK (binA Tryz.prog H .eql 55 x0 .nilp) fun x13 =>
  condK x13
  (
    retK [(.int .i64 2)] H)
  (
    resK (call lim 46 [x0, x1] H) fun x17 H =>
    purK (unA .not x17) fun x18 =>
    condK x18
    (
      retK [(.int .i64 1)] H)
    (
      resK (call lim 22 [x0, x1] H) fun x23 H =>
      purK (binA Tryz.prog H .gtr 22 x23 (.int .u64 0)) fun x24 =>
      purK (binA Tryz.prog H .neq 4 x2 x24) fun x25 =>
      condK x25
      (
        retK [x4] H)
      (
        purK (nilChkA x0) fun x28 =>
        purK (addA 0 x28) fun x29 =>
        purK (ld1 ρ H x29) fun x30 =>
        purK (binA Tryz.prog H .add 3 (.int .i64 1) x1) fun x32 =>
        resK (call lim 68 [x30, x32, x3] H) fun x34 H =>
        retK [x34] H)))
theorem G44 (ρ : Addr → Option Value) (call : CallF) (yc : YieldF) (lim k : Nat) (x0 x1 x2 x3 x4 : AV) (H : Heap) :
    evL (cx ρ) call yc false 44 lim k c44 [x0, x1, x2, x3, x4, (.tup []), (.tup []), (.tup []), (.tup []), (.tup []), (.tup []), (.tup []), (.tup []), (.tup []), (.tup []), (.tup []), (.tup []), (.tup []), (.tup []), (.tup []), (.tup []), (.tup []), (.tup []), (.tup []), (.tup []), (.tup []), (.tup []), (.tup []), (.tup []), (.tup []), (.tup []), (.tup []), (.tup []), (.tup []), (.tup [])] H (kk none (fun s H => retK (([10] : List Nat).map fun t => s.getD t (.tup [])) H) [] retK [10]) = L44 ρ call yc lim k x0 x1 x2 x3 x4 H := by
  kernel_rfl
theorem E44 (ρ : Addr → Option Value) (k lim : Nat) (x0 x1 x2 x3 x4 : AV) (H : Heap) : evCall (cx ρ) (k + 1) lim 44 [x0, x1, x2, x3, x4] H = L44 ρ (evCall (cx ρ) k) (evCY (cx ρ) k).2 lim k x0 x1 x2 x3 x4 H := by
  rw [evCall_body (cx ρ) k lim 44 _ H Tryz.f44 c44 [10] (by kernel_rfl) (by kernel_rfl) (by kernel_rfl) (by kernel_rfl) (by kernel_rfl)]
  exact G44 ρ (evCall (cx ρ) k) (evCY (cx ρ) k).2 lim k x0 x1 x2 x3 x4 H
-- (*haycroft/epoch.Table).Now
noncomputable def c45 : Code := Code.of Tryz.prog 45
noncomputable def L45 (ρ : Addr → Option Value) (call : CallF) (yc : YieldF) (lim k : Nat) (x0 : AV) (H : Heap) : Res :=
  purK (binA Tryz.prog H .eql 55 x0 .nilp) fun x4 =>
  condK x4
  (
    retK [(.int .u64 0)] H)
  (
    purK (nilChkA x0) fun x6 =>
    purK (addA 0 x6) fun x7 =>
    purK (ld1 ρ H x7) fun x8 =>
    resK (call lim 47 [x8, (.int .i64 0)] H) fun x9 H =>
    retK [x9] H)
theorem G45 (ρ : Addr → Option Value) (call : CallF) (yc : YieldF) (lim k : Nat) (x0 : AV) (H : Heap) :
    evL (cx ρ) call yc false 45 lim k c45 [x0, (.tup []), (.tup []), (.tup []), (.tup []), (.tup []), (.tup []), (.tup []), (.tup []), (.tup [])] H (kk none (fun s H => retK (([2] : List Nat).map fun t => s.getD t (.tup [])) H) [] retK [2]) = L45 ρ call yc lim k x0 H := by
  kernel_rfl
theorem E45 (ρ : Addr → Option Value) (k lim : Nat) (x0 : AV) (H : Heap) : evCall (cx ρ) (k + 1) lim 45 [x0] H = L45 ρ (evCall (cx ρ) k) (evCY (cx ρ) k).2 lim k x0 H := by
  rw [evCall_body (cx ρ) k lim 45 _ H Tryz.f45 c45 [2] (by kernel_rfl) (by kernel_rfl) (by kernel_rfl) (by kernel_rfl) (by kernel_rfl)]
  exact G45 ρ (evCall (cx ρ) k) (evCY (cx ρ) k).2 lim k x0 H
-- (*haycroft/epoch.Table).there
noncomputable def c46 : Code := Code.of Tryz.prog 46
noncomputable def L46 (ρ : Addr → Option Value) (call : CallF) (yc : YieldF) (lim k : Nat) (x0 x1 : AV) (H : Heap) : Res :=
  purK (binA Tryz.prog H .neq 55 x0 .nilp) fun x6 =>
  purK (gPur (wantV x6 true) (some x1)) fun x8 =>
  purK (gPur (wantV x6 true) (binA Tryz.prog H .geq 3 x8 (.int .i64 0))) fun x9 =>
  purK (pickA x6 x9 (.bool false)) fun x10 =>
  purK (gPur (wantV x10 true) (some x1)) fun x12 =>
  purK (gPur (wantV x10 true) (some x0)) fun x13 =>
  purK (gPur (wantV x10 true) (nilChkA x13)) fun x14 =>
  purK (gPur (wantV x10 true) (addA 0 x14)) fun x15 =>
  purK (gPur (wantV x10 true) (ld1 ρ H x15)) fun x16 =>
  resK (gRes (wantV x10 true) H (call lim 74 [x16] H)) fun x17 H =>
  purK (gPur (wantV x10 true) (binA Tryz.prog H .sub 3 x17 (.int .i64 1))) fun x18 =>
  purK (gPur (wantV x10 true) (binA Tryz.prog H .lss 3 x12 x18)) fun x19 =>
  purK (pickA x10 x19 (.bool false)) fun x20 =>
  retK [x20] H
theorem G46 (ρ : Addr → Option Value) (call : CallF) (yc : YieldF) (lim k : Nat) (x0 x1 : AV) (H : Heap) :
    evL (cx ρ) call yc false 46 lim k c46 [x0, x1, (.tup []), (.tup []), (.tup []), (.tup []), (.tup []), (.tup []), (.tup []), (.tup []), (.tup []), (.tup []), (.tup []), (.tup []), (.tup []), (.tup []), (.tup []), (.tup []), (.tup []), (.tup []), (.tup [])] H (kk none (fun s H => retK (([4] : List Nat).map fun t => s.getD t (.tup [])) H) [] retK [4]) = L46 ρ call yc lim k x0 x1 H := by
  kernel_rfl
theorem E46 (ρ : Addr → Option Value) (k lim : Nat) (x0 x1 : AV) (H : Heap) : evCall (cx ρ) (k + 1) lim 46 [x0, x1] H = L46 ρ (evCall (cx ρ) k) (evCY (cx ρ) k).2 lim k x0 x1 H := by
  rw [evCall_body (cx ρ) k lim 46 _ H Tryz.f46 c46 [4] (by kernel_rfl) (by kernel_rfl) (by kernel_rfl) (by kernel_rfl) (by kernel_rfl)]
  exact G46 ρ (evCall (cx ρ) k) (evCY (cx ρ) k).2 lim k x0 x1 H
-- (*haycroft/cell.Row).Load
noncomputable def c47 : Code := Code.of Tryz.prog 47
noncomputable def L47 (ρ : Addr → Option Value) (call : CallF) (yc : YieldF) (lim k : Nat) (x0 x1 : AV) (H : Heap) : Res :=
  resK (call lim 75 [x0, x1] H) fun x7 H =>
  purK (unA .not x7) fun x8 =>
  condK x8
  (
    retK [(.int .u64 0)] H)
  (
    purK (nilChkA x0) fun x10 =>
    purK (addA 0 x10) fun x11 =>
    purK (ld1 ρ H x11) fun x12 =>
    purK (ixS 1 x12 x1) fun x14 =>
    resK (call lim 76 [x14] H) fun x15 H =>
    retK [x15] H)
theorem G47 (ρ : Addr → Option Value) (call : CallF) (yc : YieldF) (lim k : Nat) (x0 x1 : AV) (H : Heap) :
    evL (cx ρ) call yc false 47 lim k c47 [x0, x1, (.tup []), (.tup []), (.tup []), (.tup []), (.tup []), (.tup []), (.tup []), (.tup []), (.tup []), (.tup []), (.tup []), (.tup []), (.tup []), (.tup [])] H (kk none (fun s H => retK (([4] : List Nat).map fun t => s.getD t (.tup [])) H) [] retK [4]) = L47 ρ call yc lim k x0 x1 H := by
  kernel_rfl
theorem E47 (ρ : Addr → Option Value) (k lim : Nat) (x0 x1 : AV) (H : Heap) : evCall (cx ρ) (k + 1) lim 47 [x0, x1] H = L47 ρ (evCall (cx ρ) k) (evCY (cx ρ) k).2 lim k x0 x1 H := by
  rw [evCall_body (cx ρ) k lim 47 _ H Tryz.f47 c47 [4] (by kernel_rfl) (by kernel_rfl) (by kernel_rfl) (by kernel_rfl) (by kernel_rfl)]
  exact G47 ρ (evCall (cx ρ) k) (evCY (cx ρ) k).2 lim k x0 x1 H
-- (*haycroft/index.Index).Look
noncomputable def c48 : Code := Code.of Tryz.prog 48
noncomputable def L48 (ρ : Addr → Option Value) (call : CallF) (yc : YieldF) (lim k : Nat) (x0 x1 : AV) (H : Heap) : Res :=
  effK H (boxA H 52 x0) fun x2 H =>
  effK H (boxA H 22 x1) fun x3 H =>
  effK H (some (.ptr H.sz 0 0, .new (newCells 111 false [.int .i64 0, .int .i64 0, .int .u64 0, .int .i64 0]))) fun x4 H =>
  purK (ld1 ρ H x2) fun x10 =>
  purK (binA Tryz.prog H .eql 52 x10 .nilp) fun x11 =>
  condK x11
  (
    purK (bldA [.int .i64 0, .int .i64 0, .int .u64 0, .int .i64 0] []) fun x12 =>
    effK H (stA lim H 4 x4 x12) fun _ H =>
    (retC (cx ρ) [some 111, none]) [x4, (.int .i64 2)] H)
  (
    purK (ld1 ρ H x2) fun x13 =>
    purK (ld1 ρ H x3) fun x14 =>
    purK (ld1 ρ H x2) fun x15 =>
    purK (nilChkA x15) fun x16 =>
    purK (addA 0 x16) fun x17 =>
    purK (ld1 ρ H x17) fun x18 =>
    resK (call lim 78 [x14, x18] H) fun x19 H => bif (agn (ld1 ρ H x2) x13 && true) then
      resK (call lim 77 [x13, x19] H) fun x20 H =>
      purK (lenS x20) fun x23 =>
      purK (binA Tryz.prog H .sub 3 x23 (.int .i64 1)) fun x24 =>
      purK (ixS 1 x20 x24) fun x25 =>
      purK (ld1 ρ H x25) fun x26 =>
      resK (call lim 79 [x20] H) fun x28 H =>
      resK (call lim 80 [x28, (.fn (.func 81) [] [x2, x3])] H) fun x31 H =>
      purK (binA Tryz.prog H .geq 3 x31 (.int .i64 0)) fun x33 =>
      condK x33
      (
        purK (ixS 1 x28 x31) fun x36 =>
        purK (ld1 ρ H x36) fun x37 =>
        purK (ld1 ρ H x2) fun x38 =>
        purK (nilChkA x38) fun x39 =>
        purK (addA 2 x39) fun x40 =>
        purK (ld1 ρ H x40) fun x41 =>
        purK (ixS 1 x28 x31) fun x44 =>
        purK (ld1 ρ H x44) fun x45 =>
        resK (call lim 47 [x41, x45] H) fun x46 H => bif (agn (ld1 ρ H x36) x37 && true) then
          purK (bldA [.int .i64 0, .int .i64 0, .int .u64 0, .int .i64 0] [(0, 1, (.int .i64 1)), (1, 1, x37), (2, 1, x46), (3, 1, x26)]) fun x48 =>
          effK H (stA lim H 4 x4 x48) fun _ H =>
          (retC (cx ρ) [some 111, none]) [x4, (.int .i64 0)] H
        else none)
      (
        resK (call lim 80 [x28, (.fn (.func 84) [] [x2])] H) fun x51 H =>
        purK (binA Tryz.prog H .geq 3 x51 (.int .i64 0)) fun x53 =>
        condK x53
        (
          purK (ixS 1 x28 x51) fun x56 =>
          purK (ld1 ρ H x56) fun x57 =>
          purK (bldA [.int .i64 0, .int .i64 0, .int .u64 0, .int .i64 0] [(0, 1, (.int .i64 2)), (1, 1, x57), (3, 1, x26)]) fun x59 =>
          effK H (stA lim H 4 x4 x59) fun _ H =>
          (retC (cx ρ) [some 111, none]) [x4, (.int .i64 0)] H)
        (
          purK (bldA [.int .i64 0, .int .i64 0, .int .u64 0, .int .i64 0] [(0, 1, (.int .i64 3)), (3, 1, x26)]) fun x61 =>
          effK H (stA lim H 4 x4 x61) fun _ H =>
          (retC (cx ρ) [some 111, none]) [x4, (.int .i64 0)] H))
    else none)
theorem G48 (ρ : Addr → Option Value) (call : CallF) (yc : YieldF) (lim k : Nat) (x0 x1 : AV) (H : Heap) :
    evL (cx ρ) call yc false 48 lim k c48 [x0, x1, (.tup []), (.tup []), (.tup []), (.tup []), (.tup []), (.tup []), (.tup []), (.tup []), (.tup []), (.tup []), (.tup []), (.tup []), (.tup []), (.tup []), (.tup []), (.tup []), (.tup []), (.tup []), (.tup []), (.tup []), (.tup []), (.tup []), (.tup []), (.tup []), (.tup []), (.tup []), (.tup []), (.tup []), (.tup []), (.tup []), (.tup []), (.tup []), (.tup []), (.tup []), (.tup []), (.tup []), (.tup []), (.tup []), (.tup []), (.tup []), (.tup []), (.tup []), (.tup []), (.tup []), (.tup []), (.tup []), (.tup []), (.tup []), (.tup []), (.tup []), (.tup []), (.tup []), (.tup []), (.tup []), (.tup []), (.tup []), (.tup []), (.tup []), (.tup []), (.tup [])] H (kk none (fun s H => (retC (cx ρ) [some 111, none]) (([4, 5] : List Nat).map fun t => s.getD t (.tup [])) H) [] (retC (cx ρ) [some 111, none]) [4, 5]) = L48 ρ call yc lim k x0 x1 H := by
  kernel_rfl
theorem E48 (ρ : Addr → Option Value) (k lim : Nat) (x0 x1 : AV) (H : Heap) : evCall (cx ρ) (k + 1) lim 48 [x0, x1] H = L48 ρ (evCall (cx ρ) k) (evCY (cx ρ) k).2 lim k x0 x1 H := by
  rw [evCall_cells (cx ρ) k lim 48 _ H Tryz.f48 c48 [4, 5] [some 111, none] (by kernel_rfl) (by kernel_rfl) (by kernel_rfl) (by kernel_rfl) (by kernel_rfl) (by kernel_rfl)]
  exact G48 ρ (evCall (cx ρ) k) (evCY (cx ρ) k).2 lim k x0 x1 H
-- (*haycroft/task.Task).missing
noncomputable def c49 : Code := Code.of Tryz.prog 49
noncomputable def L49 (ρ : Addr → Option Value) (call : CallF) (yc : YieldF) (lim k : Nat) (x0 x1 : AV) (H : Heap) : Res :=
  effK H (boxA H 111 x1) fun x3 H =>
  resK (call lim 32 [x0, (.int .i64 1)] H) fun x7 H =>
  purK (gPur (wantV x7 false) (some x0)) fun x9 =>
  resK (gRes (wantV x7 false) H (call lim 32 [x9, (.int .i64 4)] H)) fun x10 H =>
  purK (pickA x7 (.bool true) x10) fun x11 =>
  condK x11
  (
    resK (call lim 51 [x0] H) fun x13 H =>
    purK (extA 0 x13) fun x14 =>
    purK (extA 1 x13) fun x15 =>
    retK [x14, x15] H)
  (
    purK (addA 1 x3) fun x18 =>
    purK (ld1 ρ H x18) fun x19 =>
    purK (addA 3 x3) fun x20 =>
    purK (ld1 ρ H x20) fun x21 =>
    purK (nilChkA x0) fun x22 =>
    purK (addA 9 x22) fun x23 =>
    effK H (stA lim H 1 x23 x19) fun _ H => bif (agn (ld1 ρ H x20) x21 && true) then
      purK (nilChkA x0) fun x24 =>
      purK (addA 11 x24) fun x25 =>
      effK H (stA lim H 1 x25 x21) fun _ H =>
      purK (addA 0 x3) fun x27 =>
      purK (ld1 ρ H x27) fun x28 =>
      purK (binA Tryz.prog H .eql 3 x28 (.int .i64 2)) fun x29 =>
      condK x29
      (
        resK (call lim 34 [x0, (.fn (.func 85) [] [])] H) fun x31 H =>
        purK (extA 0 x31) fun x32 =>
        purK (extA 1 x31) fun x33 =>
        retK [x32, x33] H)
      (
        purK (nilChkA x0) fun x36 =>
        purK (addA 12 x36) fun x37 =>
        purK (ld1 ρ H x37) fun x38 =>
        purK (binA Tryz.prog H .gtr 3 x38 (.int .i64 0)) fun x39 =>
        condK x39
        (
          resK (call lim 34 [x0, (.fn (.func 86) [] [])] H) fun x41 H =>
          purK (extA 0 x41) fun x42 =>
          purK (extA 1 x41) fun x43 =>
          retK [x42, x43] H)
        (
          resK (call lim 34 [x0, (.fn (.func 87) [] [])] H) fun x45 H =>
          purK (extA 0 x45) fun x46 =>
          purK (extA 1 x45) fun x47 =>
          retK [x46, x47] H))
    else none)
theorem G49 (ρ : Addr → Option Value) (call : CallF) (yc : YieldF) (lim k : Nat) (x0 x1 : AV) (H : Heap) :
    evL (cx ρ) call yc false 49 lim k c49 [x0, x1, (.tup []), (.tup []), (.tup []), (.tup []), (.tup []), (.tup []), (.tup []), (.tup []), (.tup []), (.tup []), (.tup []), (.tup []), (.tup []), (.tup []), (.tup []), (.tup []), (.tup []), (.tup []), (.tup []), (.tup []), (.tup []), (.tup []), (.tup []), (.tup []), (.tup []), (.tup []), (.tup []), (.tup []), (.tup []), (.tup []), (.tup []), (.tup []), (.tup []), (.tup []), (.tup []), (.tup []), (.tup []), (.tup []), (.tup []), (.tup []), (.tup []), (.tup []), (.tup []), (.tup []), (.tup []), (.tup [])] H (kk none (fun s H => retK (([4, 5] : List Nat).map fun t => s.getD t (.tup [])) H) [] retK [4, 5]) = L49 ρ call yc lim k x0 x1 H := by
  kernel_rfl
theorem E49 (ρ : Addr → Option Value) (k lim : Nat) (x0 x1 : AV) (H : Heap) : evCall (cx ρ) (k + 1) lim 49 [x0, x1] H = L49 ρ (evCall (cx ρ) k) (evCY (cx ρ) k).2 lim k x0 x1 H := by
  rw [evCall_body (cx ρ) k lim 49 _ H Tryz.f49 c49 [4, 5] (by kernel_rfl) (by kernel_rfl) (by kernel_rfl) (by kernel_rfl) (by kernel_rfl)]
  exact G49 ρ (evCall (cx ρ) k) (evCY (cx ρ) k).2 lim k x0 x1 H
-- haycroft/field.Get
noncomputable def c50 : Code := Code.of Tryz.prog 50
noncomputable def L50 (ρ : Addr → Option Value) (call : CallF) (yc : YieldF) (lim k : Nat) (x0 x1 x2 : AV) (H : Heap) : Res :=
  resK (call lim 88 [x1, x2] H) fun x9 H =>
  purK (unA .not x9) fun x10 =>
  condK x10
  (
    retK [(.int .u64 0)] H)
  (
    purK (binA Tryz.prog H .shr 22 x0 x1) fun x13 =>
    resK (call lim 89 [x2] H) fun x15 H => bif (agn (binA Tryz.prog H .shr 22 x0 x1) x13 && true) then
      purK (binA Tryz.prog H .and 22 x13 x15) fun x16 =>
      retK [x16] H
    else none)
theorem G50 (ρ : Addr → Option Value) (call : CallF) (yc : YieldF) (lim k : Nat) (x0 x1 x2 : AV) (H : Heap) :
    evL (cx ρ) call yc false 50 lim k c50 [x0, x1, x2, (.tup []), (.tup []), (.tup []), (.tup []), (.tup []), (.tup []), (.tup []), (.tup []), (.tup []), (.tup []), (.tup []), (.tup []), (.tup []), (.tup [])] H (kk none (fun s H => retK (([6] : List Nat).map fun t => s.getD t (.tup [])) H) [] retK [6]) = L50 ρ call yc lim k x0 x1 x2 H := by
  kernel_rfl
theorem E50 (ρ : Addr → Option Value) (k lim : Nat) (x0 x1 x2 : AV) (H : Heap) : evCall (cx ρ) (k + 1) lim 50 [x0, x1, x2] H = L50 ρ (evCall (cx ρ) k) (evCY (cx ρ) k).2 lim k x0 x1 x2 H := by
  rw [evCall_body (cx ρ) k lim 50 _ H Tryz.f50 c50 [6] (by kernel_rfl) (by kernel_rfl) (by kernel_rfl) (by kernel_rfl) (by kernel_rfl)]
  exact G50 ρ (evCall (cx ρ) k) (evCY (cx ρ) k).2 lim k x0 x1 x2 H
-- (*haycroft/task.Task).absent
noncomputable def c51 : Code := Code.of Tryz.prog 51
noncomputable def L51 (ρ : Addr → Option Value) (call : CallF) (yc : YieldF) (lim k : Nat) (x0 : AV) (H : Heap) : Res :=
  purK (nilChkA x0) fun x5 =>
  purK (addA 3 x5) fun x6 =>
  purK (addA 0 x6) fun x7 =>
  purK (ld1 ρ H x7) fun x8 =>
  purK (binA Tryz.prog H .eql 3 x8 (.int .i64 1)) fun x10 =>
  condK x10
  (
    resK (call lim 33 [x0, (.int .i64 7), (.str (ByteArray.mk #[]))] H) fun x12 H =>
    purK (extA 0 x12) fun x13 =>
    purK (extA 1 x12) fun x14 =>
    retK [x13, x14] H)
  (
    purK (binA Tryz.prog H .eql 3 x8 (.int .i64 4)) fun x16 =>
    condK x16
    (
      resK (call lim 33 [x0, (.int .i64 0), (.str (ByteArray.mk #[]))] H) fun x18 H =>
      purK (extA 0 x18) fun x19 =>
      purK (extA 1 x18) fun x20 =>
      retK [x19, x20] H)
    (
      purK (nilChkA x0) fun x22 =>
      purK (addA 16 x22) fun x23 =>
      effK H (stA lim H 1 x23 (.str (ByteArray.mk #[]))) fun _ H =>
      resK (call lim 34 [x0, (.fn (.func 35) [] [])] H) fun x25 H =>
      purK (extA 0 x25) fun x26 =>
      purK (extA 1 x25) fun x27 =>
      retK [x26, x27] H))
theorem G51 (ρ : Addr → Option Value) (call : CallF) (yc : YieldF) (lim k : Nat) (x0 : AV) (H : Heap) :
    evL (cx ρ) call yc false 51 lim k c51 [x0, (.tup []), (.tup []), (.tup []), (.tup []), (.tup []), (.tup []), (.tup []), (.tup []), (.tup []), (.tup []), (.tup []), (.tup []), (.tup []), (.tup []), (.tup []), (.tup []), (.tup []), (.tup []), (.tup []), (.tup []), (.tup []), (.tup []), (.tup []), (.tup []), (.tup []), (.tup []), (.tup [])] H (kk none (fun s H => retK (([2, 3] : List Nat).map fun t => s.getD t (.tup [])) H) [] retK [2, 3]) = L51 ρ call yc lim k x0 H := by
  kernel_rfl
theorem E51 (ρ : Addr → Option Value) (k lim : Nat) (x0 : AV) (H : Heap) : evCall (cx ρ) (k + 1) lim 51 [x0] H = L51 ρ (evCall (cx ρ) k) (evCY (cx ρ) k).2 lim k x0 H := by
  rw [evCall_body (cx ρ) k lim 51 _ H Tryz.f51 c51 [2, 3] (by kernel_rfl) (by kernel_rfl) (by kernel_rfl) (by kernel_rfl) (by kernel_rfl)]
  exact G51 ρ (evCall (cx ρ) k) (evCY (cx ρ) k).2 lim k x0 H
-- haycroft/place.May
noncomputable def c53 : Code := Code.of Tryz.prog 53
noncomputable def L53 (ρ : Addr → Option Value) (call : CallF) (yc : YieldF) (lim k : Nat) (x0 : AV) (H : Heap) : Res :=
  purK (binA Tryz.prog H .geq 3 x0 (.int .i64 5)) fun x4 =>
  purK (gPur (wantV x4 true) (some x0)) fun x6 =>
  purK (gPur (wantV x4 true) (binA Tryz.prog H .leq 3 x6 (.int .i64 9))) fun x7 =>
  purK (pickA x4 x7 (.bool false)) fun x8 =>
  retK [x8] H
theorem G53 (ρ : Addr → Option Value) (call : CallF) (yc : YieldF) (lim k : Nat) (x0 : AV) (H : Heap) :
    evL (cx ρ) call yc false 53 lim k c53 [x0, (.tup []), (.tup []), (.tup []), (.tup []), (.tup []), (.tup []), (.tup []), (.tup [])] H (kk none (fun s H => retK (([2] : List Nat).map fun t => s.getD t (.tup [])) H) [] retK [2]) = L53 ρ call yc lim k x0 H := by
  kernel_rfl
theorem E53 (ρ : Addr → Option Value) (k lim : Nat) (x0 : AV) (H : Heap) : evCall (cx ρ) (k + 1) lim 53 [x0] H = L53 ρ (evCall (cx ρ) k) (evCY (cx ρ) k).2 lim k x0 H := by
  rw [evCall_body (cx ρ) k lim 53 _ H Tryz.f53 c53 [2] (by kernel_rfl) (by kernel_rfl) (by kernel_rfl) (by kernel_rfl) (by kernel_rfl)]
  exact G53 ρ (evCall (cx ρ) k) (evCY (cx ρ) k).2 lim k x0 H
-- (*haycroft/tail.Tail).Begin
noncomputable def c67 : Code := Code.of Tryz.prog 67
noncomputable def L67 (ρ : Addr → Option Value) (call : CallF) (yc : YieldF) (lim k : Nat) (x0 x1 : AV) (H : Heap) : Res :=
  purK (binA Tryz.prog H .eql 81 x0 .nilp) fun x7 =>
  condK x7
  (
    retK [(.int .i64 2)] H)
  (
    purK (binA Tryz.prog H .lss 3 x1 (.int .i64 0)) fun x10 =>
    purK (gPur (wantV x10 false) (some x1)) fun x12 =>
    purK (gPur (wantV x10 false) (some x0)) fun x13 =>
    purK (gPur (wantV x10 false) (nilChkA x13)) fun x14 =>
    purK (gPur (wantV x10 false) (addA 1 x14)) fun x15 =>
    purK (gPur (wantV x10 false) (ld1 ρ H x15)) fun x16 =>
    purK (gPur (wantV x10 false) (binA Tryz.prog H .geq 3 x12 x16)) fun x17 =>
    purK (pickA x10 (.bool true) x17) fun x18 =>
    condK x18
    (
      retK [(.int .i64 1)] H)
    (
      purK (nilChkA x0) fun x20 =>
      purK (addA 2 x20) fun x21 =>
      purK (ld1 ρ H x21) fun x22 =>
      resK (call lim 106 [x1] H) fun x25 H => bif (agn (ld1 ρ H x21) x22 && true) then
        resK (call lim 105 [x1, x25] H) fun x26 H => bif (agn (ld1 ρ H x21) x22 && true) then
          resK (call lim 68 [x22, (.int .i64 0), x26] H) fun x27 H =>
          retK [x27] H
        else none
      else none))
theorem G67 (ρ : Addr → Option Value) (call : CallF) (yc : YieldF) (lim k : Nat) (x0 x1 : AV) (H : Heap) :
    evL (cx ρ) call yc false 67 lim k c67 [x0, x1, (.tup []), (.tup []), (.tup []), (.tup []), (.tup []), (.tup []), (.tup []), (.tup []), (.tup []), (.tup []), (.tup []), (.tup []), (.tup []), (.tup []), (.tup []), (.tup []), (.tup []), (.tup []), (.tup []), (.tup []), (.tup []), (.tup []), (.tup []), (.tup []), (.tup []), (.tup [])] H (kk none (fun s H => retK (([4] : List Nat).map fun t => s.getD t (.tup [])) H) [] retK [4]) = L67 ρ call yc lim k x0 x1 H := by
  kernel_rfl
theorem E67 (ρ : Addr → Option Value) (k lim : Nat) (x0 x1 : AV) (H : Heap) : evCall (cx ρ) (k + 1) lim 67 [x0, x1] H = L67 ρ (evCall (cx ρ) k) (evCY (cx ρ) k).2 lim k x0 x1 H := by
  rw [evCall_body (cx ρ) k lim 67 _ H Tryz.f67 c67 [4] (by kernel_rfl) (by kernel_rfl) (by kernel_rfl) (by kernel_rfl) (by kernel_rfl)]
  exact G67 ρ (evCall (cx ρ) k) (evCY (cx ρ) k).2 lim k x0 x1 H
-- (*haycroft/cell.Row).Store
noncomputable def c68 : Code := Code.of Tryz.prog 68
noncomputable def N68_1 (ρ : Addr → Option Value) (call : CallF) (yc : YieldF) (lim k : Nat) (x7 : AV) (H : Heap) (R : List AV → Heap → Res) : Res :=
  R [x7] H
theorem N68_1_eq (ρ : Addr → Option Value) (call : CallF) (yc : YieldF) (lim k : Nat) (x7 : AV) (H : Heap) (R : List AV → Heap → Res) :
    evL (cx ρ) call yc false 68 lim k (Code.at [1, 1, 1] c68) (sp 22 [(7, x7)]) H (kk none (fun s H => R (([6] : List Nat).map fun t => s.getD t (.tup [])) H) [] R [6]) = N68_1 ρ call yc lim k x7 H R := by
  kernel_rfl
noncomputable def L68 (ρ : Addr → Option Value) (call : CallF) (yc : YieldF) (lim k : Nat) (x0 x1 x2 : AV) (H : Heap) : Res :=
  resK (call lim 107 [x0, x1] H) fun x10 H =>
  purK (binA Tryz.prog H .eql 28 x10 (.int .i64 0)) fun x12 =>
  condK x12
  (
    purK (nilChkA x0) fun x14 =>
    purK (addA 0 x14) fun x15 =>
    purK (ld1 ρ H x15) fun x16 =>
    purK (ixS 1 x16 x1) fun x18 =>
    resK (call lim 108 [x18, x2] H) fun x20 H =>
    N68_1 ρ call yc lim k x10 H retK)
  (
    N68_1 ρ call yc lim k x10 H retK)
theorem L68_x (ρ : Addr → Option Value) (call : CallF) (yc : YieldF) (lim k : Nat) (J : CodeF) (x0 x1 x2 : AV) (H : Heap) :
    evX (cx ρ) call yc false 68 lim k J c68 [x0, x1, x2, (.tup []), (.tup []), (.tup []), (.tup []), (.tup []), (.tup []), (.tup []), (.tup []), (.tup []), (.tup []), (.tup []), (.tup []), (.tup []), (.tup []), (.tup []), (.tup []), (.tup []), (.tup []), (.tup [])] H (kk none (fun s H => retK (([6] : List Nat).map fun t => s.getD t (.tup [])) H) [] retK [6]) =
  resK (call lim 107 [x0, x1] H) fun x10 H =>
  purK (binA Tryz.prog H .eql 28 x10 (.int .i64 0)) fun x12 =>
  condK x12
  (
    purK (nilChkA x0) fun x14 =>
    purK (addA 0 x14) fun x15 =>
    purK (ld1 ρ H x15) fun x16 =>
    purK (ixS 1 x16 x1) fun x18 =>
    resK (call lim 108 [x18, x2] H) fun x20 H =>
    J (Code.at [1, 1, 1] c68) (sp 22 [(7, x10)]) H (kk none (fun s H => retK (([6] : List Nat).map fun t => s.getD t (.tup [])) H) [] retK [6]))
  (
    J (Code.at [1, 1, 1] c68) (sp 22 [(7, x10)]) H (kk none (fun s H => retK (([6] : List Nat).map fun t => s.getD t (.tup [])) H) [] retK [6])) := by
  kernel_rfl
theorem G68 (ρ : Addr → Option Value) (call : CallF) (yc : YieldF) (lim k : Nat) (x0 x1 x2 : AV) (H : Heap) :
    evL (cx ρ) call yc false 68 lim k c68 [x0, x1, x2, (.tup []), (.tup []), (.tup []), (.tup []), (.tup []), (.tup []), (.tup []), (.tup []), (.tup []), (.tup []), (.tup []), (.tup []), (.tup []), (.tup []), (.tup []), (.tup []), (.tup []), (.tup []), (.tup [])] H (kk none (fun s H => retK (([6] : List Nat).map fun t => s.getD t (.tup [])) H) [] retK [6]) = L68 ρ call yc lim k x0 x1 x2 H := by
  rw [evL_X, L68_x]
  simp only [← evL_X, L68, N68_1_eq]
theorem E68 (ρ : Addr → Option Value) (k lim : Nat) (x0 x1 x2 : AV) (H : Heap) : evCall (cx ρ) (k + 1) lim 68 [x0, x1, x2] H = L68 ρ (evCall (cx ρ) k) (evCY (cx ρ) k).2 lim k x0 x1 x2 H := by
  rw [evCall_body (cx ρ) k lim 68 _ H Tryz.f68 c68 [6] (by kernel_rfl) (by kernel_rfl) (by kernel_rfl) (by kernel_rfl) (by kernel_rfl)]
  exact G68 ρ (evCall (cx ρ) k) (evCY (cx ρ) k).2 lim k x0 x1 x2 H
-- (*haycroft/pages.Buffer).Has
noncomputable def c69 : Code := Code.of Tryz.prog 69
noncomputable def L69 (ρ : Addr → Option Value) (call : CallF) (yc : YieldF) (lim k : Nat) (x0 x1 : AV) (H : Heap) : Res :=
  purK (binA Tryz.prog H .neq 68 x0 .nilp) fun x6 =>
  boolK (wantV x6 true) fun b1 => purK (bif b1 then some x1 else some (.tup [])) fun x8 =>
  boolK (wantV x6 true) fun b2 => purK (bif b2 then binA Tryz.prog H .geq 3 x8 (.int .i64 0) else some (.tup [])) fun x9 =>
  purK (pickA x6 x9 (.bool false)) fun x10 =>
  boolK (wantV x10 true) fun b3 => purK (bif b3 then some x0 else some (.tup [])) fun x12 =>
  boolK (wantV x10 true) fun b4 => purK (bif b4 then nilChkA x12 else some (.tup [])) fun x13 =>
  boolK (wantV x10 true) fun b5 => purK (bif b5 then addA 2 x13 else some (.tup [])) fun x14 =>
  boolK (wantV x10 true) fun b6 => purK (bif b6 then ld1 ρ H x14 else some (.tup [])) fun x15 =>
  boolK (wantV x10 true) fun b7 => purK (bif b7 then some x0 else some (.tup [])) fun x16 =>
  boolK (wantV x10 true) fun b8 => purK (bif b8 then some x1 else some (.tup [])) fun x17 =>
  boolK (wantV x10 true) fun b9 => purK (bif b9 then some x1 else some (.tup [])) fun x20 =>
  boolK (wantV x10 true) fun b10 => resK (gRes (some b10) H (call lim 70 [x16, x17] H)) fun x18 H => bif !b10 || ((!b6 || agn (ld1 ρ H x14) x15) && ((!b2 || true) && true)) then
    boolK (wantV x10 true) fun b11 => resK (gRes (some b11) H (call lim 47 [x15, x18] H)) fun x19 H => bif !b11 || ((!b6 || true) && ((!b2 || true) && true)) then
      boolK (wantV x10 true) fun b12 => resK (gRes (some b12) H (call lim 72 [x20] H)) fun x21 H => bif !b12 || ((!b6 || true) && ((!b2 || true) && true)) then
        purK (gPur (wantV x10 true) (binA Tryz.prog H .eql 22 x19 x21)) fun x22 =>
        purK (pickA x10 x22 (.bool false)) fun x23 =>
        retK [x23] H
      else none
    else none
  else none
theorem G69 (ρ : Addr → Option Value) (call : CallF) (yc : YieldF) (lim k : Nat) (x0 x1 : AV) (H : Heap) :
    evL (cx ρ) call yc false 69 lim k c69 [x0, x1, (.tup []), (.tup []), (.tup []), (.tup []), (.tup []), (.tup []), (.tup []), (.tup []), (.tup []), (.tup []), (.tup []), (.tup []), (.tup []), (.tup []), (.tup []), (.tup []), (.tup []), (.tup []), (.tup []), (.tup []), (.tup []), (.tup [])] H (kk none (fun s H => retK (([4] : List Nat).map fun t => s.getD t (.tup [])) H) [] retK [4]) = L69 ρ call yc lim k x0 x1 H := by
  kernel_rfl
theorem E69 (ρ : Addr → Option Value) (k lim : Nat) (x0 x1 : AV) (H : Heap) : evCall (cx ρ) (k + 1) lim 69 [x0, x1] H = L69 ρ (evCall (cx ρ) k) (evCY (cx ρ) k).2 lim k x0 x1 H := by
  rw [evCall_body (cx ρ) k lim 69 _ H Tryz.f69 c69 [4] (by kernel_rfl) (by kernel_rfl) (by kernel_rfl) (by kernel_rfl) (by kernel_rfl)]
  exact G69 ρ (evCall (cx ρ) k) (evCY (cx ρ) k).2 lim k x0 x1 H
-- (*haycroft/pages.Buffer).frame
noncomputable def c70 : Code := Code.of Tryz.prog 70
noncomputable def L70 (ρ : Addr → Option Value) (call : CallF) (yc : YieldF) (lim k : Nat) (x0 x1 : AV) (H : Heap) : Res :=
  purK (nilChkA x0) fun x7 =>
  purK (addA 2 x7) fun x8 =>
  purK (ld1 ρ H x8) fun x9 =>
  resK (call lim 74 [x9] H) fun x10 H =>
  purK (binA Tryz.prog H .rem 3 x1 x10) fun x11 =>
  retK [x11] H
theorem G70 (ρ : Addr → Option Value) (call : CallF) (yc : YieldF) (lim k : Nat) (x0 x1 : AV) (H : Heap) :
    evL (cx ρ) call yc false 70 lim k c70 [x0, x1, (.tup []), (.tup []), (.tup []), (.tup []), (.tup []), (.tup []), (.tup []), (.tup []), (.tup []), (.tup [])] H (kk none (fun s H => retK (([4] : List Nat).map fun t => s.getD t (.tup [])) H) [] retK [4]) = L70 ρ call yc lim k x0 x1 H := by
  kernel_rfl
theorem E70 (ρ : Addr → Option Value) (k lim : Nat) (x0 x1 : AV) (H : Heap) : evCall (cx ρ) (k + 1) lim 70 [x0, x1] H = L70 ρ (evCall (cx ρ) k) (evCY (cx ρ) k).2 lim k x0 x1 H := by
  rw [evCall_body (cx ρ) k lim 70 _ H Tryz.f70 c70 [4] (by kernel_rfl) (by kernel_rfl) (by kernel_rfl) (by kernel_rfl) (by kernel_rfl)]
  exact G70 ρ (evCall (cx ρ) k) (evCY (cx ρ) k).2 lim k x0 x1 H
-- (*haycroft/cell.Row).CAS
noncomputable def c71 : Code := Code.of Tryz.prog 71
noncomputable def N71_1 (ρ : Addr → Option Value) (call : CallF) (yc : YieldF) (lim k : Nat) (x11 : AV) (H : Heap) (R : List AV → Heap → Res) : Res :=
  R [x11, (.int .i64 0)] H
theorem N71_1_eq (ρ : Addr → Option Value) (call : CallF) (yc : YieldF) (lim k : Nat) (x11 : AV) (H : Heap) (R : List AV → Heap → Res) :
    evL (cx ρ) call yc false 71 lim k (Code.at [1, 1, 1, 1] c71) (sp 37 [(11, x11)]) H (kk none (fun s H => R (([8, 9] : List Nat).map fun t => s.getD t (.tup [])) H) [] R [8, 9]) = N71_1 ρ call yc lim k x11 H R := by
  kernel_rfl
noncomputable def L71 (ρ : Addr → Option Value) (call : CallF) (yc : YieldF) (lim k : Nat) (x0 x1 x2 x3 : AV) (H : Heap) : Res :=
  resK (call lim 107 [x0, x1] H) fun x14 H =>
  purK (binA Tryz.prog H .neq 28 x14 (.int .i64 0)) fun x16 =>
  condK x16
  (
    retK [(.bool false), x14] H)
  (
    purK (nilChkA x0) fun x19 =>
    purK (addA 0 x19) fun x20 =>
    purK (ld1 ρ H x20) fun x21 =>
    purK (ixS 1 x21 x1) fun x23 =>
    resK (call lim 109 [x23, x2, x3] H) fun x26 H =>
    condK x26
    (
      purK (nilChkA x0) fun x29 =>
      purK (addA 1 x29) fun x30 =>
      resK (call lim 110 [x30, (.int .i64 1)] H) fun x31 H =>
      N71_1 ρ call yc lim k x26 H retK)
    (
      purK (nilChkA x0) fun x33 =>
      purK (addA 2 x33) fun x34 =>
      resK (call lim 110 [x34, (.int .i64 1)] H) fun x35 H =>
      N71_1 ρ call yc lim k x26 H retK))
theorem L71_x (ρ : Addr → Option Value) (call : CallF) (yc : YieldF) (lim k : Nat) (J : CodeF) (x0 x1 x2 x3 : AV) (H : Heap) :
    evX (cx ρ) call yc false 71 lim k J c71 [x0, x1, x2, x3, (.tup []), (.tup []), (.tup []), (.tup []), (.tup []), (.tup []), (.tup []), (.tup []), (.tup []), (.tup []), (.tup []), (.tup []), (.tup []), (.tup []), (.tup []), (.tup []), (.tup []), (.tup []), (.tup []), (.tup []), (.tup []), (.tup []), (.tup []), (.tup []), (.tup []), (.tup []), (.tup []), (.tup []), (.tup []), (.tup []), (.tup []), (.tup []), (.tup [])] H (kk none (fun s H => retK (([8, 9] : List Nat).map fun t => s.getD t (.tup [])) H) [] retK [8, 9]) =
  resK (call lim 107 [x0, x1] H) fun x14 H =>
  purK (binA Tryz.prog H .neq 28 x14 (.int .i64 0)) fun x16 =>
  condK x16
  (
    retK [(.bool false), x14] H)
  (
    purK (nilChkA x0) fun x19 =>
    purK (addA 0 x19) fun x20 =>
    purK (ld1 ρ H x20) fun x21 =>
    purK (ixS 1 x21 x1) fun x23 =>
    resK (call lim 109 [x23, x2, x3] H) fun x26 H =>
    condK x26
    (
      purK (nilChkA x0) fun x29 =>
      purK (addA 1 x29) fun x30 =>
      resK (call lim 110 [x30, (.int .i64 1)] H) fun x31 H =>
      J (Code.at [1, 1, 1, 1] c71) (sp 37 [(11, x26)]) H (kk none (fun s H => retK (([8, 9] : List Nat).map fun t => s.getD t (.tup [])) H) [] retK [8, 9]))
    (
      purK (nilChkA x0) fun x33 =>
      purK (addA 2 x33) fun x34 =>
      resK (call lim 110 [x34, (.int .i64 1)] H) fun x35 H =>
      J (Code.at [1, 1, 1, 1] c71) (sp 37 [(11, x26)]) H (kk none (fun s H => retK (([8, 9] : List Nat).map fun t => s.getD t (.tup [])) H) [] retK [8, 9]))) := by
  kernel_rfl
theorem G71 (ρ : Addr → Option Value) (call : CallF) (yc : YieldF) (lim k : Nat) (x0 x1 x2 x3 : AV) (H : Heap) :
    evL (cx ρ) call yc false 71 lim k c71 [x0, x1, x2, x3, (.tup []), (.tup []), (.tup []), (.tup []), (.tup []), (.tup []), (.tup []), (.tup []), (.tup []), (.tup []), (.tup []), (.tup []), (.tup []), (.tup []), (.tup []), (.tup []), (.tup []), (.tup []), (.tup []), (.tup []), (.tup []), (.tup []), (.tup []), (.tup []), (.tup []), (.tup []), (.tup []), (.tup []), (.tup []), (.tup []), (.tup []), (.tup []), (.tup [])] H (kk none (fun s H => retK (([8, 9] : List Nat).map fun t => s.getD t (.tup [])) H) [] retK [8, 9]) = L71 ρ call yc lim k x0 x1 x2 x3 H := by
  rw [evL_X, L71_x]
  simp only [← evL_X, L71, N71_1_eq]
theorem E71 (ρ : Addr → Option Value) (k lim : Nat) (x0 x1 x2 x3 : AV) (H : Heap) : evCall (cx ρ) (k + 1) lim 71 [x0, x1, x2, x3] H = L71 ρ (evCall (cx ρ) k) (evCY (cx ρ) k).2 lim k x0 x1 x2 x3 H := by
  rw [evCall_body (cx ρ) k lim 71 _ H Tryz.f71 c71 [8, 9] (by kernel_rfl) (by kernel_rfl) (by kernel_rfl) (by kernel_rfl) (by kernel_rfl)]
  exact G71 ρ (evCall (cx ρ) k) (evCY (cx ρ) k).2 lim k x0 x1 x2 x3 H
-- haycroft/pages.mark
noncomputable def c72 : Code := Code.of Tryz.prog 72
noncomputable def L72 (ρ : Addr → Option Value) (call : CallF) (yc : YieldF) (lim k : Nat) (x0 : AV) (H : Heap) : Res :=
  purK (cvI .u64 x0) fun x4 =>
  purK (binA Tryz.prog H .add 22 x4 (.int .u64 1)) fun x5 =>
  retK [x5] H
theorem G72 (ρ : Addr → Option Value) (call : CallF) (yc : YieldF) (lim k : Nat) (x0 : AV) (H : Heap) :
    evL (cx ρ) call yc false 72 lim k c72 [x0, (.tup []), (.tup []), (.tup []), (.tup []), (.tup [])] H (kk none (fun s H => retK (([2] : List Nat).map fun t => s.getD t (.tup [])) H) [] retK [2]) = L72 ρ call yc lim k x0 H := by
  kernel_rfl
theorem E72 (ρ : Addr → Option Value) (k lim : Nat) (x0 : AV) (H : Heap) : evCall (cx ρ) (k + 1) lim 72 [x0] H = L72 ρ (evCall (cx ρ) k) (evCY (cx ρ) k).2 lim k x0 H := by
  rw [evCall_body (cx ρ) k lim 72 _ H Tryz.f72 c72 [2] (by kernel_rfl) (by kernel_rfl) (by kernel_rfl) (by kernel_rfl) (by kernel_rfl)]
  exact G72 ρ (evCall (cx ρ) k) (evCY (cx ρ) k).2 lim k x0 H
-- (*haycroft/cell.Row).Fill
noncomputable def c73 : Code := Code.of Tryz.prog 73
noncomputable def N73_1 (ρ : Addr → Option Value) (call : CallF) (yc : YieldF) (lim k : Nat) (H : Heap) (R : List AV → Heap → Res) : Res :=
  R [(.int .i64 0)] H
theorem N73_1_eq (ρ : Addr → Option Value) (call : CallF) (yc : YieldF) (lim k : Nat) (H : Heap) (R : List AV → Heap → Res) :
    evL (cx ρ) call yc false 73 lim k (Code.at [1, 1, 1] c73) (sp 36 []) H (kk none (fun s H => R (([6] : List Nat).map fun t => s.getD t (.tup [])) H) [] R [6]) = N73_1 ρ call yc lim k H R := by
  kernel_rfl
noncomputable def N73_3b (ρ : Addr → Option Value) (call : CallF) (yc : YieldF) (lim k : Nat) (x0 x1 x18 x19 x20 : AV) (H : Heap) (kn : AV → AV → AV → AV → AV → Heap → Res) (k0 : Heap → Res) : Res :=
  purK (binA Tryz.prog H .lss 3 x20 x19) fun x21_1 =>
  condK x21_1
  (
    purK (ixS 1 x18 x20) fun x23_1 =>
    purK (ld1 ρ H x23_1) fun x24_1 =>
    purK (nilChkA x0) fun x26_1 =>
    purK (addA 0 x26_1) fun x27_1 =>
    purK (ld1 ρ H x27_1) fun x28_1 =>
    purK (binA Tryz.prog H .add 3 x1 x20) fun x31_1 =>
    purK (ixS 1 x28_1 x31_1) fun x32_1 =>
    resK (call lim 108 [x32_1, x24_1] H) fun x34_1 H =>
    purK (binA Tryz.prog H .add 3 x20 (.int .i64 1)) fun x35_1 =>
    kn x0 x1 x18 x19 x35_1 H)
  (
    k0 H)
theorem N73_3b_eq (ρ : Addr → Option Value) (call : CallF) (yc : YieldF) (lim k : Nat) (x0 x1 x18 x19 x20 : AV) (H : Heap) (kn : KS) (k0 : KS) (R : List AV → Heap → Res) :
    evL (cx ρ) call yc false 73 lim k (Code.at [1, 1, 0, 1, 0, 0] c73) (sp 36 [(0, x0), (1, x1), (18, x18), (19, x19), (20, x20)]) H (kk (some [0, 1, 18, 19, 20]) kn [(0, (some []), k0)] R [6]) = N73_3b ρ call yc lim k x0 x1 x18 x19 x20 H (fun x0 x1 x18 x19 x20 H => kn (sp 36 [(0, x0), (1, x1), (18, x18), (19, x19), (20, x20)]) H) (fun H => k0 (sp 36 []) H) := by
  kernel_rfl
noncomputable def N73_3 (ρ : Addr → Option Value) (call : CallF) (yc : YieldF) (lim k : Nat) (x0 x1 x18 x19 x20 : AV) (H : Heap) (k0 : Heap → Res) : Res :=
  loopL (fun (x : AV) H kn => N73_3b ρ call yc lim k x0 x1 x18 x19 x H (fun _ _ _ _ x20 H => kn x20 H) k0) k x20 H
theorem N73_3_eq (ρ : Addr → Option Value) (call : CallF) (yc : YieldF) (lim k : Nat) (x0 x1 x18 x19 x20 : AV) (H : Heap) (kn : KS) (k0 : KS) (R : List AV → Heap → Res) :
    evL (cx ρ) call yc false 73 lim k (Code.at [1, 1, 0, 1, 0] c73) (sp 36 [(0, x0), (1, x1), (18, x18), (19, x19), (20, x20)]) H (kk (some []) kn [(0, (some []), k0)] R [6]) = N73_3 ρ call yc lim k x0 x1 x18 x19 x20 H (fun H => k0 (sp 36 []) H) := by
  have e : Code.at [1, 1, 0, 1, 0] c73 = .loop (Code.at [1, 1, 0, 1, 0, 0] c73) := by kernel_rfl
  rw [e]
  unfold N73_3
  exact loop_node [0, 1, 18, 19, 20] (fun x : AV => (sp 36 [(0, x0), (1, x1), (18, x18), (19, x19), (20, (x))])) (fun (x : AV) H kn => N73_3b ρ call yc lim k x0 x1 x18 x19 x H (fun _ _ _ _ x20 H => kn x20 H) (fun H => k0 (sp 36 []) H)) (by kernel_rfl) (fun x => by kernel_rfl) (fun x H kn => N73_3b_eq ρ call yc lim k x0 x1 x18 x19 (x) H kn k0 R) x20 (sp 36 [(0, x0), (1, x1), (18, x18), (19, x19), (20, x20)]) H (by kernel_rfl)
noncomputable def N73_2 (ρ : Addr → Option Value) (call : CallF) (yc : YieldF) (lim k : Nat) (x0 x1 x18 x19 x20 : AV) (H : Heap) (kn : Heap → Res) : Res :=
  N73_3 ρ call yc lim k x0 x1 x18 x19 x20 H kn
theorem N73_2_x (ρ : Addr → Option Value) (call : CallF) (yc : YieldF) (lim k : Nat) (J : CodeF) (x0 x1 x18 x19 x20 : AV) (H : Heap) (kn : KS) (R : List AV → Heap → Res) :
    evX (cx ρ) call yc false 73 lim k J (Code.at [1, 1, 0, 1] c73) (sp 36 [(0, x0), (1, x1), (18, x18), (19, x19), (20, x20)]) H (kk (some []) kn [] R [6]) =
  J (Code.at [1, 1, 0, 1, 0] c73) (sp 36 [(0, x0), (1, x1), (18, x18), (19, x19), (20, x20)]) H (kk (some []) kn [(0, (some []), kn)] R [6]) := by
  kernel_rfl
theorem N73_2_eq (ρ : Addr → Option Value) (call : CallF) (yc : YieldF) (lim k : Nat) (x0 x1 x18 x19 x20 : AV) (H : Heap) (kn : KS) (R : List AV → Heap → Res) :
    evL (cx ρ) call yc false 73 lim k (Code.at [1, 1, 0, 1] c73) (sp 36 [(0, x0), (1, x1), (18, x18), (19, x19), (20, x20)]) H (kk (some []) kn [] R [6]) = N73_2 ρ call yc lim k x0 x1 x18 x19 x20 H (fun H => kn (sp 36 []) H) := by
  rw [evL_X, N73_2_x]
  simp only [← evL_X, N73_2, N73_3_eq]
noncomputable def L73 (ρ : Addr → Option Value) (call : CallF) (yc : YieldF) (lim k : Nat) (x0 x1 x2 : AV) (H : Heap) : Res :=
  purK (lenS x2) fun x13 =>
  resK (call lim 111 [x0, x1, x13] H) fun x14 H =>
  purK (binA Tryz.prog H .neq 28 x14 (.int .i64 0)) fun x16 =>
  condK x16
  (
    retK [x14] H)
  (
    purK (lenS x2) fun x19 =>
    N73_2 ρ call yc lim k x0 x1 x2 x19 (.int .i64 0) H (fun H =>
      N73_1 ρ call yc lim k H retK))
theorem L73_x (ρ : Addr → Option Value) (call : CallF) (yc : YieldF) (lim k : Nat) (J : CodeF) (x0 x1 x2 : AV) (H : Heap) :
    evX (cx ρ) call yc false 73 lim k J c73 [x0, x1, x2, (.tup []), (.tup []), (.tup []), (.tup []), (.tup []), (.tup []), (.tup []), (.tup []), (.tup []), (.tup []), (.tup []), (.tup []), (.tup []), (.tup []), (.tup []), (.tup []), (.tup []), (.tup []), (.tup []), (.tup []), (.tup []), (.tup []), (.tup []), (.tup []), (.tup []), (.tup []), (.tup []), (.tup []), (.tup []), (.tup []), (.tup []), (.tup []), (.tup [])] H (kk none (fun s H => retK (([6] : List Nat).map fun t => s.getD t (.tup [])) H) [] retK [6]) =
  purK (lenS x2) fun x13 =>
  resK (call lim 111 [x0, x1, x13] H) fun x14 H =>
  purK (binA Tryz.prog H .neq 28 x14 (.int .i64 0)) fun x16 =>
  condK x16
  (
    retK [x14] H)
  (
    purK (lenS x2) fun x19 =>
    J (Code.at [1, 1, 0, 1] c73) (sp 36 [(0, x0), (1, x1), (18, x2), (19, x19), (20, (.int .i64 0))]) H (kk (some []) (fun s H => J (Code.at [1, 1, 1] c73) s H (kk none (fun s H => retK (([6] : List Nat).map fun t => s.getD t (.tup [])) H) [] retK [6])) [] retK [6])) := by
  kernel_rfl
theorem G73 (ρ : Addr → Option Value) (call : CallF) (yc : YieldF) (lim k : Nat) (x0 x1 x2 : AV) (H : Heap) :
    evL (cx ρ) call yc false 73 lim k c73 [x0, x1, x2, (.tup []), (.tup []), (.tup []), (.tup []), (.tup []), (.tup []), (.tup []), (.tup []), (.tup []), (.tup []), (.tup []), (.tup []), (.tup []), (.tup []), (.tup []), (.tup []), (.tup []), (.tup []), (.tup []), (.tup []), (.tup []), (.tup []), (.tup []), (.tup []), (.tup []), (.tup []), (.tup []), (.tup []), (.tup []), (.tup []), (.tup []), (.tup []), (.tup [])] H (kk none (fun s H => retK (([6] : List Nat).map fun t => s.getD t (.tup [])) H) [] retK [6]) = L73 ρ call yc lim k x0 x1 x2 H := by
  rw [evL_X, L73_x]
  simp only [← evL_X, L73, N73_1_eq, N73_2_eq]
theorem E73 (ρ : Addr → Option Value) (k lim : Nat) (x0 x1 x2 : AV) (H : Heap) : evCall (cx ρ) (k + 1) lim 73 [x0, x1, x2] H = L73 ρ (evCall (cx ρ) k) (evCY (cx ρ) k).2 lim k x0 x1 x2 H := by
  rw [evCall_body (cx ρ) k lim 73 _ H Tryz.f73 c73 [6] (by kernel_rfl) (by kernel_rfl) (by kernel_rfl) (by kernel_rfl) (by kernel_rfl)]
  exact G73 ρ (evCall (cx ρ) k) (evCY (cx ρ) k).2 lim k x0 x1 x2 H
-- (*haycroft/cell.Row).Len
noncomputable def c74 : Code := Code.of Tryz.prog 74
noncomputable def L74 (ρ : Addr → Option Value) (call : CallF) (yc : YieldF) (lim k : Nat) (x0 : AV) (H : Heap) : Res :=
  purK (binA Tryz.prog H .eql 100 x0 .nilp) fun x4 =>
  condK x4
  (
    retK [(.int .i64 0)] H)
  (
    purK (nilChkA x0) fun x6 =>
    purK (addA 0 x6) fun x7 =>
    purK (ld1 ρ H x7) fun x8 =>
    purK (lenS x8) fun x9 =>
    retK [x9] H)
theorem G74 (ρ : Addr → Option Value) (call : CallF) (yc : YieldF) (lim k : Nat) (x0 : AV) (H : Heap) :
    evL (cx ρ) call yc false 74 lim k c74 [x0, (.tup []), (.tup []), (.tup []), (.tup []), (.tup []), (.tup []), (.tup []), (.tup []), (.tup [])] H (kk none (fun s H => retK (([2] : List Nat).map fun t => s.getD t (.tup [])) H) [] retK [2]) = L74 ρ call yc lim k x0 H := by
  kernel_rfl
theorem E74 (ρ : Addr → Option Value) (k lim : Nat) (x0 : AV) (H : Heap) : evCall (cx ρ) (k + 1) lim 74 [x0] H = L74 ρ (evCall (cx ρ) k) (evCY (cx ρ) k).2 lim k x0 H := by
  rw [evCall_body (cx ρ) k lim 74 _ H Tryz.f74 c74 [2] (by kernel_rfl) (by kernel_rfl) (by kernel_rfl) (by kernel_rfl) (by kernel_rfl)]
  exact G74 ρ (evCall (cx ρ) k) (evCY (cx ρ) k).2 lim k x0 H
-- (*haycroft/cell.Row).there
noncomputable def c75 : Code := Code.of Tryz.prog 75
noncomputable def L75 (ρ : Addr → Option Value) (call : CallF) (yc : YieldF) (lim k : Nat) (x0 x1 : AV) (H : Heap) : Res :=
  purK (binA Tryz.prog H .geq 3 x1 (.int .i64 0)) fun x6 =>
  purK (gPur (wantV x6 true) (some x1)) fun x8 =>
  purK (gPur (wantV x6 true) (some x0)) fun x9 =>
  resK (gRes (wantV x6 true) H (call lim 74 [x9] H)) fun x10 H =>
  purK (gPur (wantV x6 true) (binA Tryz.prog H .lss 3 x8 x10)) fun x11 =>
  purK (pickA x6 x11 (.bool false)) fun x12 =>
  retK [x12] H
theorem G75 (ρ : Addr → Option Value) (call : CallF) (yc : YieldF) (lim k : Nat) (x0 x1 : AV) (H : Heap) :
    evL (cx ρ) call yc false 75 lim k c75 [x0, x1, (.tup []), (.tup []), (.tup []), (.tup []), (.tup []), (.tup []), (.tup []), (.tup []), (.tup []), (.tup []), (.tup [])] H (kk none (fun s H => retK (([4] : List Nat).map fun t => s.getD t (.tup [])) H) [] retK [4]) = L75 ρ call yc lim k x0 x1 H := by
  kernel_rfl
theorem E75 (ρ : Addr → Option Value) (k lim : Nat) (x0 x1 : AV) (H : Heap) : evCall (cx ρ) (k + 1) lim 75 [x0, x1] H = L75 ρ (evCall (cx ρ) k) (evCY (cx ρ) k).2 lim k x0 x1 H := by
  rw [evCall_body (cx ρ) k lim 75 _ H Tryz.f75 c75 [4] (by kernel_rfl) (by kernel_rfl) (by kernel_rfl) (by kernel_rfl) (by kernel_rfl)]
  exact G75 ρ (evCall (cx ρ) k) (evCY (cx ρ) k).2 lim k x0 x1 H
-- (*sync/atomic.Uint64).Load
noncomputable def c76 : Code := Code.of Tryz.prog 76
noncomputable def L76 (ρ : Addr → Option Value) (call : CallF) (yc : YieldF) (lim k : Nat) (x0 : AV) (H : Heap) : Res :=
  purK (nilChkA x0) fun x4 =>
  purK (addA 0 x4) fun x5 =>
  resK (call lim 112 [x5] H) fun x6 H =>
  retK [x6] H
theorem G76 (ρ : Addr → Option Value) (call : CallF) (yc : YieldF) (lim k : Nat) (x0 : AV) (H : Heap) :
    evL (cx ρ) call yc false 76 lim k c76 [x0, (.tup []), (.tup []), (.tup []), (.tup []), (.tup []), (.tup [])] H (kk none (fun s H => retK (([2] : List Nat).map fun t => s.getD t (.tup [])) H) [] retK [2]) = L76 ρ call yc lim k x0 H := by
  kernel_rfl
theorem E76 (ρ : Addr → Option Value) (k lim : Nat) (x0 : AV) (H : Heap) : evCall (cx ρ) (k + 1) lim 76 [x0] H = L76 ρ (evCall (cx ρ) k) (evCY (cx ρ) k).2 lim k x0 H := by
  rw [evCall_body (cx ρ) k lim 76 _ H Tryz.f76 c76 [2] (by kernel_rfl) (by kernel_rfl) (by kernel_rfl) (by kernel_rfl) (by kernel_rfl)]
  exact G76 ρ (evCall (cx ρ) k) (evCY (cx ρ) k).2 lim k x0 H
-- (*haycroft/index.Index).Chain
noncomputable def c77 : Code := Code.of Tryz.prog 77
noncomputable def N77_1 (ρ : Addr → Option Value) (call : CallF) (yc : YieldF) (lim k : Nat) (x5 : AV) (H : Heap) (R : List AV → Heap → Res) : Res :=
  R [x5] H
theorem N77_1_eq (ρ : Addr → Option Value) (call : CallF) (yc : YieldF) (lim k : Nat) (x5 : AV) (H : Heap) (R : List AV → Heap → Res) :
    evL (cx ρ) call yc false 77 lim k (Code.at [1, 1, 1] c77) (sp 34 [(5, x5)]) H (kk none (fun s H => R (([4] : List Nat).map fun t => s.getD t (.tup [])) H) [] R [4]) = N77_1 ρ call yc lim k x5 H R := by
  kernel_rfl
noncomputable def N77_3b (ρ : Addr → Option Value) (call : CallF) (yc : YieldF) (lim k : Nat) (x0 x1 x5 x6 : AV) (H : Heap) (kn : AV → AV → AV → AV → Heap → Res) (k0 : AV → Heap → Res) : Res :=
  purK (gPur (wantV x6 true) (some x5)) fun x17_1 =>
  purK (gPur (wantV x6 true) (lenS x17_1)) fun x18_1 =>
  purK (gPur (wantV x6 true) (some x0)) fun x19_1 =>
  resK (gRes (wantV x6 true) H (call lim 113 [x19_1] H)) fun x20_1 H =>
  purK (gPur (wantV x6 true) (binA Tryz.prog H .leq 3 x18_1 x20_1)) fun x21_1 =>
  purK (pickA x6 x21_1 (.bool false)) fun x22_1 =>
  condK x22_1
  (
    effK H (bldS H 3 1 [.int .i64 0] 1 [(0, 1, x1)]) fun x25_1 H =>
    effK H (apA ρ lim H 3 1 8 x5 x25_1) fun x26_1 H =>
    resK (call lim 114 [x0, x1] H) fun x30_1 H =>
    purK (extA 0 x30_1) fun x31_1 =>
    purK (extA 1 x30_1) fun x32_1 =>
    kn x0 x31_1 x26_1 x32_1 H)
  (
    k0 x5 H)
theorem N77_3b_eq (ρ : Addr → Option Value) (call : CallF) (yc : YieldF) (lim k : Nat) (x0 x1 x5 x6 : AV) (H : Heap) (kn : KS) (k0 : KS) (R : List AV → Heap → Res) :
    evL (cx ρ) call yc false 77 lim k (Code.at [1, 1, 0, 1, 0, 0] c77) (sp 34 [(0, x0), (1, x1), (5, x5), (6, x6)]) H (kk (some [0, 1, 5, 6]) kn [(0, (some [5]), k0)] R [4]) = N77_3b ρ call yc lim k x0 x1 x5 x6 H (fun x0 x1 x5 x6 H => kn (sp 34 [(0, x0), (1, x1), (5, x5), (6, x6)]) H) (fun x5 H => k0 (sp 34 [(5, x5)]) H) := by
  kernel_rfl
noncomputable def N77_3 (ρ : Addr → Option Value) (call : CallF) (yc : YieldF) (lim k : Nat) (x0 x1 x5 x6 : AV) (H : Heap) (k0 : AV → Heap → Res) : Res :=
  loopL (fun (x : AV × AV × AV) H kn => N77_3b ρ call yc lim k x0 x.1 x.2.1 x.2.2 H (fun _ x1 x5 x6 H => kn (x1, x5, x6) H) k0) k (x1, x5, x6) H
theorem N77_3_eq (ρ : Addr → Option Value) (call : CallF) (yc : YieldF) (lim k : Nat) (x0 x1 x5 x6 : AV) (H : Heap) (kn : KS) (k0 : KS) (R : List AV → Heap → Res) :
    evL (cx ρ) call yc false 77 lim k (Code.at [1, 1, 0, 1, 0] c77) (sp 34 [(0, x0), (1, x1), (5, x5), (6, x6)]) H (kk (some [5]) kn [(0, (some [5]), k0)] R [4]) = N77_3 ρ call yc lim k x0 x1 x5 x6 H (fun x5 H => k0 (sp 34 [(5, x5)]) H) := by
  have e : Code.at [1, 1, 0, 1, 0] c77 = .loop (Code.at [1, 1, 0, 1, 0, 0] c77) := by kernel_rfl
  rw [e]
  unfold N77_3
  exact loop_node [0, 1, 5, 6] (fun x : AV × AV × AV => (sp 34 [(0, x0), (1, (x.1)), (5, (x.2.1)), (6, (x.2.2))])) (fun (x : AV × AV × AV) H kn => N77_3b ρ call yc lim k x0 x.1 x.2.1 x.2.2 H (fun _ x1 x5 x6 H => kn (x1, x5, x6) H) (fun x5 H => k0 (sp 34 [(5, x5)]) H)) (by kernel_rfl) (fun x => by kernel_rfl) (fun x H kn => N77_3b_eq ρ call yc lim k x0 (x.1) (x.2.1) (x.2.2) H kn k0 R) (x1, x5, x6) (sp 34 [(0, x0), (1, x1), (5, x5), (6, x6)]) H (by kernel_rfl)
noncomputable def N77_2 (ρ : Addr → Option Value) (call : CallF) (yc : YieldF) (lim k : Nat) (x0 x1 x5 x6 : AV) (H : Heap) (kn : AV → Heap → Res) : Res :=
  N77_3 ρ call yc lim k x0 x1 x5 x6 H kn
theorem N77_2_x (ρ : Addr → Option Value) (call : CallF) (yc : YieldF) (lim k : Nat) (J : CodeF) (x0 x1 x5 x6 : AV) (H : Heap) (kn : KS) (R : List AV → Heap → Res) :
    evX (cx ρ) call yc false 77 lim k J (Code.at [1, 1, 0, 1] c77) (sp 34 [(0, x0), (1, x1), (5, x5), (6, x6)]) H (kk (some [5]) kn [] R [4]) =
  J (Code.at [1, 1, 0, 1, 0] c77) (sp 34 [(0, x0), (1, x1), (5, x5), (6, x6)]) H (kk (some [5]) kn [(0, (some [5]), kn)] R [4]) := by
  kernel_rfl
theorem N77_2_eq (ρ : Addr → Option Value) (call : CallF) (yc : YieldF) (lim k : Nat) (x0 x1 x5 x6 : AV) (H : Heap) (kn : KS) (R : List AV → Heap → Res) :
    evL (cx ρ) call yc false 77 lim k (Code.at [1, 1, 0, 1] c77) (sp 34 [(0, x0), (1, x1), (5, x5), (6, x6)]) H (kk (some [5]) kn [] R [4]) = N77_2 ρ call yc lim k x0 x1 x5 x6 H (fun x5 H => kn (sp 34 [(5, x5)]) H) := by
  rw [evL_X, N77_2_x]
  simp only [← evL_X, N77_2, N77_3_eq]
noncomputable def L77 (ρ : Addr → Option Value) (call : CallF) (yc : YieldF) (lim k : Nat) (x0 x1 : AV) (H : Heap) : Res :=
  purK (binA Tryz.prog H .geq 3 x1 (.int .i64 0)) fun x8 =>
  purK (gPur (wantV x8 true) (some x1)) fun x10 =>
  purK (gPur (wantV x8 true) (some x0)) fun x11 =>
  resK (gRes (wantV x8 true) H (call lim 113 [x11] H)) fun x12 H =>
  purK (gPur (wantV x8 true) (binA Tryz.prog H .lss 3 x10 x12)) fun x13 =>
  purK (pickA x8 x13 (.bool false)) fun x14 =>
  N77_2 ρ call yc lim k x0 x1 .nils x14 H (fun x5 H =>
    N77_1 ρ call yc lim k x5 H retK)
theorem L77_x (ρ : Addr → Option Value) (call : CallF) (yc : YieldF) (lim k : Nat) (J : CodeF) (x0 x1 : AV) (H : Heap) :
    evX (cx ρ) call yc false 77 lim k J c77 [x0, x1, (.tup []), (.tup []), (.tup []), (.tup []), (.tup []), (.tup []), (.tup []), (.tup []), (.tup []), (.tup []), (.tup []), (.tup []), (.tup []), (.tup []), (.tup []), (.tup []), (.tup []), (.tup []), (.tup []), (.tup []), (.tup []), (.tup []), (.tup []), (.tup []), (.tup []), (.tup []), (.tup []), (.tup []), (.tup []), (.tup []), (.tup []), (.tup [])] H (kk none (fun s H => retK (([4] : List Nat).map fun t => s.getD t (.tup [])) H) [] retK [4]) =
  purK (binA Tryz.prog H .geq 3 x1 (.int .i64 0)) fun x8 =>
  purK (gPur (wantV x8 true) (some x1)) fun x10 =>
  purK (gPur (wantV x8 true) (some x0)) fun x11 =>
  resK (gRes (wantV x8 true) H (call lim 113 [x11] H)) fun x12 H =>
  purK (gPur (wantV x8 true) (binA Tryz.prog H .lss 3 x10 x12)) fun x13 =>
  purK (pickA x8 x13 (.bool false)) fun x14 =>
  J (Code.at [1, 1, 0, 1] c77) (sp 34 [(0, x0), (1, x1), (5, .nils), (6, x14)]) H (kk (some [5]) (fun s H => J (Code.at [1, 1, 1] c77) s H (kk none (fun s H => retK (([4] : List Nat).map fun t => s.getD t (.tup [])) H) [] retK [4])) [] retK [4]) := by
  kernel_rfl
theorem G77 (ρ : Addr → Option Value) (call : CallF) (yc : YieldF) (lim k : Nat) (x0 x1 : AV) (H : Heap) :
    evL (cx ρ) call yc false 77 lim k c77 [x0, x1, (.tup []), (.tup []), (.tup []), (.tup []), (.tup []), (.tup []), (.tup []), (.tup []), (.tup []), (.tup []), (.tup []), (.tup []), (.tup []), (.tup []), (.tup []), (.tup []), (.tup []), (.tup []), (.tup []), (.tup []), (.tup []), (.tup []), (.tup []), (.tup []), (.tup []), (.tup []), (.tup []), (.tup []), (.tup []), (.tup []), (.tup []), (.tup [])] H (kk none (fun s H => retK (([4] : List Nat).map fun t => s.getD t (.tup [])) H) [] retK [4]) = L77 ρ call yc lim k x0 x1 H := by
  rw [evL_X, L77_x]
  simp only [← evL_X, L77, N77_1_eq, N77_2_eq]
theorem E77 (ρ : Addr → Option Value) (k lim : Nat) (x0 x1 : AV) (H : Heap) : evCall (cx ρ) (k + 1) lim 77 [x0, x1] H = L77 ρ (evCall (cx ρ) k) (evCY (cx ρ) k).2 lim k x0 x1 H := by
  rw [evCall_body (cx ρ) k lim 77 _ H Tryz.f77 c77 [4] (by kernel_rfl) (by kernel_rfl) (by kernel_rfl) (by kernel_rfl) (by kernel_rfl)]
  exact G77 ρ (evCall (cx ρ) k) (evCY (cx ρ) k).2 lim k x0 x1 H
-- haycroft/mix.Bucket
noncomputable def c78 : Code := Code.of Tryz.prog 78
noncomputable def L78 (ρ : Addr → Option Value) (call : CallF) (yc : YieldF) (lim k : Nat) (x0 x1 : AV) (H : Heap) : Res :=
  resK (call lim 42 [x1] H) fun x6 H =>
  purK (unA .not x6) fun x7 =>
  condK x7
  (
    retK [(.int .i64 0)] H)
  (
    purK (binA Tryz.prog H .sub 3 x1 (.int .i64 1)) fun x10 =>
    purK (cvI .u64 x10) fun x11 =>
    purK (binA Tryz.prog H .and 22 x0 x11) fun x12 =>
    purK (cvI .i64 x12) fun x13 =>
    retK [x13] H)
theorem G78 (ρ : Addr → Option Value) (call : CallF) (yc : YieldF) (lim k : Nat) (x0 x1 : AV) (H : Heap) :
    evL (cx ρ) call yc false 78 lim k c78 [x0, x1, (.tup []), (.tup []), (.tup []), (.tup []), (.tup []), (.tup []), (.tup []), (.tup []), (.tup []), (.tup []), (.tup []), (.tup [])] H (kk none (fun s H => retK (([4] : List Nat).map fun t => s.getD t (.tup [])) H) [] retK [4]) = L78 ρ call yc lim k x0 x1 H := by
  kernel_rfl
theorem E78 (ρ : Addr → Option Value) (k lim : Nat) (x0 x1 : AV) (H : Heap) : evCall (cx ρ) (k + 1) lim 78 [x0, x1] H = L78 ρ (evCall (cx ρ) k) (evCY (cx ρ) k).2 lim k x0 x1 H := by
  rw [evCall_body (cx ρ) k lim 78 _ H Tryz.f78 c78 [4] (by kernel_rfl) (by kernel_rfl) (by kernel_rfl) (by kernel_rfl) (by kernel_rfl)]
  exact G78 ρ (evCall (cx ρ) k) (evCY (cx ρ) k).2 lim k x0 x1 H
-- haycroft/index.slots
noncomputable def c79 : Code := Code.of Tryz.prog 79
noncomputable def N79_1 (ρ : Addr → Option Value) (call : CallF) (yc : YieldF) (lim k : Nat) (x3 : AV) (H : Heap) (R : List AV → Heap → Res) : Res :=
  R [x3] H
theorem N79_1_eq (ρ : Addr → Option Value) (call : CallF) (yc : YieldF) (lim k : Nat) (x3 : AV) (H : Heap) (R : List AV → Heap → Res) :
    evL (cx ρ) call yc false 79 lim k (Code.at [1, 1, 1] c79) (sp 26 [(3, x3)]) H (kk none (fun s H => R (([2] : List Nat).map fun t => s.getD t (.tup [])) H) [] R [2]) = N79_1 ρ call yc lim k x3 H R := by
  kernel_rfl
noncomputable def N79_4 (ρ : Addr → Option Value) (call : CallF) (yc : YieldF) (lim k : Nat) (x3 x7 x8 x9 : AV) (H : Heap) (kn : AV → AV → AV → AV → Heap → Res) : Res :=
  purK (binA Tryz.prog H .add 3 x9 (.int .i64 1)) fun x24_1 =>
  kn x3 x7 x8 x24_1 H
theorem N79_4_eq (ρ : Addr → Option Value) (call : CallF) (yc : YieldF) (lim k : Nat) (x3 x7 x8 x9 : AV) (H : Heap) (kn : KS) (k0 : KS) (R : List AV → Heap → Res) :
    evL (cx ρ) call yc false 79 lim k (Code.at [1, 1, 0, 1, 0, 0, 1, 1, 1] c79) (sp 26 [(3, x3), (7, x7), (8, x8), (9, x9)]) H (kk (some [3, 7, 8, 9]) kn [(0, (some [3]), k0)] R [2]) = N79_4 ρ call yc lim k x3 x7 x8 x9 H (fun x3 x7 x8 x9 H => kn (sp 26 [(3, x3), (7, x7), (8, x8), (9, x9)]) H) := by
  kernel_rfl
noncomputable def N79_6b (ρ : Addr → Option Value) (call : CallF) (yc : YieldF) (lim k : Nat) (x3 x5 x7 x8 x9 x13 : AV) (H : Heap) (kn : AV → AV → AV → AV → AV → AV → Heap → Res) (k2 : AV → AV → AV → AV → Heap → Res) : Res :=
  purK (binA Tryz.prog H .lss 3 x13 (.int .i64 7)) fun x14_1 =>
  condK x14_1
  (
    purK (binA Tryz.prog H .mul 3 x5 (.int .i64 8)) fun x18_1 =>
    purK (binA Tryz.prog H .add 3 x18_1 x13) fun x20_1 =>
    effK H (bldS H 3 1 [.int .i64 0] 1 [(0, 1, x20_1)]) fun x21_1 H =>
    effK H (apA ρ lim H 3 1 8 x3 x21_1) fun x22_1 H =>
    purK (binA Tryz.prog H .add 3 x13 (.int .i64 1)) fun x23_1 =>
    kn x22_1 x5 x7 x8 x9 x23_1 H)
  (
    k2 x3 x7 x8 x9 H)
theorem N79_6b_eq (ρ : Addr → Option Value) (call : CallF) (yc : YieldF) (lim k : Nat) (x3 x5 x7 x8 x9 x13 : AV) (H : Heap) (kn : KS) (k2 : KS) (k1 : KS) (k0 : KS) (R : List AV → Heap → Res) :
    evL (cx ρ) call yc false 79 lim k (Code.at [1, 1, 0, 1, 0, 0, 1, 1, 0, 0, 1, 1, 0, 0] c79) (sp 26 [(3, x3), (5, x5), (7, x7), (8, x8), (9, x9), (13, x13)]) H (kk (some [3, 5, 7, 8, 9, 13]) kn [(2, (some [3, 7, 8, 9]), k2), (1, (some [3, 7, 8, 9]), k1), (0, (some [3]), k0)] R [2]) = N79_6b ρ call yc lim k x3 x5 x7 x8 x9 x13 H (fun x3 x5 x7 x8 x9 x13 H => kn (sp 26 [(3, x3), (5, x5), (7, x7), (8, x8), (9, x9), (13, x13)]) H) (fun x3 x7 x8 x9 H => k2 (sp 26 [(3, x3), (7, x7), (8, x8), (9, x9)]) H) := by
  kernel_rfl
noncomputable def N79_6 (ρ : Addr → Option Value) (call : CallF) (yc : YieldF) (lim k : Nat) (x3 x5 x7 x8 x9 x13 : AV) (H : Heap) (k2 : AV → AV → AV → AV → Heap → Res) : Res :=
  loopL (fun (x : AV × AV) H kn => N79_6b ρ call yc lim k x.1 x5 x7 x8 x9 x.2 H (fun x3 _ _ _ _ x13 H => kn (x3, x13) H) k2) k (x3, x13) H
theorem N79_6_eq (ρ : Addr → Option Value) (call : CallF) (yc : YieldF) (lim k : Nat) (x3 x5 x7 x8 x9 x13 : AV) (H : Heap) (kn : KS) (k2 : KS) (k1 : KS) (k0 : KS) (R : List AV → Heap → Res) :
    evL (cx ρ) call yc false 79 lim k (Code.at [1, 1, 0, 1, 0, 0, 1, 1, 0, 0, 1, 1, 0] c79) (sp 26 [(3, x3), (5, x5), (7, x7), (8, x8), (9, x9), (13, x13)]) H (kk (some [3, 7, 8, 9]) kn [(2, (some [3, 7, 8, 9]), k2), (1, (some [3, 7, 8, 9]), k1), (0, (some [3]), k0)] R [2]) = N79_6 ρ call yc lim k x3 x5 x7 x8 x9 x13 H (fun x3 x7 x8 x9 H => k2 (sp 26 [(3, x3), (7, x7), (8, x8), (9, x9)]) H) := by
  have e : Code.at [1, 1, 0, 1, 0, 0, 1, 1, 0, 0, 1, 1, 0] c79 = .loop (Code.at [1, 1, 0, 1, 0, 0, 1, 1, 0, 0, 1, 1, 0, 0] c79) := by kernel_rfl
  rw [e]
  unfold N79_6
  exact loop_node [3, 5, 7, 8, 9, 13] (fun x : AV × AV => (sp 26 [(3, (x.1)), (5, x5), (7, x7), (8, x8), (9, x9), (13, (x.2))])) (fun (x : AV × AV) H kn => N79_6b ρ call yc lim k x.1 x5 x7 x8 x9 x.2 H (fun x3 _ _ _ _ x13 H => kn (x3, x13) H) (fun x3 x7 x8 x9 H => k2 (sp 26 [(3, x3), (7, x7), (8, x8), (9, x9)]) H)) (by kernel_rfl) (fun x => by kernel_rfl) (fun x H kn => N79_6b_eq ρ call yc lim k (x.1) x5 x7 x8 x9 (x.2) H kn k2 k1 k0 R) (x3, x13) (sp 26 [(3, x3), (5, x5), (7, x7), (8, x8), (9, x9), (13, x13)]) H (by kernel_rfl)
noncomputable def N79_5 (ρ : Addr → Option Value) (call : CallF) (yc : YieldF) (lim k : Nat) (x3 x5 x7 x8 x9 x13 : AV) (H : Heap) (kn : AV → AV → AV → AV → Heap → Res) : Res :=
  N79_6 ρ call yc lim k x3 x5 x7 x8 x9 x13 H kn
theorem N79_5_x (ρ : Addr → Option Value) (call : CallF) (yc : YieldF) (lim k : Nat) (J : CodeF) (x3 x5 x7 x8 x9 x13 : AV) (H : Heap) (kn : KS) (k1 : KS) (k0 : KS) (R : List AV → Heap → Res) :
    evX (cx ρ) call yc false 79 lim k J (Code.at [1, 1, 0, 1, 0, 0, 1, 1, 0, 0, 1, 1] c79) (sp 26 [(3, x3), (5, x5), (7, x7), (8, x8), (9, x9), (13, x13)]) H (kk (some [3, 7, 8, 9]) kn [(1, (some [3, 7, 8, 9]), k1), (0, (some [3]), k0)] R [2]) =
  J (Code.at [1, 1, 0, 1, 0, 0, 1, 1, 0, 0, 1, 1, 0] c79) (sp 26 [(3, x3), (5, x5), (7, x7), (8, x8), (9, x9), (13, x13)]) H (kk (some [3, 7, 8, 9]) kn [(2, (some [3, 7, 8, 9]), kn), (1, (some [3, 7, 8, 9]), k1), (0, (some [3]), k0)] R [2]) := by
  kernel_rfl
theorem N79_5_eq (ρ : Addr → Option Value) (call : CallF) (yc : YieldF) (lim k : Nat) (x3 x5 x7 x8 x9 x13 : AV) (H : Heap) (kn : KS) (k1 : KS) (k0 : KS) (R : List AV → Heap → Res) :
    evL (cx ρ) call yc false 79 lim k (Code.at [1, 1, 0, 1, 0, 0, 1, 1, 0, 0, 1, 1] c79) (sp 26 [(3, x3), (5, x5), (7, x7), (8, x8), (9, x9), (13, x13)]) H (kk (some [3, 7, 8, 9]) kn [(1, (some [3, 7, 8, 9]), k1), (0, (some [3]), k0)] R [2]) = N79_5 ρ call yc lim k x3 x5 x7 x8 x9 x13 H (fun x3 x7 x8 x9 H => kn (sp 26 [(3, x3), (7, x7), (8, x8), (9, x9)]) H) := by
  rw [evL_X, N79_5_x]
  simp only [← evL_X, N79_5, N79_6_eq]
noncomputable def N79_3b (ρ : Addr → Option Value) (call : CallF) (yc : YieldF) (lim k : Nat) (x3 x7 x8 x9 : AV) (H : Heap) (kn : AV → AV → AV → AV → Heap → Res) (k0 : AV → Heap → Res) : Res :=
  purK (binA Tryz.prog H .lss 3 x9 x8) fun x10_1 =>
  condK x10_1
  (
    purK (ixS 1 x7 x9) fun x11_1 =>
    purK (ld1 ρ H x11_1) fun x12_1 =>
    N79_5 ρ call yc lim k x3 x12_1 x7 x8 x9 (.int .i64 0) H (fun x3_1 x7_1 x8_1 x9_1 H =>
      N79_4 ρ call yc lim k x3_1 x7_1 x8_1 x9_1 H kn))
  (
    k0 x3 H)
theorem N79_3b_x (ρ : Addr → Option Value) (call : CallF) (yc : YieldF) (lim k : Nat) (J : CodeF) (x3 x7 x8 x9 : AV) (H : Heap) (kn : KS) (k0 : KS) (R : List AV → Heap → Res) :
    evX (cx ρ) call yc false 79 lim k J (Code.at [1, 1, 0, 1, 0, 0] c79) (sp 26 [(3, x3), (7, x7), (8, x8), (9, x9)]) H (kk (some [3, 7, 8, 9]) kn [(0, (some [3]), k0)] R [2]) =
  purK (binA Tryz.prog H .lss 3 x9 x8) fun x10_1 =>
  condK x10_1
  (
    purK (ixS 1 x7 x9) fun x11_1 =>
    purK (ld1 ρ H x11_1) fun x12_1 =>
    J (Code.at [1, 1, 0, 1, 0, 0, 1, 1, 0, 0, 1, 1] c79) (sp 26 [(3, x3), (5, x12_1), (7, x7), (8, x8), (9, x9), (13, (.int .i64 0))]) H (kk (some [3, 7, 8, 9]) (fun s H => J (Code.at [1, 1, 0, 1, 0, 0, 1, 1, 1] c79) s H (kk (some [3, 7, 8, 9]) kn [(0, (some [3]), k0)] R [2])) [(1, (some [3, 7, 8, 9]), (fun s H => J (Code.at [1, 1, 0, 1, 0, 0, 1, 1, 1] c79) s H (kk (some [3, 7, 8, 9]) kn [(0, (some [3]), k0)] R [2]))), (0, (some [3]), k0)] R [2]))
  (
    k0 (sp 26 [(3, x3)]) H) := by
  kernel_rfl
theorem N79_3b_eq (ρ : Addr → Option Value) (call : CallF) (yc : YieldF) (lim k : Nat) (x3 x7 x8 x9 : AV) (H : Heap) (kn : KS) (k0 : KS) (R : List AV → Heap → Res) :
    evL (cx ρ) call yc false 79 lim k (Code.at [1, 1, 0, 1, 0, 0] c79) (sp 26 [(3, x3), (7, x7), (8, x8), (9, x9)]) H (kk (some [3, 7, 8, 9]) kn [(0, (some [3]), k0)] R [2]) = N79_3b ρ call yc lim k x3 x7 x8 x9 H (fun x3 x7 x8 x9 H => kn (sp 26 [(3, x3), (7, x7), (8, x8), (9, x9)]) H) (fun x3 H => k0 (sp 26 [(3, x3)]) H) := by
  rw [evL_X, N79_3b_x]
  simp only [← evL_X, N79_3b, N79_4_eq, N79_5_eq]
noncomputable def N79_3 (ρ : Addr → Option Value) (call : CallF) (yc : YieldF) (lim k : Nat) (x3 x7 x8 x9 : AV) (H : Heap) (k0 : AV → Heap → Res) : Res :=
  loopL (fun (x : AV × AV) H kn => N79_3b ρ call yc lim k x.1 x7 x8 x.2 H (fun x3 _ _ x9 H => kn (x3, x9) H) k0) k (x3, x9) H
theorem N79_3_eq (ρ : Addr → Option Value) (call : CallF) (yc : YieldF) (lim k : Nat) (x3 x7 x8 x9 : AV) (H : Heap) (kn : KS) (k0 : KS) (R : List AV → Heap → Res) :
    evL (cx ρ) call yc false 79 lim k (Code.at [1, 1, 0, 1, 0] c79) (sp 26 [(3, x3), (7, x7), (8, x8), (9, x9)]) H (kk (some [3]) kn [(0, (some [3]), k0)] R [2]) = N79_3 ρ call yc lim k x3 x7 x8 x9 H (fun x3 H => k0 (sp 26 [(3, x3)]) H) := by
  have e : Code.at [1, 1, 0, 1, 0] c79 = .loop (Code.at [1, 1, 0, 1, 0, 0] c79) := by kernel_rfl
  rw [e]
  unfold N79_3
  exact loop_node [3, 7, 8, 9] (fun x : AV × AV => (sp 26 [(3, (x.1)), (7, x7), (8, x8), (9, (x.2))])) (fun (x : AV × AV) H kn => N79_3b ρ call yc lim k x.1 x7 x8 x.2 H (fun x3 _ _ x9 H => kn (x3, x9) H) (fun x3 H => k0 (sp 26 [(3, x3)]) H)) (by kernel_rfl) (fun x => by kernel_rfl) (fun x H kn => N79_3b_eq ρ call yc lim k (x.1) x7 x8 (x.2) H kn k0 R) (x3, x9) (sp 26 [(3, x3), (7, x7), (8, x8), (9, x9)]) H (by kernel_rfl)
noncomputable def N79_2 (ρ : Addr → Option Value) (call : CallF) (yc : YieldF) (lim k : Nat) (x3 x7 x8 x9 : AV) (H : Heap) (kn : AV → Heap → Res) : Res :=
  N79_3 ρ call yc lim k x3 x7 x8 x9 H kn
theorem N79_2_x (ρ : Addr → Option Value) (call : CallF) (yc : YieldF) (lim k : Nat) (J : CodeF) (x3 x7 x8 x9 : AV) (H : Heap) (kn : KS) (R : List AV → Heap → Res) :
    evX (cx ρ) call yc false 79 lim k J (Code.at [1, 1, 0, 1] c79) (sp 26 [(3, x3), (7, x7), (8, x8), (9, x9)]) H (kk (some [3]) kn [] R [2]) =
  J (Code.at [1, 1, 0, 1, 0] c79) (sp 26 [(3, x3), (7, x7), (8, x8), (9, x9)]) H (kk (some [3]) kn [(0, (some [3]), kn)] R [2]) := by
  kernel_rfl
theorem N79_2_eq (ρ : Addr → Option Value) (call : CallF) (yc : YieldF) (lim k : Nat) (x3 x7 x8 x9 : AV) (H : Heap) (kn : KS) (R : List AV → Heap → Res) :
    evL (cx ρ) call yc false 79 lim k (Code.at [1, 1, 0, 1] c79) (sp 26 [(3, x3), (7, x7), (8, x8), (9, x9)]) H (kk (some [3]) kn [] R [2]) = N79_2 ρ call yc lim k x3 x7 x8 x9 H (fun x3 H => kn (sp 26 [(3, x3)]) H) := by
  rw [evL_X, N79_2_x]
  simp only [← evL_X, N79_2, N79_3_eq]
noncomputable def L79 (ρ : Addr → Option Value) (call : CallF) (yc : YieldF) (lim k : Nat) (x0 : AV) (H : Heap) : Res :=
  purK (lenS x0) fun x8 =>
  N79_2 ρ call yc lim k .nils x0 x8 (.int .i64 0) H (fun x3 H =>
    N79_1 ρ call yc lim k x3 H retK)
theorem L79_x (ρ : Addr → Option Value) (call : CallF) (yc : YieldF) (lim k : Nat) (J : CodeF) (x0 : AV) (H : Heap) :
    evX (cx ρ) call yc false 79 lim k J c79 [x0, (.tup []), (.tup []), (.tup []), (.tup []), (.tup []), (.tup []), (.tup []), (.tup []), (.tup []), (.tup []), (.tup []), (.tup []), (.tup []), (.tup []), (.tup []), (.tup []), (.tup []), (.tup []), (.tup []), (.tup []), (.tup []), (.tup []), (.tup []), (.tup []), (.tup [])] H (kk none (fun s H => retK (([2] : List Nat).map fun t => s.getD t (.tup [])) H) [] retK [2]) =
  purK (lenS x0) fun x8 =>
  J (Code.at [1, 1, 0, 1] c79) (sp 26 [(3, .nils), (7, x0), (8, x8), (9, (.int .i64 0))]) H (kk (some [3]) (fun s H => J (Code.at [1, 1, 1] c79) s H (kk none (fun s H => retK (([2] : List Nat).map fun t => s.getD t (.tup [])) H) [] retK [2])) [] retK [2]) := by
  kernel_rfl
theorem G79 (ρ : Addr → Option Value) (call : CallF) (yc : YieldF) (lim k : Nat) (x0 : AV) (H : Heap) :
    evL (cx ρ) call yc false 79 lim k c79 [x0, (.tup []), (.tup []), (.tup []), (.tup []), (.tup []), (.tup []), (.tup []), (.tup []), (.tup []), (.tup []), (.tup []), (.tup []), (.tup []), (.tup []), (.tup []), (.tup []), (.tup []), (.tup []), (.tup []), (.tup []), (.tup []), (.tup []), (.tup []), (.tup []), (.tup [])] H (kk none (fun s H => retK (([2] : List Nat).map fun t => s.getD t (.tup [])) H) [] retK [2]) = L79 ρ call yc lim k x0 H := by
  rw [evL_X, L79_x]
  simp only [← evL_X, L79, N79_1_eq, N79_2_eq]
theorem E79 (ρ : Addr → Option Value) (k lim : Nat) (x0 : AV) (H : Heap) : evCall (cx ρ) (k + 1) lim 79 [x0] H = L79 ρ (evCall (cx ρ) k) (evCY (cx ρ) k).2 lim k x0 H := by
  rw [evCall_body (cx ρ) k lim 79 _ H Tryz.f79 c79 [2] (by kernel_rfl) (by kernel_rfl) (by kernel_rfl) (by kernel_rfl) (by kernel_rfl)]
  exact G79 ρ (evCall (cx ρ) k) (evCY (cx ρ) k).2 lim k x0 H
-- slices.IndexFunc[[]int,int]
noncomputable def c80 : Code := Code.of Tryz.prog 80
noncomputable def N80_1 (ρ : Addr → Option Value) (call : CallF) (yc : YieldF) (lim k : Nat) (H : Heap) (R : List AV → Heap → Res) : Res :=
  R [(.int .i64 (-1))] H
theorem N80_1_eq (ρ : Addr → Option Value) (call : CallF) (yc : YieldF) (lim k : Nat) (H : Heap) (R : List AV → Heap → Res) :
    evL (cx ρ) call yc false 80 lim k (Code.at [1, 1] c80) (sp 19 []) H (kk none (fun s H => R (([4] : List Nat).map fun t => s.getD t (.tup [])) H) [] R [4]) = N80_1 ρ call yc lim k H R := by
  kernel_rfl
noncomputable def N80_3b (ρ : Addr → Option Value) (call : CallF) (yc : YieldF) (lim k : Nat) (x0 x1 x7 x8 : AV) (H : Heap) (kn : AV → AV → AV → AV → Heap → Res) (k0 : Heap → Res) (R : List AV → Heap → Res) : Res :=
  purK (binA Tryz.prog H .lss 3 x8 x7) fun x9_1 =>
  condK x9_1
  (
    purK (ixS 1 x0 x8) fun x14_1 =>
    purK (ld1 ρ H x14_1) fun x15_1 =>
    valK call yc lim x1 [x15_1] H fun x16_1 H =>
    condK x16_1
    (
      R [x8] H)
    (
      purK (binA Tryz.prog H .add 3 x8 (.int .i64 1)) fun x18_1 =>
      kn x0 x1 x7 x18_1 H))
  (
    k0 H)
theorem N80_3b_eq (ρ : Addr → Option Value) (call : CallF) (yc : YieldF) (lim k : Nat) (x0 x1 x7 x8 : AV) (H : Heap) (kn : KS) (k0 : KS) (R : List AV → Heap → Res) :
    evL (cx ρ) call yc false 80 lim k (Code.at [1, 0, 1, 0, 0] c80) (sp 19 [(0, x0), (1, x1), (7, x7), (8, x8)]) H (kk (some [0, 1, 7, 8]) kn [(0, (some []), k0)] R [4]) = N80_3b ρ call yc lim k x0 x1 x7 x8 H (fun x0 x1 x7 x8 H => kn (sp 19 [(0, x0), (1, x1), (7, x7), (8, x8)]) H) (fun H => k0 (sp 19 []) H) R := by
  kernel_rfl
noncomputable def N80_3 (ρ : Addr → Option Value) (call : CallF) (yc : YieldF) (lim k : Nat) (x0 x1 x7 x8 : AV) (H : Heap) (k0 : Heap → Res) (R : List AV → Heap → Res) : Res :=
  loopL (fun (x : AV) H kn => N80_3b ρ call yc lim k x0 x1 x7 x H (fun _ _ _ x8 H => kn x8 H) k0 R) k x8 H
theorem N80_3_eq (ρ : Addr → Option Value) (call : CallF) (yc : YieldF) (lim k : Nat) (x0 x1 x7 x8 : AV) (H : Heap) (kn : KS) (k0 : KS) (R : List AV → Heap → Res) :
    evL (cx ρ) call yc false 80 lim k (Code.at [1, 0, 1, 0] c80) (sp 19 [(0, x0), (1, x1), (7, x7), (8, x8)]) H (kk (some []) kn [(0, (some []), k0)] R [4]) = N80_3 ρ call yc lim k x0 x1 x7 x8 H (fun H => k0 (sp 19 []) H) R := by
  have e : Code.at [1, 0, 1, 0] c80 = .loop (Code.at [1, 0, 1, 0, 0] c80) := by kernel_rfl
  rw [e]
  unfold N80_3
  exact loop_node [0, 1, 7, 8] (fun x : AV => (sp 19 [(0, x0), (1, x1), (7, x7), (8, (x))])) (fun (x : AV) H kn => N80_3b ρ call yc lim k x0 x1 x7 x H (fun _ _ _ x8 H => kn x8 H) (fun H => k0 (sp 19 []) H) R) (by kernel_rfl) (fun x => by kernel_rfl) (fun x H kn => N80_3b_eq ρ call yc lim k x0 x1 x7 (x) H kn k0 R) x8 (sp 19 [(0, x0), (1, x1), (7, x7), (8, x8)]) H (by kernel_rfl)
noncomputable def N80_2 (ρ : Addr → Option Value) (call : CallF) (yc : YieldF) (lim k : Nat) (x0 x1 x7 x8 : AV) (H : Heap) (kn : Heap → Res) (R : List AV → Heap → Res) : Res :=
  N80_3 ρ call yc lim k x0 x1 x7 x8 H kn R
theorem N80_2_x (ρ : Addr → Option Value) (call : CallF) (yc : YieldF) (lim k : Nat) (J : CodeF) (x0 x1 x7 x8 : AV) (H : Heap) (kn : KS) (R : List AV → Heap → Res) :
    evX (cx ρ) call yc false 80 lim k J (Code.at [1, 0, 1] c80) (sp 19 [(0, x0), (1, x1), (7, x7), (8, x8)]) H (kk (some []) kn [] R [4]) =
  J (Code.at [1, 0, 1, 0] c80) (sp 19 [(0, x0), (1, x1), (7, x7), (8, x8)]) H (kk (some []) kn [(0, (some []), kn)] R [4]) := by
  kernel_rfl
theorem N80_2_eq (ρ : Addr → Option Value) (call : CallF) (yc : YieldF) (lim k : Nat) (x0 x1 x7 x8 : AV) (H : Heap) (kn : KS) (R : List AV → Heap → Res) :
    evL (cx ρ) call yc false 80 lim k (Code.at [1, 0, 1] c80) (sp 19 [(0, x0), (1, x1), (7, x7), (8, x8)]) H (kk (some []) kn [] R [4]) = N80_2 ρ call yc lim k x0 x1 x7 x8 H (fun H => kn (sp 19 []) H) R := by
  rw [evL_X, N80_2_x]
  simp only [← evL_X, N80_2, N80_3_eq]
noncomputable def L80 (ρ : Addr → Option Value) (call : CallF) (yc : YieldF) (lim k : Nat) (x0 x1 : AV) (H : Heap) : Res :=
  purK (lenS x0) fun x7 =>
  N80_2 ρ call yc lim k x0 x1 x7 (.int .i64 0) H (fun H =>
    N80_1 ρ call yc lim k H retK) retK
theorem L80_x (ρ : Addr → Option Value) (call : CallF) (yc : YieldF) (lim k : Nat) (J : CodeF) (x0 x1 : AV) (H : Heap) :
    evX (cx ρ) call yc false 80 lim k J c80 [x0, x1, (.tup []), (.tup []), (.tup []), (.tup []), (.tup []), (.tup []), (.tup []), (.tup []), (.tup []), (.tup []), (.tup []), (.tup []), (.tup []), (.tup []), (.tup []), (.tup []), (.tup [])] H (kk none (fun s H => retK (([4] : List Nat).map fun t => s.getD t (.tup [])) H) [] retK [4]) =
  purK (lenS x0) fun x7 =>
  J (Code.at [1, 0, 1] c80) (sp 19 [(0, x0), (1, x1), (7, x7), (8, (.int .i64 0))]) H (kk (some []) (fun s H => J (Code.at [1, 1] c80) s H (kk none (fun s H => retK (([4] : List Nat).map fun t => s.getD t (.tup [])) H) [] retK [4])) [] retK [4]) := by
  kernel_rfl
theorem G80 (ρ : Addr → Option Value) (call : CallF) (yc : YieldF) (lim k : Nat) (x0 x1 : AV) (H : Heap) :
    evL (cx ρ) call yc false 80 lim k c80 [x0, x1, (.tup []), (.tup []), (.tup []), (.tup []), (.tup []), (.tup []), (.tup []), (.tup []), (.tup []), (.tup []), (.tup []), (.tup []), (.tup []), (.tup []), (.tup []), (.tup []), (.tup [])] H (kk none (fun s H => retK (([4] : List Nat).map fun t => s.getD t (.tup [])) H) [] retK [4]) = L80 ρ call yc lim k x0 x1 H := by
  rw [evL_X, L80_x]
  simp only [← evL_X, L80, N80_1_eq, N80_2_eq]
theorem E80 (ρ : Addr → Option Value) (k lim : Nat) (x0 x1 : AV) (H : Heap) : evCall (cx ρ) (k + 1) lim 80 [x0, x1] H = L80 ρ (evCall (cx ρ) k) (evCY (cx ρ) k).2 lim k x0 x1 H := by
  rw [evCall_body (cx ρ) k lim 80 _ H Tryz.f80 c80 [4] (by kernel_rfl) (by kernel_rfl) (by kernel_rfl) (by kernel_rfl) (by kernel_rfl)]
  exact G80 ρ (evCall (cx ρ) k) (evCY (cx ρ) k).2 lim k x0 x1 H
-- (*haycroft/index.Index).Look$1
noncomputable def c81 : Code := Code.of Tryz.prog 81
noncomputable def L81 (ρ : Addr → Option Value) (call : CallF) (yc : YieldF) (lim k : Nat) (x0 x1 x2 : AV) (H : Heap) : Res :=
  purK (ld1 ρ H x1) fun x5 =>
  purK (nilChkA x5) fun x6 =>
  purK (addA 2 x6) fun x7 =>
  purK (ld1 ρ H x7) fun x8 =>
  purK (ld1 ρ H x2) fun x11 =>
  resK (call lim 47 [x8, x0] H) fun x10 H => bif (agn (ld1 ρ H x2) x11 && true) then
    resK (call lim 83 [x11] H) fun x12 H =>
    resK (call lim 82 [x10, x12] H) fun x13 H =>
    retK [x13] H
  else none
theorem G81 (ρ : Addr → Option Value) (call : CallF) (yc : YieldF) (lim k : Nat) (x0 x1 x2 : AV) (H : Heap) :
    evL (cx ρ) call yc false 81 lim k c81 [x0, x1, x2, (.tup []), (.tup []), (.tup []), (.tup []), (.tup []), (.tup []), (.tup []), (.tup []), (.tup []), (.tup []), (.tup [])] H (kk none (fun s H => retK (([4] : List Nat).map fun t => s.getD t (.tup [])) H) [] retK [4]) = L81 ρ call yc lim k x0 x1 x2 H := by
  kernel_rfl
theorem E81 (ρ : Addr → Option Value) (k lim : Nat) (x0 x1 x2 : AV) (H : Heap) : evCall (cx ρ) (k + 1) lim 81 [x0, x1, x2] H = L81 ρ (evCall (cx ρ) k) (evCY (cx ρ) k).2 lim k x0 x1 x2 H := by
  rw [evCall_body (cx ρ) k lim 81 _ H Tryz.f81 c81 [4] (by kernel_rfl) (by kernel_rfl) (by kernel_rfl) (by kernel_rfl) (by kernel_rfl)]
  exact G81 ρ (evCall (cx ρ) k) (evCY (cx ρ) k).2 lim k x0 x1 x2 H
-- haycroft/entry.Has
noncomputable def c82 : Code := Code.of Tryz.prog 82
noncomputable def L82 (ρ : Addr → Option Value) (call : CallF) (yc : YieldF) (lim k : Nat) (x0 x1 : AV) (H : Heap) : Res :=
  resK (call lim 115 [x0] H) fun x9 H =>
  purK (extA 0 x9) fun x10 =>
  purK (extA 1 x9) fun x11 =>
  effK H (some (.ptr H.sz 0 0, .new (newCells 183 false [.int .u64 0, .int .u64 0, .bool false]))) fun x5 H =>
  effK H (stA lim H 3 x5 x10) fun _ H =>
  purK (binA Tryz.prog H .eql 28 x11 (.int .i64 0)) fun x13 =>
  purK (gPur (wantV x13 true) (addA 1 x5)) fun x15 =>
  purK (gPur (wantV x13 true) (ld1 ρ H x15)) fun x16 =>
  purK (gPur (wantV x13 true) (some x1)) fun x17 =>
  purK (gPur (wantV x13 true) (binA Tryz.prog H .eql 22 x16 x17)) fun x18 =>
  purK (pickA x13 x18 (.bool false)) fun x19 =>
  retK [x19] H
theorem G82 (ρ : Addr → Option Value) (call : CallF) (yc : YieldF) (lim k : Nat) (x0 x1 : AV) (H : Heap) :
    evL (cx ρ) call yc false 82 lim k c82 [x0, x1, (.tup []), (.tup []), (.tup []), (.tup []), (.tup []), (.tup []), (.tup []), (.tup []), (.tup []), (.tup []), (.tup []), (.tup []), (.tup []), (.tup []), (.tup []), (.tup []), (.tup []), (.tup [])] H (kk none (fun s H => retK (([4] : List Nat).map fun t => s.getD t (.tup [])) H) [] retK [4]) = L82 ρ call yc lim k x0 x1 H := by
  kernel_rfl
theorem E82 (ρ : Addr → Option Value) (k lim : Nat) (x0 x1 : AV) (H : Heap) : evCall (cx ρ) (k + 1) lim 82 [x0, x1] H = L82 ρ (evCall (cx ρ) k) (evCY (cx ρ) k).2 lim k x0 x1 H := by
  rw [evCall_body (cx ρ) k lim 82 _ H Tryz.f82 c82 [4] (by kernel_rfl) (by kernel_rfl) (by kernel_rfl) (by kernel_rfl) (by kernel_rfl)]
  exact G82 ρ (evCall (cx ρ) k) (evCY (cx ρ) k).2 lim k x0 x1 H
-- haycroft/mix.Tag
noncomputable def c83 : Code := Code.of Tryz.prog 83
noncomputable def L83 (ρ : Addr → Option Value) (call : CallF) (yc : YieldF) (lim k : Nat) (x0 : AV) (H : Heap) : Res :=
  resK (call lim 50 [x0, (.int .i64 50), (.int .i64 14)] H) fun x4 H =>
  retK [x4] H
theorem G83 (ρ : Addr → Option Value) (call : CallF) (yc : YieldF) (lim k : Nat) (x0 : AV) (H : Heap) :
    evL (cx ρ) call yc false 83 lim k c83 [x0, (.tup []), (.tup []), (.tup []), (.tup [])] H (kk none (fun s H => retK (([2] : List Nat).map fun t => s.getD t (.tup [])) H) [] retK [2]) = L83 ρ call yc lim k x0 H := by
  kernel_rfl
theorem E83 (ρ : Addr → Option Value) (k lim : Nat) (x0 : AV) (H : Heap) : evCall (cx ρ) (k + 1) lim 83 [x0] H = L83 ρ (evCall (cx ρ) k) (evCY (cx ρ) k).2 lim k x0 H := by
  rw [evCall_body (cx ρ) k lim 83 _ H Tryz.f83 c83 [2] (by kernel_rfl) (by kernel_rfl) (by kernel_rfl) (by kernel_rfl) (by kernel_rfl)]
  exact G83 ρ (evCall (cx ρ) k) (evCY (cx ρ) k).2 lim k x0 H
-- (*haycroft/index.Index).Look$2
noncomputable def c84 : Code := Code.of Tryz.prog 84
noncomputable def L84 (ρ : Addr → Option Value) (call : CallF) (yc : YieldF) (lim k : Nat) (x0 x1 : AV) (H : Heap) : Res :=
  purK (ld1 ρ H x1) fun x4 =>
  purK (nilChkA x4) fun x5 =>
  purK (addA 2 x5) fun x6 =>
  purK (ld1 ρ H x6) fun x7 =>
  resK (call lim 47 [x7, x0] H) fun x9 H =>
  purK (binA Tryz.prog H .eql 22 x9 (.int .u64 0)) fun x10 =>
  retK [x10] H
theorem G84 (ρ : Addr → Option Value) (call : CallF) (yc : YieldF) (lim k : Nat) (x0 x1 : AV) (H : Heap) :
    evL (cx ρ) call yc false 84 lim k c84 [x0, x1, (.tup []), (.tup []), (.tup []), (.tup []), (.tup []), (.tup []), (.tup []), (.tup []), (.tup [])] H (kk none (fun s H => retK (([3] : List Nat).map fun t => s.getD t (.tup [])) H) [] retK [3]) = L84 ρ call yc lim k x0 x1 H := by
  kernel_rfl
theorem E84 (ρ : Addr → Option Value) (k lim : Nat) (x0 x1 : AV) (H : Heap) : evCall (cx ρ) (k + 1) lim 84 [x0, x1] H = L84 ρ (evCall (cx ρ) k) (evCY (cx ρ) k).2 lim k x0 x1 H := by
  rw [evCall_body (cx ρ) k lim 84 _ H Tryz.f84 c84 [3] (by kernel_rfl) (by kernel_rfl) (by kernel_rfl) (by kernel_rfl) (by kernel_rfl)]
  exact G84 ρ (evCall (cx ρ) k) (evCY (cx ρ) k).2 lim k x0 x1 H
-- haycroft/field.Right
noncomputable def c88 : Code := Code.of Tryz.prog 88
noncomputable def L88 (ρ : Addr → Option Value) (call : CallF) (yc : YieldF) (lim k : Nat) (x0 x1 : AV) (H : Heap) : Res :=
  purK (binA Tryz.prog H .geq 3 x0 (.int .i64 0)) fun x6 =>
  purK (gPur (wantV x6 true) (some x0)) fun x8 =>
  purK (gPur (wantV x6 true) (binA Tryz.prog H .lss 3 x8 (.int .i64 64))) fun x9 =>
  purK (pickA x6 x9 (.bool false)) fun x10 =>
  purK (gPur (wantV x10 true) (some x1)) fun x12 =>
  purK (gPur (wantV x10 true) (binA Tryz.prog H .geq 3 x12 (.int .i64 1))) fun x13 =>
  purK (pickA x10 x13 (.bool false)) fun x14 =>
  purK (gPur (wantV x14 true) (some x1)) fun x16 =>
  purK (gPur (wantV x14 true) (some x0)) fun x17 =>
  purK (gPur (wantV x14 true) (binA Tryz.prog H .sub 3 (.int .i64 64) x17)) fun x18 =>
  purK (gPur (wantV x14 true) (binA Tryz.prog H .leq 3 x16 x18)) fun x19 =>
  purK (pickA x14 x19 (.bool false)) fun x20 =>
  retK [x20] H
theorem G88 (ρ : Addr → Option Value) (call : CallF) (yc : YieldF) (lim k : Nat) (x0 x1 : AV) (H : Heap) :
    evL (cx ρ) call yc false 88 lim k c88 [x0, x1, (.tup []), (.tup []), (.tup []), (.tup []), (.tup []), (.tup []), (.tup []), (.tup []), (.tup []), (.tup []), (.tup []), (.tup []), (.tup []), (.tup []), (.tup []), (.tup []), (.tup []), (.tup []), (.tup [])] H (kk none (fun s H => retK (([4] : List Nat).map fun t => s.getD t (.tup [])) H) [] retK [4]) = L88 ρ call yc lim k x0 x1 H := by
  kernel_rfl
theorem E88 (ρ : Addr → Option Value) (k lim : Nat) (x0 x1 : AV) (H : Heap) : evCall (cx ρ) (k + 1) lim 88 [x0, x1] H = L88 ρ (evCall (cx ρ) k) (evCY (cx ρ) k).2 lim k x0 x1 H := by
  rw [evCall_body (cx ρ) k lim 88 _ H Tryz.f88 c88 [4] (by kernel_rfl) (by kernel_rfl) (by kernel_rfl) (by kernel_rfl) (by kernel_rfl)]
  exact G88 ρ (evCall (cx ρ) k) (evCY (cx ρ) k).2 lim k x0 x1 H
-- haycroft/field.Most
noncomputable def c89 : Code := Code.of Tryz.prog 89
noncomputable def L89 (ρ : Addr → Option Value) (call : CallF) (yc : YieldF) (lim k : Nat) (x0 : AV) (H : Heap) : Res :=
  purK (binA Tryz.prog H .lss 3 x0 (.int .i64 1)) fun x5 =>
  condK x5
  (
    retK [(.int .u64 0)] H)
  (
    purK (binA Tryz.prog H .geq 3 x0 (.int .i64 64)) fun x8 =>
    condK x8
    (
      retK [(.int .u64 18446744073709551615)] H)
    (
      purK (binA Tryz.prog H .shl 22 (.int .u64 1) x0) fun x10 =>
      purK (binA Tryz.prog H .sub 22 x10 (.int .u64 1)) fun x11 =>
      retK [x11] H))
theorem G89 (ρ : Addr → Option Value) (call : CallF) (yc : YieldF) (lim k : Nat) (x0 : AV) (H : Heap) :
    evL (cx ρ) call yc false 89 lim k c89 [x0, (.tup []), (.tup []), (.tup []), (.tup []), (.tup []), (.tup []), (.tup []), (.tup []), (.tup []), (.tup []), (.tup [])] H (kk none (fun s H => retK (([2] : List Nat).map fun t => s.getD t (.tup [])) H) [] retK [2]) = L89 ρ call yc lim k x0 H := by
  kernel_rfl
theorem E89 (ρ : Addr → Option Value) (k lim : Nat) (x0 : AV) (H : Heap) : evCall (cx ρ) (k + 1) lim 89 [x0] H = L89 ρ (evCall (cx ρ) k) (evCY (cx ρ) k).2 lim k x0 H := by
  rw [evCall_body (cx ρ) k lim 89 _ H Tryz.f89 c89 [2] (by kernel_rfl) (by kernel_rfl) (by kernel_rfl) (by kernel_rfl) (by kernel_rfl)]
  exact G89 ρ (evCall (cx ρ) k) (evCY (cx ρ) k).2 lim k x0 H
-- haycroft/field.Flag
noncomputable def c96 : Code := Code.of Tryz.prog 96
noncomputable def L96 (ρ : Addr → Option Value) (call : CallF) (yc : YieldF) (lim k : Nat) (x0 x1 : AV) (H : Heap) : Res :=
  resK (call lim 50 [x0, x1, (.int .i64 1)] H) fun x7 H =>
  purK (binA Tryz.prog H .eql 22 x7 (.int .u64 1)) fun x8 =>
  retK [x8] H
theorem G96 (ρ : Addr → Option Value) (call : CallF) (yc : YieldF) (lim k : Nat) (x0 x1 : AV) (H : Heap) :
    evL (cx ρ) call yc false 96 lim k c96 [x0, x1, (.tup []), (.tup []), (.tup []), (.tup []), (.tup []), (.tup []), (.tup [])] H (kk none (fun s H => retK (([4] : List Nat).map fun t => s.getD t (.tup [])) H) [] retK [4]) = L96 ρ call yc lim k x0 x1 H := by
  kernel_rfl
theorem E96 (ρ : Addr → Option Value) (k lim : Nat) (x0 x1 : AV) (H : Heap) : evCall (cx ρ) (k + 1) lim 96 [x0, x1] H = L96 ρ (evCall (cx ρ) k) (evCY (cx ρ) k).2 lim k x0 x1 H := by
  rw [evCall_body (cx ρ) k lim 96 _ H Tryz.f96 c96 [4] (by kernel_rfl) (by kernel_rfl) (by kernel_rfl) (by kernel_rfl) (by kernel_rfl)]
  exact G96 ρ (evCall (cx ρ) k) (evCY (cx ρ) k).2 lim k x0 x1 H
-- haycroft/tail.pack
noncomputable def c105 : Code := Code.of Tryz.prog 105
noncomputable def L105 (ρ : Addr → Option Value) (call : CallF) (yc : YieldF) (lim k : Nat) (x0 x1 : AV) (H : Heap) : Res :=
  purK (cvI .u64 x0) fun x6 =>
  purK (binA Tryz.prog H .shl 22 x6 (.int .u64 32)) fun x7 =>
  purK (cvI .u64 x1) fun x9 =>
  purK (binA Tryz.prog H .or 22 x7 x9) fun x10 =>
  retK [x10] H
theorem G105 (ρ : Addr → Option Value) (call : CallF) (yc : YieldF) (lim k : Nat) (x0 x1 : AV) (H : Heap) :
    evL (cx ρ) call yc false 105 lim k c105 [x0, x1, (.tup []), (.tup []), (.tup []), (.tup []), (.tup []), (.tup []), (.tup []), (.tup []), (.tup [])] H (kk none (fun s H => retK (([4] : List Nat).map fun t => s.getD t (.tup [])) H) [] retK [4]) = L105 ρ call yc lim k x0 x1 H := by
  kernel_rfl
theorem E105 (ρ : Addr → Option Value) (k lim : Nat) (x0 x1 : AV) (H : Heap) : evCall (cx ρ) (k + 1) lim 105 [x0, x1] H = L105 ρ (evCall (cx ρ) k) (evCY (cx ρ) k).2 lim k x0 x1 H := by
  rw [evCall_body (cx ρ) k lim 105 _ H Tryz.f105 c105 [4] (by kernel_rfl) (by kernel_rfl) (by kernel_rfl) (by kernel_rfl) (by kernel_rfl)]
  exact G105 ρ (evCall (cx ρ) k) (evCY (cx ρ) k).2 lim k x0 x1 H
-- haycroft/tail.first
noncomputable def c106 : Code := Code.of Tryz.prog 106
noncomputable def L106 (ρ : Addr → Option Value) (call : CallF) (yc : YieldF) (lim k : Nat) (x0 : AV) (H : Heap) : Res :=
  purK (binA Tryz.prog H .eql 3 x0 (.int .i64 0)) fun x4 =>
  condK x4
  (
    retK [(.int .i64 1)] H)
  (
    retK [(.int .i64 0)] H)
theorem G106 (ρ : Addr → Option Value) (call : CallF) (yc : YieldF) (lim k : Nat) (x0 : AV) (H : Heap) :
    evL (cx ρ) call yc false 106 lim k c106 [x0, (.tup []), (.tup []), (.tup []), (.tup [])] H (kk none (fun s H => retK (([2] : List Nat).map fun t => s.getD t (.tup [])) H) [] retK [2]) = L106 ρ call yc lim k x0 H := by
  kernel_rfl
theorem E106 (ρ : Addr → Option Value) (k lim : Nat) (x0 : AV) (H : Heap) : evCall (cx ρ) (k + 1) lim 106 [x0] H = L106 ρ (evCall (cx ρ) k) (evCY (cx ρ) k).2 lim k x0 H := by
  rw [evCall_body (cx ρ) k lim 106 _ H Tryz.f106 c106 [2] (by kernel_rfl) (by kernel_rfl) (by kernel_rfl) (by kernel_rfl) (by kernel_rfl)]
  exact G106 ρ (evCall (cx ρ) k) (evCY (cx ρ) k).2 lim k x0 H
-- (*haycroft/cell.Row).may
noncomputable def c107 : Code := Code.of Tryz.prog 107
noncomputable def L107 (ρ : Addr → Option Value) (call : CallF) (yc : YieldF) (lim k : Nat) (x0 x1 : AV) (H : Heap) : Res :=
  purK (binA Tryz.prog H .eql 100 x0 .nilp) fun x7 =>
  condK x7
  (
    retK [(.int .i64 2)] H)
  (
    resK (call lim 75 [x0, x1] H) fun x11 H =>
    purK (unA .not x11) fun x12 =>
    condK x12
    (
      retK [(.int .i64 1)] H)
    (
      retK [(.int .i64 0)] H))
theorem G107 (ρ : Addr → Option Value) (call : CallF) (yc : YieldF) (lim k : Nat) (x0 x1 : AV) (H : Heap) :
    evL (cx ρ) call yc false 107 lim k c107 [x0, x1, (.tup []), (.tup []), (.tup []), (.tup []), (.tup []), (.tup []), (.tup []), (.tup []), (.tup []), (.tup []), (.tup [])] H (kk none (fun s H => retK (([4] : List Nat).map fun t => s.getD t (.tup [])) H) [] retK [4]) = L107 ρ call yc lim k x0 x1 H := by
  kernel_rfl
theorem E107 (ρ : Addr → Option Value) (k lim : Nat) (x0 x1 : AV) (H : Heap) : evCall (cx ρ) (k + 1) lim 107 [x0, x1] H = L107 ρ (evCall (cx ρ) k) (evCY (cx ρ) k).2 lim k x0 x1 H := by
  rw [evCall_body (cx ρ) k lim 107 _ H Tryz.f107 c107 [4] (by kernel_rfl) (by kernel_rfl) (by kernel_rfl) (by kernel_rfl) (by kernel_rfl)]
  exact G107 ρ (evCall (cx ρ) k) (evCY (cx ρ) k).2 lim k x0 x1 H
-- (*sync/atomic.Uint64).Store
noncomputable def c108 : Code := Code.of Tryz.prog 108
noncomputable def L108 (ρ : Addr → Option Value) (call : CallF) (yc : YieldF) (lim k : Nat) (x0 x1 : AV) (H : Heap) : Res :=
  purK (nilChkA x0) fun x5 =>
  purK (addA 0 x5) fun x6 =>
  resK (call lim 147 [x6, x1] H) fun x8 H =>
  retK [] H
theorem G108 (ρ : Addr → Option Value) (call : CallF) (yc : YieldF) (lim k : Nat) (x0 x1 : AV) (H : Heap) :
    evL (cx ρ) call yc false 108 lim k c108 [x0, x1, (.tup []), (.tup []), (.tup []), (.tup []), (.tup []), (.tup []), (.tup [])] H (kk none (fun s H => retK (([] : List Nat).map fun t => s.getD t (.tup [])) H) [] retK []) = L108 ρ call yc lim k x0 x1 H := by
  kernel_rfl
theorem E108 (ρ : Addr → Option Value) (k lim : Nat) (x0 x1 : AV) (H : Heap) : evCall (cx ρ) (k + 1) lim 108 [x0, x1] H = L108 ρ (evCall (cx ρ) k) (evCY (cx ρ) k).2 lim k x0 x1 H := by
  rw [evCall_body (cx ρ) k lim 108 _ H Tryz.f108 c108 [] (by kernel_rfl) (by kernel_rfl) (by kernel_rfl) (by kernel_rfl) (by kernel_rfl)]
  exact G108 ρ (evCall (cx ρ) k) (evCY (cx ρ) k).2 lim k x0 x1 H
-- (*sync/atomic.Uint64).CompareAndSwap
noncomputable def c109 : Code := Code.of Tryz.prog 109
noncomputable def L109 (ρ : Addr → Option Value) (call : CallF) (yc : YieldF) (lim k : Nat) (x0 x1 x2 : AV) (H : Heap) : Res :=
  purK (nilChkA x0) fun x8 =>
  purK (addA 0 x8) fun x9 =>
  resK (call lim 148 [x9, x1, x2] H) fun x12 H =>
  retK [x12] H
theorem G109 (ρ : Addr → Option Value) (call : CallF) (yc : YieldF) (lim k : Nat) (x0 x1 x2 : AV) (H : Heap) :
    evL (cx ρ) call yc false 109 lim k c109 [x0, x1, x2, (.tup []), (.tup []), (.tup []), (.tup []), (.tup []), (.tup []), (.tup []), (.tup []), (.tup []), (.tup [])] H (kk none (fun s H => retK (([6] : List Nat).map fun t => s.getD t (.tup [])) H) [] retK [6]) = L109 ρ call yc lim k x0 x1 x2 H := by
  kernel_rfl
theorem E109 (ρ : Addr → Option Value) (k lim : Nat) (x0 x1 x2 : AV) (H : Heap) : evCall (cx ρ) (k + 1) lim 109 [x0, x1, x2] H = L109 ρ (evCall (cx ρ) k) (evCY (cx ρ) k).2 lim k x0 x1 x2 H := by
  rw [evCall_body (cx ρ) k lim 109 _ H Tryz.f109 c109 [6] (by kernel_rfl) (by kernel_rfl) (by kernel_rfl) (by kernel_rfl) (by kernel_rfl)]
  exact G109 ρ (evCall (cx ρ) k) (evCY (cx ρ) k).2 lim k x0 x1 x2 H
-- (*sync/atomic.Int64).Add
noncomputable def c110 : Code := Code.of Tryz.prog 110
noncomputable def L110 (ρ : Addr → Option Value) (call : CallF) (yc : YieldF) (lim k : Nat) (x0 x1 : AV) (H : Heap) : Res :=
  purK (nilChkA x0) fun x6 =>
  purK (addA 0 x6) fun x7 =>
  resK (call lim 149 [x7, x1] H) fun x9 H =>
  retK [x9] H
theorem G110 (ρ : Addr → Option Value) (call : CallF) (yc : YieldF) (lim k : Nat) (x0 x1 : AV) (H : Heap) :
    evL (cx ρ) call yc false 110 lim k c110 [x0, x1, (.tup []), (.tup []), (.tup []), (.tup []), (.tup []), (.tup []), (.tup []), (.tup [])] H (kk none (fun s H => retK (([4] : List Nat).map fun t => s.getD t (.tup [])) H) [] retK [4]) = L110 ρ call yc lim k x0 x1 H := by
  kernel_rfl
theorem E110 (ρ : Addr → Option Value) (k lim : Nat) (x0 x1 : AV) (H : Heap) : evCall (cx ρ) (k + 1) lim 110 [x0, x1] H = L110 ρ (evCall (cx ρ) k) (evCY (cx ρ) k).2 lim k x0 x1 H := by
  rw [evCall_body (cx ρ) k lim 110 _ H Tryz.f110 c110 [4] (by kernel_rfl) (by kernel_rfl) (by kernel_rfl) (by kernel_rfl) (by kernel_rfl)]
  exact G110 ρ (evCall (cx ρ) k) (evCY (cx ρ) k).2 lim k x0 x1 H
-- (*haycroft/cell.Row).within
noncomputable def c111 : Code := Code.of Tryz.prog 111
noncomputable def N111_1 (ρ : Addr → Option Value) (call : CallF) (yc : YieldF) (lim k : Nat) (H : Heap) (R : List AV → Heap → Res) : Res :=
  R [(.int .i64 0)] H
theorem N111_1_eq (ρ : Addr → Option Value) (call : CallF) (yc : YieldF) (lim k : Nat) (H : Heap) (R : List AV → Heap → Res) :
    evL (cx ρ) call yc false 111 lim k (Code.at [1, 1] c111) (sp 25 []) H (kk none (fun s H => R (([6] : List Nat).map fun t => s.getD t (.tup [])) H) [] R [6]) = N111_1 ρ call yc lim k H R := by
  kernel_rfl
noncomputable def N111_2 (ρ : Addr → Option Value) (call : CallF) (yc : YieldF) (lim k : Nat) (x10 : AV) (H : Heap) (kn : Heap → Res) (R : List AV → Heap → Res) : Res :=
  condK x10
  (
    R [(.int .i64 1)] H)
  (
    kn H)
theorem N111_2_eq (ρ : Addr → Option Value) (call : CallF) (yc : YieldF) (lim k : Nat) (x10 : AV) (H : Heap) (kn : KS) (k0 : KS) (R : List AV → Heap → Res) :
    evL (cx ρ) call yc false 111 lim k (Code.at [1, 0, 0, 1, 1, 1] c111) (sp 25 [(10, x10)]) H (kk (some []) kn [(0, (some []), k0)] R [6]) = N111_2 ρ call yc lim k x10 H (fun H => kn (sp 25 []) H) R := by
  kernel_rfl
noncomputable def L111 (ρ : Addr → Option Value) (call : CallF) (yc : YieldF) (lim k : Nat) (x0 x1 x2 : AV) (H : Heap) : Res :=
  purK (binA Tryz.prog H .eql 100 x0 .nilp) fun x9 =>
  condK x9
  (
    retK [(.int .i64 2)] H)
  (
    purK (binA Tryz.prog H .lss 3 x2 (.int .i64 0)) fun x12 =>
    condK x12
    (
      N111_2 ρ call yc lim k x12 H (fun H =>
        N111_1 ρ call yc lim k H retK) retK)
    (
      purK (binA Tryz.prog H .lss 3 x1 (.int .i64 0)) fun x14 =>
      condK x14
      (
        N111_2 ρ call yc lim k x14 H (fun H =>
          N111_1 ρ call yc lim k H retK) retK)
      (
        resK (call lim 74 [x0] H) fun x17 H =>
        purK (binA Tryz.prog H .gtr 3 x2 x17) fun x18 =>
        condK x18
        (
          N111_2 ρ call yc lim k x18 H (fun H =>
            N111_1 ρ call yc lim k H retK) retK)
        (
          resK (call lim 74 [x0] H) fun x21 H =>
          purK (binA Tryz.prog H .sub 3 x21 x2) fun x23 =>
          purK (binA Tryz.prog H .gtr 3 x1 x23) fun x24 =>
          N111_2 ρ call yc lim k x24 H (fun H =>
            N111_1 ρ call yc lim k H retK) retK))))
theorem L111_x (ρ : Addr → Option Value) (call : CallF) (yc : YieldF) (lim k : Nat) (J : CodeF) (x0 x1 x2 : AV) (H : Heap) :
    evX (cx ρ) call yc false 111 lim k J c111 [x0, x1, x2, (.tup []), (.tup []), (.tup []), (.tup []), (.tup []), (.tup []), (.tup []), (.tup []), (.tup []), (.tup []), (.tup []), (.tup []), (.tup []), (.tup []), (.tup []), (.tup []), (.tup []), (.tup []), (.tup []), (.tup []), (.tup []), (.tup [])] H (kk none (fun s H => retK (([6] : List Nat).map fun t => s.getD t (.tup [])) H) [] retK [6]) =
  purK (binA Tryz.prog H .eql 100 x0 .nilp) fun x9 =>
  condK x9
  (
    retK [(.int .i64 2)] H)
  (
    purK (binA Tryz.prog H .lss 3 x2 (.int .i64 0)) fun x12 =>
    condK x12
    (
      J (Code.at [1, 0, 0, 1, 1, 1] c111) (sp 25 [(10, x12)]) H (kk (some []) (fun s H => J (Code.at [1, 1] c111) s H (kk none (fun s H => retK (([6] : List Nat).map fun t => s.getD t (.tup [])) H) [] retK [6])) [(0, (some []), (fun s H => J (Code.at [1, 1] c111) s H (kk none (fun s H => retK (([6] : List Nat).map fun t => s.getD t (.tup [])) H) [] retK [6])))] retK [6]))
    (
      purK (binA Tryz.prog H .lss 3 x1 (.int .i64 0)) fun x14 =>
      condK x14
      (
        J (Code.at [1, 0, 0, 1, 1, 1] c111) (sp 25 [(10, x14)]) H (kk (some []) (fun s H => J (Code.at [1, 1] c111) s H (kk none (fun s H => retK (([6] : List Nat).map fun t => s.getD t (.tup [])) H) [] retK [6])) [(0, (some []), (fun s H => J (Code.at [1, 1] c111) s H (kk none (fun s H => retK (([6] : List Nat).map fun t => s.getD t (.tup [])) H) [] retK [6])))] retK [6]))
      (
        resK (call lim 74 [x0] H) fun x17 H =>
        purK (binA Tryz.prog H .gtr 3 x2 x17) fun x18 =>
        condK x18
        (
          J (Code.at [1, 0, 0, 1, 1, 1] c111) (sp 25 [(10, x18)]) H (kk (some []) (fun s H => J (Code.at [1, 1] c111) s H (kk none (fun s H => retK (([6] : List Nat).map fun t => s.getD t (.tup [])) H) [] retK [6])) [(0, (some []), (fun s H => J (Code.at [1, 1] c111) s H (kk none (fun s H => retK (([6] : List Nat).map fun t => s.getD t (.tup [])) H) [] retK [6])))] retK [6]))
        (
          resK (call lim 74 [x0] H) fun x21 H =>
          purK (binA Tryz.prog H .sub 3 x21 x2) fun x23 =>
          purK (binA Tryz.prog H .gtr 3 x1 x23) fun x24 =>
          J (Code.at [1, 0, 0, 1, 1, 1] c111) (sp 25 [(10, x24)]) H (kk (some []) (fun s H => J (Code.at [1, 1] c111) s H (kk none (fun s H => retK (([6] : List Nat).map fun t => s.getD t (.tup [])) H) [] retK [6])) [(0, (some []), (fun s H => J (Code.at [1, 1] c111) s H (kk none (fun s H => retK (([6] : List Nat).map fun t => s.getD t (.tup [])) H) [] retK [6])))] retK [6]))))) := by
  kernel_rfl
theorem G111 (ρ : Addr → Option Value) (call : CallF) (yc : YieldF) (lim k : Nat) (x0 x1 x2 : AV) (H : Heap) :
    evL (cx ρ) call yc false 111 lim k c111 [x0, x1, x2, (.tup []), (.tup []), (.tup []), (.tup []), (.tup []), (.tup []), (.tup []), (.tup []), (.tup []), (.tup []), (.tup []), (.tup []), (.tup []), (.tup []), (.tup []), (.tup []), (.tup []), (.tup []), (.tup []), (.tup []), (.tup []), (.tup [])] H (kk none (fun s H => retK (([6] : List Nat).map fun t => s.getD t (.tup [])) H) [] retK [6]) = L111 ρ call yc lim k x0 x1 x2 H := by
  rw [evL_X, L111_x]
  simp only [← evL_X, L111, N111_1_eq, N111_2_eq]
theorem E111 (ρ : Addr → Option Value) (k lim : Nat) (x0 x1 x2 : AV) (H : Heap) : evCall (cx ρ) (k + 1) lim 111 [x0, x1, x2] H = L111 ρ (evCall (cx ρ) k) (evCY (cx ρ) k).2 lim k x0 x1 x2 H := by
  rw [evCall_body (cx ρ) k lim 111 _ H Tryz.f111 c111 [6] (by kernel_rfl) (by kernel_rfl) (by kernel_rfl) (by kernel_rfl) (by kernel_rfl)]
  exact G111 ρ (evCall (cx ρ) k) (evCY (cx ρ) k).2 lim k x0 x1 x2 H
-- (*haycroft/index.Index).all
noncomputable def c113 : Code := Code.of Tryz.prog 113
noncomputable def L113 (ρ : Addr → Option Value) (call : CallF) (yc : YieldF) (lim k : Nat) (x0 : AV) (H : Heap) : Res :=
  purK (binA Tryz.prog H .eql 52 x0 .nilp) fun x4 =>
  condK x4
  (
    retK [(.int .i64 0)] H)
  (
    purK (nilChkA x0) fun x6 =>
    purK (addA 0 x6) fun x7 =>
    purK (ld1 ρ H x7) fun x8 =>
    purK (nilChkA x0) fun x10 =>
    purK (addA 1 x10) fun x11 =>
    purK (ld1 ρ H x11) fun x12 =>
    purK (binA Tryz.prog H .add 3 x8 x12) fun x13 =>
    retK [x13] H)
theorem G113 (ρ : Addr → Option Value) (call : CallF) (yc : YieldF) (lim k : Nat) (x0 : AV) (H : Heap) :
    evL (cx ρ) call yc false 113 lim k c113 [x0, (.tup []), (.tup []), (.tup []), (.tup []), (.tup []), (.tup []), (.tup []), (.tup []), (.tup []), (.tup []), (.tup []), (.tup []), (.tup [])] H (kk none (fun s H => retK (([2] : List Nat).map fun t => s.getD t (.tup [])) H) [] retK [2]) = L113 ρ call yc lim k x0 H := by
  kernel_rfl
theorem E113 (ρ : Addr → Option Value) (k lim : Nat) (x0 : AV) (H : Heap) : evCall (cx ρ) (k + 1) lim 113 [x0] H = L113 ρ (evCall (cx ρ) k) (evCY (cx ρ) k).2 lim k x0 H := by
  rw [evCall_body (cx ρ) k lim 113 _ H Tryz.f113 c113 [2] (by kernel_rfl) (by kernel_rfl) (by kernel_rfl) (by kernel_rfl) (by kernel_rfl)]
  exact G113 ρ (evCall (cx ρ) k) (evCY (cx ρ) k).2 lim k x0 H
-- (*haycroft/index.Index).link
noncomputable def c114 : Code := Code.of Tryz.prog 114
noncomputable def L114 (ρ : Addr → Option Value) (call : CallF) (yc : YieldF) (lim k : Nat) (x0 x1 : AV) (H : Heap) : Res :=
  purK (nilChkA x0) fun x8 =>
  purK (addA 2 x8) fun x9 =>
  purK (ld1 ρ H x9) fun x10 =>
  purK (binA Tryz.prog H .mul 3 x1 (.int .i64 8)) fun x12 =>
  purK (binA Tryz.prog H .add 3 x12 (.int .i64 7)) fun x13 =>
  resK (call lim 47 [x10, x13] H) fun x14 H =>
  purK (cvI .i64 x14) fun x16 =>
  purK (binA Tryz.prog H .sub 3 x16 (.int .i64 1)) fun x17 =>
  purK (binA Tryz.prog H .gtr 22 x14 (.int .u64 0)) fun x19 =>
  retK [x17, x19] H
theorem G114 (ρ : Addr → Option Value) (call : CallF) (yc : YieldF) (lim k : Nat) (x0 x1 : AV) (H : Heap) :
    evL (cx ρ) call yc false 114 lim k c114 [x0, x1, (.tup []), (.tup []), (.tup []), (.tup []), (.tup []), (.tup []), (.tup []), (.tup []), (.tup []), (.tup []), (.tup []), (.tup []), (.tup []), (.tup []), (.tup []), (.tup []), (.tup []), (.tup [])] H (kk none (fun s H => retK (([4, 5] : List Nat).map fun t => s.getD t (.tup [])) H) [] retK [4, 5]) = L114 ρ call yc lim k x0 x1 H := by
  kernel_rfl
theorem E114 (ρ : Addr → Option Value) (k lim : Nat) (x0 x1 : AV) (H : Heap) : evCall (cx ρ) (k + 1) lim 114 [x0, x1] H = L114 ρ (evCall (cx ρ) k) (evCY (cx ρ) k).2 lim k x0 x1 H := by
  rw [evCall_body (cx ρ) k lim 114 _ H Tryz.f114 c114 [4, 5] (by kernel_rfl) (by kernel_rfl) (by kernel_rfl) (by kernel_rfl) (by kernel_rfl)]
  exact G114 ρ (evCall (cx ρ) k) (evCY (cx ρ) k).2 lim k x0 x1 H
-- haycroft/entry.Unpack
noncomputable def c115 : Code := Code.of Tryz.prog 115
noncomputable def L115 (ρ : Addr → Option Value) (call : CallF) (yc : YieldF) (lim k : Nat) (x0 : AV) (H : Heap) : Res :=
  effK H (some (.ptr H.sz 0 0, .new (newCells 183 false [.int .u64 0, .int .u64 0, .bool false]))) fun x2 H =>
  resK (call lim 50 [x0, (.int .i64 0), (.int .i64 48)] H) fun x6 H =>
  resK (call lim 50 [x0, (.int .i64 48), (.int .i64 14)] H) fun x8 H =>
  resK (call lim 96 [x0, (.int .i64 62)] H) fun x10 H =>
  purK (bldA [.int .u64 0, .int .u64 0, .bool false] [(0, 1, x6), (1, 1, x8), (2, 1, x10)]) fun x11 =>
  effK H (some (.ptr H.sz 0 0, .new (newCells 183 false [.int .u64 0, .int .u64 0, .bool false]))) fun x4 H =>
  effK H (stA lim H 3 x4 x11) fun _ H =>
  purK (binA Tryz.prog H .eql 22 x0 (.int .u64 0)) fun x14 =>
  condK x14
  (
    purK (bldA [.int .u64 0, .int .u64 0, .bool false] []) fun x15 =>
    effK H (stA lim H 3 x2 x15) fun _ H =>
    (retC (cx ρ) [some 183, none]) [x2, (.int .i64 7)] H)
  (
    resK (call lim 96 [x0, (.int .i64 63)] H) fun x18 H =>
    purK (unA .not x18) fun x19 =>
    purK (gPur (wantV x19 false) (ldN ρ H 3 x4)) fun x21 =>
    resK (gRes (wantV x19 false) H (call lim 150 [x21] H)) fun x22 H =>
    purK (gPur (wantV x19 false) (unA .not x22)) fun x23 =>
    purK (pickA x19 (.bool true) x23) fun x24 =>
    condK x24
    (
      purK (bldA [.int .u64 0, .int .u64 0, .bool false] []) fun x25 =>
      effK H (stA lim H 3 x2 x25) fun _ H =>
      (retC (cx ρ) [some 183, none]) [x2, (.int .i64 4)] H)
    (
      purK (ldN ρ H 3 x4) fun x26 =>
      effK H (stA lim H 3 x2 x26) fun _ H =>
      (retC (cx ρ) [some 183, none]) [x2, (.int .i64 0)] H))
theorem G115 (ρ : Addr → Option Value) (call : CallF) (yc : YieldF) (lim k : Nat) (x0 : AV) (H : Heap) :
    evL (cx ρ) call yc false 115 lim k c115 [x0, (.tup []), (.tup []), (.tup []), (.tup []), (.tup []), (.tup []), (.tup []), (.tup []), (.tup []), (.tup []), (.tup []), (.tup []), (.tup []), (.tup []), (.tup []), (.tup []), (.tup []), (.tup []), (.tup []), (.tup []), (.tup []), (.tup []), (.tup []), (.tup []), (.tup []), (.tup [])] H (kk none (fun s H => (retC (cx ρ) [some 183, none]) (([2, 3] : List Nat).map fun t => s.getD t (.tup [])) H) [] (retC (cx ρ) [some 183, none]) [2, 3]) = L115 ρ call yc lim k x0 H := by
  kernel_rfl
theorem E115 (ρ : Addr → Option Value) (k lim : Nat) (x0 : AV) (H : Heap) : evCall (cx ρ) (k + 1) lim 115 [x0] H = L115 ρ (evCall (cx ρ) k) (evCY (cx ρ) k).2 lim k x0 H := by
  rw [evCall_cells (cx ρ) k lim 115 _ H Tryz.f115 c115 [2, 3] [some 183, none] (by kernel_rfl) (by kernel_rfl) (by kernel_rfl) (by kernel_rfl) (by kernel_rfl) (by kernel_rfl)]
  exact G115 ρ (evCall (cx ρ) k) (evCY (cx ρ) k).2 lim k x0 H
end Go.Proofs.YtahfgahnkacobaaGreat
