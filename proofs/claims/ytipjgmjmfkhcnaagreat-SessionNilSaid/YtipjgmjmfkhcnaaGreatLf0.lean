/- Functions, lifted. Printed by a program of this repo. -/
import Derived.Test.YtipjgmjmfkhcnaaGreatLfTab
set_option linter.unusedVariables false
set_option linter.unusedSimpArgs false
set_option maxRecDepth 100000
set_option maxHeartbeats 4000000
namespace Go.Proofs.YtipjgmjmfkhcnaaGreat
open Go.Ev Go.RowKit
-- haycroft/haycroftlaw22.SessionNil
noncomputable def c3 : Code := Code.of Tryz.prog 3
noncomputable def L3 (ρ : Addr → Option Value) (call : CallF) (yc : YieldF) (lim k : Nat) (x0 x1 : AV) (H : Heap) : Res :=
  effK H (boxA H 24 x0) fun x2 H =>
  resK (call lim 4 [] H) fun x20 H =>
  purK (unA .not x20) fun x21 =>
  condK x21
  (
    retK [(.bool false)] H)
  (
    purK (ldN ρ H 4 x2) fun x24 =>
    resK (call lim 5 [.nilp, x24] H) fun x25 H =>
    purK (extA 0 x25) fun x26 =>
    purK (extA 1 x25) fun x27 =>
    resK (call lim 6 [.nilp] H) fun x30 H =>
    purK (extA 0 x30) fun x31 =>
    purK (extA 1 x30) fun x32 =>
    resK (call lim 7 [.nilp] H) fun x35 H =>
    purK (extA 0 x35) fun x36 =>
    purK (extA 1 x35) fun x37 =>
    resK (call lim 8 [.nilp, x1] H) fun x41 H =>
    purK (extA 0 x41) fun x42 =>
    purK (extA 1 x41) fun x43 =>
    effK H (some (.ptr H.sz 0 0, .new (newCells 32 false [.int .i64 0, .str ByteArray.empty]))) fun x12 H =>
    effK H (stA lim H 2 x12 x42) fun _ H =>
    resK (call lim 9 [.nilp, .nilp, x1] H) fun x46 H =>
    purK (extA 0 x46) fun x47 =>
    purK (extA 1 x46) fun x48 =>
    purK (bldA [.int .i64 0, .int .i64 0, .int .i64 0, .int .i64 0, .int .i64 0, .int .i64 0] [(0, 1, (.int .i64 5)), (1, 1, (.int .i64 2)), (2, 1, (.int .i64 4)), (3, 1, (.int .i64 1)), (5, 1, (.int .i64 8))]) fun x50 =>
    resK (call lim 10 [x50] H) fun x51 H =>
    purK (extA 0 x51) fun x52 =>
    purK (extA 1 x51) fun x53 =>
    purK (unA .not x53) fun x55 =>
    condK x55
    (
      retK [(.bool false)] H)
    (
      purK (nilChkA x52) fun x58 =>
      purK (addA 0 x58) fun x59 =>
      purK (ld1 ρ H x59) fun x60 =>
      purK (nilChkA x52) fun x62 =>
      purK (addA 1 x62) fun x63 =>
      purK (ld1 ρ H x63) fun x64 =>
      resK (call lim 9 [x60, x64, x1] H) fun x66 H =>
      purK (extA 0 x66) fun x67 =>
      purK (extA 1 x66) fun x68 =>
      purK (binA Tryz.prog H .eql 3 x26 (.int .i64 0)) fun x70 =>
      purK (gPur (wantV x70 true) (some x27)) fun x72 =>
      purK (gPur (wantV x70 true) (binA Tryz.prog H .eql 27 x72 (.int .i64 2))) fun x73 =>
      purK (pickA x70 x73 (.bool false)) fun x74 =>
      purK (gPur (wantV x74 true) (some x31)) fun x76 =>
      purK (gPur (wantV x74 true) (binA Tryz.prog H .eql 3 x76 (.int .i64 0))) fun x77 =>
      purK (pickA x74 x77 (.bool false)) fun x78 =>
      purK (gPur (wantV x78 true) (some x32)) fun x80 =>
      purK (gPur (wantV x78 true) (binA Tryz.prog H .eql 27 x80 (.int .i64 2))) fun x81 =>
      purK (pickA x78 x81 (.bool false)) fun x82 =>
      purK (gPur (wantV x82 true) (some x36)) fun x84 =>
      purK (gPur (wantV x82 true) (binA Tryz.prog H .eql 3 x84 (.int .i64 0))) fun x85 =>
      purK (pickA x82 x85 (.bool false)) fun x86 =>
      purK (gPur (wantV x86 true) (some x37)) fun x88 =>
      purK (gPur (wantV x86 true) (binA Tryz.prog H .eql 27 x88 (.int .i64 2))) fun x89 =>
      purK (pickA x86 x89 (.bool false)) fun x90 =>
      purK (gPur (wantV x90 true) (ldN ρ H 2 x12)) fun x92 =>
      purK (gPur (wantV x90 true) (bldA [.int .i64 0, .str ByteArray.empty] [])) fun x93 =>
      purK (gPur (wantV x90 true) (binA Tryz.prog H .eql 32 x92 x93)) fun x94 =>
      purK (pickA x90 x94 (.bool false)) fun x95 =>
      purK (gPur (wantV x95 true) (some x43)) fun x97 =>
      purK (gPur (wantV x95 true) (unA .not x97)) fun x98 =>
      purK (pickA x95 x98 (.bool false)) fun x99 =>
      purK (gPur (wantV x99 true) (some .nilp)) fun x101 =>
      purK (gPur (wantV x99 true) (some x1)) fun x102 =>
      resK (gRes (wantV x99 true) H (call lim 11 [x101, x102] H)) fun x103 H =>
      purK (gPur (wantV x99 true) (binA Tryz.prog H .eql 27 x103 (.int .i64 2))) fun x104 =>
      purK (pickA x99 x104 (.bool false)) fun x105 =>
      purK (gPur (wantV x105 true) (some .nilp)) fun x107 =>
      resK (gRes (wantV x105 true) H (call lim 12 [x107] H)) fun x108 H =>
      purK (gPur (wantV x105 true) (binA Tryz.prog H .eql 3 x108 (.int .i64 0))) fun x109 =>
      purK (pickA x105 x109 (.bool false)) fun x110 =>
      purK (gPur (wantV x110 true) (some .nilp)) fun x112 =>
      resK (gRes (wantV x110 true) H (call lim 13 [x112] H)) fun x113 H =>
      purK (gPur (wantV x110 true) (binA Tryz.prog H .eql 3 x113 (.int .i64 0))) fun x114 =>
      purK (pickA x110 x114 (.bool false)) fun x115 =>
      purK (gPur (wantV x115 true) (some .nilp)) fun x117 =>
      resK (gRes (wantV x115 true) H (call lim 14 [x117] H)) fun x118 H =>
      purK (gPur (wantV x115 true) (lenS x118)) fun x119 =>
      purK (gPur (wantV x115 true) (binA Tryz.prog H .eql 3 x119 (.int .i64 0))) fun x120 =>
      purK (pickA x115 x120 (.bool false)) fun x121 =>
      purK (gPur (wantV x121 true) (some .nilp)) fun x123 =>
      resK (gRes (wantV x121 true) H (call lim 15 [x123] H)) fun x124 H =>
      purK (gPur (wantV x121 true) (unA .not x124)) fun x125 =>
      purK (pickA x121 x125 (.bool false)) fun x126 =>
      purK (gPur (wantV x126 true) (some .nilp)) fun x128 =>
      resK (gRes (wantV x126 true) H (call lim 16 [x128] H)) fun x129 H =>
      purK (gPur (wantV x126 true) (binA Tryz.prog H .eql 3 x129 (.int .i64 0))) fun x130 =>
      purK (pickA x126 x130 (.bool false)) fun x131 =>
      purK (gPur (wantV x131 true) (some x47)) fun x133 =>
      purK (gPur (wantV x131 true) (binA Tryz.prog H .eql 26 x133 .nilp)) fun x134 =>
      purK (pickA x131 x134 (.bool false)) fun x135 =>
      purK (gPur (wantV x135 true) (some x48)) fun x137 =>
      purK (gPur (wantV x135 true) (binA Tryz.prog H .eql 27 x137 (.int .i64 2))) fun x138 =>
      purK (pickA x135 x138 (.bool false)) fun x139 =>
      purK (gPur (wantV x139 true) (some x67)) fun x141 =>
      purK (gPur (wantV x139 true) (binA Tryz.prog H .neq 26 x141 .nilp)) fun x142 =>
      purK (gPur (wantV x139 true) (some x1)) fun x143 =>
      purK (gPur (wantV x139 true) (binA Tryz.prog H .geq 3 x143 (.int .i64 0))) fun x144 =>
      purK (gPur (wantV x139 true) (some x144)) fun x145 =>
      purK (gPur (wantV x145 true) (some x1)) fun x146 =>
      purK (gPur (wantV x145 true) (binA Tryz.prog H .lss 3 x146 (.int .i64 8))) fun x147 =>
      purK (gPur (wantV x139 true) (pickA x145 x147 (.bool false))) fun x148 =>
      purK (gPur (wantV x139 true) (binA Tryz.prog H .eql 4 x142 x148)) fun x149 =>
      purK (pickA x139 x149 (.bool false)) fun x150 =>
      purK (gPur (wantV x150 true) (some x68)) fun x152 =>
      purK (gPur (wantV x150 true) (binA Tryz.prog H .eql 27 x152 (.int .i64 0))) fun x153 =>
      purK (gPur (wantV x150 true) (some x1)) fun x154 =>
      purK (gPur (wantV x150 true) (binA Tryz.prog H .geq 3 x154 (.int .i64 0))) fun x155 =>
      purK (gPur (wantV x150 true) (some x155)) fun x156 =>
      purK (gPur (wantV x156 true) (some x1)) fun x157 =>
      purK (gPur (wantV x156 true) (binA Tryz.prog H .lss 3 x157 (.int .i64 8))) fun x158 =>
      purK (gPur (wantV x150 true) (pickA x156 x158 (.bool false))) fun x159 =>
      purK (gPur (wantV x150 true) (binA Tryz.prog H .eql 4 x153 x159)) fun x160 =>
      purK (pickA x150 x160 (.bool false)) fun x161 =>
      retK [x161] H))
theorem G3 (ρ : Addr → Option Value) (call : CallF) (yc : YieldF) (lim k : Nat) (x0 x1 : AV) (H : Heap) :
    evL (cx ρ) call yc false 3 lim k c3 [x0, x1, (.tup []), (.tup []), (.tup []), (.tup []), (.tup []), (.tup []), (.tup []), (.tup []), (.tup []), (.tup []), (.tup []), (.tup []), (.tup []), (.tup []), (.tup []), (.tup []), (.tup []), (.tup []), (.tup []), (.tup []), (.tup []), (.tup []), (.tup []), (.tup []), (.tup []), (.tup []), (.tup []), (.tup []), (.tup []), (.tup []), (.tup []), (.tup []), (.tup []), (.tup []), (.tup []), (.tup []), (.tup []), (.tup []), (.tup []), (.tup []), (.tup []), (.tup []), (.tup []), (.tup []), (.tup []), (.tup []), (.tup []), (.tup []), (.tup []), (.tup []), (.tup []), (.tup []), (.tup []), (.tup []), (.tup []), (.tup []), (.tup []), (.tup []), (.tup []), (.tup []), (.tup []), (.tup []), (.tup []), (.tup []), (.tup []), (.tup []), (.tup []), (.tup []), (.tup []), (.tup []), (.tup []), (.tup []), (.tup []), (.tup []), (.tup []), (.tup []), (.tup []), (.tup []), (.tup []), (.tup []), (.tup []), (.tup []), (.tup []), (.tup []), (.tup []), (.tup []), (.tup []), (.tup []), (.tup []), (.tup []), (.tup []), (.tup []), (.tup []), (.tup []), (.tup []), (.tup []), (.tup []), (.tup []), (.tup []), (.tup []), (.tup []), (.tup []), (.tup []), (.tup []), (.tup []), (.tup []), (.tup []), (.tup []), (.tup []), (.tup []), (.tup []), (.tup []), (.tup []), (.tup []), (.tup []), (.tup []), (.tup []), (.tup []), (.tup []), (.tup []), (.tup []), (.tup []), (.tup []), (.tup []), (.tup []), (.tup []), (.tup []), (.tup []), (.tup []), (.tup []), (.tup []), (.tup []), (.tup []), (.tup []), (.tup []), (.tup []), (.tup []), (.tup []), (.tup []), (.tup []), (.tup []), (.tup []), (.tup []), (.tup []), (.tup []), (.tup []), (.tup []), (.tup []), (.tup []), (.tup []), (.tup []), (.tup []), (.tup []), (.tup []), (.tup []), (.tup []), (.tup []), (.tup []), (.tup []), (.tup [])] H (kk none (fun s H => retK (([4] : List Nat).map fun t => s.getD t (.tup [])) H) [] retK [4]) = L3 ρ call yc lim k x0 x1 H := by
  kernel_rfl
theorem E3 (ρ : Addr → Option Value) (k lim : Nat) (x0 x1 : AV) (H : Heap) : evCall (cx ρ) (k + 1) lim 3 [x0, x1] H = L3 ρ (evCall (cx ρ) k) (evCY (cx ρ) k).2 lim k x0 x1 H := by
  rw [evCall_body (cx ρ) k lim 3 _ H Tryz.f3 c3 [4] (by kernel_rfl) (by kernel_rfl) (by kernel_rfl) (by kernel_rfl) (by kernel_rfl)]
  exact G3 ρ (evCall (cx ρ) k) (evCY (cx ρ) k).2 lim k x0 x1 H
-- haycroft/haycroftlaw22.awake
noncomputable def c4 : Code := Code.of Tryz.prog 4
noncomputable def L4 (ρ : Addr → Option Value) (call : CallF) (yc : YieldF) (lim k : Nat) (H : Heap) : Res :=
  purK (bldA [.int .i64 0, .int .i64 0, .int .i64 0, .int .i64 0, .int .i64 0, .int .i64 0] [(0, 1, (.int .i64 5)), (1, 1, (.int .i64 2)), (2, 1, (.int .i64 4)), (3, 1, (.int .i64 1)), (5, 1, (.int .i64 1))]) fun x10 =>
  resK (call lim 10 [x10] H) fun x11 H =>
  purK (extA 0 x11) fun x12 =>
  purK (extA 1 x11) fun x13 =>
  purK (unA .not x13) fun x15 =>
  condK x15
  (
    retK [(.bool false)] H)
  (
    purK (nilChkA x12) fun x18 =>
    purK (addA 2 x18) fun x19 =>
    purK (ld1 ρ H x19) fun x20 =>
    purK (ixS 1 x20 (.int .i64 0)) fun x21 =>
    purK (ld1 ρ H x21) fun x22 =>
    purK (bldA [.int .i64 0, .str ByteArray.empty, .str ByteArray.empty, .int .u64 0] [(0, 1, (.int .i64 1)), (1, 1, (.str (ByteArray.mk #[107])))]) fun x23 =>
    resK (call lim 5 [x22, x23] H) fun x24 H =>
    purK (extA 0 x24) fun x25 =>
    purK (extA 1 x24) fun x26 =>
    purK (nilChkA x12) fun x29 =>
    purK (addA 2 x29) fun x30 =>
    purK (ld1 ρ H x30) fun x31 =>
    purK (ixS 1 x31 (.int .i64 0)) fun x32 =>
    purK (ld1 ρ H x32) fun x33 =>
    resK (call lim 6 [x33] H) fun x34 H =>
    purK (extA 0 x34) fun x35 =>
    purK (extA 1 x34) fun x36 =>
    purK (nilChkA x12) fun x39 =>
    purK (addA 2 x39) fun x40 =>
    purK (ld1 ρ H x40) fun x41 =>
    purK (ixS 1 x41 (.int .i64 0)) fun x42 =>
    purK (ld1 ρ H x42) fun x43 =>
    resK (call lim 8 [x43, (.int .i64 1)] H) fun x44 H =>
    purK (extA 0 x44) fun x45 =>
    purK (extA 1 x44) fun x46 =>
    effK H (some (.ptr H.sz 0 0, .new (newCells 32 false [.int .i64 0, .str ByteArray.empty]))) fun x7 H =>
    effK H (stA lim H 2 x7 x45) fun _ H =>
    purK (binA Tryz.prog H .eql 3 x25 (.int .i64 1)) fun x48 =>
    purK (gPur (wantV x48 true) (some x26)) fun x50 =>
    purK (gPur (wantV x48 true) (binA Tryz.prog H .eql 27 x50 (.int .i64 0))) fun x51 =>
    purK (pickA x48 x51 (.bool false)) fun x52 =>
    purK (gPur (wantV x52 true) (some x35)) fun x54 =>
    purK (gPur (wantV x52 true) (binA Tryz.prog H .eql 3 x54 (.int .i64 2))) fun x55 =>
    purK (pickA x52 x55 (.bool false)) fun x56 =>
    purK (gPur (wantV x56 true) (some x36)) fun x58 =>
    purK (gPur (wantV x56 true) (binA Tryz.prog H .eql 27 x58 (.int .i64 0))) fun x59 =>
    purK (pickA x56 x59 (.bool false)) fun x60 =>
    purK (gPur (wantV x60 true) (addA 0 x7)) fun x62 =>
    purK (gPur (wantV x60 true) (ld1 ρ H x62)) fun x63 =>
    purK (gPur (wantV x60 true) (binA Tryz.prog H .eql 27 x63 (.int .i64 7))) fun x64 =>
    purK (pickA x60 x64 (.bool false)) fun x65 =>
    purK (gPur (wantV x65 true) (some x46)) fun x67 =>
    purK (pickA x65 x67 (.bool false)) fun x68 =>
    retK [x68] H)
theorem G4 (ρ : Addr → Option Value) (call : CallF) (yc : YieldF) (lim k : Nat) (H : Heap) :
    evL (cx ρ) call yc false 4 lim k c4 [(.tup []), (.tup []), (.tup []), (.tup []), (.tup []), (.tup []), (.tup []), (.tup []), (.tup []), (.tup []), (.tup []), (.tup []), (.tup []), (.tup []), (.tup []), (.tup []), (.tup []), (.tup []), (.tup []), (.tup []), (.tup []), (.tup []), (.tup []), (.tup []), (.tup []), (.tup []), (.tup []), (.tup []), (.tup []), (.tup []), (.tup []), (.tup []), (.tup []), (.tup []), (.tup []), (.tup []), (.tup []), (.tup []), (.tup []), (.tup []), (.tup []), (.tup []), (.tup []), (.tup []), (.tup []), (.tup []), (.tup []), (.tup []), (.tup []), (.tup []), (.tup []), (.tup []), (.tup []), (.tup []), (.tup []), (.tup []), (.tup []), (.tup []), (.tup []), (.tup []), (.tup []), (.tup []), (.tup []), (.tup []), (.tup []), (.tup []), (.tup []), (.tup []), (.tup [])] H (kk none (fun s H => retK (([0] : List Nat).map fun t => s.getD t (.tup [])) H) [] retK [0]) = L4 ρ call yc lim k H := by
  kernel_rfl
theorem E4 (ρ : Addr → Option Value) (k lim : Nat) (H : Heap) : evCall (cx ρ) (k + 1) lim 4 [] H = L4 ρ (evCall (cx ρ) k) (evCY (cx ρ) k).2 lim k H := by
  rw [evCall_body (cx ρ) k lim 4 _ H Tryz.f4 c4 [0] (by kernel_rfl) (by kernel_rfl) (by kernel_rfl) (by kernel_rfl) (by kernel_rfl)]
  exact G4 ρ (evCall (cx ρ) k) (evCY (cx ρ) k).2 lim k H
-- (*haycroft/session.Session).Ask
noncomputable def c5 : Code := Code.of Tryz.prog 5
noncomputable def L5 (ρ : Addr → Option Value) (call : CallF) (yc : YieldF) (lim k : Nat) (x0 x1 : AV) (H : Heap) : Res :=
  effK H (boxA H 24 x1) fun x3 H =>
  purK (binA Tryz.prog H .eql 26 x0 .nilp) fun x10 =>
  condK x10
  (
    retK [(.int .i64 0), (.int .i64 2)] H)
  (
    purK (nilChkA x0) fun x13 =>
    purK (addA 5 x13) fun x14 =>
    purK (ld1 ρ H x14) fun x15 =>
    purK (binA Tryz.prog H .neq 52 x15 .nilp) fun x16 =>
    condK x16
    (
      retK [(.int .i64 0), (.int .i64 10)] H)
    (
      purK (nilChkA x0) fun x19 =>
      purK (addA 6 x19) fun x20 =>
      purK (ld1 ρ H x20) fun x21 =>
      purK (lenS x21) fun x22 =>
      purK (binA Tryz.prog H .geq 3 x22 (.int .i64 8)) fun x23 =>
      condK x23
      (
        retK [(.int .i64 0), (.int .i64 9)] H)
      (
        purK (nilChkA x0) fun x26 =>
        purK (addA 0 x26) fun x27 =>
        purK (ld1 ρ H x27) fun x28 =>
        purK (nilChkA x0) fun x30 =>
        purK (addA 1 x30) fun x31 =>
        purK (ld1 ρ H x31) fun x32 =>
        purK (nilChkA x0) fun x34 =>
        purK (addA 2 x34) fun x35 =>
        purK (ld1 ρ H x35) fun x36 =>
        purK (ldN ρ H 4 x3) fun x37 =>
        purK (nilChkA x0) fun x39 =>
        purK (addA 7 x39) fun x40 =>
        purK (ld1 ρ H x40) fun x41 =>
        resK (call lim 17 [x28, x32, x36, x37, x41] H) fun x42 H =>
        purK (extA 0 x42) fun x43 =>
        purK (extA 1 x42) fun x44 =>
        purK (binA Tryz.prog H .neq 27 x44 (.int .i64 0)) fun x47 =>
        condK x47
        (
          retK [(.int .i64 0), x44] H)
        (
          purK (nilChkA x0) fun x51 =>
          purK (addA 3 x51) fun x52 =>
          purK (ld1 ρ H x52) fun x53 =>
          purK (binA Tryz.prog H .geq 3 x53 (.int .i64 1073741824)) fun x54 =>
          condK x54
          (
            retK [(.int .i64 0), (.int .i64 13)] H)
          (
            purK (nilChkA x0) fun x56 =>
            purK (addA 3 x56) fun x57 =>
            purK (ld1 ρ H x57) fun x58 =>
            purK (binA Tryz.prog H .add 3 x58 (.int .i64 1)) fun x59 =>
            purK (nilChkA x0) fun x60 =>
            purK (addA 3 x60) fun x61 =>
            effK H (stA lim H 1 x61 x59) fun _ H =>
            purK (nilChkA x0) fun x63 =>
            purK (addA 4 x63) fun x64 =>
            effK H (stA lim H 1 x64 (.bool true)) fun _ H =>
            purK (nilChkA x0) fun x68 =>
            purK (addA 3 x68) fun x69 =>
            purK (ld1 ρ H x69) fun x70 =>
            purK (bldA [.int .i64 0, .nilp, .int .i64 0] [(0, 1, x70), (1, 1, x43)]) fun x72 =>
            effK H (boxA H 61 x72) fun x73 H =>
            purK (nilChkA x0) fun x74 =>
            purK (addA 5 x74) fun x75 =>
            effK H (stA lim H 1 x75 x73) fun _ H =>
            purK (nilChkA x0) fun x76 =>
            purK (addA 7 x76) fun x77 =>
            effK H (stA lim H 1 x77 (.int .i64 0)) fun _ H =>
            purK (nilChkA x0) fun x79 =>
            purK (addA 3 x79) fun x80 =>
            purK (ld1 ρ H x80) fun x81 =>
            retK [x81, (.int .i64 0)] H)))))
theorem G5 (ρ : Addr → Option Value) (call : CallF) (yc : YieldF) (lim k : Nat) (x0 x1 : AV) (H : Heap) :
    evL (cx ρ) call yc false 5 lim k c5 [x0, x1, (.tup []), (.tup []), (.tup []), (.tup []), (.tup []), (.tup []), (.tup []), (.tup []), (.tup []), (.tup []), (.tup []), (.tup []), (.tup []), (.tup []), (.tup []), (.tup []), (.tup []), (.tup []), (.tup []), (.tup []), (.tup []), (.tup []), (.tup []), (.tup []), (.tup []), (.tup []), (.tup []), (.tup []), (.tup []), (.tup []), (.tup []), (.tup []), (.tup []), (.tup []), (.tup []), (.tup []), (.tup []), (.tup []), (.tup []), (.tup []), (.tup []), (.tup []), (.tup []), (.tup []), (.tup []), (.tup []), (.tup []), (.tup []), (.tup []), (.tup []), (.tup []), (.tup []), (.tup []), (.tup []), (.tup []), (.tup []), (.tup []), (.tup []), (.tup []), (.tup []), (.tup []), (.tup []), (.tup []), (.tup []), (.tup []), (.tup []), (.tup []), (.tup []), (.tup []), (.tup []), (.tup []), (.tup []), (.tup []), (.tup []), (.tup []), (.tup []), (.tup []), (.tup []), (.tup []), (.tup [])] H (kk none (fun s H => retK (([4, 5] : List Nat).map fun t => s.getD t (.tup [])) H) [] retK [4, 5]) = L5 ρ call yc lim k x0 x1 H := by
  kernel_rfl
theorem E5 (ρ : Addr → Option Value) (k lim : Nat) (x0 x1 : AV) (H : Heap) : evCall (cx ρ) (k + 1) lim 5 [x0, x1] H = L5 ρ (evCall (cx ρ) k) (evCY (cx ρ) k).2 lim k x0 x1 H := by
  rw [evCall_body (cx ρ) k lim 5 _ H Tryz.f5 c5 [4, 5] (by kernel_rfl) (by kernel_rfl) (by kernel_rfl) (by kernel_rfl) (by kernel_rfl)]
  exact G5 ρ (evCall (cx ρ) k) (evCY (cx ρ) k).2 lim k x0 x1 H
-- (*haycroft/session.Session).Move
noncomputable def c6 : Code := Code.of Tryz.prog 6
noncomputable def N6_1 (ρ : Addr → Option Value) (call : CallF) (yc : YieldF) (lim k : Nat) (x0 x4 : AV) (H : Heap) (R : List AV → Heap → Res) : Res :=
  purK (nilChkA x4) fun x63_1 =>
  purK (addA 1 x63_1) fun x64_1 =>
  purK (ld1 ρ H x64_1) fun x65_1 =>
  resK (call lim 23 [x65_1] H) fun x66_1 H =>
  purK (extA 0 x66_1) fun x67_1 =>
  purK (extA 1 x66_1) fun x68_1 =>
  purK (nilChkA x4) fun x71_1 =>
  purK (addA 1 x71_1) fun x72_1 =>
  purK (ld1 ρ H x72_1) fun x73_1 =>
  resK (call lim 18 [x73_1] H) fun x74_1 H =>
  purK (extA 0 x74_1) fun x75_1 =>
  purK (extA 1 x74_1) fun x76_1 =>
  purK (binA Tryz.prog H .neq 27 x68_1 (.int .i64 0)) fun x78_1 =>
  purK (gPur (wantV x78_1 false) (some x67_1)) fun x80_1 =>
  purK (gPur (wantV x78_1 false) (binA Tryz.prog H .neq 3 x80_1 (.int .i64 2))) fun x81_1 =>
  purK (gPur (wantV x78_1 false) (some x81_1)) fun x82_1 =>
  purK (gPur (wantV x82_1 true) (some x76_1)) fun x83_1 =>
  purK (gPur (wantV x82_1 true) (unA .not x83_1)) fun x84_1 =>
  purK (gPur (wantV x78_1 false) (pickA x82_1 x84_1 (.bool false))) fun x85_1 =>
  purK (pickA x78_1 (.bool true) x85_1) fun x86_1 =>
  condK x86_1
  (
    R [x67_1, x68_1] H)
  (
    purK (nilChkA x0) fun x90_1 =>
    purK (addA 0 x90_1) fun x91_1 =>
    purK (ld1 ρ H x91_1) fun x92_1 =>
    purK (nilChkA x0) fun x95_1 =>
    purK (addA 2 x95_1) fun x96_1 =>
    purK (ld1 ρ H x96_1) fun x97_1 =>
    resK (call lim 20 [x92_1] H) fun x93_1 H => bif (agn (ld1 ρ H x96_1) x97_1 && true) then
      resK (call lim 24 [x93_1, x97_1] H) fun x98_1 H =>
      purK (nilChkA x0) fun x100_1 =>
      purK (addA 0 x100_1) fun x101_1 =>
      purK (ld1 ρ H x101_1) fun x102_1 =>
      resK (call lim 25 [x102_1] H) fun x103_1 H =>
      resK (call lim 19 [x0, x4] H) fun x106_1 H =>
      R [x106_1, (.int .i64 0)] H
    else none)
theorem N6_1_eq (ρ : Addr → Option Value) (call : CallF) (yc : YieldF) (lim k : Nat) (x0 x4 : AV) (H : Heap) (R : List AV → Heap → Res) :
    evL (cx ρ) call yc false 6 lim k (Code.at [1, 1, 1, 1, 1] c6) (sp 107 [(0, x0), (4, x4)]) H (kk none (fun s H => R (([2, 3] : List Nat).map fun t => s.getD t (.tup [])) H) [] R [2, 3]) = N6_1 ρ call yc lim k x0 x4 H R := by
  kernel_rfl
noncomputable def L6 (ρ : Addr → Option Value) (call : CallF) (yc : YieldF) (lim k : Nat) (x0 : AV) (H : Heap) : Res :=
  purK (binA Tryz.prog H .eql 26 x0 .nilp) fun x14 =>
  condK x14
  (
    retK [(.int .i64 0), (.int .i64 2)] H)
  (
    purK (nilChkA x0) fun x17 =>
    purK (addA 5 x17) fun x18 =>
    purK (ld1 ρ H x18) fun x19 =>
    purK (binA Tryz.prog H .eql 52 x19 .nilp) fun x20 =>
    condK x20
    (
      retK [(.int .i64 0), (.int .i64 7)] H)
    (
      purK (nilChkA x0) fun x22 =>
      purK (addA 5 x22) fun x23 =>
      purK (ld1 ρ H x23) fun x24 =>
      purK (nilChkA x24) fun x27 =>
      purK (addA 1 x27) fun x28 =>
      purK (ld1 ρ H x28) fun x29 =>
      resK (call lim 18 [x29] H) fun x30 H =>
      purK (extA 0 x30) fun x31 =>
      purK (extA 1 x30) fun x32 =>
      condK x32
      (
        resK (call lim 19 [x0, x24] H) fun x36 H =>
        retK [x36, (.int .i64 0)] H)
      (
        purK (nilChkA x0) fun x38 =>
        purK (addA 0 x38) fun x39 =>
        purK (ld1 ρ H x39) fun x40 =>
        purK (nilChkA x0) fun x43 =>
        purK (addA 2 x43) fun x44 =>
        purK (ld1 ρ H x44) fun x45 =>
        resK (call lim 20 [x40] H) fun x41 H => bif (agn (ld1 ρ H x44) x45 && true) then
          resK (call lim 21 [x41, x45] H) fun x46 H =>
          purK (binA Tryz.prog H .eql 22 x46 (.int .u64 0)) fun x47 =>
          condK x47
          (
            purK (nilChkA x0) fun x49 =>
            purK (addA 0 x49) fun x50 =>
            purK (ld1 ρ H x50) fun x51 =>
            purK (nilChkA x0) fun x54 =>
            purK (addA 2 x54) fun x55 =>
            purK (ld1 ρ H x55) fun x56 =>
            resK (call lim 20 [x51] H) fun x52 H => bif (agn (ld1 ρ H x55) x56 && true) then
              resK (call lim 22 [x52, x56] H) fun x57 H =>
              purK (binA Tryz.prog H .neq 27 x57 (.int .i64 0)) fun x59 =>
              condK x59
              (
                retK [(.int .i64 0), x57] H)
              (
                N6_1 ρ call yc lim k x0 x24 H retK)
            else none)
          (
            N6_1 ρ call yc lim k x0 x24 H retK)
        else none)))
theorem L6_x (ρ : Addr → Option Value) (call : CallF) (yc : YieldF) (lim k : Nat) (J : CodeF) (x0 : AV) (H : Heap) :
    evX (cx ρ) call yc false 6 lim k J c6 [x0, (.tup []), (.tup []), (.tup []), (.tup []), (.tup []), (.tup []), (.tup []), (.tup []), (.tup []), (.tup []), (.tup []), (.tup []), (.tup []), (.tup []), (.tup []), (.tup []), (.tup []), (.tup []), (.tup []), (.tup []), (.tup []), (.tup []), (.tup []), (.tup []), (.tup []), (.tup []), (.tup []), (.tup []), (.tup []), (.tup []), (.tup []), (.tup []), (.tup []), (.tup []), (.tup []), (.tup []), (.tup []), (.tup []), (.tup []), (.tup []), (.tup []), (.tup []), (.tup []), (.tup []), (.tup []), (.tup []), (.tup []), (.tup []), (.tup []), (.tup []), (.tup []), (.tup []), (.tup []), (.tup []), (.tup []), (.tup []), (.tup []), (.tup []), (.tup []), (.tup []), (.tup []), (.tup []), (.tup []), (.tup []), (.tup []), (.tup []), (.tup []), (.tup []), (.tup []), (.tup []), (.tup []), (.tup []), (.tup []), (.tup []), (.tup []), (.tup []), (.tup []), (.tup []), (.tup []), (.tup []), (.tup []), (.tup []), (.tup []), (.tup []), (.tup []), (.tup []), (.tup []), (.tup []), (.tup []), (.tup []), (.tup []), (.tup []), (.tup []), (.tup []), (.tup []), (.tup []), (.tup []), (.tup []), (.tup []), (.tup []), (.tup []), (.tup []), (.tup []), (.tup []), (.tup []), (.tup [])] H (kk none (fun s H => retK (([2, 3] : List Nat).map fun t => s.getD t (.tup [])) H) [] retK [2, 3]) =
  purK (binA Tryz.prog H .eql 26 x0 .nilp) fun x14 =>
  condK x14
  (
    retK [(.int .i64 0), (.int .i64 2)] H)
  (
    purK (nilChkA x0) fun x17 =>
    purK (addA 5 x17) fun x18 =>
    purK (ld1 ρ H x18) fun x19 =>
    purK (binA Tryz.prog H .eql 52 x19 .nilp) fun x20 =>
    condK x20
    (
      retK [(.int .i64 0), (.int .i64 7)] H)
    (
      purK (nilChkA x0) fun x22 =>
      purK (addA 5 x22) fun x23 =>
      purK (ld1 ρ H x23) fun x24 =>
      purK (nilChkA x24) fun x27 =>
      purK (addA 1 x27) fun x28 =>
      purK (ld1 ρ H x28) fun x29 =>
      resK (call lim 18 [x29] H) fun x30 H =>
      purK (extA 0 x30) fun x31 =>
      purK (extA 1 x30) fun x32 =>
      condK x32
      (
        resK (call lim 19 [x0, x24] H) fun x36 H =>
        retK [x36, (.int .i64 0)] H)
      (
        purK (nilChkA x0) fun x38 =>
        purK (addA 0 x38) fun x39 =>
        purK (ld1 ρ H x39) fun x40 =>
        purK (nilChkA x0) fun x43 =>
        purK (addA 2 x43) fun x44 =>
        purK (ld1 ρ H x44) fun x45 =>
        resK (call lim 20 [x40] H) fun x41 H => bif (agn (ld1 ρ H x44) x45 && true) then
          resK (call lim 21 [x41, x45] H) fun x46 H =>
          purK (binA Tryz.prog H .eql 22 x46 (.int .u64 0)) fun x47 =>
          condK x47
          (
            purK (nilChkA x0) fun x49 =>
            purK (addA 0 x49) fun x50 =>
            purK (ld1 ρ H x50) fun x51 =>
            purK (nilChkA x0) fun x54 =>
            purK (addA 2 x54) fun x55 =>
            purK (ld1 ρ H x55) fun x56 =>
            resK (call lim 20 [x51] H) fun x52 H => bif (agn (ld1 ρ H x55) x56 && true) then
              resK (call lim 22 [x52, x56] H) fun x57 H =>
              purK (binA Tryz.prog H .neq 27 x57 (.int .i64 0)) fun x59 =>
              condK x59
              (
                retK [(.int .i64 0), x57] H)
              (
                J (Code.at [1, 1, 1, 1, 1] c6) (sp 107 [(0, x0), (4, x24)]) H (kk none (fun s H => retK (([2, 3] : List Nat).map fun t => s.getD t (.tup [])) H) [] retK [2, 3]))
            else none)
          (
            J (Code.at [1, 1, 1, 1, 1] c6) (sp 107 [(0, x0), (4, x24)]) H (kk none (fun s H => retK (([2, 3] : List Nat).map fun t => s.getD t (.tup [])) H) [] retK [2, 3]))
        else none))) := by
  kernel_rfl
theorem G6 (ρ : Addr → Option Value) (call : CallF) (yc : YieldF) (lim k : Nat) (x0 : AV) (H : Heap) :
    evL (cx ρ) call yc false 6 lim k c6 [x0, (.tup []), (.tup []), (.tup []), (.tup []), (.tup []), (.tup []), (.tup []), (.tup []), (.tup []), (.tup []), (.tup []), (.tup []), (.tup []), (.tup []), (.tup []), (.tup []), (.tup []), (.tup []), (.tup []), (.tup []), (.tup []), (.tup []), (.tup []), (.tup []), (.tup []), (.tup []), (.tup []), (.tup []), (.tup []), (.tup []), (.tup []), (.tup []), (.tup []), (.tup []), (.tup []), (.tup []), (.tup []), (.tup []), (.tup []), (.tup []), (.tup []), (.tup []), (.tup []), (.tup []), (.tup []), (.tup []), (.tup []), (.tup []), (.tup []), (.tup []), (.tup []), (.tup []), (.tup []), (.tup []), (.tup []), (.tup []), (.tup []), (.tup []), (.tup []), (.tup []), (.tup []), (.tup []), (.tup []), (.tup []), (.tup []), (.tup []), (.tup []), (.tup []), (.tup []), (.tup []), (.tup []), (.tup []), (.tup []), (.tup []), (.tup []), (.tup []), (.tup []), (.tup []), (.tup []), (.tup []), (.tup []), (.tup []), (.tup []), (.tup []), (.tup []), (.tup []), (.tup []), (.tup []), (.tup []), (.tup []), (.tup []), (.tup []), (.tup []), (.tup []), (.tup []), (.tup []), (.tup []), (.tup []), (.tup []), (.tup []), (.tup []), (.tup []), (.tup []), (.tup []), (.tup []), (.tup [])] H (kk none (fun s H => retK (([2, 3] : List Nat).map fun t => s.getD t (.tup [])) H) [] retK [2, 3]) = L6 ρ call yc lim k x0 H := by
  rw [evL_X, L6_x]
  simp only [← evL_X, L6, N6_1_eq]
theorem E6 (ρ : Addr → Option Value) (k lim : Nat) (x0 : AV) (H : Heap) : evCall (cx ρ) (k + 1) lim 6 [x0] H = L6 ρ (evCall (cx ρ) k) (evCY (cx ρ) k).2 lim k x0 H := by
  rw [evCall_body (cx ρ) k lim 6 _ H Tryz.f6 c6 [2, 3] (by kernel_rfl) (by kernel_rfl) (by kernel_rfl) (by kernel_rfl) (by kernel_rfl)]
  exact G6 ρ (evCall (cx ρ) k) (evCY (cx ρ) k).2 lim k x0 H
-- (*haycroft/session.Session).Resume
noncomputable def c7 : Code := Code.of Tryz.prog 7
noncomputable def N7_1 (ρ : Addr → Option Value) (call : CallF) (yc : YieldF) (lim k : Nat) (H : Heap) (R : List AV → Heap → Res) : Res :=
  R [(.int .i64 0), (.int .i64 7)] H
theorem N7_1_eq (ρ : Addr → Option Value) (call : CallF) (yc : YieldF) (lim k : Nat) (H : Heap) (R : List AV → Heap → Res) :
    evL (cx ρ) call yc false 7 lim k (Code.at [1, 1, 1] c7) (sp 106 []) H (kk none (fun s H => R (([2, 3] : List Nat).map fun t => s.getD t (.tup [])) H) [] R [2, 3]) = N7_1 ρ call yc lim k H R := by
  kernel_rfl
noncomputable def N7_4 (ρ : Addr → Option Value) (call : CallF) (yc : YieldF) (lim k : Nat) (x0 x28 x29 x30 : AV) (H : Heap) (kn : AV → AV → AV → AV → Heap → Res) : Res :=
  purK (binA Tryz.prog H .add 3 x30 (.int .i64 1)) fun x105_1 =>
  kn x0 x28 x29 x105_1 H
theorem N7_4_eq (ρ : Addr → Option Value) (call : CallF) (yc : YieldF) (lim k : Nat) (x0 x28 x29 x30 : AV) (H : Heap) (kn : KS) (k1 : KS) (R : List AV → Heap → Res) :
    evL (cx ρ) call yc false 7 lim k (Code.at [1, 1, 0, 1, 0, 0, 1, 1, 1] c7) (sp 106 [(0, x0), (28, x28), (29, x29), (30, x30)]) H (kk (some [0, 28, 29, 30]) kn [(1, (some []), k1)] R [2, 3]) = N7_4 ρ call yc lim k x0 x28 x29 x30 H (fun x0 x28 x29 x30 H => kn (sp 106 [(0, x0), (28, x28), (29, x29), (30, x30)]) H) := by
  kernel_rfl
noncomputable def N7_5 (ρ : Addr → Option Value) (call : CallF) (yc : YieldF) (lim k : Nat) (H : Heap) (R : List AV → Heap → Res) : Res :=
  R [(.int .i64 0), (.int .i64 4)] H
theorem N7_5_eq (ρ : Addr → Option Value) (call : CallF) (yc : YieldF) (lim k : Nat) (H : Heap) (kn : KS) (k2 : KS) (k1 : KS) (R : List AV → Heap → Res) :
    evL (cx ρ) call yc false 7 lim k (Code.at [1, 1, 0, 1, 0, 0, 1, 1, 0, 0, 1, 1, 1, 1, 1] c7) (sp 106 []) H (kk (some [0, 28, 29, 30]) kn [(2, (some [0, 28, 29, 30]), k2), (1, (some []), k1)] R [2, 3]) = N7_5 ρ call yc lim k H R := by
  kernel_rfl
noncomputable def N7_3b (ρ : Addr → Option Value) (call : CallF) (yc : YieldF) (lim k : Nat) (x0 x28 x29 x30 : AV) (H : Heap) (kn : AV → AV → AV → AV → Heap → Res) (k1 : Heap → Res) (R : List AV → Heap → Res) : Res :=
  purK (binA Tryz.prog H .lss 3 x30 x29) fun x31_1 =>
  condK x31_1
  (
    purK (ixS 1 x28 x30) fun x33_1 =>
    purK (ld1 ρ H x33_1) fun x34_1 =>
    purK (nilChkA x0) fun x37_1 =>
    purK (addA 0 x37_1) fun x38_1 =>
    purK (ld1 ρ H x38_1) fun x39_1 =>
    purK (nilChkA x34_1) fun x42_1 =>
    purK (addA 2 x42_1) fun x43_1 =>
    purK (ld1 ρ H x43_1) fun x44_1 =>
    resK (call lim 26 [x39_1] H) fun x40_1 H => bif (agn (ld1 ρ H x43_1) x44_1 && true) then
      resK (call lim 28 [x40_1, x44_1] H) fun x45_1 H =>
      purK (extA 0 x45_1) fun x46_1 =>
      purK (extA 1 x45_1) fun x47_1 =>
      purK (binA Tryz.prog H .eql 27 x47_1 (.int .i64 10)) fun x49_1 =>
      condK x49_1
      (
        N7_4 ρ call yc lim k x0 x28 x29 x30 H kn)
      (
        purK (binA Tryz.prog H .eql 27 x47_1 (.int .i64 0)) fun x51_1 =>
        purK (gPur (wantV x51_1 true) (some x0)) fun x53_1 =>
        purK (gPur (wantV x51_1 true) (some x34_1)) fun x54_1 =>
        purK (gPur (wantV x51_1 true) (some x46_1)) fun x55_1 =>
        resK (gRes (wantV x51_1 true) H (call lim 29 [x53_1, x54_1, x55_1] H)) fun x56_1 H =>
        purK (pickA x51_1 x56_1 (.bool false)) fun x57_1 =>
        condK x57_1
        (
          purK (nilChkA x0) fun x60_1 =>
          purK (addA 6 x60_1) fun x61_1 =>
          purK (ld1 ρ H x61_1) fun x62_1 =>
          purK (slS 1 x62_1 none (some x30) (some x30)) fun x65_1 =>
          purK (nilChkA x0) fun x67_1 =>
          purK (addA 6 x67_1) fun x68_1 =>
          purK (ld1 ρ H x68_1) fun x69_1 =>
          purK (binA Tryz.prog H .add 3 x30 (.int .i64 1)) fun x71_1 =>
          purK (slS 1 x69_1 (some x71_1) none none) fun x72_1 =>
          effK H (apA ρ lim H 52 1 8 x65_1 x72_1) fun x73_1 H =>
          purK (nilChkA x0) fun x74_1 =>
          purK (addA 6 x74_1) fun x75_1 =>
          effK H (stA lim H 1 x75_1 x73_1) fun _ H =>
          resK (call lim 19 [x0, x34_1] H) fun x78_1 H =>
          R [x78_1, (.int .i64 0)] H)
        (
          resK (call lim 30 [x0, x34_1] H) fun x81_1 H =>
          purK (unA .not x81_1) fun x82_1 =>
          condK x82_1
          (
            purK (nilChkA x0) fun x85_1 =>
            purK (addA 6 x85_1) fun x86_1 =>
            purK (ld1 ρ H x86_1) fun x87_1 =>
            purK (slS 1 x87_1 none (some x30) (some x30)) fun x90_1 =>
            purK (nilChkA x0) fun x92_1 =>
            purK (addA 6 x92_1) fun x93_1 =>
            purK (ld1 ρ H x93_1) fun x94_1 =>
            purK (binA Tryz.prog H .add 3 x30 (.int .i64 1)) fun x96_1 =>
            purK (slS 1 x94_1 (some x96_1) none none) fun x97_1 =>
            effK H (apA ρ lim H 52 1 8 x90_1 x97_1) fun x98_1 H =>
            purK (nilChkA x0) fun x99_1 =>
            purK (addA 6 x99_1) fun x100_1 =>
            effK H (stA lim H 1 x100_1 x98_1) fun _ H =>
            purK (nilChkA x0) fun x103_1 =>
            purK (addA 5 x103_1) fun x104_1 =>
            effK H (stA lim H 1 x104_1 x34_1) fun _ H =>
            N7_5 ρ call yc lim k H R)
          (
            N7_5 ρ call yc lim k H R)))
    else none)
  (
    k1 H)
theorem N7_3b_x (ρ : Addr → Option Value) (call : CallF) (yc : YieldF) (lim k : Nat) (J : CodeF) (x0 x28 x29 x30 : AV) (H : Heap) (kn : KS) (k1 : KS) (R : List AV → Heap → Res) :
    evX (cx ρ) call yc false 7 lim k J (Code.at [1, 1, 0, 1, 0, 0] c7) (sp 106 [(0, x0), (28, x28), (29, x29), (30, x30)]) H (kk (some [0, 28, 29, 30]) kn [(1, (some []), k1)] R [2, 3]) =
  purK (binA Tryz.prog H .lss 3 x30 x29) fun x31_1 =>
  condK x31_1
  (
    purK (ixS 1 x28 x30) fun x33_1 =>
    purK (ld1 ρ H x33_1) fun x34_1 =>
    purK (nilChkA x0) fun x37_1 =>
    purK (addA 0 x37_1) fun x38_1 =>
    purK (ld1 ρ H x38_1) fun x39_1 =>
    purK (nilChkA x34_1) fun x42_1 =>
    purK (addA 2 x42_1) fun x43_1 =>
    purK (ld1 ρ H x43_1) fun x44_1 =>
    resK (call lim 26 [x39_1] H) fun x40_1 H => bif (agn (ld1 ρ H x43_1) x44_1 && true) then
      resK (call lim 28 [x40_1, x44_1] H) fun x45_1 H =>
      purK (extA 0 x45_1) fun x46_1 =>
      purK (extA 1 x45_1) fun x47_1 =>
      purK (binA Tryz.prog H .eql 27 x47_1 (.int .i64 10)) fun x49_1 =>
      condK x49_1
      (
        J (Code.at [1, 1, 0, 1, 0, 0, 1, 1, 1] c7) (sp 106 [(0, x0), (28, x28), (29, x29), (30, x30)]) H (kk (some [0, 28, 29, 30]) kn [(1, (some []), k1)] R [2, 3]))
      (
        purK (binA Tryz.prog H .eql 27 x47_1 (.int .i64 0)) fun x51_1 =>
        purK (gPur (wantV x51_1 true) (some x0)) fun x53_1 =>
        purK (gPur (wantV x51_1 true) (some x34_1)) fun x54_1 =>
        purK (gPur (wantV x51_1 true) (some x46_1)) fun x55_1 =>
        resK (gRes (wantV x51_1 true) H (call lim 29 [x53_1, x54_1, x55_1] H)) fun x56_1 H =>
        purK (pickA x51_1 x56_1 (.bool false)) fun x57_1 =>
        condK x57_1
        (
          purK (nilChkA x0) fun x60_1 =>
          purK (addA 6 x60_1) fun x61_1 =>
          purK (ld1 ρ H x61_1) fun x62_1 =>
          purK (slS 1 x62_1 none (some x30) (some x30)) fun x65_1 =>
          purK (nilChkA x0) fun x67_1 =>
          purK (addA 6 x67_1) fun x68_1 =>
          purK (ld1 ρ H x68_1) fun x69_1 =>
          purK (binA Tryz.prog H .add 3 x30 (.int .i64 1)) fun x71_1 =>
          purK (slS 1 x69_1 (some x71_1) none none) fun x72_1 =>
          effK H (apA ρ lim H 52 1 8 x65_1 x72_1) fun x73_1 H =>
          purK (nilChkA x0) fun x74_1 =>
          purK (addA 6 x74_1) fun x75_1 =>
          effK H (stA lim H 1 x75_1 x73_1) fun _ H =>
          resK (call lim 19 [x0, x34_1] H) fun x78_1 H =>
          R [x78_1, (.int .i64 0)] H)
        (
          resK (call lim 30 [x0, x34_1] H) fun x81_1 H =>
          purK (unA .not x81_1) fun x82_1 =>
          condK x82_1
          (
            purK (nilChkA x0) fun x85_1 =>
            purK (addA 6 x85_1) fun x86_1 =>
            purK (ld1 ρ H x86_1) fun x87_1 =>
            purK (slS 1 x87_1 none (some x30) (some x30)) fun x90_1 =>
            purK (nilChkA x0) fun x92_1 =>
            purK (addA 6 x92_1) fun x93_1 =>
            purK (ld1 ρ H x93_1) fun x94_1 =>
            purK (binA Tryz.prog H .add 3 x30 (.int .i64 1)) fun x96_1 =>
            purK (slS 1 x94_1 (some x96_1) none none) fun x97_1 =>
            effK H (apA ρ lim H 52 1 8 x90_1 x97_1) fun x98_1 H =>
            purK (nilChkA x0) fun x99_1 =>
            purK (addA 6 x99_1) fun x100_1 =>
            effK H (stA lim H 1 x100_1 x98_1) fun _ H =>
            purK (nilChkA x0) fun x103_1 =>
            purK (addA 5 x103_1) fun x104_1 =>
            effK H (stA lim H 1 x104_1 x34_1) fun _ H =>
            J (Code.at [1, 1, 0, 1, 0, 0, 1, 1, 0, 0, 1, 1, 1, 1, 1] c7) (sp 106 []) H (kk (some [0, 28, 29, 30]) (fun s H => J (Code.at [1, 1, 0, 1, 0, 0, 1, 1, 1] c7) s H (kk (some [0, 28, 29, 30]) kn [(1, (some []), k1)] R [2, 3])) [(2, (some [0, 28, 29, 30]), (fun s H => J (Code.at [1, 1, 0, 1, 0, 0, 1, 1, 1] c7) s H (kk (some [0, 28, 29, 30]) kn [(1, (some []), k1)] R [2, 3]))), (1, (some []), k1)] R [2, 3]))
          (
            J (Code.at [1, 1, 0, 1, 0, 0, 1, 1, 0, 0, 1, 1, 1, 1, 1] c7) (sp 106 []) H (kk (some [0, 28, 29, 30]) (fun s H => J (Code.at [1, 1, 0, 1, 0, 0, 1, 1, 1] c7) s H (kk (some [0, 28, 29, 30]) kn [(1, (some []), k1)] R [2, 3])) [(2, (some [0, 28, 29, 30]), (fun s H => J (Code.at [1, 1, 0, 1, 0, 0, 1, 1, 1] c7) s H (kk (some [0, 28, 29, 30]) kn [(1, (some []), k1)] R [2, 3]))), (1, (some []), k1)] R [2, 3]))))
    else none)
  (
    k1 (sp 106 []) H) := by
  kernel_rfl
theorem N7_3b_eq (ρ : Addr → Option Value) (call : CallF) (yc : YieldF) (lim k : Nat) (x0 x28 x29 x30 : AV) (H : Heap) (kn : KS) (k1 : KS) (R : List AV → Heap → Res) :
    evL (cx ρ) call yc false 7 lim k (Code.at [1, 1, 0, 1, 0, 0] c7) (sp 106 [(0, x0), (28, x28), (29, x29), (30, x30)]) H (kk (some [0, 28, 29, 30]) kn [(1, (some []), k1)] R [2, 3]) = N7_3b ρ call yc lim k x0 x28 x29 x30 H (fun x0 x28 x29 x30 H => kn (sp 106 [(0, x0), (28, x28), (29, x29), (30, x30)]) H) (fun H => k1 (sp 106 []) H) R := by
  rw [evL_X, N7_3b_x]
  simp only [← evL_X, N7_3b, N7_4_eq, N7_5_eq]
noncomputable def N7_3 (ρ : Addr → Option Value) (call : CallF) (yc : YieldF) (lim k : Nat) (x0 x28 x29 x30 : AV) (H : Heap) (k1 : Heap → Res) (R : List AV → Heap → Res) : Res :=
  loopL (fun (x : AV) H kn => N7_3b ρ call yc lim k x0 x28 x29 x H (fun _ _ _ x30 H => kn x30 H) k1 R) k x30 H
theorem N7_3_eq (ρ : Addr → Option Value) (call : CallF) (yc : YieldF) (lim k : Nat) (x0 x28 x29 x30 : AV) (H : Heap) (kn : KS) (k1 : KS) (R : List AV → Heap → Res) :
    evL (cx ρ) call yc false 7 lim k (Code.at [1, 1, 0, 1, 0] c7) (sp 106 [(0, x0), (28, x28), (29, x29), (30, x30)]) H (kk (some []) kn [(1, (some []), k1)] R [2, 3]) = N7_3 ρ call yc lim k x0 x28 x29 x30 H (fun H => k1 (sp 106 []) H) R := by
  have e : Code.at [1, 1, 0, 1, 0] c7 = .loop (Code.at [1, 1, 0, 1, 0, 0] c7) := by kernel_rfl
  rw [e]
  unfold N7_3
  exact loop_node [0, 28, 29, 30] (fun x : AV => (sp 106 [(0, x0), (28, x28), (29, x29), (30, (x))])) (fun (x : AV) H kn => N7_3b ρ call yc lim k x0 x28 x29 x H (fun _ _ _ x30 H => kn x30 H) (fun H => k1 (sp 106 []) H) R) (by kernel_rfl) (fun x => by kernel_rfl) (fun x H kn => N7_3b_eq ρ call yc lim k x0 x28 x29 (x) H kn k1 R) x30 (sp 106 [(0, x0), (28, x28), (29, x29), (30, x30)]) H (by kernel_rfl)
noncomputable def N7_2 (ρ : Addr → Option Value) (call : CallF) (yc : YieldF) (lim k : Nat) (x0 x28 x29 x30 : AV) (H : Heap) (kn : Heap → Res) (R : List AV → Heap → Res) : Res :=
  N7_3 ρ call yc lim k x0 x28 x29 x30 H kn R
theorem N7_2_x (ρ : Addr → Option Value) (call : CallF) (yc : YieldF) (lim k : Nat) (J : CodeF) (x0 x28 x29 x30 : AV) (H : Heap) (kn : KS) (R : List AV → Heap → Res) :
    evX (cx ρ) call yc false 7 lim k J (Code.at [1, 1, 0, 1] c7) (sp 106 [(0, x0), (28, x28), (29, x29), (30, x30)]) H (kk (some []) kn [] R [2, 3]) =
  J (Code.at [1, 1, 0, 1, 0] c7) (sp 106 [(0, x0), (28, x28), (29, x29), (30, x30)]) H (kk (some []) kn [(1, (some []), kn)] R [2, 3]) := by
  kernel_rfl
theorem N7_2_eq (ρ : Addr → Option Value) (call : CallF) (yc : YieldF) (lim k : Nat) (x0 x28 x29 x30 : AV) (H : Heap) (kn : KS) (R : List AV → Heap → Res) :
    evL (cx ρ) call yc false 7 lim k (Code.at [1, 1, 0, 1] c7) (sp 106 [(0, x0), (28, x28), (29, x29), (30, x30)]) H (kk (some []) kn [] R [2, 3]) = N7_2 ρ call yc lim k x0 x28 x29 x30 H (fun H => kn (sp 106 []) H) R := by
  rw [evL_X, N7_2_x]
  simp only [← evL_X, N7_2, N7_3_eq]
noncomputable def L7 (ρ : Addr → Option Value) (call : CallF) (yc : YieldF) (lim k : Nat) (x0 : AV) (H : Heap) : Res :=
  purK (binA Tryz.prog H .eql 26 x0 .nilp) fun x10 =>
  condK x10
  (
    retK [(.int .i64 0), (.int .i64 2)] H)
  (
    purK (nilChkA x0) fun x13 =>
    purK (addA 5 x13) fun x14 =>
    purK (ld1 ρ H x14) fun x15 =>
    purK (binA Tryz.prog H .neq 52 x15 .nilp) fun x16 =>
    condK x16
    (
      retK [(.int .i64 0), (.int .i64 10)] H)
    (
      purK (nilChkA x0) fun x19 =>
      purK (addA 0 x19) fun x20 =>
      purK (ld1 ρ H x20) fun x21 =>
      resK (call lim 26 [x21] H) fun x22 H =>
      resK (call lim 27 [x22] H) fun x23 H =>
      purK (unA .not x23) fun x24 =>
      condK x24
      (
        retK [(.int .i64 0), (.int .i64 6)] H)
      (
        purK (nilChkA x0) fun x26 =>
        purK (addA 6 x26) fun x27 =>
        purK (ld1 ρ H x27) fun x28 =>
        purK (lenS x28) fun x29 =>
        N7_2 ρ call yc lim k x0 x28 x29 (.int .i64 0) H (fun H =>
          N7_1 ρ call yc lim k H retK) retK)))
theorem L7_x (ρ : Addr → Option Value) (call : CallF) (yc : YieldF) (lim k : Nat) (J : CodeF) (x0 : AV) (H : Heap) :
    evX (cx ρ) call yc false 7 lim k J c7 [x0, (.tup []), (.tup []), (.tup []), (.tup []), (.tup []), (.tup []), (.tup []), (.tup []), (.tup []), (.tup []), (.tup []), (.tup []), (.tup []), (.tup []), (.tup []), (.tup []), (.tup []), (.tup []), (.tup []), (.tup []), (.tup []), (.tup []), (.tup []), (.tup []), (.tup []), (.tup []), (.tup []), (.tup []), (.tup []), (.tup []), (.tup []), (.tup []), (.tup []), (.tup []), (.tup []), (.tup []), (.tup []), (.tup []), (.tup []), (.tup []), (.tup []), (.tup []), (.tup []), (.tup []), (.tup []), (.tup []), (.tup []), (.tup []), (.tup []), (.tup []), (.tup []), (.tup []), (.tup []), (.tup []), (.tup []), (.tup []), (.tup []), (.tup []), (.tup []), (.tup []), (.tup []), (.tup []), (.tup []), (.tup []), (.tup []), (.tup []), (.tup []), (.tup []), (.tup []), (.tup []), (.tup []), (.tup []), (.tup []), (.tup []), (.tup []), (.tup []), (.tup []), (.tup []), (.tup []), (.tup []), (.tup []), (.tup []), (.tup []), (.tup []), (.tup []), (.tup []), (.tup []), (.tup []), (.tup []), (.tup []), (.tup []), (.tup []), (.tup []), (.tup []), (.tup []), (.tup []), (.tup []), (.tup []), (.tup []), (.tup []), (.tup []), (.tup []), (.tup []), (.tup []), (.tup [])] H (kk none (fun s H => retK (([2, 3] : List Nat).map fun t => s.getD t (.tup [])) H) [] retK [2, 3]) =
  purK (binA Tryz.prog H .eql 26 x0 .nilp) fun x10 =>
  condK x10
  (
    retK [(.int .i64 0), (.int .i64 2)] H)
  (
    purK (nilChkA x0) fun x13 =>
    purK (addA 5 x13) fun x14 =>
    purK (ld1 ρ H x14) fun x15 =>
    purK (binA Tryz.prog H .neq 52 x15 .nilp) fun x16 =>
    condK x16
    (
      retK [(.int .i64 0), (.int .i64 10)] H)
    (
      purK (nilChkA x0) fun x19 =>
      purK (addA 0 x19) fun x20 =>
      purK (ld1 ρ H x20) fun x21 =>
      resK (call lim 26 [x21] H) fun x22 H =>
      resK (call lim 27 [x22] H) fun x23 H =>
      purK (unA .not x23) fun x24 =>
      condK x24
      (
        retK [(.int .i64 0), (.int .i64 6)] H)
      (
        purK (nilChkA x0) fun x26 =>
        purK (addA 6 x26) fun x27 =>
        purK (ld1 ρ H x27) fun x28 =>
        purK (lenS x28) fun x29 =>
        J (Code.at [1, 1, 0, 1] c7) (sp 106 [(0, x0), (28, x28), (29, x29), (30, (.int .i64 0))]) H (kk (some []) (fun s H => J (Code.at [1, 1, 1] c7) s H (kk none (fun s H => retK (([2, 3] : List Nat).map fun t => s.getD t (.tup [])) H) [] retK [2, 3])) [] retK [2, 3])))) := by
  kernel_rfl
theorem G7 (ρ : Addr → Option Value) (call : CallF) (yc : YieldF) (lim k : Nat) (x0 : AV) (H : Heap) :
    evL (cx ρ) call yc false 7 lim k c7 [x0, (.tup []), (.tup []), (.tup []), (.tup []), (.tup []), (.tup []), (.tup []), (.tup []), (.tup []), (.tup []), (.tup []), (.tup []), (.tup []), (.tup []), (.tup []), (.tup []), (.tup []), (.tup []), (.tup []), (.tup []), (.tup []), (.tup []), (.tup []), (.tup []), (.tup []), (.tup []), (.tup []), (.tup []), (.tup []), (.tup []), (.tup []), (.tup []), (.tup []), (.tup []), (.tup []), (.tup []), (.tup []), (.tup []), (.tup []), (.tup []), (.tup []), (.tup []), (.tup []), (.tup []), (.tup []), (.tup []), (.tup []), (.tup []), (.tup []), (.tup []), (.tup []), (.tup []), (.tup []), (.tup []), (.tup []), (.tup []), (.tup []), (.tup []), (.tup []), (.tup []), (.tup []), (.tup []), (.tup []), (.tup []), (.tup []), (.tup []), (.tup []), (.tup []), (.tup []), (.tup []), (.tup []), (.tup []), (.tup []), (.tup []), (.tup []), (.tup []), (.tup []), (.tup []), (.tup []), (.tup []), (.tup []), (.tup []), (.tup []), (.tup []), (.tup []), (.tup []), (.tup []), (.tup []), (.tup []), (.tup []), (.tup []), (.tup []), (.tup []), (.tup []), (.tup []), (.tup []), (.tup []), (.tup []), (.tup []), (.tup []), (.tup []), (.tup []), (.tup []), (.tup []), (.tup [])] H (kk none (fun s H => retK (([2, 3] : List Nat).map fun t => s.getD t (.tup [])) H) [] retK [2, 3]) = L7 ρ call yc lim k x0 H := by
  rw [evL_X, L7_x]
  simp only [← evL_X, L7, N7_1_eq, N7_2_eq]
theorem E7 (ρ : Addr → Option Value) (k lim : Nat) (x0 : AV) (H : Heap) : evCall (cx ρ) (k + 1) lim 7 [x0] H = L7 ρ (evCall (cx ρ) k) (evCY (cx ρ) k).2 lim k x0 H := by
  rw [evCall_body (cx ρ) k lim 7 _ H Tryz.f7 c7 [2, 3] (by kernel_rfl) (by kernel_rfl) (by kernel_rfl) (by kernel_rfl) (by kernel_rfl)]
  exact G7 ρ (evCall (cx ρ) k) (evCY (cx ρ) k).2 lim k x0 H
-- (*haycroft/session.Session).Outcome
noncomputable def c8 : Code := Code.of Tryz.prog 8
noncomputable def L8 (ρ : Addr → Option Value) (call : CallF) (yc : YieldF) (lim k : Nat) (x0 x1 : AV) (H : Heap) : Res :=
  effK H (some (.ptr H.sz 0 0, .new (newCells 32 false [.int .i64 0, .str ByteArray.empty]))) fun x4 H =>
  purK (binA Tryz.prog H .eql 26 x0 .nilp) fun x9 =>
  condK x9
  (
    purK (bldA [.int .i64 0, .str ByteArray.empty] []) fun x10 =>
    effK H (stA lim H 2 x4 x10) fun _ H =>
    (retC (cx ρ) [some 32, none]) [x4, (.bool false)] H)
  (
    purK (nilChkA x0) fun x13 =>
    purK (addA 8 x13) fun x14 =>
    purK (ld1 ρ H x14) fun x15 =>
    purK (lookupA (cx ρ) H 54 x15 x1 true) fun x17 =>
    purK (extA 0 x17) fun x18 =>
    purK (extA 1 x17) fun x19 =>
    effK H (some (.ptr H.sz 0 0, .new (newCells 32 false [.int .i64 0, .str ByteArray.empty]))) fun x6 H =>
    effK H (stA lim H 2 x6 x18) fun _ H =>
    purK (ldN ρ H 2 x6) fun x20 =>
    effK H (stA lim H 2 x4 x20) fun _ H =>
    (retC (cx ρ) [some 32, none]) [x4, x19] H)
theorem G8 (ρ : Addr → Option Value) (call : CallF) (yc : YieldF) (lim k : Nat) (x0 x1 : AV) (H : Heap) :
    evL (cx ρ) call yc false 8 lim k c8 [x0, x1, (.tup []), (.tup []), (.tup []), (.tup []), (.tup []), (.tup []), (.tup []), (.tup []), (.tup []), (.tup []), (.tup []), (.tup []), (.tup []), (.tup []), (.tup []), (.tup []), (.tup []), (.tup []), (.tup []), (.tup [])] H (kk none (fun s H => (retC (cx ρ) [some 32, none]) (([4, 5] : List Nat).map fun t => s.getD t (.tup [])) H) [] (retC (cx ρ) [some 32, none]) [4, 5]) = L8 ρ call yc lim k x0 x1 H := by
  kernel_rfl
theorem E8 (ρ : Addr → Option Value) (k lim : Nat) (x0 x1 : AV) (H : Heap) : evCall (cx ρ) (k + 1) lim 8 [x0, x1] H = L8 ρ (evCall (cx ρ) k) (evCY (cx ρ) k).2 lim k x0 x1 H := by
  rw [evCall_cells (cx ρ) k lim 8 _ H Tryz.f8 c8 [4, 5] [some 32, none] (by kernel_rfl) (by kernel_rfl) (by kernel_rfl) (by kernel_rfl) (by kernel_rfl) (by kernel_rfl)]
  exact G8 ρ (evCall (cx ρ) k) (evCY (cx ρ) k).2 lim k x0 x1 H
-- haycroft/session.New
noncomputable def c9 : Code := Code.of Tryz.prog 9
noncomputable def L9 (ρ : Addr → Option Value) (call : CallF) (yc : YieldF) (lim k : Nat) (x0 x1 x2 : AV) (H : Heap) : Res :=
  purK (binA Tryz.prog H .eql 42 x0 .nilp) fun x10 =>
  purK (gPur (wantV x10 false) (some x1)) fun x12 =>
  purK (gPur (wantV x10 false) (binA Tryz.prog H .eql 43 x12 .nilp)) fun x13 =>
  purK (pickA x10 (.bool true) x13) fun x14 =>
  condK x14
  (
    retK [.nilp, (.int .i64 2)] H)
  (
    purK (binA Tryz.prog H .lss 3 x2 (.int .i64 0)) fun x17 =>
    purK (gPur (wantV x17 false) (some x2)) fun x19 =>
    purK (gPur (wantV x17 false) (binA Tryz.prog H .geq 3 x19 (.int .i64 8))) fun x20 =>
    purK (pickA x17 (.bool true) x20) fun x21 =>
    condK x21
    (
      retK [.nilp, (.int .i64 1)] H)
    (
      effK H (some (makeMapA H)) fun x25 H =>
      purK (bldA [.nilp, .nilp, .int .i64 0, .int .i64 0, .bool false, .nilp, .nils, .int .i64 0, .nilm, .int .i64 0] [(0, 1, x0), (1, 1, x1), (2, 1, x2), (8, 1, x25)]) fun x26 =>
      effK H (boxA H 56 x26) fun x27 H =>
      retK [x27, (.int .i64 0)] H))
theorem G9 (ρ : Addr → Option Value) (call : CallF) (yc : YieldF) (lim k : Nat) (x0 x1 x2 : AV) (H : Heap) :
    evL (cx ρ) call yc false 9 lim k c9 [x0, x1, x2, (.tup []), (.tup []), (.tup []), (.tup []), (.tup []), (.tup []), (.tup []), (.tup []), (.tup []), (.tup []), (.tup []), (.tup []), (.tup []), (.tup []), (.tup []), (.tup []), (.tup []), (.tup []), (.tup []), (.tup []), (.tup []), (.tup []), (.tup []), (.tup []), (.tup [])] H (kk none (fun s H => retK (([6, 7] : List Nat).map fun t => s.getD t (.tup [])) H) [] retK [6, 7]) = L9 ρ call yc lim k x0 x1 x2 H := by
  kernel_rfl
theorem E9 (ρ : Addr → Option Value) (k lim : Nat) (x0 x1 x2 : AV) (H : Heap) : evCall (cx ρ) (k + 1) lim 9 [x0, x1, x2] H = L9 ρ (evCall (cx ρ) k) (evCY (cx ρ) k).2 lim k x0 x1 x2 H := by
  rw [evCall_body (cx ρ) k lim 9 _ H Tryz.f9 c9 [6, 7] (by kernel_rfl) (by kernel_rfl) (by kernel_rfl) (by kernel_rfl) (by kernel_rfl)]
  exact G9 ρ (evCall (cx ρ) k) (evCY (cx ρ) k).2 lim k x0 x1 x2 H
-- haycroft/haycroftlaw22.Open
noncomputable def c10 : Code := Code.of Tryz.prog 10
noncomputable def N10_1 (ρ : Addr → Option Value) (call : CallF) (yc : YieldF) (lim k : Nat) (x8 : AV) (H : Heap) (R : List AV → Heap → Res) : Res :=
  R [x8, (.bool true)] H
theorem N10_1_eq (ρ : Addr → Option Value) (call : CallF) (yc : YieldF) (lim k : Nat) (x8 : AV) (H : Heap) (R : List AV → Heap → Res) :
    evL (cx ρ) call yc false 10 lim k (Code.at [1, 1, 1, 1, 1, 1] c10) (sp 62 [(8, x8)]) H (kk none (fun s H => R (([2, 3] : List Nat).map fun t => s.getD t (.tup [])) H) [] R [2, 3]) = N10_1 ρ call yc lim k x8 H R := by
  kernel_rfl
noncomputable def N10_3b (ρ : Addr → Option Value) (call : CallF) (yc : YieldF) (lim k : Nat) (x1 x4 x6 x8 x9 : AV) (H : Heap) (kn : AV → AV → AV → AV → AV → Heap → Res) (k0 : AV → Heap → Res) (R : List AV → Heap → Res) : Res :=
  purK (addA 5 x1) fun x37_1 =>
  purK (ld1 ρ H x37_1) fun x38_1 =>
  purK (binA Tryz.prog H .lss 3 x9 x38_1) fun x39_1 =>
  condK x39_1
  (
    resK (call lim 9 [x4, x6, x9] H) fun x46_1 H =>
    purK (extA 0 x46_1) fun x47_1 =>
    purK (extA 1 x46_1) fun x48_1 =>
    purK (binA Tryz.prog H .neq 27 x48_1 (.int .i64 0)) fun x50_1 =>
    condK x50_1
    (
      R [.nilp, (.bool false)] H)
    (
      purK (nilChkA x8) fun x53_1 =>
      purK (addA 2 x53_1) fun x54_1 =>
      purK (ld1 ρ H x54_1) fun x55_1 =>
      effK H (bldS H 26 1 [.nilp] 1 [(0, 1, x47_1)]) fun x57_1 H =>
      effK H (apA ρ lim H 26 1 8 x55_1 x57_1) fun x58_1 H =>
      purK (nilChkA x8) fun x59_1 =>
      purK (addA 2 x59_1) fun x60_1 =>
      effK H (stA lim H 1 x60_1 x58_1) fun _ H =>
      purK (binA Tryz.prog H .add 3 x9 (.int .i64 1)) fun x41_1 =>
      kn x1 x4 x6 x8 x41_1 H))
  (
    k0 x8 H)
theorem N10_3b_eq (ρ : Addr → Option Value) (call : CallF) (yc : YieldF) (lim k : Nat) (x1 x4 x6 x8 x9 : AV) (H : Heap) (kn : KS) (k0 : KS) (R : List AV → Heap → Res) :
    evL (cx ρ) call yc false 10 lim k (Code.at [1, 1, 1, 1, 1, 0, 1, 0, 0] c10) (sp 62 [(1, x1), (4, x4), (6, x6), (8, x8), (9, x9)]) H (kk (some [1, 4, 6, 8, 9]) kn [(0, (some [8]), k0)] R [2, 3]) = N10_3b ρ call yc lim k x1 x4 x6 x8 x9 H (fun x1 x4 x6 x8 x9 H => kn (sp 62 [(1, x1), (4, x4), (6, x6), (8, x8), (9, x9)]) H) (fun x8 H => k0 (sp 62 [(8, x8)]) H) R := by
  kernel_rfl
noncomputable def N10_3 (ρ : Addr → Option Value) (call : CallF) (yc : YieldF) (lim k : Nat) (x1 x4 x6 x8 x9 : AV) (H : Heap) (k0 : AV → Heap → Res) (R : List AV → Heap → Res) : Res :=
  loopL (fun (x : AV) H kn => N10_3b ρ call yc lim k x1 x4 x6 x8 x H (fun _ _ _ _ x9 H => kn x9 H) k0 R) k x9 H
theorem N10_3_eq (ρ : Addr → Option Value) (call : CallF) (yc : YieldF) (lim k : Nat) (x1 x4 x6 x8 x9 : AV) (H : Heap) (kn : KS) (k0 : KS) (R : List AV → Heap → Res) :
    evL (cx ρ) call yc false 10 lim k (Code.at [1, 1, 1, 1, 1, 0, 1, 0] c10) (sp 62 [(1, x1), (4, x4), (6, x6), (8, x8), (9, x9)]) H (kk (some [8]) kn [(0, (some [8]), k0)] R [2, 3]) = N10_3 ρ call yc lim k x1 x4 x6 x8 x9 H (fun x8 H => k0 (sp 62 [(8, x8)]) H) R := by
  have e : Code.at [1, 1, 1, 1, 1, 0, 1, 0] c10 = .loop (Code.at [1, 1, 1, 1, 1, 0, 1, 0, 0] c10) := by kernel_rfl
  rw [e]
  unfold N10_3
  exact loop_node [1, 4, 6, 8, 9] (fun x : AV => (sp 62 [(1, x1), (4, x4), (6, x6), (8, x8), (9, (x))])) (fun (x : AV) H kn => N10_3b ρ call yc lim k x1 x4 x6 x8 x H (fun _ _ _ _ x9 H => kn x9 H) (fun x8 H => k0 (sp 62 [(8, x8)]) H) R) (by kernel_rfl) (fun x => by kernel_rfl) (fun x H kn => N10_3b_eq ρ call yc lim k x1 x4 x6 x8 (x) H kn k0 R) x9 (sp 62 [(1, x1), (4, x4), (6, x6), (8, x8), (9, x9)]) H (by kernel_rfl)
noncomputable def N10_2 (ρ : Addr → Option Value) (call : CallF) (yc : YieldF) (lim k : Nat) (x1 x4 x6 x8 x9 : AV) (H : Heap) (kn : AV → Heap → Res) (R : List AV → Heap → Res) : Res :=
  N10_3 ρ call yc lim k x1 x4 x6 x8 x9 H kn R
theorem N10_2_x (ρ : Addr → Option Value) (call : CallF) (yc : YieldF) (lim k : Nat) (J : CodeF) (x1 x4 x6 x8 x9 : AV) (H : Heap) (kn : KS) (R : List AV → Heap → Res) :
    evX (cx ρ) call yc false 10 lim k J (Code.at [1, 1, 1, 1, 1, 0, 1] c10) (sp 62 [(1, x1), (4, x4), (6, x6), (8, x8), (9, x9)]) H (kk (some [8]) kn [] R [2, 3]) =
  J (Code.at [1, 1, 1, 1, 1, 0, 1, 0] c10) (sp 62 [(1, x1), (4, x4), (6, x6), (8, x8), (9, x9)]) H (kk (some [8]) kn [(0, (some [8]), kn)] R [2, 3]) := by
  kernel_rfl
theorem N10_2_eq (ρ : Addr → Option Value) (call : CallF) (yc : YieldF) (lim k : Nat) (x1 x4 x6 x8 x9 : AV) (H : Heap) (kn : KS) (R : List AV → Heap → Res) :
    evL (cx ρ) call yc false 10 lim k (Code.at [1, 1, 1, 1, 1, 0, 1] c10) (sp 62 [(1, x1), (4, x4), (6, x6), (8, x8), (9, x9)]) H (kk (some [8]) kn [] R [2, 3]) = N10_2 ρ call yc lim k x1 x4 x6 x8 x9 H (fun x8 H => kn (sp 62 [(8, x8)]) H) R := by
  rw [evL_X, N10_2_x]
  simp only [← evL_X, N10_2, N10_3_eq]
noncomputable def L10 (ρ : Addr → Option Value) (call : CallF) (yc : YieldF) (lim k : Nat) (x0 : AV) (H : Heap) : Res :=
  effK H (boxA H 41 x0) fun x1 H =>
  purK (ldN ρ H 6 x1) fun x13 =>
  resK (call lim 32 [] H) fun x14 H => bif (agn (ldN ρ H 6 x1) x13 && true) then
    resK (call lim 31 [x13, x14] H) fun x15 H =>
    purK (extA 0 x15) fun x16 =>
    purK (extA 1 x15) fun x17 =>
    purK (addA 3 x1) fun x19 =>
    purK (ld1 ρ H x19) fun x20 =>
    purK (addA 4 x1) fun x21 =>
    purK (ld1 ρ H x21) fun x22 =>
    resK (call lim 33 [x20, x22] H) fun x23 H =>
    purK (extA 0 x23) fun x24 =>
    purK (extA 1 x23) fun x25 =>
    purK (binA Tryz.prog H .neq 27 x17 (.int .i64 0)) fun x27 =>
    purK (gPur (wantV x27 false) (some x25)) fun x29 =>
    purK (gPur (wantV x27 false) (binA Tryz.prog H .neq 27 x29 (.int .i64 0))) fun x30 =>
    purK (pickA x27 (.bool true) x30) fun x31 =>
    condK x31
    (
      retK [.nilp, (.bool false)] H)
    (
      purK (bldA [.nilp, .nilp, .nils] [(0, 1, x16), (1, 1, x24)]) fun x34 =>
      effK H (boxA H 46 x34) fun x35 H =>
      N10_2 ρ call yc lim k x1 x16 x24 x35 (.int .i64 0) H (fun x8 H =>
        N10_1 ρ call yc lim k x8 H retK) retK)
  else none
theorem L10_x (ρ : Addr → Option Value) (call : CallF) (yc : YieldF) (lim k : Nat) (J : CodeF) (x0 : AV) (H : Heap) :
    evX (cx ρ) call yc false 10 lim k J c10 [x0, (.tup []), (.tup []), (.tup []), (.tup []), (.tup []), (.tup []), (.tup []), (.tup []), (.tup []), (.tup []), (.tup []), (.tup []), (.tup []), (.tup []), (.tup []), (.tup []), (.tup []), (.tup []), (.tup []), (.tup []), (.tup []), (.tup []), (.tup []), (.tup []), (.tup []), (.tup []), (.tup []), (.tup []), (.tup []), (.tup []), (.tup []), (.tup []), (.tup []), (.tup []), (.tup []), (.tup []), (.tup []), (.tup []), (.tup []), (.tup []), (.tup []), (.tup []), (.tup []), (.tup []), (.tup []), (.tup []), (.tup []), (.tup []), (.tup []), (.tup []), (.tup []), (.tup []), (.tup []), (.tup []), (.tup []), (.tup []), (.tup []), (.tup []), (.tup []), (.tup []), (.tup [])] H (kk none (fun s H => retK (([2, 3] : List Nat).map fun t => s.getD t (.tup [])) H) [] retK [2, 3]) =
  effK H (boxA H 41 x0) fun x1 H =>
  purK (ldN ρ H 6 x1) fun x13 =>
  resK (call lim 32 [] H) fun x14 H => bif (agn (ldN ρ H 6 x1) x13 && true) then
    resK (call lim 31 [x13, x14] H) fun x15 H =>
    purK (extA 0 x15) fun x16 =>
    purK (extA 1 x15) fun x17 =>
    purK (addA 3 x1) fun x19 =>
    purK (ld1 ρ H x19) fun x20 =>
    purK (addA 4 x1) fun x21 =>
    purK (ld1 ρ H x21) fun x22 =>
    resK (call lim 33 [x20, x22] H) fun x23 H =>
    purK (extA 0 x23) fun x24 =>
    purK (extA 1 x23) fun x25 =>
    purK (binA Tryz.prog H .neq 27 x17 (.int .i64 0)) fun x27 =>
    purK (gPur (wantV x27 false) (some x25)) fun x29 =>
    purK (gPur (wantV x27 false) (binA Tryz.prog H .neq 27 x29 (.int .i64 0))) fun x30 =>
    purK (pickA x27 (.bool true) x30) fun x31 =>
    condK x31
    (
      retK [.nilp, (.bool false)] H)
    (
      purK (bldA [.nilp, .nilp, .nils] [(0, 1, x16), (1, 1, x24)]) fun x34 =>
      effK H (boxA H 46 x34) fun x35 H =>
      J (Code.at [1, 1, 1, 1, 1, 0, 1] c10) (sp 62 [(1, x1), (4, x16), (6, x24), (8, x35), (9, (.int .i64 0))]) H (kk (some [8]) (fun s H => J (Code.at [1, 1, 1, 1, 1, 1] c10) s H (kk none (fun s H => retK (([2, 3] : List Nat).map fun t => s.getD t (.tup [])) H) [] retK [2, 3])) [] retK [2, 3]))
  else none := by
  kernel_rfl
theorem G10 (ρ : Addr → Option Value) (call : CallF) (yc : YieldF) (lim k : Nat) (x0 : AV) (H : Heap) :
    evL (cx ρ) call yc false 10 lim k c10 [x0, (.tup []), (.tup []), (.tup []), (.tup []), (.tup []), (.tup []), (.tup []), (.tup []), (.tup []), (.tup []), (.tup []), (.tup []), (.tup []), (.tup []), (.tup []), (.tup []), (.tup []), (.tup []), (.tup []), (.tup []), (.tup []), (.tup []), (.tup []), (.tup []), (.tup []), (.tup []), (.tup []), (.tup []), (.tup []), (.tup []), (.tup []), (.tup []), (.tup []), (.tup []), (.tup []), (.tup []), (.tup []), (.tup []), (.tup []), (.tup []), (.tup []), (.tup []), (.tup []), (.tup []), (.tup []), (.tup []), (.tup []), (.tup []), (.tup []), (.tup []), (.tup []), (.tup []), (.tup []), (.tup []), (.tup []), (.tup []), (.tup []), (.tup []), (.tup []), (.tup []), (.tup [])] H (kk none (fun s H => retK (([2, 3] : List Nat).map fun t => s.getD t (.tup [])) H) [] retK [2, 3]) = L10 ρ call yc lim k x0 H := by
  rw [evL_X, L10_x]
  simp only [← evL_X, L10, N10_1_eq, N10_2_eq]
theorem E10 (ρ : Addr → Option Value) (k lim : Nat) (x0 : AV) (H : Heap) : evCall (cx ρ) (k + 1) lim 10 [x0] H = L10 ρ (evCall (cx ρ) k) (evCY (cx ρ) k).2 lim k x0 H := by
  rw [evCall_body (cx ρ) k lim 10 _ H Tryz.f10 c10 [2, 3] (by kernel_rfl) (by kernel_rfl) (by kernel_rfl) (by kernel_rfl) (by kernel_rfl)]
  exact G10 ρ (evCall (cx ρ) k) (evCY (cx ρ) k).2 lim k x0 H
-- (*haycroft/session.Session).Begin
noncomputable def c11 : Code := Code.of Tryz.prog 11
noncomputable def L11 (ρ : Addr → Option Value) (call : CallF) (yc : YieldF) (lim k : Nat) (x0 x1 : AV) (H : Heap) : Res :=
  purK (binA Tryz.prog H .eql 26 x0 .nilp) fun x7 =>
  condK x7
  (
    retK [(.int .i64 2)] H)
  (
    purK (binA Tryz.prog H .lss 3 x1 (.int .i64 0)) fun x10 =>
    purK (gPur (wantV x10 false) (some x1)) fun x12 =>
    purK (gPur (wantV x10 false) (binA Tryz.prog H .gtr 3 x12 (.int .i64 1073741824))) fun x13 =>
    purK (pickA x10 (.bool true) x13) fun x14 =>
    condK x14
    (
      retK [(.int .i64 1)] H)
    (
      purK (nilChkA x0) fun x17 =>
      purK (addA 4 x17) fun x18 =>
      purK (ld1 ρ H x18) fun x19 =>
      condK x19
      (
        retK [(.int .i64 8)] H)
      (
        purK (nilChkA x0) fun x22 =>
        purK (addA 3 x22) fun x23 =>
        effK H (stA lim H 1 x23 x1) fun _ H =>
        retK [(.int .i64 0)] H)))
theorem G11 (ρ : Addr → Option Value) (call : CallF) (yc : YieldF) (lim k : Nat) (x0 x1 : AV) (H : Heap) :
    evL (cx ρ) call yc false 11 lim k c11 [x0, x1, (.tup []), (.tup []), (.tup []), (.tup []), (.tup []), (.tup []), (.tup []), (.tup []), (.tup []), (.tup []), (.tup []), (.tup []), (.tup []), (.tup []), (.tup []), (.tup []), (.tup []), (.tup []), (.tup []), (.tup []), (.tup []), (.tup [])] H (kk none (fun s H => retK (([4] : List Nat).map fun t => s.getD t (.tup [])) H) [] retK [4]) = L11 ρ call yc lim k x0 x1 H := by
  kernel_rfl
theorem E11 (ρ : Addr → Option Value) (k lim : Nat) (x0 x1 : AV) (H : Heap) : evCall (cx ρ) (k + 1) lim 11 [x0, x1] H = L11 ρ (evCall (cx ρ) k) (evCY (cx ρ) k).2 lim k x0 x1 H := by
  rw [evCall_body (cx ρ) k lim 11 _ H Tryz.f11 c11 [4] (by kernel_rfl) (by kernel_rfl) (by kernel_rfl) (by kernel_rfl) (by kernel_rfl)]
  exact G11 ρ (evCall (cx ρ) k) (evCY (cx ρ) k).2 lim k x0 x1 H
-- (*haycroft/session.Session).Serial
noncomputable def c12 : Code := Code.of Tryz.prog 12
noncomputable def L12 (ρ : Addr → Option Value) (call : CallF) (yc : YieldF) (lim k : Nat) (x0 : AV) (H : Heap) : Res :=
  purK (binA Tryz.prog H .eql 26 x0 .nilp) fun x4 =>
  condK x4
  (
    retK [(.int .i64 0)] H)
  (
    purK (nilChkA x0) fun x6 =>
    purK (addA 3 x6) fun x7 =>
    purK (ld1 ρ H x7) fun x8 =>
    retK [x8] H)
theorem G12 (ρ : Addr → Option Value) (call : CallF) (yc : YieldF) (lim k : Nat) (x0 : AV) (H : Heap) :
    evL (cx ρ) call yc false 12 lim k c12 [x0, (.tup []), (.tup []), (.tup []), (.tup []), (.tup []), (.tup []), (.tup []), (.tup [])] H (kk none (fun s H => retK (([2] : List Nat).map fun t => s.getD t (.tup [])) H) [] retK [2]) = L12 ρ call yc lim k x0 H := by
  kernel_rfl
theorem E12 (ρ : Addr → Option Value) (k lim : Nat) (x0 : AV) (H : Heap) : evCall (cx ρ) (k + 1) lim 12 [x0] H = L12 ρ (evCall (cx ρ) k) (evCY (cx ρ) k).2 lim k x0 H := by
  rw [evCall_body (cx ρ) k lim 12 _ H Tryz.f12 c12 [2] (by kernel_rfl) (by kernel_rfl) (by kernel_rfl) (by kernel_rfl) (by kernel_rfl)]
  exact G12 ρ (evCall (cx ρ) k) (evCY (cx ρ) k).2 lim k x0 H
-- (*haycroft/session.Session).Active
noncomputable def c13 : Code := Code.of Tryz.prog 13
noncomputable def L13 (ρ : Addr → Option Value) (call : CallF) (yc : YieldF) (lim k : Nat) (x0 : AV) (H : Heap) : Res :=
  purK (binA Tryz.prog H .eql 26 x0 .nilp) fun x4 =>
  purK (gPur (wantV x4 false) (some x0)) fun x6 =>
  purK (gPur (wantV x4 false) (nilChkA x6)) fun x7 =>
  purK (gPur (wantV x4 false) (addA 5 x7)) fun x8 =>
  purK (gPur (wantV x4 false) (ld1 ρ H x8)) fun x9 =>
  purK (gPur (wantV x4 false) (binA Tryz.prog H .eql 52 x9 .nilp)) fun x10 =>
  purK (pickA x4 (.bool true) x10) fun x11 =>
  condK x11
  (
    retK [(.int .i64 0)] H)
  (
    purK (nilChkA x0) fun x13 =>
    purK (addA 5 x13) fun x14 =>
    purK (ld1 ρ H x14) fun x15 =>
    purK (nilChkA x15) fun x16 =>
    purK (addA 0 x16) fun x17 =>
    purK (ld1 ρ H x17) fun x18 =>
    retK [x18] H)
theorem G13 (ρ : Addr → Option Value) (call : CallF) (yc : YieldF) (lim k : Nat) (x0 : AV) (H : Heap) :
    evL (cx ρ) call yc false 13 lim k c13 [x0, (.tup []), (.tup []), (.tup []), (.tup []), (.tup []), (.tup []), (.tup []), (.tup []), (.tup []), (.tup []), (.tup []), (.tup []), (.tup []), (.tup []), (.tup []), (.tup []), (.tup []), (.tup [])] H (kk none (fun s H => retK (([2] : List Nat).map fun t => s.getD t (.tup [])) H) [] retK [2]) = L13 ρ call yc lim k x0 H := by
  kernel_rfl
theorem E13 (ρ : Addr → Option Value) (k lim : Nat) (x0 : AV) (H : Heap) : evCall (cx ρ) (k + 1) lim 13 [x0] H = L13 ρ (evCall (cx ρ) k) (evCY (cx ρ) k).2 lim k x0 H := by
  rw [evCall_body (cx ρ) k lim 13 _ H Tryz.f13 c13 [2] (by kernel_rfl) (by kernel_rfl) (by kernel_rfl) (by kernel_rfl) (by kernel_rfl)]
  exact G13 ρ (evCall (cx ρ) k) (evCY (cx ρ) k).2 lim k x0 H
-- (*haycroft/session.Session).Parked
noncomputable def c14 : Code := Code.of Tryz.prog 14
noncomputable def N14_1 (ρ : Addr → Option Value) (call : CallF) (yc : YieldF) (lim k : Nat) (x3 : AV) (H : Heap) (R : List AV → Heap → Res) : Res :=
  R [x3] H
theorem N14_1_eq (ρ : Addr → Option Value) (call : CallF) (yc : YieldF) (lim k : Nat) (x3 : AV) (H : Heap) (R : List AV → Heap → Res) :
    evL (cx ρ) call yc false 14 lim k (Code.at [1, 1, 1, 1] c14) (sp 26 [(3, x3)]) H (kk none (fun s H => R (([2] : List Nat).map fun t => s.getD t (.tup [])) H) [] R [2]) = N14_1 ρ call yc lim k x3 H R := by
  kernel_rfl
noncomputable def N14_3b (ρ : Addr → Option Value) (call : CallF) (yc : YieldF) (lim k : Nat) (x3 x11 x12 x13 : AV) (H : Heap) (kn : AV → AV → AV → AV → Heap → Res) (k0 : AV → Heap → Res) : Res :=
  purK (binA Tryz.prog H .lss 3 x13 x12) fun x14_1 =>
  condK x14_1
  (
    purK (ixS 1 x11 x13) fun x15_1 =>
    purK (ld1 ρ H x15_1) fun x16_1 =>
    purK (nilChkA x16_1) fun x19_1 =>
    purK (addA 0 x19_1) fun x20_1 =>
    purK (ld1 ρ H x20_1) fun x21_1 =>
    effK H (bldS H 3 1 [.int .i64 0] 1 [(0, 1, x21_1)]) fun x22_1 H =>
    effK H (apA ρ lim H 3 1 8 x3 x22_1) fun x23_1 H =>
    purK (binA Tryz.prog H .add 3 x13 (.int .i64 1)) fun x24_1 =>
    kn x23_1 x11 x12 x24_1 H)
  (
    k0 x3 H)
theorem N14_3b_eq (ρ : Addr → Option Value) (call : CallF) (yc : YieldF) (lim k : Nat) (x3 x11 x12 x13 : AV) (H : Heap) (kn : KS) (k0 : KS) (R : List AV → Heap → Res) :
    evL (cx ρ) call yc false 14 lim k (Code.at [1, 1, 1, 0, 1, 0, 0] c14) (sp 26 [(3, x3), (11, x11), (12, x12), (13, x13)]) H (kk (some [3, 11, 12, 13]) kn [(0, (some [3]), k0)] R [2]) = N14_3b ρ call yc lim k x3 x11 x12 x13 H (fun x3 x11 x12 x13 H => kn (sp 26 [(3, x3), (11, x11), (12, x12), (13, x13)]) H) (fun x3 H => k0 (sp 26 [(3, x3)]) H) := by
  kernel_rfl
noncomputable def N14_3 (ρ : Addr → Option Value) (call : CallF) (yc : YieldF) (lim k : Nat) (x3 x11 x12 x13 : AV) (H : Heap) (k0 : AV → Heap → Res) : Res :=
  loopL (fun (x : AV × AV) H kn => N14_3b ρ call yc lim k x.1 x11 x12 x.2 H (fun x3 _ _ x13 H => kn (x3, x13) H) k0) k (x3, x13) H
theorem N14_3_eq (ρ : Addr → Option Value) (call : CallF) (yc : YieldF) (lim k : Nat) (x3 x11 x12 x13 : AV) (H : Heap) (kn : KS) (k0 : KS) (R : List AV → Heap → Res) :
    evL (cx ρ) call yc false 14 lim k (Code.at [1, 1, 1, 0, 1, 0] c14) (sp 26 [(3, x3), (11, x11), (12, x12), (13, x13)]) H (kk (some [3]) kn [(0, (some [3]), k0)] R [2]) = N14_3 ρ call yc lim k x3 x11 x12 x13 H (fun x3 H => k0 (sp 26 [(3, x3)]) H) := by
  have e : Code.at [1, 1, 1, 0, 1, 0] c14 = .loop (Code.at [1, 1, 1, 0, 1, 0, 0] c14) := by kernel_rfl
  rw [e]
  unfold N14_3
  exact loop_node [3, 11, 12, 13] (fun x : AV × AV => (sp 26 [(3, (x.1)), (11, x11), (12, x12), (13, (x.2))])) (fun (x : AV × AV) H kn => N14_3b ρ call yc lim k x.1 x11 x12 x.2 H (fun x3 _ _ x13 H => kn (x3, x13) H) (fun x3 H => k0 (sp 26 [(3, x3)]) H)) (by kernel_rfl) (fun x => by kernel_rfl) (fun x H kn => N14_3b_eq ρ call yc lim k (x.1) x11 x12 (x.2) H kn k0 R) (x3, x13) (sp 26 [(3, x3), (11, x11), (12, x12), (13, x13)]) H (by kernel_rfl)
noncomputable def N14_2 (ρ : Addr → Option Value) (call : CallF) (yc : YieldF) (lim k : Nat) (x3 x11 x12 x13 : AV) (H : Heap) (kn : AV → Heap → Res) : Res :=
  N14_3 ρ call yc lim k x3 x11 x12 x13 H kn
theorem N14_2_x (ρ : Addr → Option Value) (call : CallF) (yc : YieldF) (lim k : Nat) (J : CodeF) (x3 x11 x12 x13 : AV) (H : Heap) (kn : KS) (R : List AV → Heap → Res) :
    evX (cx ρ) call yc false 14 lim k J (Code.at [1, 1, 1, 0, 1] c14) (sp 26 [(3, x3), (11, x11), (12, x12), (13, x13)]) H (kk (some [3]) kn [] R [2]) =
  J (Code.at [1, 1, 1, 0, 1, 0] c14) (sp 26 [(3, x3), (11, x11), (12, x12), (13, x13)]) H (kk (some [3]) kn [(0, (some [3]), kn)] R [2]) := by
  kernel_rfl
theorem N14_2_eq (ρ : Addr → Option Value) (call : CallF) (yc : YieldF) (lim k : Nat) (x3 x11 x12 x13 : AV) (H : Heap) (kn : KS) (R : List AV → Heap → Res) :
    evL (cx ρ) call yc false 14 lim k (Code.at [1, 1, 1, 0, 1] c14) (sp 26 [(3, x3), (11, x11), (12, x12), (13, x13)]) H (kk (some [3]) kn [] R [2]) = N14_2 ρ call yc lim k x3 x11 x12 x13 H (fun x3 H => kn (sp 26 [(3, x3)]) H) := by
  rw [evL_X, N14_2_x]
  simp only [← evL_X, N14_2, N14_3_eq]
noncomputable def L14 (ρ : Addr → Option Value) (call : CallF) (yc : YieldF) (lim k : Nat) (x0 : AV) (H : Heap) : Res :=
  purK (binA Tryz.prog H .eql 26 x0 .nilp) fun x7 =>
  condK x7
  (
    retK [.nils] H)
  (
    purK (nilChkA x0) fun x9 =>
    purK (addA 6 x9) fun x10 =>
    purK (ld1 ρ H x10) fun x11 =>
    purK (lenS x11) fun x12 =>
    N14_2 ρ call yc lim k .nils x11 x12 (.int .i64 0) H (fun x3 H =>
      N14_1 ρ call yc lim k x3 H retK))
theorem L14_x (ρ : Addr → Option Value) (call : CallF) (yc : YieldF) (lim k : Nat) (J : CodeF) (x0 : AV) (H : Heap) :
    evX (cx ρ) call yc false 14 lim k J c14 [x0, (.tup []), (.tup []), (.tup []), (.tup []), (.tup []), (.tup []), (.tup []), (.tup []), (.tup []), (.tup []), (.tup []), (.tup []), (.tup []), (.tup []), (.tup []), (.tup []), (.tup []), (.tup []), (.tup []), (.tup []), (.tup []), (.tup []), (.tup []), (.tup []), (.tup [])] H (kk none (fun s H => retK (([2] : List Nat).map fun t => s.getD t (.tup [])) H) [] retK [2]) =
  purK (binA Tryz.prog H .eql 26 x0 .nilp) fun x7 =>
  condK x7
  (
    retK [.nils] H)
  (
    purK (nilChkA x0) fun x9 =>
    purK (addA 6 x9) fun x10 =>
    purK (ld1 ρ H x10) fun x11 =>
    purK (lenS x11) fun x12 =>
    J (Code.at [1, 1, 1, 0, 1] c14) (sp 26 [(3, .nils), (11, x11), (12, x12), (13, (.int .i64 0))]) H (kk (some [3]) (fun s H => J (Code.at [1, 1, 1, 1] c14) s H (kk none (fun s H => retK (([2] : List Nat).map fun t => s.getD t (.tup [])) H) [] retK [2])) [] retK [2])) := by
  kernel_rfl
theorem G14 (ρ : Addr → Option Value) (call : CallF) (yc : YieldF) (lim k : Nat) (x0 : AV) (H : Heap) :
    evL (cx ρ) call yc false 14 lim k c14 [x0, (.tup []), (.tup []), (.tup []), (.tup []), (.tup []), (.tup []), (.tup []), (.tup []), (.tup []), (.tup []), (.tup []), (.tup []), (.tup []), (.tup []), (.tup []), (.tup []), (.tup []), (.tup []), (.tup []), (.tup []), (.tup []), (.tup []), (.tup []), (.tup []), (.tup [])] H (kk none (fun s H => retK (([2] : List Nat).map fun t => s.getD t (.tup [])) H) [] retK [2]) = L14 ρ call yc lim k x0 H := by
  rw [evL_X, L14_x]
  simp only [← evL_X, L14, N14_1_eq, N14_2_eq]
theorem E14 (ρ : Addr → Option Value) (k lim : Nat) (x0 : AV) (H : Heap) : evCall (cx ρ) (k + 1) lim 14 [x0] H = L14 ρ (evCall (cx ρ) k) (evCY (cx ρ) k).2 lim k x0 H := by
  rw [evCall_body (cx ρ) k lim 14 _ H Tryz.f14 c14 [2] (by kernel_rfl) (by kernel_rfl) (by kernel_rfl) (by kernel_rfl) (by kernel_rfl)]
  exact G14 ρ (evCall (cx ρ) k) (evCY (cx ρ) k).2 lim k x0 H
-- (*haycroft/session.Session).Idle
noncomputable def c15 : Code := Code.of Tryz.prog 15
noncomputable def L15 (ρ : Addr → Option Value) (call : CallF) (yc : YieldF) (lim k : Nat) (x0 : AV) (H : Heap) : Res :=
  purK (binA Tryz.prog H .neq 26 x0 .nilp) fun x4 =>
  purK (gPur (wantV x4 true) (some x0)) fun x6 =>
  purK (gPur (wantV x4 true) (nilChkA x6)) fun x7 =>
  purK (gPur (wantV x4 true) (addA 5 x7)) fun x8 =>
  purK (gPur (wantV x4 true) (ld1 ρ H x8)) fun x9 =>
  purK (gPur (wantV x4 true) (binA Tryz.prog H .eql 52 x9 .nilp)) fun x10 =>
  purK (pickA x4 x10 (.bool false)) fun x11 =>
  purK (gPur (wantV x11 true) (some x0)) fun x13 =>
  purK (gPur (wantV x11 true) (nilChkA x13)) fun x14 =>
  purK (gPur (wantV x11 true) (addA 6 x14)) fun x15 =>
  purK (gPur (wantV x11 true) (ld1 ρ H x15)) fun x16 =>
  purK (gPur (wantV x11 true) (lenS x16)) fun x17 =>
  purK (gPur (wantV x11 true) (binA Tryz.prog H .eql 3 x17 (.int .i64 0))) fun x18 =>
  purK (pickA x11 x18 (.bool false)) fun x19 =>
  retK [x19] H
theorem G15 (ρ : Addr → Option Value) (call : CallF) (yc : YieldF) (lim k : Nat) (x0 : AV) (H : Heap) :
    evL (cx ρ) call yc false 15 lim k c15 [x0, (.tup []), (.tup []), (.tup []), (.tup []), (.tup []), (.tup []), (.tup []), (.tup []), (.tup []), (.tup []), (.tup []), (.tup []), (.tup []), (.tup []), (.tup []), (.tup []), (.tup []), (.tup []), (.tup [])] H (kk none (fun s H => retK (([2] : List Nat).map fun t => s.getD t (.tup [])) H) [] retK [2]) = L15 ρ call yc lim k x0 H := by
  kernel_rfl
theorem E15 (ρ : Addr → Option Value) (k lim : Nat) (x0 : AV) (H : Heap) : evCall (cx ρ) (k + 1) lim 15 [x0] H = L15 ρ (evCall (cx ρ) k) (evCY (cx ρ) k).2 lim k x0 H := by
  rw [evCall_body (cx ρ) k lim 15 _ H Tryz.f15 c15 [2] (by kernel_rfl) (by kernel_rfl) (by kernel_rfl) (by kernel_rfl) (by kernel_rfl)]
  exact G15 ρ (evCall (cx ρ) k) (evCY (cx ρ) k).2 lim k x0 H
-- (*haycroft/session.Session).Lost
noncomputable def c16 : Code := Code.of Tryz.prog 16
noncomputable def N16_1 (ρ : Addr → Option Value) (call : CallF) (yc : YieldF) (lim k : Nat) (x3 : AV) (H : Heap) (R : List AV → Heap → Res) : Res :=
  R [x3] H
theorem N16_1_eq (ρ : Addr → Option Value) (call : CallF) (yc : YieldF) (lim k : Nat) (x3 : AV) (H : Heap) (R : List AV → Heap → Res) :
    evL (cx ρ) call yc false 16 lim k (Code.at [1, 1, 1, 1] c16) (sp 38 [(3, x3)]) H (kk none (fun s H => R (([2] : List Nat).map fun t => s.getD t (.tup [])) H) [] R [2]) = N16_1 ρ call yc lim k x3 H R := by
  kernel_rfl
noncomputable def N16_4 (ρ : Addr → Option Value) (call : CallF) (yc : YieldF) (lim k : Nat) (x3 x21 x22 x23 : AV) (H : Heap) (kn : AV → AV → AV → AV → Heap → Res) : Res :=
  purK (binA Tryz.prog H .add 3 x23 (.int .i64 1)) fun x36_1 =>
  kn x3 x21 x22 x36_1 H
theorem N16_4_eq (ρ : Addr → Option Value) (call : CallF) (yc : YieldF) (lim k : Nat) (x3 x21 x22 x23 : AV) (H : Heap) (kn : KS) (k0 : KS) (R : List AV → Heap → Res) :
    evL (cx ρ) call yc false 16 lim k (Code.at [1, 1, 1, 0, 1, 0, 0, 1, 1, 1] c16) (sp 38 [(3, x3), (21, x21), (22, x22), (23, x23)]) H (kk (some [3, 21, 22, 23]) kn [(0, (some [3]), k0)] R [2]) = N16_4 ρ call yc lim k x3 x21 x22 x23 H (fun x3 x21 x22 x23 H => kn (sp 38 [(3, x3), (21, x21), (22, x22), (23, x23)]) H) := by
  kernel_rfl
noncomputable def N16_3b (ρ : Addr → Option Value) (call : CallF) (yc : YieldF) (lim k : Nat) (x3 x21 x22 x23 : AV) (H : Heap) (kn : AV → AV → AV → AV → Heap → Res) (k0 : AV → Heap → Res) : Res :=
  purK (binA Tryz.prog H .lss 3 x23 x22) fun x24_1 =>
  condK x24_1
  (
    purK (ixS 1 x21 x23) fun x25_1 =>
    purK (ld1 ρ H x25_1) fun x26_1 =>
    purK (binA Tryz.prog H .neq 52 x26_1 .nilp) fun x28_1 =>
    condK x28_1
    (
      purK (nilChkA x26_1) fun x31_1 =>
      purK (addA 1 x31_1) fun x32_1 =>
      purK (ld1 ρ H x32_1) fun x33_1 =>
      resK (call lim 34 [x33_1] H) fun x34_1 H =>
      purK (binA Tryz.prog H .add 3 x3 x34_1) fun x35_1 =>
      N16_4 ρ call yc lim k x35_1 x21 x22 x23 H kn)
    (
      N16_4 ρ call yc lim k x3 x21 x22 x23 H kn))
  (
    k0 x3 H)
theorem N16_3b_x (ρ : Addr → Option Value) (call : CallF) (yc : YieldF) (lim k : Nat) (J : CodeF) (x3 x21 x22 x23 : AV) (H : Heap) (kn : KS) (k0 : KS) (R : List AV → Heap → Res) :
    evX (cx ρ) call yc false 16 lim k J (Code.at [1, 1, 1, 0, 1, 0, 0] c16) (sp 38 [(3, x3), (21, x21), (22, x22), (23, x23)]) H (kk (some [3, 21, 22, 23]) kn [(0, (some [3]), k0)] R [2]) =
  purK (binA Tryz.prog H .lss 3 x23 x22) fun x24_1 =>
  condK x24_1
  (
    purK (ixS 1 x21 x23) fun x25_1 =>
    purK (ld1 ρ H x25_1) fun x26_1 =>
    purK (binA Tryz.prog H .neq 52 x26_1 .nilp) fun x28_1 =>
    condK x28_1
    (
      purK (nilChkA x26_1) fun x31_1 =>
      purK (addA 1 x31_1) fun x32_1 =>
      purK (ld1 ρ H x32_1) fun x33_1 =>
      resK (call lim 34 [x33_1] H) fun x34_1 H =>
      purK (binA Tryz.prog H .add 3 x3 x34_1) fun x35_1 =>
      J (Code.at [1, 1, 1, 0, 1, 0, 0, 1, 1, 1] c16) (sp 38 [(3, x35_1), (21, x21), (22, x22), (23, x23)]) H (kk (some [3, 21, 22, 23]) kn [(0, (some [3]), k0)] R [2]))
    (
      J (Code.at [1, 1, 1, 0, 1, 0, 0, 1, 1, 1] c16) (sp 38 [(3, x3), (21, x21), (22, x22), (23, x23)]) H (kk (some [3, 21, 22, 23]) kn [(0, (some [3]), k0)] R [2])))
  (
    k0 (sp 38 [(3, x3)]) H) := by
  kernel_rfl
theorem N16_3b_eq (ρ : Addr → Option Value) (call : CallF) (yc : YieldF) (lim k : Nat) (x3 x21 x22 x23 : AV) (H : Heap) (kn : KS) (k0 : KS) (R : List AV → Heap → Res) :
    evL (cx ρ) call yc false 16 lim k (Code.at [1, 1, 1, 0, 1, 0, 0] c16) (sp 38 [(3, x3), (21, x21), (22, x22), (23, x23)]) H (kk (some [3, 21, 22, 23]) kn [(0, (some [3]), k0)] R [2]) = N16_3b ρ call yc lim k x3 x21 x22 x23 H (fun x3 x21 x22 x23 H => kn (sp 38 [(3, x3), (21, x21), (22, x22), (23, x23)]) H) (fun x3 H => k0 (sp 38 [(3, x3)]) H) := by
  rw [evL_X, N16_3b_x]
  simp only [← evL_X, N16_3b, N16_4_eq]
noncomputable def N16_3 (ρ : Addr → Option Value) (call : CallF) (yc : YieldF) (lim k : Nat) (x3 x21 x22 x23 : AV) (H : Heap) (k0 : AV → Heap → Res) : Res :=
  loopL (fun (x : AV × AV) H kn => N16_3b ρ call yc lim k x.1 x21 x22 x.2 H (fun x3 _ _ x23 H => kn (x3, x23) H) k0) k (x3, x23) H
theorem N16_3_eq (ρ : Addr → Option Value) (call : CallF) (yc : YieldF) (lim k : Nat) (x3 x21 x22 x23 : AV) (H : Heap) (kn : KS) (k0 : KS) (R : List AV → Heap → Res) :
    evL (cx ρ) call yc false 16 lim k (Code.at [1, 1, 1, 0, 1, 0] c16) (sp 38 [(3, x3), (21, x21), (22, x22), (23, x23)]) H (kk (some [3]) kn [(0, (some [3]), k0)] R [2]) = N16_3 ρ call yc lim k x3 x21 x22 x23 H (fun x3 H => k0 (sp 38 [(3, x3)]) H) := by
  have e : Code.at [1, 1, 1, 0, 1, 0] c16 = .loop (Code.at [1, 1, 1, 0, 1, 0, 0] c16) := by kernel_rfl
  rw [e]
  unfold N16_3
  exact loop_node [3, 21, 22, 23] (fun x : AV × AV => (sp 38 [(3, (x.1)), (21, x21), (22, x22), (23, (x.2))])) (fun (x : AV × AV) H kn => N16_3b ρ call yc lim k x.1 x21 x22 x.2 H (fun x3 _ _ x23 H => kn (x3, x23) H) (fun x3 H => k0 (sp 38 [(3, x3)]) H)) (by kernel_rfl) (fun x => by kernel_rfl) (fun x H kn => N16_3b_eq ρ call yc lim k (x.1) x21 x22 (x.2) H kn k0 R) (x3, x23) (sp 38 [(3, x3), (21, x21), (22, x22), (23, x23)]) H (by kernel_rfl)
noncomputable def N16_2 (ρ : Addr → Option Value) (call : CallF) (yc : YieldF) (lim k : Nat) (x3 x21 x22 x23 : AV) (H : Heap) (kn : AV → Heap → Res) : Res :=
  N16_3 ρ call yc lim k x3 x21 x22 x23 H kn
theorem N16_2_x (ρ : Addr → Option Value) (call : CallF) (yc : YieldF) (lim k : Nat) (J : CodeF) (x3 x21 x22 x23 : AV) (H : Heap) (kn : KS) (R : List AV → Heap → Res) :
    evX (cx ρ) call yc false 16 lim k J (Code.at [1, 1, 1, 0, 1] c16) (sp 38 [(3, x3), (21, x21), (22, x22), (23, x23)]) H (kk (some [3]) kn [] R [2]) =
  J (Code.at [1, 1, 1, 0, 1, 0] c16) (sp 38 [(3, x3), (21, x21), (22, x22), (23, x23)]) H (kk (some [3]) kn [(0, (some [3]), kn)] R [2]) := by
  kernel_rfl
theorem N16_2_eq (ρ : Addr → Option Value) (call : CallF) (yc : YieldF) (lim k : Nat) (x3 x21 x22 x23 : AV) (H : Heap) (kn : KS) (R : List AV → Heap → Res) :
    evL (cx ρ) call yc false 16 lim k (Code.at [1, 1, 1, 0, 1] c16) (sp 38 [(3, x3), (21, x21), (22, x22), (23, x23)]) H (kk (some [3]) kn [] R [2]) = N16_2 ρ call yc lim k x3 x21 x22 x23 H (fun x3 H => kn (sp 38 [(3, x3)]) H) := by
  rw [evL_X, N16_2_x]
  simp only [← evL_X, N16_2, N16_3_eq]
noncomputable def L16 (ρ : Addr → Option Value) (call : CallF) (yc : YieldF) (lim k : Nat) (x0 : AV) (H : Heap) : Res :=
  purK (binA Tryz.prog H .eql 26 x0 .nilp) fun x7 =>
  condK x7
  (
    retK [(.int .i64 0)] H)
  (
    purK (nilChkA x0) fun x9 =>
    purK (addA 9 x9) fun x10 =>
    purK (ld1 ρ H x10) fun x11 =>
    purK (nilChkA x0) fun x13 =>
    purK (addA 5 x13) fun x14 =>
    purK (ld1 ρ H x14) fun x15 =>
    mkK H (bldS H 52 1 [.nilp] 1 [(0, 1, x15)]) true fun x16 H => bif (agn (ld1 ρ H x14) x15 && true) then
      purK (nilChkA x0) fun x18 =>
      purK (addA 6 x18) fun x19 =>
      purK (ld1 ρ H x19) fun x20 =>
      effK H (apA ρ lim H 52 1 8 x16 x20) fun x21 H =>
      purK (lenS x21) fun x22 =>
      N16_2 ρ call yc lim k x11 x21 x22 (.int .i64 0) H (fun x3 H =>
        N16_1 ρ call yc lim k x3 H retK)
    else none)
theorem L16_x (ρ : Addr → Option Value) (call : CallF) (yc : YieldF) (lim k : Nat) (J : CodeF) (x0 : AV) (H : Heap) :
    evX (cx ρ) call yc false 16 lim k J c16 [x0, (.tup []), (.tup []), (.tup []), (.tup []), (.tup []), (.tup []), (.tup []), (.tup []), (.tup []), (.tup []), (.tup []), (.tup []), (.tup []), (.tup []), (.tup []), (.tup []), (.tup []), (.tup []), (.tup []), (.tup []), (.tup []), (.tup []), (.tup []), (.tup []), (.tup []), (.tup []), (.tup []), (.tup []), (.tup []), (.tup []), (.tup []), (.tup []), (.tup []), (.tup []), (.tup []), (.tup []), (.tup [])] H (kk none (fun s H => retK (([2] : List Nat).map fun t => s.getD t (.tup [])) H) [] retK [2]) =
  purK (binA Tryz.prog H .eql 26 x0 .nilp) fun x7 =>
  condK x7
  (
    retK [(.int .i64 0)] H)
  (
    purK (nilChkA x0) fun x9 =>
    purK (addA 9 x9) fun x10 =>
    purK (ld1 ρ H x10) fun x11 =>
    purK (nilChkA x0) fun x13 =>
    purK (addA 5 x13) fun x14 =>
    purK (ld1 ρ H x14) fun x15 =>
    mkK H (bldS H 52 1 [.nilp] 1 [(0, 1, x15)]) true fun x16 H => bif (agn (ld1 ρ H x14) x15 && true) then
      purK (nilChkA x0) fun x18 =>
      purK (addA 6 x18) fun x19 =>
      purK (ld1 ρ H x19) fun x20 =>
      effK H (apA ρ lim H 52 1 8 x16 x20) fun x21 H =>
      purK (lenS x21) fun x22 =>
      J (Code.at [1, 1, 1, 0, 1] c16) (sp 38 [(3, x11), (21, x21), (22, x22), (23, (.int .i64 0))]) H (kk (some [3]) (fun s H => J (Code.at [1, 1, 1, 1] c16) s H (kk none (fun s H => retK (([2] : List Nat).map fun t => s.getD t (.tup [])) H) [] retK [2])) [] retK [2])
    else none) := by
  kernel_rfl
theorem G16 (ρ : Addr → Option Value) (call : CallF) (yc : YieldF) (lim k : Nat) (x0 : AV) (H : Heap) :
    evL (cx ρ) call yc false 16 lim k c16 [x0, (.tup []), (.tup []), (.tup []), (.tup []), (.tup []), (.tup []), (.tup []), (.tup []), (.tup []), (.tup []), (.tup []), (.tup []), (.tup []), (.tup []), (.tup []), (.tup []), (.tup []), (.tup []), (.tup []), (.tup []), (.tup []), (.tup []), (.tup []), (.tup []), (.tup []), (.tup []), (.tup []), (.tup []), (.tup []), (.tup []), (.tup []), (.tup []), (.tup []), (.tup []), (.tup []), (.tup []), (.tup [])] H (kk none (fun s H => retK (([2] : List Nat).map fun t => s.getD t (.tup [])) H) [] retK [2]) = L16 ρ call yc lim k x0 H := by
  rw [evL_X, L16_x]
  simp only [← evL_X, L16, N16_1_eq, N16_2_eq]
theorem E16 (ρ : Addr → Option Value) (k lim : Nat) (x0 : AV) (H : Heap) : evCall (cx ρ) (k + 1) lim 16 [x0] H = L16 ρ (evCall (cx ρ) k) (evCY (cx ρ) k).2 lim k x0 H := by
  rw [evCall_body (cx ρ) k lim 16 _ H Tryz.f16 c16 [2] (by kernel_rfl) (by kernel_rfl) (by kernel_rfl) (by kernel_rfl) (by kernel_rfl)]
  exact G16 ρ (evCall (cx ρ) k) (evCY (cx ρ) k).2 lim k x0 H
-- haycroft/task.New
noncomputable def c17 : Code := Code.of Tryz.prog 17
noncomputable def L17 (ρ : Addr → Option Value) (call : CallF) (yc : YieldF) (lim k : Nat) (x0 x1 x2 x3 x4 : AV) (H : Heap) : Res :=
  effK H (boxA H 24 x3) fun x8 H =>
  purK (binA Tryz.prog H .eql 42 x0 .nilp) fun x14 =>
  purK (gPur (wantV x14 false) (some x1)) fun x16 =>
  purK (gPur (wantV x14 false) (binA Tryz.prog H .eql 43 x16 .nilp)) fun x17 =>
  purK (pickA x14 (.bool true) x17) fun x18 =>
  condK x18
  (
    retK [.nilp, (.int .i64 2)] H)
  (
    purK (ldN ρ H 4 x8) fun x19 =>
    resK (call lim 35 [x19] H) fun x20 H =>
    purK (binA Tryz.prog H .neq 27 x20 (.int .i64 0)) fun x22 =>
    condK x22
    (
      retK [.nilp, x20] H)
    (
      purK (ldN ρ H 4 x8) fun x27 =>
      purK (addA 1 x8) fun x28 =>
      purK (ld1 ρ H x28) fun x29 =>
      resK (call lim 36 [x29] H) fun x30 H => bif (agn (ldN ρ H 4 x8) x27 && true) then
        purK (bldA [.nilp, .nilp, .int .i64 0, .int .i64 0, .str ByteArray.empty, .str ByteArray.empty, .int .u64 0, .int .u64 0, .nilf, .int .i64 0, .int .u64 0, .int .i64 0, .int .i64 0, .int .u64 0, .int .u64 0, .int .u64 0, .str ByteArray.empty, .nilp, .nilp, .bool false, .bool false, .int .i64 0, .str ByteArray.empty, .int .i64 0] [(0, 1, x0), (1, 1, x1), (2, 1, x2), (3, 4, x27), (7, 1, x30), (8, 1, (.fn (.func 37) [] [])), (12, 1, x4)]) fun x32 =>
        effK H (boxA H 85 x32) fun x33 H =>
        retK [x33, (.int .i64 0)] H
      else none))
theorem G17 (ρ : Addr → Option Value) (call : CallF) (yc : YieldF) (lim k : Nat) (x0 x1 x2 x3 x4 : AV) (H : Heap) :
    evL (cx ρ) call yc false 17 lim k c17 [x0, x1, x2, x3, x4, (.tup []), (.tup []), (.tup []), (.tup []), (.tup []), (.tup []), (.tup []), (.tup []), (.tup []), (.tup []), (.tup []), (.tup []), (.tup []), (.tup []), (.tup []), (.tup []), (.tup []), (.tup []), (.tup []), (.tup []), (.tup []), (.tup []), (.tup []), (.tup []), (.tup []), (.tup []), (.tup []), (.tup []), (.tup [])] H (kk none (fun s H => retK (([10, 11] : List Nat).map fun t => s.getD t (.tup [])) H) [] retK [10, 11]) = L17 ρ call yc lim k x0 x1 x2 x3 x4 H := by
  kernel_rfl
theorem E17 (ρ : Addr → Option Value) (k lim : Nat) (x0 x1 x2 x3 x4 : AV) (H : Heap) : evCall (cx ρ) (k + 1) lim 17 [x0, x1, x2, x3, x4] H = L17 ρ (evCall (cx ρ) k) (evCY (cx ρ) k).2 lim k x0 x1 x2 x3 x4 H := by
  rw [evCall_body (cx ρ) k lim 17 _ H Tryz.f17 c17 [10, 11] (by kernel_rfl) (by kernel_rfl) (by kernel_rfl) (by kernel_rfl) (by kernel_rfl)]
  exact G17 ρ (evCall (cx ρ) k) (evCY (cx ρ) k).2 lim k x0 x1 x2 x3 x4 H
-- (*haycroft/task.Task).Want
noncomputable def c18 : Code := Code.of Tryz.prog 18
noncomputable def L18 (ρ : Addr → Option Value) (call : CallF) (yc : YieldF) (lim k : Nat) (x0 : AV) (H : Heap) : Res :=
  purK (binA Tryz.prog H .eql 57 x0 .nilp) fun x5 =>
  purK (gPur (wantV x5 false) (some x0)) fun x7 =>
  purK (gPur (wantV x5 false) (nilChkA x7)) fun x8 =>
  purK (gPur (wantV x5 false) (addA 20 x8)) fun x9 =>
  purK (gPur (wantV x5 false) (ld1 ρ H x9)) fun x10 =>
  purK (pickA x5 (.bool true) x10) fun x11 =>
  purK (gPur (wantV x11 false) (some x0)) fun x13 =>
  purK (gPur (wantV x11 false) (nilChkA x13)) fun x14 =>
  purK (gPur (wantV x11 false) (addA 19 x14)) fun x15 =>
  purK (gPur (wantV x11 false) (ld1 ρ H x15)) fun x16 =>
  purK (gPur (wantV x11 false) (unA .not x16)) fun x17 =>
  purK (pickA x11 (.bool true) x17) fun x18 =>
  condK x18
  (
    retK [(.int .u64 0), (.bool false)] H)
  (
    purK (nilChkA x0) fun x20 =>
    purK (addA 13 x20) fun x21 =>
    purK (ld1 ρ H x21) fun x22 =>
    retK [x22, (.bool true)] H)
theorem G18 (ρ : Addr → Option Value) (call : CallF) (yc : YieldF) (lim k : Nat) (x0 : AV) (H : Heap) :
    evL (cx ρ) call yc false 18 lim k c18 [x0, (.tup []), (.tup []), (.tup []), (.tup []), (.tup []), (.tup []), (.tup []), (.tup []), (.tup []), (.tup []), (.tup []), (.tup []), (.tup []), (.tup []), (.tup []), (.tup []), (.tup []), (.tup []), (.tup []), (.tup []), (.tup []), (.tup [])] H (kk none (fun s H => retK (([2, 3] : List Nat).map fun t => s.getD t (.tup [])) H) [] retK [2, 3]) = L18 ρ call yc lim k x0 H := by
  kernel_rfl
theorem E18 (ρ : Addr → Option Value) (k lim : Nat) (x0 : AV) (H : Heap) : evCall (cx ρ) (k + 1) lim 18 [x0] H = L18 ρ (evCall (cx ρ) k) (evCY (cx ρ) k).2 lim k x0 H := by
  rw [evCall_body (cx ρ) k lim 18 _ H Tryz.f18 c18 [2, 3] (by kernel_rfl) (by kernel_rfl) (by kernel_rfl) (by kernel_rfl) (by kernel_rfl)]
  exact G18 ρ (evCall (cx ρ) k) (evCY (cx ρ) k).2 lim k x0 H
-- (*haycroft/session.Session).comes
noncomputable def c19 : Code := Code.of Tryz.prog 19
noncomputable def N19_1 (ρ : Addr → Option Value) (call : CallF) (yc : YieldF) (lim k : Nat) (x0 x1 : AV) (H : Heap) (R : List AV → Heap → Res) : Res :=
  purK (nilChkA x0) fun x88_1 =>
  purK (addA 5 x88_1) fun x89_1 =>
  effK H (stA lim H 1 x89_1 x1) fun _ H =>
  R [(.int .i64 1)] H
theorem N19_1_eq (ρ : Addr → Option Value) (call : CallF) (yc : YieldF) (lim k : Nat) (x0 x1 : AV) (H : Heap) (R : List AV → Heap → Res) :
    evL (cx ρ) call yc false 19 lim k (Code.at [1, 1, 1, 1, 1] c19) (sp 90 [(0, x0), (1, x1)]) H (kk none (fun s H => R (([4] : List Nat).map fun t => s.getD t (.tup [])) H) [] R [4]) = N19_1 ρ call yc lim k x0 x1 H R := by
  kernel_rfl
noncomputable def N19_2 (ρ : Addr → Option Value) (call : CallF) (yc : YieldF) (lim k : Nat) (x0 x1 : AV) (H : Heap) (R : List AV → Heap → Res) : Res :=
  purK (nilChkA x0) fun x52_1 =>
  purK (addA 9 x52_1) fun x53_1 =>
  purK (ld1 ρ H x53_1) fun x54_1 =>
  purK (nilChkA x1) fun x56_1 =>
  purK (addA 1 x56_1) fun x57_1 =>
  purK (ld1 ρ H x57_1) fun x58_1 =>
  resK (call lim 34 [x58_1] H) fun x59_1 H => bif (agn (ld1 ρ H x53_1) x54_1 && true) then
    purK (binA Tryz.prog H .add 3 x54_1 x59_1) fun x60_1 =>
    purK (nilChkA x0) fun x61_1 =>
    purK (addA 9 x61_1) fun x62_1 =>
    effK H (stA lim H 1 x62_1 x60_1) fun _ H =>
    R [(.int .i64 2)] H
  else none
theorem N19_2_eq (ρ : Addr → Option Value) (call : CallF) (yc : YieldF) (lim k : Nat) (x0 x1 : AV) (H : Heap) (kn : KS) (k0 : KS) (R : List AV → Heap → Res) :
    evL (cx ρ) call yc false 19 lim k (Code.at [1, 1, 1, 1, 0, 0, 1, 0, 1, 1] c19) (sp 90 [(0, x0), (1, x1)]) H (kk (some [0, 1]) kn [(0, (some [0, 1]), k0)] R [4]) = N19_2 ρ call yc lim k x0 x1 H R := by
  kernel_rfl
noncomputable def L19 (ρ : Addr → Option Value) (call : CallF) (yc : YieldF) (lim k : Nat) (x0 x1 : AV) (H : Heap) : Res :=
  purK (nilChkA x1) fun x12 =>
  purK (addA 1 x12) fun x13 =>
  purK (ld1 ρ H x13) fun x14 =>
  resK (call lim 38 [x14] H) fun x15 H =>
  purK (extA 0 x15) fun x16 =>
  purK (extA 1 x15) fun x17 =>
  effK H (some (.ptr H.sz 0 0, .new (newCells 32 false [.int .i64 0, .str ByteArray.empty]))) fun x5 H =>
  effK H (stA lim H 2 x5 x16) fun _ H =>
  purK (nilChkA x1) fun x20 =>
  purK (addA 1 x20) fun x21 =>
  purK (ld1 ρ H x21) fun x22 =>
  resK (call lim 18 [x22] H) fun x23 H =>
  purK (extA 0 x23) fun x24 =>
  purK (extA 1 x23) fun x25 =>
  purK (nilChkA x0) fun x27 =>
  purK (addA 5 x27) fun x28 =>
  effK H (stA lim H 1 x28 .nilp) fun _ H =>
  condK x17
  (
    purK (nilChkA x0) fun x32 =>
    purK (addA 8 x32) fun x33 =>
    purK (ld1 ρ H x33) fun x34 =>
    purK (nilChkA x1) fun x36 =>
    purK (addA 0 x36) fun x37 =>
    purK (ld1 ρ H x37) fun x38 =>
    purK (ldN ρ H 2 x5) fun x39 =>
    effK H ((mapPutA (cx ρ) lim H 54 x34 x38 x39).map skips) fun _ H =>
    purK (nilChkA x1) fun x41 =>
    purK (addA 1 x41) fun x42 =>
    purK (ld1 ρ H x42) fun x43 =>
    resK (call lim 39 [x43] H) fun x44 H =>
    purK (binA Tryz.prog H .gtr 3 x44 (.int .i64 0)) fun x46 =>
    condK x46
    (
      purK (nilChkA x0) fun x49 =>
      purK (addA 7 x49) fun x50 =>
      effK H (stA lim H 1 x50 x44) fun _ H =>
      N19_2 ρ call yc lim k x0 x1 H retK)
    (
      N19_2 ρ call yc lim k x0 x1 H retK))
  (
    purK (gPur (wantV x25 true) (some x0)) fun x66 =>
    purK (gPur (wantV x25 true) (some x1)) fun x67 =>
    resK (gRes (wantV x25 true) H (call lim 30 [x66, x67] H)) fun x68 H =>
    purK (pickA x25 x68 (.bool false)) fun x69 =>
    condK x69
    (
      purK (nilChkA x0) fun x72 =>
      purK (addA 6 x72) fun x73 =>
      purK (ld1 ρ H x73) fun x74 =>
      effK H (bldS H 52 1 [.nilp] 1 [(0, 1, x1)]) fun x76 H =>
      effK H (apA ρ lim H 52 1 8 x74 x76) fun x77 H =>
      purK (nilChkA x0) fun x78 =>
      purK (addA 6 x78) fun x79 =>
      effK H (stA lim H 1 x79 x77) fun _ H =>
      retK [(.int .i64 4)] H)
    (
      condK x25
      (
        purK (nilChkA x0) fun x84 =>
        purK (addA 5 x84) fun x85 =>
        effK H (stA lim H 1 x85 x1) fun _ H =>
        retK [(.int .i64 3)] H)
      (
        N19_1 ρ call yc lim k x0 x1 H retK)))
theorem L19_x (ρ : Addr → Option Value) (call : CallF) (yc : YieldF) (lim k : Nat) (J : CodeF) (x0 x1 : AV) (H : Heap) :
    evX (cx ρ) call yc false 19 lim k J c19 [x0, x1, (.tup []), (.tup []), (.tup []), (.tup []), (.tup []), (.tup []), (.tup []), (.tup []), (.tup []), (.tup []), (.tup []), (.tup []), (.tup []), (.tup []), (.tup []), (.tup []), (.tup []), (.tup []), (.tup []), (.tup []), (.tup []), (.tup []), (.tup []), (.tup []), (.tup []), (.tup []), (.tup []), (.tup []), (.tup []), (.tup []), (.tup []), (.tup []), (.tup []), (.tup []), (.tup []), (.tup []), (.tup []), (.tup []), (.tup []), (.tup []), (.tup []), (.tup []), (.tup []), (.tup []), (.tup []), (.tup []), (.tup []), (.tup []), (.tup []), (.tup []), (.tup []), (.tup []), (.tup []), (.tup []), (.tup []), (.tup []), (.tup []), (.tup []), (.tup []), (.tup []), (.tup []), (.tup []), (.tup []), (.tup []), (.tup []), (.tup []), (.tup []), (.tup []), (.tup []), (.tup []), (.tup []), (.tup []), (.tup []), (.tup []), (.tup []), (.tup []), (.tup []), (.tup []), (.tup []), (.tup []), (.tup []), (.tup []), (.tup []), (.tup []), (.tup []), (.tup []), (.tup []), (.tup [])] H (kk none (fun s H => retK (([4] : List Nat).map fun t => s.getD t (.tup [])) H) [] retK [4]) =
  purK (nilChkA x1) fun x12 =>
  purK (addA 1 x12) fun x13 =>
  purK (ld1 ρ H x13) fun x14 =>
  resK (call lim 38 [x14] H) fun x15 H =>
  purK (extA 0 x15) fun x16 =>
  purK (extA 1 x15) fun x17 =>
  effK H (some (.ptr H.sz 0 0, .new (newCells 32 false [.int .i64 0, .str ByteArray.empty]))) fun x5 H =>
  effK H (stA lim H 2 x5 x16) fun _ H =>
  purK (nilChkA x1) fun x20 =>
  purK (addA 1 x20) fun x21 =>
  purK (ld1 ρ H x21) fun x22 =>
  resK (call lim 18 [x22] H) fun x23 H =>
  purK (extA 0 x23) fun x24 =>
  purK (extA 1 x23) fun x25 =>
  purK (nilChkA x0) fun x27 =>
  purK (addA 5 x27) fun x28 =>
  effK H (stA lim H 1 x28 .nilp) fun _ H =>
  condK x17
  (
    purK (nilChkA x0) fun x32 =>
    purK (addA 8 x32) fun x33 =>
    purK (ld1 ρ H x33) fun x34 =>
    purK (nilChkA x1) fun x36 =>
    purK (addA 0 x36) fun x37 =>
    purK (ld1 ρ H x37) fun x38 =>
    purK (ldN ρ H 2 x5) fun x39 =>
    effK H ((mapPutA (cx ρ) lim H 54 x34 x38 x39).map skips) fun _ H =>
    purK (nilChkA x1) fun x41 =>
    purK (addA 1 x41) fun x42 =>
    purK (ld1 ρ H x42) fun x43 =>
    resK (call lim 39 [x43] H) fun x44 H =>
    purK (binA Tryz.prog H .gtr 3 x44 (.int .i64 0)) fun x46 =>
    condK x46
    (
      purK (nilChkA x0) fun x49 =>
      purK (addA 7 x49) fun x50 =>
      effK H (stA lim H 1 x50 x44) fun _ H =>
      J (Code.at [1, 1, 1, 1, 0, 0, 1, 0, 1, 1] c19) (sp 90 [(0, x0), (1, x1)]) H (kk (some [0, 1]) (fun s H => J (Code.at [1, 1, 1, 1, 1] c19) s H (kk none (fun s H => retK (([4] : List Nat).map fun t => s.getD t (.tup [])) H) [] retK [4])) [(0, (some [0, 1]), (fun s H => J (Code.at [1, 1, 1, 1, 1] c19) s H (kk none (fun s H => retK (([4] : List Nat).map fun t => s.getD t (.tup [])) H) [] retK [4])))] retK [4]))
    (
      J (Code.at [1, 1, 1, 1, 0, 0, 1, 0, 1, 1] c19) (sp 90 [(0, x0), (1, x1)]) H (kk (some [0, 1]) (fun s H => J (Code.at [1, 1, 1, 1, 1] c19) s H (kk none (fun s H => retK (([4] : List Nat).map fun t => s.getD t (.tup [])) H) [] retK [4])) [(0, (some [0, 1]), (fun s H => J (Code.at [1, 1, 1, 1, 1] c19) s H (kk none (fun s H => retK (([4] : List Nat).map fun t => s.getD t (.tup [])) H) [] retK [4])))] retK [4])))
  (
    purK (gPur (wantV x25 true) (some x0)) fun x66 =>
    purK (gPur (wantV x25 true) (some x1)) fun x67 =>
    resK (gRes (wantV x25 true) H (call lim 30 [x66, x67] H)) fun x68 H =>
    purK (pickA x25 x68 (.bool false)) fun x69 =>
    condK x69
    (
      purK (nilChkA x0) fun x72 =>
      purK (addA 6 x72) fun x73 =>
      purK (ld1 ρ H x73) fun x74 =>
      effK H (bldS H 52 1 [.nilp] 1 [(0, 1, x1)]) fun x76 H =>
      effK H (apA ρ lim H 52 1 8 x74 x76) fun x77 H =>
      purK (nilChkA x0) fun x78 =>
      purK (addA 6 x78) fun x79 =>
      effK H (stA lim H 1 x79 x77) fun _ H =>
      retK [(.int .i64 4)] H)
    (
      condK x25
      (
        purK (nilChkA x0) fun x84 =>
        purK (addA 5 x84) fun x85 =>
        effK H (stA lim H 1 x85 x1) fun _ H =>
        retK [(.int .i64 3)] H)
      (
        J (Code.at [1, 1, 1, 1, 1] c19) (sp 90 [(0, x0), (1, x1)]) H (kk none (fun s H => retK (([4] : List Nat).map fun t => s.getD t (.tup [])) H) [] retK [4])))) := by
  kernel_rfl
theorem G19 (ρ : Addr → Option Value) (call : CallF) (yc : YieldF) (lim k : Nat) (x0 x1 : AV) (H : Heap) :
    evL (cx ρ) call yc false 19 lim k c19 [x0, x1, (.tup []), (.tup []), (.tup []), (.tup []), (.tup []), (.tup []), (.tup []), (.tup []), (.tup []), (.tup []), (.tup []), (.tup []), (.tup []), (.tup []), (.tup []), (.tup []), (.tup []), (.tup []), (.tup []), (.tup []), (.tup []), (.tup []), (.tup []), (.tup []), (.tup []), (.tup []), (.tup []), (.tup []), (.tup []), (.tup []), (.tup []), (.tup []), (.tup []), (.tup []), (.tup []), (.tup []), (.tup []), (.tup []), (.tup []), (.tup []), (.tup []), (.tup []), (.tup []), (.tup []), (.tup []), (.tup []), (.tup []), (.tup []), (.tup []), (.tup []), (.tup []), (.tup []), (.tup []), (.tup []), (.tup []), (.tup []), (.tup []), (.tup []), (.tup []), (.tup []), (.tup []), (.tup []), (.tup []), (.tup []), (.tup []), (.tup []), (.tup []), (.tup []), (.tup []), (.tup []), (.tup []), (.tup []), (.tup []), (.tup []), (.tup []), (.tup []), (.tup []), (.tup []), (.tup []), (.tup []), (.tup []), (.tup []), (.tup []), (.tup []), (.tup []), (.tup []), (.tup []), (.tup [])] H (kk none (fun s H => retK (([4] : List Nat).map fun t => s.getD t (.tup [])) H) [] retK [4]) = L19 ρ call yc lim k x0 x1 H := by
  rw [evL_X, L19_x]
  simp only [← evL_X, L19, N19_1_eq, N19_2_eq]
theorem E19 (ρ : Addr → Option Value) (k lim : Nat) (x0 x1 : AV) (H : Heap) : evCall (cx ρ) (k + 1) lim 19 [x0, x1] H = L19 ρ (evCall (cx ρ) k) (evCY (cx ρ) k).2 lim k x0 x1 H := by
  rw [evCall_body (cx ρ) k lim 19 _ H Tryz.f19 c19 [4] (by kernel_rfl) (by kernel_rfl) (by kernel_rfl) (by kernel_rfl) (by kernel_rfl)]
  exact G19 ρ (evCall (cx ρ) k) (evCY (cx ρ) k).2 lim k x0 x1 H
-- (*haycroft/hlog.Log).Epoch
noncomputable def c20 : Code := Code.of Tryz.prog 20
noncomputable def L20 (ρ : Addr → Option Value) (call : CallF) (yc : YieldF) (lim k : Nat) (x0 : AV) (H : Heap) : Res :=
  purK (binA Tryz.prog H .eql 42 x0 .nilp) fun x4 =>
  condK x4
  (
    retK [.nilp] H)
  (
    purK (nilChkA x0) fun x6 =>
    purK (addA 3 x6) fun x7 =>
    purK (ld1 ρ H x7) fun x8 =>
    retK [x8] H)
theorem G20 (ρ : Addr → Option Value) (call : CallF) (yc : YieldF) (lim k : Nat) (x0 : AV) (H : Heap) :
    evL (cx ρ) call yc false 20 lim k c20 [x0, (.tup []), (.tup []), (.tup []), (.tup []), (.tup []), (.tup []), (.tup []), (.tup [])] H (kk none (fun s H => retK (([2] : List Nat).map fun t => s.getD t (.tup [])) H) [] retK [2]) = L20 ρ call yc lim k x0 H := by
  kernel_rfl
theorem E20 (ρ : Addr → Option Value) (k lim : Nat) (x0 : AV) (H : Heap) : evCall (cx ρ) (k + 1) lim 20 [x0] H = L20 ρ (evCall (cx ρ) k) (evCY (cx ρ) k).2 lim k x0 H := by
  rw [evCall_body (cx ρ) k lim 20 _ H Tryz.f20 c20 [2] (by kernel_rfl) (by kernel_rfl) (by kernel_rfl) (by kernel_rfl) (by kernel_rfl)]
  exact G20 ρ (evCall (cx ρ) k) (evCY (cx ρ) k).2 lim k x0 H
-- (*haycroft/epoch.Table).Seen
noncomputable def c21 : Code := Code.of Tryz.prog 21
noncomputable def L21 (ρ : Addr → Option Value) (call : CallF) (yc : YieldF) (lim k : Nat) (x0 x1 : AV) (H : Heap) : Res :=
  resK (call lim 40 [x0, x1] H) fun x7 H =>
  purK (unA .not x7) fun x8 =>
  condK x8
  (
    retK [(.int .u64 0)] H)
  (
    purK (nilChkA x0) fun x10 =>
    purK (addA 0 x10) fun x11 =>
    purK (ld1 ρ H x11) fun x12 =>
    purK (binA Tryz.prog H .add 3 (.int .i64 1) x1) fun x14 =>
    resK (call lim 41 [x12, x14] H) fun x15 H =>
    retK [x15] H)
theorem G21 (ρ : Addr → Option Value) (call : CallF) (yc : YieldF) (lim k : Nat) (x0 x1 : AV) (H : Heap) :
    evL (cx ρ) call yc false 21 lim k c21 [x0, x1, (.tup []), (.tup []), (.tup []), (.tup []), (.tup []), (.tup []), (.tup []), (.tup []), (.tup []), (.tup []), (.tup []), (.tup []), (.tup []), (.tup [])] H (kk none (fun s H => retK (([4] : List Nat).map fun t => s.getD t (.tup [])) H) [] retK [4]) = L21 ρ call yc lim k x0 x1 H := by
  kernel_rfl
theorem E21 (ρ : Addr → Option Value) (k lim : Nat) (x0 x1 : AV) (H : Heap) : evCall (cx ρ) (k + 1) lim 21 [x0, x1] H = L21 ρ (evCall (cx ρ) k) (evCY (cx ρ) k).2 lim k x0 x1 H := by
  rw [evCall_body (cx ρ) k lim 21 _ H Tryz.f21 c21 [4] (by kernel_rfl) (by kernel_rfl) (by kernel_rfl) (by kernel_rfl) (by kernel_rfl)]
  exact G21 ρ (evCall (cx ρ) k) (evCY (cx ρ) k).2 lim k x0 x1 H
-- (*haycroft/epoch.Table).Enter
noncomputable def c22 : Code := Code.of Tryz.prog 22
noncomputable def L22 (ρ : Addr → Option Value) (call : CallF) (yc : YieldF) (lim k : Nat) (x0 x1 : AV) (H : Heap) : Res :=
  resK (call lim 43 [x0] H) fun x8 H =>
  resK (call lim 42 [x0, x1, (.bool false), x8, (.int .i64 8)] H) fun x9 H =>
  retK [x9] H
theorem G22 (ρ : Addr → Option Value) (call : CallF) (yc : YieldF) (lim k : Nat) (x0 x1 : AV) (H : Heap) :
    evL (cx ρ) call yc false 22 lim k c22 [x0, x1, (.tup []), (.tup []), (.tup []), (.tup []), (.tup []), (.tup []), (.tup []), (.tup [])] H (kk none (fun s H => retK (([4] : List Nat).map fun t => s.getD t (.tup [])) H) [] retK [4]) = L22 ρ call yc lim k x0 x1 H := by
  kernel_rfl
theorem E22 (ρ : Addr → Option Value) (k lim : Nat) (x0 x1 : AV) (H : Heap) : evCall (cx ρ) (k + 1) lim 22 [x0, x1] H = L22 ρ (evCall (cx ρ) k) (evCY (cx ρ) k).2 lim k x0 x1 H := by
  rw [evCall_body (cx ρ) k lim 22 _ H Tryz.f22 c22 [4] (by kernel_rfl) (by kernel_rfl) (by kernel_rfl) (by kernel_rfl) (by kernel_rfl)]
  exact G22 ρ (evCall (cx ρ) k) (evCY (cx ρ) k).2 lim k x0 x1 H
-- (*haycroft/task.Task).Move
noncomputable def c23 : Code := Code.of Tryz.prog 23
noncomputable def L23 (ρ : Addr → Option Value) (call : CallF) (yc : YieldF) (lim k : Nat) (x0 : AV) (H : Heap) : Res :=
  purK (binA Tryz.prog H .eql 57 x0 .nilp) fun x6 =>
  condK x6
  (
    resK (call lim 44 [(.int .i64 2)] H) fun x7 H =>
    purK (extA 0 x7) fun x8 =>
    purK (extA 1 x7) fun x9 =>
    retK [x8, x9] H)
  (
    purK (nilChkA x0) fun x12 =>
    purK (addA 20 x12) fun x13 =>
    purK (ld1 ρ H x13) fun x14 =>
    condK x14
    (
      retK [(.int .i64 2), (.int .i64 0)] H)
    (
      purK (nilChkA x0) fun x17 =>
      purK (addA 0 x17) fun x18 =>
      purK (ld1 ρ H x18) fun x19 =>
      purK (nilChkA x0) fun x22 =>
      purK (addA 2 x22) fun x23 =>
      purK (ld1 ρ H x23) fun x24 =>
      resK (call lim 20 [x19] H) fun x20 H => bif (agn (ld1 ρ H x23) x24 && true) then
        resK (call lim 21 [x20, x24] H) fun x25 H =>
        purK (binA Tryz.prog H .eql 22 x25 (.int .u64 0)) fun x26 =>
        condK x26
        (
          resK (call lim 44 [(.int .i64 7)] H) fun x27 H =>
          purK (extA 0 x27) fun x28 =>
          purK (extA 1 x27) fun x29 =>
          retK [x28, x29] H)
        (
          purK (nilChkA x0) fun x31 =>
          purK (addA 8 x31) fun x32 =>
          purK (ld1 ρ H x32) fun x33 =>
          valK call yc lim x33 [x0] H fun x35 H =>
          purK (extA 0 x35) fun x36 =>
          purK (extA 1 x35) fun x37 =>
          retK [x36, x37] H)
      else none))
theorem G23 (ρ : Addr → Option Value) (call : CallF) (yc : YieldF) (lim k : Nat) (x0 : AV) (H : Heap) :
    evL (cx ρ) call yc false 23 lim k c23 [x0, (.tup []), (.tup []), (.tup []), (.tup []), (.tup []), (.tup []), (.tup []), (.tup []), (.tup []), (.tup []), (.tup []), (.tup []), (.tup []), (.tup []), (.tup []), (.tup []), (.tup []), (.tup []), (.tup []), (.tup []), (.tup []), (.tup []), (.tup []), (.tup []), (.tup []), (.tup []), (.tup []), (.tup []), (.tup []), (.tup []), (.tup []), (.tup []), (.tup []), (.tup []), (.tup []), (.tup []), (.tup [])] H (kk none (fun s H => retK (([2, 3] : List Nat).map fun t => s.getD t (.tup [])) H) [] retK [2, 3]) = L23 ρ call yc lim k x0 H := by
  kernel_rfl
theorem E23 (ρ : Addr → Option Value) (k lim : Nat) (x0 : AV) (H : Heap) : evCall (cx ρ) (k + 1) lim 23 [x0] H = L23 ρ (evCall (cx ρ) k) (evCY (cx ρ) k).2 lim k x0 H := by
  rw [evCall_body (cx ρ) k lim 23 _ H Tryz.f23 c23 [2, 3] (by kernel_rfl) (by kernel_rfl) (by kernel_rfl) (by kernel_rfl) (by kernel_rfl)]
  exact G23 ρ (evCall (cx ρ) k) (evCY (cx ρ) k).2 lim k x0 H
-- (*haycroft/epoch.Table).Leave
noncomputable def c24 : Code := Code.of Tryz.prog 24
noncomputable def L24 (ρ : Addr → Option Value) (call : CallF) (yc : YieldF) (lim k : Nat) (x0 x1 : AV) (H : Heap) : Res :=
  resK (call lim 42 [x0, x1, (.bool true), (.int .u64 0), (.int .i64 7)] H) fun x7 H =>
  retK [x7] H
theorem G24 (ρ : Addr → Option Value) (call : CallF) (yc : YieldF) (lim k : Nat) (x0 x1 : AV) (H : Heap) :
    evL (cx ρ) call yc false 24 lim k c24 [x0, x1, (.tup []), (.tup []), (.tup []), (.tup []), (.tup []), (.tup [])] H (kk none (fun s H => retK (([4] : List Nat).map fun t => s.getD t (.tup [])) H) [] retK [4]) = L24 ρ call yc lim k x0 x1 H := by
  kernel_rfl
theorem E24 (ρ : Addr → Option Value) (k lim : Nat) (x0 x1 : AV) (H : Heap) : evCall (cx ρ) (k + 1) lim 24 [x0, x1] H = L24 ρ (evCall (cx ρ) k) (evCY (cx ρ) k).2 lim k x0 x1 H := by
  rw [evCall_body (cx ρ) k lim 24 _ H Tryz.f24 c24 [4] (by kernel_rfl) (by kernel_rfl) (by kernel_rfl) (by kernel_rfl) (by kernel_rfl)]
  exact G24 ρ (evCall (cx ρ) k) (evCY (cx ρ) k).2 lim k x0 x1 H
-- (*haycroft/hlog.Log).Settle
noncomputable def c25 : Code := Code.of Tryz.prog 25
noncomputable def N25_1 (ρ : Addr → Option Value) (call : CallF) (yc : YieldF) (lim k : Nat) (x3 : AV) (H : Heap) (R : List AV → Heap → Res) : Res :=
  purK (lenS x3) fun x53_1 =>
  R [x53_1] H
theorem N25_1_eq (ρ : Addr → Option Value) (call : CallF) (yc : YieldF) (lim k : Nat) (x3 : AV) (H : Heap) (R : List AV → Heap → Res) :
    evL (cx ρ) call yc false 25 lim k (Code.at [1, 1, 1, 1] c25) (sp 54 [(3, x3)]) H (kk none (fun s H => R (([2] : List Nat).map fun t => s.getD t (.tup [])) H) [] R [2]) = N25_1 ρ call yc lim k x3 H R := by
  kernel_rfl
noncomputable def N25_4 (ρ : Addr → Option Value) (call : CallF) (yc : YieldF) (lim k : Nat) (x0 x3 x18 x19 x20 : AV) (H : Heap) (kn : AV → AV → AV → AV → AV → Heap → Res) : Res :=
  purK (binA Tryz.prog H .add 3 x20 (.int .i64 1)) fun x51_1 =>
  kn x0 x3 x18 x19 x51_1 H
theorem N25_4_eq (ρ : Addr → Option Value) (call : CallF) (yc : YieldF) (lim k : Nat) (x0 x3 x18 x19 x20 : AV) (H : Heap) (kn : KS) (k0 : KS) (R : List AV → Heap → Res) :
    evL (cx ρ) call yc false 25 lim k (Code.at [1, 1, 1, 0, 1, 0, 0, 1, 1, 1] c25) (sp 54 [(0, x0), (3, x3), (18, x18), (19, x19), (20, x20)]) H (kk (some [0, 3, 18, 19, 20]) kn [(0, (some [3]), k0)] R [2]) = N25_4 ρ call yc lim k x0 x3 x18 x19 x20 H (fun x0 x3 x18 x19 x20 H => kn (sp 54 [(0, x0), (3, x3), (18, x18), (19, x19), (20, x20)]) H) := by
  kernel_rfl
noncomputable def N25_3b (ρ : Addr → Option Value) (call : CallF) (yc : YieldF) (lim k : Nat) (x0 x3 x18 x19 x20 : AV) (H : Heap) (kn : AV → AV → AV → AV → AV → Heap → Res) (k0 : AV → Heap → Res) : Res :=
  purK (binA Tryz.prog H .lss 3 x20 x19) fun x21_1 =>
  condK x21_1
  (
    purK (ixS 3 x18 x20) fun x22_1 =>
    purK (ldN ρ H 3 x22_1) fun x23_1 =>
    effK H (some (.ptr H.sz 0 0, .new (newCells 104 false [.int .u64 0, .int .i64 0, .int .i64 0]))) fun x5_1 H =>
    effK H (stA lim H 3 x5_1 x23_1) fun _ H =>
    purK (addA 1 x5_1) fun x24_1 =>
    purK (ld1 ρ H x24_1) fun x25_1 =>
    purK (binA Tryz.prog H .eql 3 x25_1 (.int .i64 1)) fun x26_1 =>
    condK x26_1
    (
      purK (nilChkA x0) fun x28_1 =>
      purK (addA 2 x28_1) fun x29_1 =>
      purK (ld1 ρ H x29_1) fun x30_1 =>
      purK (addA 2 x5_1) fun x31_1 =>
      purK (ld1 ρ H x31_1) fun x32_1 =>
      purK (nilChkA x0) fun x34_1 =>
      purK (addA 0 x34_1) fun x35_1 =>
      purK (ld1 ρ H x35_1) fun x36_1 =>
      resK (call lim 48 [x36_1] H) fun x37_1 H => bif (agn (ld1 ρ H x31_1) x32_1 && (agn (ld1 ρ H x29_1) x30_1 && true)) then
        resK (call lim 47 [x30_1, (.int .i64 1), x32_1, x37_1] H) fun x38_1 H =>
        N25_4 ρ call yc lim k x0 x3 x18 x19 x20 H kn
      else none)
    (
      purK (nilChkA x0) fun x40_1 =>
      purK (addA 2 x40_1) fun x41_1 =>
      purK (ld1 ρ H x41_1) fun x42_1 =>
      purK (addA 2 x5_1) fun x43_1 =>
      purK (ld1 ρ H x43_1) fun x44_1 =>
      purK (nilChkA x0) fun x46_1 =>
      purK (addA 0 x46_1) fun x47_1 =>
      purK (ld1 ρ H x47_1) fun x48_1 =>
      resK (call lim 48 [x48_1] H) fun x49_1 H => bif (agn (ld1 ρ H x43_1) x44_1 && (agn (ld1 ρ H x41_1) x42_1 && true)) then
        resK (call lim 47 [x42_1, (.int .i64 4), x44_1, x49_1] H) fun x50_1 H =>
        N25_4 ρ call yc lim k x0 x3 x18 x19 x20 H kn
      else none))
  (
    k0 x3 H)
theorem N25_3b_x (ρ : Addr → Option Value) (call : CallF) (yc : YieldF) (lim k : Nat) (J : CodeF) (x0 x3 x18 x19 x20 : AV) (H : Heap) (kn : KS) (k0 : KS) (R : List AV → Heap → Res) :
    evX (cx ρ) call yc false 25 lim k J (Code.at [1, 1, 1, 0, 1, 0, 0] c25) (sp 54 [(0, x0), (3, x3), (18, x18), (19, x19), (20, x20)]) H (kk (some [0, 3, 18, 19, 20]) kn [(0, (some [3]), k0)] R [2]) =
  purK (binA Tryz.prog H .lss 3 x20 x19) fun x21_1 =>
  condK x21_1
  (
    purK (ixS 3 x18 x20) fun x22_1 =>
    purK (ldN ρ H 3 x22_1) fun x23_1 =>
    effK H (some (.ptr H.sz 0 0, .new (newCells 104 false [.int .u64 0, .int .i64 0, .int .i64 0]))) fun x5_1 H =>
    effK H (stA lim H 3 x5_1 x23_1) fun _ H =>
    purK (addA 1 x5_1) fun x24_1 =>
    purK (ld1 ρ H x24_1) fun x25_1 =>
    purK (binA Tryz.prog H .eql 3 x25_1 (.int .i64 1)) fun x26_1 =>
    condK x26_1
    (
      purK (nilChkA x0) fun x28_1 =>
      purK (addA 2 x28_1) fun x29_1 =>
      purK (ld1 ρ H x29_1) fun x30_1 =>
      purK (addA 2 x5_1) fun x31_1 =>
      purK (ld1 ρ H x31_1) fun x32_1 =>
      purK (nilChkA x0) fun x34_1 =>
      purK (addA 0 x34_1) fun x35_1 =>
      purK (ld1 ρ H x35_1) fun x36_1 =>
      resK (call lim 48 [x36_1] H) fun x37_1 H => bif (agn (ld1 ρ H x31_1) x32_1 && (agn (ld1 ρ H x29_1) x30_1 && true)) then
        resK (call lim 47 [x30_1, (.int .i64 1), x32_1, x37_1] H) fun x38_1 H =>
        J (Code.at [1, 1, 1, 0, 1, 0, 0, 1, 1, 1] c25) (sp 54 [(0, x0), (3, x3), (18, x18), (19, x19), (20, x20)]) H (kk (some [0, 3, 18, 19, 20]) kn [(0, (some [3]), k0)] R [2])
      else none)
    (
      purK (nilChkA x0) fun x40_1 =>
      purK (addA 2 x40_1) fun x41_1 =>
      purK (ld1 ρ H x41_1) fun x42_1 =>
      purK (addA 2 x5_1) fun x43_1 =>
      purK (ld1 ρ H x43_1) fun x44_1 =>
      purK (nilChkA x0) fun x46_1 =>
      purK (addA 0 x46_1) fun x47_1 =>
      purK (ld1 ρ H x47_1) fun x48_1 =>
      resK (call lim 48 [x48_1] H) fun x49_1 H => bif (agn (ld1 ρ H x43_1) x44_1 && (agn (ld1 ρ H x41_1) x42_1 && true)) then
        resK (call lim 47 [x42_1, (.int .i64 4), x44_1, x49_1] H) fun x50_1 H =>
        J (Code.at [1, 1, 1, 0, 1, 0, 0, 1, 1, 1] c25) (sp 54 [(0, x0), (3, x3), (18, x18), (19, x19), (20, x20)]) H (kk (some [0, 3, 18, 19, 20]) kn [(0, (some [3]), k0)] R [2])
      else none))
  (
    k0 (sp 54 [(3, x3)]) H) := by
  kernel_rfl
theorem N25_3b_eq (ρ : Addr → Option Value) (call : CallF) (yc : YieldF) (lim k : Nat) (x0 x3 x18 x19 x20 : AV) (H : Heap) (kn : KS) (k0 : KS) (R : List AV → Heap → Res) :
    evL (cx ρ) call yc false 25 lim k (Code.at [1, 1, 1, 0, 1, 0, 0] c25) (sp 54 [(0, x0), (3, x3), (18, x18), (19, x19), (20, x20)]) H (kk (some [0, 3, 18, 19, 20]) kn [(0, (some [3]), k0)] R [2]) = N25_3b ρ call yc lim k x0 x3 x18 x19 x20 H (fun x0 x3 x18 x19 x20 H => kn (sp 54 [(0, x0), (3, x3), (18, x18), (19, x19), (20, x20)]) H) (fun x3 H => k0 (sp 54 [(3, x3)]) H) := by
  rw [evL_X, N25_3b_x]
  simp only [← evL_X, N25_3b, N25_4_eq]
noncomputable def N25_3 (ρ : Addr → Option Value) (call : CallF) (yc : YieldF) (lim k : Nat) (x0 x3 x18 x19 x20 : AV) (H : Heap) (k0 : AV → Heap → Res) : Res :=
  loopL (fun (x : AV) H kn => N25_3b ρ call yc lim k x0 x3 x18 x19 x H (fun _ _ _ _ x20 H => kn x20 H) k0) k x20 H
theorem N25_3_eq (ρ : Addr → Option Value) (call : CallF) (yc : YieldF) (lim k : Nat) (x0 x3 x18 x19 x20 : AV) (H : Heap) (kn : KS) (k0 : KS) (R : List AV → Heap → Res) :
    evL (cx ρ) call yc false 25 lim k (Code.at [1, 1, 1, 0, 1, 0] c25) (sp 54 [(0, x0), (3, x3), (18, x18), (19, x19), (20, x20)]) H (kk (some [3]) kn [(0, (some [3]), k0)] R [2]) = N25_3 ρ call yc lim k x0 x3 x18 x19 x20 H (fun x3 H => k0 (sp 54 [(3, x3)]) H) := by
  have e : Code.at [1, 1, 1, 0, 1, 0] c25 = .loop (Code.at [1, 1, 1, 0, 1, 0, 0] c25) := by kernel_rfl
  rw [e]
  unfold N25_3
  exact loop_node [0, 3, 18, 19, 20] (fun x : AV => (sp 54 [(0, x0), (3, x3), (18, x18), (19, x19), (20, (x))])) (fun (x : AV) H kn => N25_3b ρ call yc lim k x0 x3 x18 x19 x H (fun _ _ _ _ x20 H => kn x20 H) (fun x3 H => k0 (sp 54 [(3, x3)]) H)) (by kernel_rfl) (fun x => by kernel_rfl) (fun x H kn => N25_3b_eq ρ call yc lim k x0 x3 x18 x19 (x) H kn k0 R) x20 (sp 54 [(0, x0), (3, x3), (18, x18), (19, x19), (20, x20)]) H (by kernel_rfl)
noncomputable def N25_2 (ρ : Addr → Option Value) (call : CallF) (yc : YieldF) (lim k : Nat) (x0 x3 x18 x19 x20 : AV) (H : Heap) (kn : AV → Heap → Res) : Res :=
  N25_3 ρ call yc lim k x0 x3 x18 x19 x20 H kn
theorem N25_2_x (ρ : Addr → Option Value) (call : CallF) (yc : YieldF) (lim k : Nat) (J : CodeF) (x0 x3 x18 x19 x20 : AV) (H : Heap) (kn : KS) (R : List AV → Heap → Res) :
    evX (cx ρ) call yc false 25 lim k J (Code.at [1, 1, 1, 0, 1] c25) (sp 54 [(0, x0), (3, x3), (18, x18), (19, x19), (20, x20)]) H (kk (some [3]) kn [] R [2]) =
  J (Code.at [1, 1, 1, 0, 1, 0] c25) (sp 54 [(0, x0), (3, x3), (18, x18), (19, x19), (20, x20)]) H (kk (some [3]) kn [(0, (some [3]), kn)] R [2]) := by
  kernel_rfl
theorem N25_2_eq (ρ : Addr → Option Value) (call : CallF) (yc : YieldF) (lim k : Nat) (x0 x3 x18 x19 x20 : AV) (H : Heap) (kn : KS) (R : List AV → Heap → Res) :
    evL (cx ρ) call yc false 25 lim k (Code.at [1, 1, 1, 0, 1] c25) (sp 54 [(0, x0), (3, x3), (18, x18), (19, x19), (20, x20)]) H (kk (some [3]) kn [] R [2]) = N25_2 ρ call yc lim k x0 x3 x18 x19 x20 H (fun x3 H => kn (sp 54 [(3, x3)]) H) := by
  rw [evL_X, N25_2_x]
  simp only [← evL_X, N25_2, N25_3_eq]
noncomputable def L25 (ρ : Addr → Option Value) (call : CallF) (yc : YieldF) (lim k : Nat) (x0 : AV) (H : Heap) : Res :=
  purK (binA Tryz.prog H .eql 42 x0 .nilp) fun x7 =>
  condK x7
  (
    retK [(.int .i64 0)] H)
  (
    purK (nilChkA x0) fun x9 =>
    purK (addA 4 x9) fun x10 =>
    purK (ld1 ρ H x10) fun x11 =>
    purK (nilChkA x0) fun x13 =>
    purK (addA 3 x13) fun x14 =>
    purK (ld1 ρ H x14) fun x15 =>
    resK (call lim 46 [x15] H) fun x16 H => bif (agn (ld1 ρ H x10) x11 && true) then
      resK (call lim 45 [x11, x16] H) fun x17 H =>
      purK (lenS x17) fun x19 =>
      N25_2 ρ call yc lim k x0 x17 x17 x19 (.int .i64 0) H (fun x3_1 H =>
        N25_1 ρ call yc lim k x3_1 H retK)
    else none)
theorem L25_x (ρ : Addr → Option Value) (call : CallF) (yc : YieldF) (lim k : Nat) (J : CodeF) (x0 : AV) (H : Heap) :
    evX (cx ρ) call yc false 25 lim k J c25 [x0, (.tup []), (.tup []), (.tup []), (.tup []), (.tup []), (.tup []), (.tup []), (.tup []), (.tup []), (.tup []), (.tup []), (.tup []), (.tup []), (.tup []), (.tup []), (.tup []), (.tup []), (.tup []), (.tup []), (.tup []), (.tup []), (.tup []), (.tup []), (.tup []), (.tup []), (.tup []), (.tup []), (.tup []), (.tup []), (.tup []), (.tup []), (.tup []), (.tup []), (.tup []), (.tup []), (.tup []), (.tup []), (.tup []), (.tup []), (.tup []), (.tup []), (.tup []), (.tup []), (.tup []), (.tup []), (.tup []), (.tup []), (.tup []), (.tup []), (.tup []), (.tup []), (.tup []), (.tup [])] H (kk none (fun s H => retK (([2] : List Nat).map fun t => s.getD t (.tup [])) H) [] retK [2]) =
  purK (binA Tryz.prog H .eql 42 x0 .nilp) fun x7 =>
  condK x7
  (
    retK [(.int .i64 0)] H)
  (
    purK (nilChkA x0) fun x9 =>
    purK (addA 4 x9) fun x10 =>
    purK (ld1 ρ H x10) fun x11 =>
    purK (nilChkA x0) fun x13 =>
    purK (addA 3 x13) fun x14 =>
    purK (ld1 ρ H x14) fun x15 =>
    resK (call lim 46 [x15] H) fun x16 H => bif (agn (ld1 ρ H x10) x11 && true) then
      resK (call lim 45 [x11, x16] H) fun x17 H =>
      purK (lenS x17) fun x19 =>
      J (Code.at [1, 1, 1, 0, 1] c25) (sp 54 [(0, x0), (3, x17), (18, x17), (19, x19), (20, (.int .i64 0))]) H (kk (some [3]) (fun s H => J (Code.at [1, 1, 1, 1] c25) s H (kk none (fun s H => retK (([2] : List Nat).map fun t => s.getD t (.tup [])) H) [] retK [2])) [] retK [2])
    else none) := by
  kernel_rfl
theorem G25 (ρ : Addr → Option Value) (call : CallF) (yc : YieldF) (lim k : Nat) (x0 : AV) (H : Heap) :
    evL (cx ρ) call yc false 25 lim k c25 [x0, (.tup []), (.tup []), (.tup []), (.tup []), (.tup []), (.tup []), (.tup []), (.tup []), (.tup []), (.tup []), (.tup []), (.tup []), (.tup []), (.tup []), (.tup []), (.tup []), (.tup []), (.tup []), (.tup []), (.tup []), (.tup []), (.tup []), (.tup []), (.tup []), (.tup []), (.tup []), (.tup []), (.tup []), (.tup []), (.tup []), (.tup []), (.tup []), (.tup []), (.tup []), (.tup []), (.tup []), (.tup []), (.tup []), (.tup []), (.tup []), (.tup []), (.tup []), (.tup []), (.tup []), (.tup []), (.tup []), (.tup []), (.tup []), (.tup []), (.tup []), (.tup []), (.tup []), (.tup [])] H (kk none (fun s H => retK (([2] : List Nat).map fun t => s.getD t (.tup [])) H) [] retK [2]) = L25 ρ call yc lim k x0 H := by
  rw [evL_X, L25_x]
  simp only [← evL_X, L25, N25_1_eq, N25_2_eq]
theorem E25 (ρ : Addr → Option Value) (k lim : Nat) (x0 : AV) (H : Heap) : evCall (cx ρ) (k + 1) lim 25 [x0] H = L25 ρ (evCall (cx ρ) k) (evCY (cx ρ) k).2 lim k x0 H := by
  rw [evCall_body (cx ρ) k lim 25 _ H Tryz.f25 c25 [2] (by kernel_rfl) (by kernel_rfl) (by kernel_rfl) (by kernel_rfl) (by kernel_rfl)]
  exact G25 ρ (evCall (cx ρ) k) (evCY (cx ρ) k).2 lim k x0 H
-- haycroft/hlog.New
noncomputable def c31 : Code := Code.of Tryz.prog 31
noncomputable def L31 (ρ : Addr → Option Value) (call : CallF) (yc : YieldF) (lim k : Nat) (x0 x1 : AV) (H : Heap) : Res :=
  effK H (boxA H 41 x0) fun x2 H =>
  purK (binA Tryz.prog H .eql 68 x1 .nilp) fun x13 =>
  condK x13
  (
    retK [.nilp, (.int .i64 2)] H)
  (
    purK (addA 0 x2) fun x15 =>
    purK (ld1 ρ H x15) fun x16 =>
    purK (addA 2 x2) fun x17 =>
    purK (ld1 ρ H x17) fun x18 =>
    resK (call lim 54 [x16, x18] H) fun x19 H =>
    purK (extA 0 x19) fun x20 =>
    purK (extA 1 x19) fun x21 =>
    purK (addA 0 x2) fun x23 =>
    purK (ld1 ρ H x23) fun x24 =>
    purK (addA 1 x2) fun x25 =>
    purK (ld1 ρ H x25) fun x26 =>
    resK (call lim 55 [x24, x26] H) fun x27 H =>
    purK (extA 0 x27) fun x28 =>
    purK (extA 1 x27) fun x29 =>
    purK (addA 5 x2) fun x31 =>
    purK (ld1 ρ H x31) fun x32 =>
    resK (call lim 56 [x32] H) fun x33 H =>
    purK (extA 0 x33) fun x34 =>
    purK (extA 1 x33) fun x35 =>
    purK (binA Tryz.prog H .neq 27 x21 (.int .i64 0)) fun x37 =>
    purK (gPur (wantV x37 false) (some x29)) fun x39 =>
    purK (gPur (wantV x37 false) (binA Tryz.prog H .neq 27 x39 (.int .i64 0))) fun x40 =>
    purK (pickA x37 (.bool true) x40) fun x41 =>
    purK (gPur (wantV x41 false) (some x35)) fun x43 =>
    purK (gPur (wantV x41 false) (binA Tryz.prog H .neq 27 x43 (.int .i64 0))) fun x44 =>
    purK (pickA x41 (.bool true) x44) fun x45 =>
    condK x45
    (
      retK [.nilp, (.int .i64 1)] H)
    (
      resK (call lim 57 [] H) fun x48 H =>
      resK (call lim 58 [] H) fun x50 H =>
      effK H (some (makeMapA H)) fun x52 H =>
      effK H (some (makeMapA H)) fun x53 H =>
      purK (bldA [.nilp, .nilp, .nilp, .nilp, .nilp, .nilp, .nilm, .nilm] [(0, 1, x20), (1, 1, x28), (2, 1, x48), (3, 1, x34), (4, 1, x50), (5, 1, x1), (6, 1, x52), (7, 1, x53)]) fun x54 =>
      effK H (boxA H 93 x54) fun x55 H =>
      resK (call lim 59 [x28, (.int .i64 0)] H) fun x57 H =>
      retK [x55, x57] H))
theorem G31 (ρ : Addr → Option Value) (call : CallF) (yc : YieldF) (lim k : Nat) (x0 x1 : AV) (H : Heap) :
    evL (cx ρ) call yc false 31 lim k c31 [x0, x1, (.tup []), (.tup []), (.tup []), (.tup []), (.tup []), (.tup []), (.tup []), (.tup []), (.tup []), (.tup []), (.tup []), (.tup []), (.tup []), (.tup []), (.tup []), (.tup []), (.tup []), (.tup []), (.tup []), (.tup []), (.tup []), (.tup []), (.tup []), (.tup []), (.tup []), (.tup []), (.tup []), (.tup []), (.tup []), (.tup []), (.tup []), (.tup []), (.tup []), (.tup []), (.tup []), (.tup []), (.tup []), (.tup []), (.tup []), (.tup []), (.tup []), (.tup []), (.tup []), (.tup []), (.tup []), (.tup []), (.tup []), (.tup []), (.tup []), (.tup []), (.tup []), (.tup []), (.tup []), (.tup []), (.tup []), (.tup [])] H (kk none (fun s H => retK (([4, 5] : List Nat).map fun t => s.getD t (.tup [])) H) [] retK [4, 5]) = L31 ρ call yc lim k x0 x1 H := by
  kernel_rfl
theorem E31 (ρ : Addr → Option Value) (k lim : Nat) (x0 x1 : AV) (H : Heap) : evCall (cx ρ) (k + 1) lim 31 [x0, x1] H = L31 ρ (evCall (cx ρ) k) (evCY (cx ρ) k).2 lim k x0 x1 H := by
  rw [evCall_body (cx ρ) k lim 31 _ H Tryz.f31 c31 [4, 5] (by kernel_rfl) (by kernel_rfl) (by kernel_rfl) (by kernel_rfl) (by kernel_rfl)]
  exact G31 ρ (evCall (cx ρ) k) (evCY (cx ρ) k).2 lim k x0 x1 H
-- haycroft/device.New
noncomputable def c32 : Code := Code.of Tryz.prog 32
noncomputable def L32 (ρ : Addr → Option Value) (call : CallF) (yc : YieldF) (lim k : Nat) (H : Heap) : Res :=
  effK H (some (makeMapA H)) fun x1 H =>
  effK H (some (makeMapA H)) fun x2 H =>
  effK H (some (makeMapA H)) fun x3 H =>
  purK (bldA [.bool false, .nilm, .nilm, .nilm, .int .i64 0] [(1, 1, x1), (2, 1, x2), (3, 1, x3)]) fun x4 =>
  effK H (boxA H 116 x4) fun x5 H =>
  retK [x5] H
theorem G32 (ρ : Addr → Option Value) (call : CallF) (yc : YieldF) (lim k : Nat) (H : Heap) :
    evL (cx ρ) call yc false 32 lim k c32 [(.tup []), (.tup []), (.tup []), (.tup []), (.tup []), (.tup [])] H (kk none (fun s H => retK (([0] : List Nat).map fun t => s.getD t (.tup [])) H) [] retK [0]) = L32 ρ call yc lim k H := by
  kernel_rfl
theorem E32 (ρ : Addr → Option Value) (k lim : Nat) (H : Heap) : evCall (cx ρ) (k + 1) lim 32 [] H = L32 ρ (evCall (cx ρ) k) (evCY (cx ρ) k).2 lim k H := by
  rw [evCall_body (cx ρ) k lim 32 _ H Tryz.f32 c32 [0] (by kernel_rfl) (by kernel_rfl) (by kernel_rfl) (by kernel_rfl) (by kernel_rfl)]
  exact G32 ρ (evCall (cx ρ) k) (evCY (cx ρ) k).2 lim k H
-- haycroft/index.New
noncomputable def c33 : Code := Code.of Tryz.prog 33
noncomputable def L33 (ρ : Addr → Option Value) (call : CallF) (yc : YieldF) (lim k : Nat) (x0 x1 : AV) (H : Heap) : Res :=
  resK (call lim 60 [x0] H) fun x10 H =>
  purK (unA .not x10) fun x11 =>
  purK (gPur (wantV x11 false) (some x1)) fun x13 =>
  purK (gPur (wantV x11 false) (binA Tryz.prog H .lss 3 x13 (.int .i64 0))) fun x14 =>
  purK (pickA x11 (.bool true) x14) fun x15 =>
  purK (gPur (wantV x15 false) (some x1)) fun x17 =>
  purK (gPur (wantV x15 false) (binA Tryz.prog H .gtr 3 x17 (.int .i64 64))) fun x18 =>
  purK (pickA x15 (.bool true) x18) fun x19 =>
  condK x19
  (
    retK [.nilp, (.int .i64 1)] H)
  (
    purK (binA Tryz.prog H .add 3 x0 x1) fun x23 =>
    purK (binA Tryz.prog H .mul 3 x23 (.int .i64 8)) fun x24 =>
    resK (call lim 61 [x24] H) fun x25 H =>
    purK (extA 0 x25) fun x26 =>
    purK (extA 1 x25) fun x27 =>
    purK (binA Tryz.prog H .neq 27 x27 (.int .i64 0)) fun x29 =>
    condK x29
    (
      retK [.nilp, x27] H)
    (
      resK (call lim 61 [(.int .i64 1)] H) fun x32 H =>
      purK (extA 0 x32) fun x33 =>
      purK (extA 1 x32) fun x34 =>
      purK (binA Tryz.prog H .neq 27 x34 (.int .i64 0)) fun x36 =>
      condK x36
      (
        retK [.nilp, x34] H)
      (
        purK (bldA [.int .i64 0, .int .i64 0, .nilp, .nilp] [(0, 1, x0), (1, 1, x1), (2, 1, x26), (3, 1, x33)]) fun x42 =>
        effK H (boxA H 137 x42) fun x43 H =>
        retK [x43, (.int .i64 0)] H)))
theorem G33 (ρ : Addr → Option Value) (call : CallF) (yc : YieldF) (lim k : Nat) (x0 x1 : AV) (H : Heap) :
    evL (cx ρ) call yc false 33 lim k c33 [x0, x1, (.tup []), (.tup []), (.tup []), (.tup []), (.tup []), (.tup []), (.tup []), (.tup []), (.tup []), (.tup []), (.tup []), (.tup []), (.tup []), (.tup []), (.tup []), (.tup []), (.tup []), (.tup []), (.tup []), (.tup []), (.tup []), (.tup []), (.tup []), (.tup []), (.tup []), (.tup []), (.tup []), (.tup []), (.tup []), (.tup []), (.tup []), (.tup []), (.tup []), (.tup []), (.tup []), (.tup []), (.tup []), (.tup []), (.tup []), (.tup []), (.tup []), (.tup [])] H (kk none (fun s H => retK (([4, 5] : List Nat).map fun t => s.getD t (.tup [])) H) [] retK [4, 5]) = L33 ρ call yc lim k x0 x1 H := by
  kernel_rfl
theorem E33 (ρ : Addr → Option Value) (k lim : Nat) (x0 x1 : AV) (H : Heap) : evCall (cx ρ) (k + 1) lim 33 [x0, x1] H = L33 ρ (evCall (cx ρ) k) (evCY (cx ρ) k).2 lim k x0 x1 H := by
  rw [evCall_body (cx ρ) k lim 33 _ H Tryz.f33 c33 [4, 5] (by kernel_rfl) (by kernel_rfl) (by kernel_rfl) (by kernel_rfl) (by kernel_rfl)]
  exact G33 ρ (evCall (cx ρ) k) (evCY (cx ρ) k).2 lim k x0 x1 H
-- (*haycroft/task.Task).Lost
noncomputable def c34 : Code := Code.of Tryz.prog 34
noncomputable def L34 (ρ : Addr → Option Value) (call : CallF) (yc : YieldF) (lim k : Nat) (x0 : AV) (H : Heap) : Res :=
  purK (binA Tryz.prog H .eql 57 x0 .nilp) fun x4 =>
  condK x4
  (
    retK [(.int .i64 0)] H)
  (
    purK (nilChkA x0) fun x6 =>
    purK (addA 23 x6) fun x7 =>
    purK (ld1 ρ H x7) fun x8 =>
    retK [x8] H)
theorem G34 (ρ : Addr → Option Value) (call : CallF) (yc : YieldF) (lim k : Nat) (x0 : AV) (H : Heap) :
    evL (cx ρ) call yc false 34 lim k c34 [x0, (.tup []), (.tup []), (.tup []), (.tup []), (.tup []), (.tup []), (.tup []), (.tup [])] H (kk none (fun s H => retK (([2] : List Nat).map fun t => s.getD t (.tup [])) H) [] retK [2]) = L34 ρ call yc lim k x0 H := by
  kernel_rfl
theorem E34 (ρ : Addr → Option Value) (k lim : Nat) (x0 : AV) (H : Heap) : evCall (cx ρ) (k + 1) lim 34 [x0] H = L34 ρ (evCall (cx ρ) k) (evCY (cx ρ) k).2 lim k x0 H := by
  rw [evCall_body (cx ρ) k lim 34 _ H Tryz.f34 c34 [2] (by kernel_rfl) (by kernel_rfl) (by kernel_rfl) (by kernel_rfl) (by kernel_rfl)]
  exact G34 ρ (evCall (cx ρ) k) (evCY (cx ρ) k).2 lim k x0 H
-- haycroft/task.Right
noncomputable def c35 : Code := Code.of Tryz.prog 35
noncomputable def N35_1 (ρ : Addr → Option Value) (call : CallF) (yc : YieldF) (lim k : Nat) (H : Heap) (R : List AV → Heap → Res) : Res :=
  R [(.int .i64 0)] H
theorem N35_1_eq (ρ : Addr → Option Value) (call : CallF) (yc : YieldF) (lim k : Nat) (H : Heap) (R : List AV → Heap → Res) :
    evL (cx ρ) call yc false 35 lim k (Code.at [1, 1] c35) (sp 29 []) H (kk none (fun s H => R (([2] : List Nat).map fun t => s.getD t (.tup [])) H) [] R [2]) = N35_1 ρ call yc lim k H R := by
  kernel_rfl
noncomputable def N35_3 (ρ : Addr → Option Value) (call : CallF) (yc : YieldF) (lim k : Nat) (x15 : AV) (H : Heap) (kn : Heap → Res) (R : List AV → Heap → Res) : Res :=
  condK x15
  (
    R [(.int .i64 5)] H)
  (
    kn H)
theorem N35_3_eq (ρ : Addr → Option Value) (call : CallF) (yc : YieldF) (lim k : Nat) (x15 : AV) (H : Heap) (kn : KS) (k0 : KS) (R : List AV → Heap → Res) :
    evL (cx ρ) call yc false 35 lim k (Code.at [1, 0, 0, 1, 1, 1] c35) (sp 29 [(15, x15)]) H (kk (some []) kn [(0, (some []), k0)] R [2]) = N35_3 ρ call yc lim k x15 H (fun H => kn (sp 29 []) H) R := by
  kernel_rfl
noncomputable def N35_2 (ρ : Addr → Option Value) (call : CallF) (yc : YieldF) (lim k : Nat) (x1 x3 : AV) (H : Heap) (kn : Heap → Res) (R : List AV → Heap → Res) : Res :=
  condK x3
  (
    R [(.int .i64 1)] H)
  (
    purK (addA 1 x1) fun x16_1 =>
    purK (ld1 ρ H x16_1) fun x17_1 =>
    purK (lenT x17_1) fun x18_1 =>
    purK (binA Tryz.prog H .gtr 3 x18_1 (.int .i64 64)) fun x19_1 =>
    condK x19_1
    (
      N35_3 ρ call yc lim k x19_1 H kn R)
    (
      purK (addA 0 x1) fun x20_1 =>
      purK (ld1 ρ H x20_1) fun x21_1 =>
      purK (binA Tryz.prog H .eql 3 x21_1 (.int .i64 2)) fun x22_1 =>
      purK (gPur (wantV x22_1 true) (addA 2 x1)) fun x24_1 =>
      purK (gPur (wantV x22_1 true) (ld1 ρ H x24_1)) fun x25_1 =>
      purK (gPur (wantV x22_1 true) (lenT x25_1)) fun x26_1 =>
      purK (gPur (wantV x22_1 true) (binA Tryz.prog H .gtr 3 x26_1 (.int .i64 128))) fun x27_1 =>
      purK (pickA x22_1 x27_1 (.bool false)) fun x28_1 =>
      N35_3 ρ call yc lim k x28_1 H kn R))
theorem N35_2_x (ρ : Addr → Option Value) (call : CallF) (yc : YieldF) (lim k : Nat) (J : CodeF) (x1 x3 : AV) (H : Heap) (kn : KS) (k0 : KS) (R : List AV → Heap → Res) :
    evX (cx ρ) call yc false 35 lim k J (Code.at [1, 0, 0, 1] c35) (sp 29 [(1, x1), (3, x3)]) H (kk (some []) kn [(0, (some []), k0)] R [2]) =
  condK x3
  (
    R [(.int .i64 1)] H)
  (
    purK (addA 1 x1) fun x16_1 =>
    purK (ld1 ρ H x16_1) fun x17_1 =>
    purK (lenT x17_1) fun x18_1 =>
    purK (binA Tryz.prog H .gtr 3 x18_1 (.int .i64 64)) fun x19_1 =>
    condK x19_1
    (
      J (Code.at [1, 0, 0, 1, 1, 1] c35) (sp 29 [(15, x19_1)]) H (kk (some []) kn [(0, (some []), k0)] R [2]))
    (
      purK (addA 0 x1) fun x20_1 =>
      purK (ld1 ρ H x20_1) fun x21_1 =>
      purK (binA Tryz.prog H .eql 3 x21_1 (.int .i64 2)) fun x22_1 =>
      purK (gPur (wantV x22_1 true) (addA 2 x1)) fun x24_1 =>
      purK (gPur (wantV x22_1 true) (ld1 ρ H x24_1)) fun x25_1 =>
      purK (gPur (wantV x22_1 true) (lenT x25_1)) fun x26_1 =>
      purK (gPur (wantV x22_1 true) (binA Tryz.prog H .gtr 3 x26_1 (.int .i64 128))) fun x27_1 =>
      purK (pickA x22_1 x27_1 (.bool false)) fun x28_1 =>
      J (Code.at [1, 0, 0, 1, 1, 1] c35) (sp 29 [(15, x28_1)]) H (kk (some []) kn [(0, (some []), k0)] R [2]))) := by
  kernel_rfl
theorem N35_2_eq (ρ : Addr → Option Value) (call : CallF) (yc : YieldF) (lim k : Nat) (x1 x3 : AV) (H : Heap) (kn : KS) (k0 : KS) (R : List AV → Heap → Res) :
    evL (cx ρ) call yc false 35 lim k (Code.at [1, 0, 0, 1] c35) (sp 29 [(1, x1), (3, x3)]) H (kk (some []) kn [(0, (some []), k0)] R [2]) = N35_2 ρ call yc lim k x1 x3 H (fun H => kn (sp 29 []) H) R := by
  rw [evL_X, N35_2_x]
  simp only [← evL_X, N35_2, N35_3_eq]
noncomputable def L35 (ρ : Addr → Option Value) (call : CallF) (yc : YieldF) (lim k : Nat) (x0 : AV) (H : Heap) : Res :=
  effK H (boxA H 24 x0) fun x1 H =>
  purK (addA 0 x1) fun x4 =>
  purK (ld1 ρ H x4) fun x5 =>
  purK (binA Tryz.prog H .lss 3 x5 (.int .i64 1)) fun x6 =>
  purK (gPur (wantV x6 false) (addA 0 x1)) fun x8 =>
  purK (gPur (wantV x6 false) (ld1 ρ H x8)) fun x9 =>
  purK (gPur (wantV x6 false) (binA Tryz.prog H .gtr 3 x9 (.int .i64 4))) fun x10 =>
  purK (pickA x6 (.bool true) x10) fun x11 =>
  condK x11
  (
    N35_2 ρ call yc lim k x1 x11 H (fun H =>
      N35_1 ρ call yc lim k H retK) retK)
  (
    purK (addA 1 x1) fun x12 =>
    purK (ld1 ρ H x12) fun x13 =>
    purK (binA Tryz.prog H .eql 9 x13 (.str (ByteArray.mk #[]))) fun x14 =>
    N35_2 ρ call yc lim k x1 x14 H (fun H =>
      N35_1 ρ call yc lim k H retK) retK)
theorem L35_x (ρ : Addr → Option Value) (call : CallF) (yc : YieldF) (lim k : Nat) (J : CodeF) (x0 : AV) (H : Heap) :
    evX (cx ρ) call yc false 35 lim k J c35 [x0, (.tup []), (.tup []), (.tup []), (.tup []), (.tup []), (.tup []), (.tup []), (.tup []), (.tup []), (.tup []), (.tup []), (.tup []), (.tup []), (.tup []), (.tup []), (.tup []), (.tup []), (.tup []), (.tup []), (.tup []), (.tup []), (.tup []), (.tup []), (.tup []), (.tup []), (.tup []), (.tup []), (.tup [])] H (kk none (fun s H => retK (([2] : List Nat).map fun t => s.getD t (.tup [])) H) [] retK [2]) =
  effK H (boxA H 24 x0) fun x1 H =>
  purK (addA 0 x1) fun x4 =>
  purK (ld1 ρ H x4) fun x5 =>
  purK (binA Tryz.prog H .lss 3 x5 (.int .i64 1)) fun x6 =>
  purK (gPur (wantV x6 false) (addA 0 x1)) fun x8 =>
  purK (gPur (wantV x6 false) (ld1 ρ H x8)) fun x9 =>
  purK (gPur (wantV x6 false) (binA Tryz.prog H .gtr 3 x9 (.int .i64 4))) fun x10 =>
  purK (pickA x6 (.bool true) x10) fun x11 =>
  condK x11
  (
    J (Code.at [1, 0, 0, 1] c35) (sp 29 [(1, x1), (3, x11)]) H (kk (some []) (fun s H => J (Code.at [1, 1] c35) s H (kk none (fun s H => retK (([2] : List Nat).map fun t => s.getD t (.tup [])) H) [] retK [2])) [(0, (some []), (fun s H => J (Code.at [1, 1] c35) s H (kk none (fun s H => retK (([2] : List Nat).map fun t => s.getD t (.tup [])) H) [] retK [2])))] retK [2]))
  (
    purK (addA 1 x1) fun x12 =>
    purK (ld1 ρ H x12) fun x13 =>
    purK (binA Tryz.prog H .eql 9 x13 (.str (ByteArray.mk #[]))) fun x14 =>
    J (Code.at [1, 0, 0, 1] c35) (sp 29 [(1, x1), (3, x14)]) H (kk (some []) (fun s H => J (Code.at [1, 1] c35) s H (kk none (fun s H => retK (([2] : List Nat).map fun t => s.getD t (.tup [])) H) [] retK [2])) [(0, (some []), (fun s H => J (Code.at [1, 1] c35) s H (kk none (fun s H => retK (([2] : List Nat).map fun t => s.getD t (.tup [])) H) [] retK [2])))] retK [2])) := by
  kernel_rfl
theorem G35 (ρ : Addr → Option Value) (call : CallF) (yc : YieldF) (lim k : Nat) (x0 : AV) (H : Heap) :
    evL (cx ρ) call yc false 35 lim k c35 [x0, (.tup []), (.tup []), (.tup []), (.tup []), (.tup []), (.tup []), (.tup []), (.tup []), (.tup []), (.tup []), (.tup []), (.tup []), (.tup []), (.tup []), (.tup []), (.tup []), (.tup []), (.tup []), (.tup []), (.tup []), (.tup []), (.tup []), (.tup []), (.tup []), (.tup []), (.tup []), (.tup []), (.tup [])] H (kk none (fun s H => retK (([2] : List Nat).map fun t => s.getD t (.tup [])) H) [] retK [2]) = L35 ρ call yc lim k x0 H := by
  rw [evL_X, L35_x]
  simp only [← evL_X, L35, N35_1_eq, N35_2_eq]
theorem E35 (ρ : Addr → Option Value) (k lim : Nat) (x0 : AV) (H : Heap) : evCall (cx ρ) (k + 1) lim 35 [x0] H = L35 ρ (evCall (cx ρ) k) (evCY (cx ρ) k).2 lim k x0 H := by
  rw [evCall_body (cx ρ) k lim 35 _ H Tryz.f35 c35 [2] (by kernel_rfl) (by kernel_rfl) (by kernel_rfl) (by kernel_rfl) (by kernel_rfl)]
  exact G35 ρ (evCall (cx ρ) k) (evCY (cx ρ) k).2 lim k x0 H
-- haycroft/mix.Key
noncomputable def c36 : Code := Code.of Tryz.prog 36
noncomputable def N36_2 (ρ : Addr → Option Value) (call : CallF) (yc : YieldF) (lim k : Nat) (x3 : AV) (H : Heap) (R : List AV → Heap → Res) : Res :=
  R [x3] H
theorem N36_2_eq (ρ : Addr → Option Value) (call : CallF) (yc : YieldF) (lim k : Nat) (x3 : AV) (H : Heap) (R : List AV → Heap → Res) :
    evL (cx ρ) call yc false 36 lim k (Code.at [1, 1, 1, 1] c36) (sp 32 [(3, x3)]) H (kk none (fun s H => R (([2] : List Nat).map fun t => s.getD t (.tup [])) H) [] R [2]) = N36_2 ρ call yc lim k x3 H R := by
  kernel_rfl
noncomputable def N36_5 (ρ : Addr → Option Value) (call : CallF) (yc : YieldF) (lim k : Nat) (x3 x19 : AV) (H : Heap) (kn : AV → AV → Heap → Res) : Res :=
  purK (binA Tryz.prog H .add 3 x19 (.int .i64 1)) fun x30_1 =>
  kn x3 x30_1 H
theorem N36_5_eq (ρ : Addr → Option Value) (call : CallF) (yc : YieldF) (lim k : Nat) (x3 x19 : AV) (H : Heap) (kn : KS) (k2 : KS) (R : List AV → Heap → Res) :
    evL (cx ρ) call yc false 36 lim k (Code.at [1, 1, 1, 0, 1, 0, 0, 1, 1, 1] c36) (sp 32 [(3, x3), (19, x19)]) H (kk (some [3, 19]) kn [(2, (some [3]), k2)] R [2]) = N36_5 ρ call yc lim k x3 x19 H (fun x3 x19 H => kn (sp 32 [(3, x3), (19, x19)]) H) := by
  kernel_rfl
noncomputable def N36_4b (ρ : Addr → Option Value) (call : CallF) (yc : YieldF) (lim k : Nat) (x3 x19 : AV) (H : Heap) (kn : AV → AV → Heap → Res) (k2 : AV → Heap → Res) : Res :=
  purK (binA Tryz.prog H .lss 3 x19 (.int .i64 3)) fun x20_1 =>
  condK x20_1
  (
    purK (binA Tryz.prog H .shr 22 x3 (.int .u64 32)) fun x24_1 =>
    purK (binA Tryz.prog H .xor 22 x3 x24_1) fun x25_1 =>
    purK (binA Tryz.prog H .lss 3 x19 (.int .i64 2)) fun x27_1 =>
    condK x27_1
    (
      purK (binA Tryz.prog H .mul 22 x25_1 (.int .u64 15480190943371904987)) fun x29_1 =>
      N36_5 ρ call yc lim k x29_1 x19 H kn)
    (
      N36_5 ρ call yc lim k x25_1 x19 H kn))
  (
    k2 x3 H)
theorem N36_4b_x (ρ : Addr → Option Value) (call : CallF) (yc : YieldF) (lim k : Nat) (J : CodeF) (x3 x19 : AV) (H : Heap) (kn : KS) (k2 : KS) (R : List AV → Heap → Res) :
    evX (cx ρ) call yc false 36 lim k J (Code.at [1, 1, 1, 0, 1, 0, 0] c36) (sp 32 [(3, x3), (19, x19)]) H (kk (some [3, 19]) kn [(2, (some [3]), k2)] R [2]) =
  purK (binA Tryz.prog H .lss 3 x19 (.int .i64 3)) fun x20_1 =>
  condK x20_1
  (
    purK (binA Tryz.prog H .shr 22 x3 (.int .u64 32)) fun x24_1 =>
    purK (binA Tryz.prog H .xor 22 x3 x24_1) fun x25_1 =>
    purK (binA Tryz.prog H .lss 3 x19 (.int .i64 2)) fun x27_1 =>
    condK x27_1
    (
      purK (binA Tryz.prog H .mul 22 x25_1 (.int .u64 15480190943371904987)) fun x29_1 =>
      J (Code.at [1, 1, 1, 0, 1, 0, 0, 1, 1, 1] c36) (sp 32 [(3, x29_1), (19, x19)]) H (kk (some [3, 19]) kn [(2, (some [3]), k2)] R [2]))
    (
      J (Code.at [1, 1, 1, 0, 1, 0, 0, 1, 1, 1] c36) (sp 32 [(3, x25_1), (19, x19)]) H (kk (some [3, 19]) kn [(2, (some [3]), k2)] R [2])))
  (
    k2 (sp 32 [(3, x3)]) H) := by
  kernel_rfl
theorem N36_4b_eq (ρ : Addr → Option Value) (call : CallF) (yc : YieldF) (lim k : Nat) (x3 x19 : AV) (H : Heap) (kn : KS) (k2 : KS) (R : List AV → Heap → Res) :
    evL (cx ρ) call yc false 36 lim k (Code.at [1, 1, 1, 0, 1, 0, 0] c36) (sp 32 [(3, x3), (19, x19)]) H (kk (some [3, 19]) kn [(2, (some [3]), k2)] R [2]) = N36_4b ρ call yc lim k x3 x19 H (fun x3 x19 H => kn (sp 32 [(3, x3), (19, x19)]) H) (fun x3 H => k2 (sp 32 [(3, x3)]) H) := by
  rw [evL_X, N36_4b_x]
  simp only [← evL_X, N36_4b, N36_5_eq]
noncomputable def N36_4 (ρ : Addr → Option Value) (call : CallF) (yc : YieldF) (lim k : Nat) (x3 x19 : AV) (H : Heap) (k2 : AV → Heap → Res) : Res :=
  loopL (fun (x : AV × AV) H kn => N36_4b ρ call yc lim k x.1 x.2 H (fun x3 x19 H => kn (x3, x19) H) k2) k (x3, x19) H
theorem N36_4_eq (ρ : Addr → Option Value) (call : CallF) (yc : YieldF) (lim k : Nat) (x3 x19 : AV) (H : Heap) (kn : KS) (k2 : KS) (R : List AV → Heap → Res) :
    evL (cx ρ) call yc false 36 lim k (Code.at [1, 1, 1, 0, 1, 0] c36) (sp 32 [(3, x3), (19, x19)]) H (kk (some [3]) kn [(2, (some [3]), k2)] R [2]) = N36_4 ρ call yc lim k x3 x19 H (fun x3 H => k2 (sp 32 [(3, x3)]) H) := by
  have e : Code.at [1, 1, 1, 0, 1, 0] c36 = .loop (Code.at [1, 1, 1, 0, 1, 0, 0] c36) := by kernel_rfl
  rw [e]
  unfold N36_4
  exact loop_node [3, 19] (fun x : AV × AV => (sp 32 [(3, (x.1)), (19, (x.2))])) (fun (x : AV × AV) H kn => N36_4b ρ call yc lim k x.1 x.2 H (fun x3 x19 H => kn (x3, x19) H) (fun x3 H => k2 (sp 32 [(3, x3)]) H)) (by kernel_rfl) (fun x => by kernel_rfl) (fun x H kn => N36_4b_eq ρ call yc lim k (x.1) (x.2) H kn k2 R) (x3, x19) (sp 32 [(3, x3), (19, x19)]) H (by kernel_rfl)
noncomputable def N36_3 (ρ : Addr → Option Value) (call : CallF) (yc : YieldF) (lim k : Nat) (x3 x19 : AV) (H : Heap) (kn : AV → Heap → Res) : Res :=
  N36_4 ρ call yc lim k x3 x19 H kn
theorem N36_3_x (ρ : Addr → Option Value) (call : CallF) (yc : YieldF) (lim k : Nat) (J : CodeF) (x3 x19 : AV) (H : Heap) (kn : KS) (R : List AV → Heap → Res) :
    evX (cx ρ) call yc false 36 lim k J (Code.at [1, 1, 1, 0, 1] c36) (sp 32 [(3, x3), (19, x19)]) H (kk (some [3]) kn [] R [2]) =
  J (Code.at [1, 1, 1, 0, 1, 0] c36) (sp 32 [(3, x3), (19, x19)]) H (kk (some [3]) kn [(2, (some [3]), kn)] R [2]) := by
  kernel_rfl
theorem N36_3_eq (ρ : Addr → Option Value) (call : CallF) (yc : YieldF) (lim k : Nat) (x3 x19 : AV) (H : Heap) (kn : KS) (R : List AV → Heap → Res) :
    evL (cx ρ) call yc false 36 lim k (Code.at [1, 1, 1, 0, 1] c36) (sp 32 [(3, x3), (19, x19)]) H (kk (some [3]) kn [] R [2]) = N36_3 ρ call yc lim k x3 x19 H (fun x3 H => kn (sp 32 [(3, x3)]) H) := by
  rw [evL_X, N36_3_x]
  simp only [← evL_X, N36_3, N36_4_eq]
noncomputable def N36_1 (ρ : Addr → Option Value) (call : CallF) (yc : YieldF) (lim k : Nat) (x3 : AV) (H : Heap) (R : List AV → Heap → Res) : Res :=
  N36_3 ρ call yc lim k x3 (.int .i64 0) H (fun x3_1 H =>
    N36_2 ρ call yc lim k x3_1 H R)
theorem N36_1_x (ρ : Addr → Option Value) (call : CallF) (yc : YieldF) (lim k : Nat) (J : CodeF) (x3 : AV) (H : Heap) (R : List AV → Heap → Res) :
    evX (cx ρ) call yc false 36 lim k J (Code.at [1, 1, 1] c36) (sp 32 [(3, x3)]) H (kk none (fun s H => R (([2] : List Nat).map fun t => s.getD t (.tup [])) H) [] R [2]) =
  J (Code.at [1, 1, 1, 0, 1] c36) (sp 32 [(3, x3), (19, (.int .i64 0))]) H (kk (some [3]) (fun s H => J (Code.at [1, 1, 1, 1] c36) s H (kk none (fun s H => R (([2] : List Nat).map fun t => s.getD t (.tup [])) H) [] R [2])) [] R [2]) := by
  kernel_rfl
theorem N36_1_eq (ρ : Addr → Option Value) (call : CallF) (yc : YieldF) (lim k : Nat) (x3 : AV) (H : Heap) (R : List AV → Heap → Res) :
    evL (cx ρ) call yc false 36 lim k (Code.at [1, 1, 1] c36) (sp 32 [(3, x3)]) H (kk none (fun s H => R (([2] : List Nat).map fun t => s.getD t (.tup [])) H) [] R [2]) = N36_1 ρ call yc lim k x3 H R := by
  rw [evL_X, N36_1_x]
  simp only [← evL_X, N36_1, N36_2_eq, N36_3_eq]
noncomputable def N36_7b (ρ : Addr → Option Value) (call : CallF) (yc : YieldF) (lim k : Nat) (x0 x3 x7 x8 : AV) (H : Heap) (kn : AV → AV → AV → AV → Heap → Res) (k0 : AV → Heap → Res) : Res :=
  purK (binA Tryz.prog H .lss 3 x8 x7) fun x9_1 =>
  condK x9_1
  (
    purK (ixT x0 x8) fun x14_1 =>
    purK (cvI .u64 x14_1) fun x15_1 =>
    purK (binA Tryz.prog H .xor 22 x3 x15_1) fun x16_1 =>
    purK (binA Tryz.prog H .mul 22 x16_1 (.int .u64 1099511628211)) fun x17_1 =>
    purK (binA Tryz.prog H .add 3 x8 (.int .i64 1)) fun x18_1 =>
    kn x0 x17_1 x7 x18_1 H)
  (
    k0 x3 H)
theorem N36_7b_eq (ρ : Addr → Option Value) (call : CallF) (yc : YieldF) (lim k : Nat) (x0 x3 x7 x8 : AV) (H : Heap) (kn : KS) (k0 : KS) (R : List AV → Heap → Res) :
    evL (cx ρ) call yc false 36 lim k (Code.at [1, 1, 0, 1, 0, 0] c36) (sp 32 [(0, x0), (3, x3), (7, x7), (8, x8)]) H (kk (some [0, 3, 7, 8]) kn [(0, (some [3]), k0)] R [2]) = N36_7b ρ call yc lim k x0 x3 x7 x8 H (fun x0 x3 x7 x8 H => kn (sp 32 [(0, x0), (3, x3), (7, x7), (8, x8)]) H) (fun x3 H => k0 (sp 32 [(3, x3)]) H) := by
  kernel_rfl
noncomputable def N36_7 (ρ : Addr → Option Value) (call : CallF) (yc : YieldF) (lim k : Nat) (x0 x3 x7 x8 : AV) (H : Heap) (k0 : AV → Heap → Res) : Res :=
  loopL (fun (x : AV × AV) H kn => N36_7b ρ call yc lim k x0 x.1 x7 x.2 H (fun _ x3 _ x8 H => kn (x3, x8) H) k0) k (x3, x8) H
theorem N36_7_eq (ρ : Addr → Option Value) (call : CallF) (yc : YieldF) (lim k : Nat) (x0 x3 x7 x8 : AV) (H : Heap) (kn : KS) (k0 : KS) (R : List AV → Heap → Res) :
    evL (cx ρ) call yc false 36 lim k (Code.at [1, 1, 0, 1, 0] c36) (sp 32 [(0, x0), (3, x3), (7, x7), (8, x8)]) H (kk (some [3]) kn [(0, (some [3]), k0)] R [2]) = N36_7 ρ call yc lim k x0 x3 x7 x8 H (fun x3 H => k0 (sp 32 [(3, x3)]) H) := by
  have e : Code.at [1, 1, 0, 1, 0] c36 = .loop (Code.at [1, 1, 0, 1, 0, 0] c36) := by kernel_rfl
  rw [e]
  unfold N36_7
  exact loop_node [0, 3, 7, 8] (fun x : AV × AV => (sp 32 [(0, x0), (3, (x.1)), (7, x7), (8, (x.2))])) (fun (x : AV × AV) H kn => N36_7b ρ call yc lim k x0 x.1 x7 x.2 H (fun _ x3 _ x8 H => kn (x3, x8) H) (fun x3 H => k0 (sp 32 [(3, x3)]) H)) (by kernel_rfl) (fun x => by kernel_rfl) (fun x H kn => N36_7b_eq ρ call yc lim k x0 (x.1) x7 (x.2) H kn k0 R) (x3, x8) (sp 32 [(0, x0), (3, x3), (7, x7), (8, x8)]) H (by kernel_rfl)
noncomputable def N36_6 (ρ : Addr → Option Value) (call : CallF) (yc : YieldF) (lim k : Nat) (x0 x3 x7 x8 : AV) (H : Heap) (kn : AV → Heap → Res) : Res :=
  N36_7 ρ call yc lim k x0 x3 x7 x8 H kn
theorem N36_6_x (ρ : Addr → Option Value) (call : CallF) (yc : YieldF) (lim k : Nat) (J : CodeF) (x0 x3 x7 x8 : AV) (H : Heap) (kn : KS) (R : List AV → Heap → Res) :
    evX (cx ρ) call yc false 36 lim k J (Code.at [1, 1, 0, 1] c36) (sp 32 [(0, x0), (3, x3), (7, x7), (8, x8)]) H (kk (some [3]) kn [] R [2]) =
  J (Code.at [1, 1, 0, 1, 0] c36) (sp 32 [(0, x0), (3, x3), (7, x7), (8, x8)]) H (kk (some [3]) kn [(0, (some [3]), kn)] R [2]) := by
  kernel_rfl
theorem N36_6_eq (ρ : Addr → Option Value) (call : CallF) (yc : YieldF) (lim k : Nat) (x0 x3 x7 x8 : AV) (H : Heap) (kn : KS) (R : List AV → Heap → Res) :
    evL (cx ρ) call yc false 36 lim k (Code.at [1, 1, 0, 1] c36) (sp 32 [(0, x0), (3, x3), (7, x7), (8, x8)]) H (kk (some [3]) kn [] R [2]) = N36_6 ρ call yc lim k x0 x3 x7 x8 H (fun x3 H => kn (sp 32 [(3, x3)]) H) := by
  rw [evL_X, N36_6_x]
  simp only [← evL_X, N36_6, N36_7_eq]
noncomputable def L36 (ρ : Addr → Option Value) (call : CallF) (yc : YieldF) (lim k : Nat) (x0 : AV) (H : Heap) : Res :=
  purK (lenT x0) fun x7 =>
  N36_6 ρ call yc lim k x0 (.int .u64 14695981039346656037) x7 (.int .i64 0) H (fun x3 H =>
    N36_1 ρ call yc lim k x3 H retK)
theorem L36_x (ρ : Addr → Option Value) (call : CallF) (yc : YieldF) (lim k : Nat) (J : CodeF) (x0 : AV) (H : Heap) :
    evX (cx ρ) call yc false 36 lim k J c36 [x0, (.tup []), (.tup []), (.tup []), (.tup []), (.tup []), (.tup []), (.tup []), (.tup []), (.tup []), (.tup []), (.tup []), (.tup []), (.tup []), (.tup []), (.tup []), (.tup []), (.tup []), (.tup []), (.tup []), (.tup []), (.tup []), (.tup []), (.tup []), (.tup []), (.tup []), (.tup []), (.tup []), (.tup []), (.tup []), (.tup []), (.tup [])] H (kk none (fun s H => retK (([2] : List Nat).map fun t => s.getD t (.tup [])) H) [] retK [2]) =
  purK (lenT x0) fun x7 =>
  J (Code.at [1, 1, 0, 1] c36) (sp 32 [(0, x0), (3, (.int .u64 14695981039346656037)), (7, x7), (8, (.int .i64 0))]) H (kk (some [3]) (fun s H => J (Code.at [1, 1, 1] c36) s H (kk none (fun s H => retK (([2] : List Nat).map fun t => s.getD t (.tup [])) H) [] retK [2])) [] retK [2]) := by
  kernel_rfl
theorem G36 (ρ : Addr → Option Value) (call : CallF) (yc : YieldF) (lim k : Nat) (x0 : AV) (H : Heap) :
    evL (cx ρ) call yc false 36 lim k c36 [x0, (.tup []), (.tup []), (.tup []), (.tup []), (.tup []), (.tup []), (.tup []), (.tup []), (.tup []), (.tup []), (.tup []), (.tup []), (.tup []), (.tup []), (.tup []), (.tup []), (.tup []), (.tup []), (.tup []), (.tup []), (.tup []), (.tup []), (.tup []), (.tup []), (.tup []), (.tup []), (.tup []), (.tup []), (.tup []), (.tup []), (.tup [])] H (kk none (fun s H => retK (([2] : List Nat).map fun t => s.getD t (.tup [])) H) [] retK [2]) = L36 ρ call yc lim k x0 H := by
  rw [evL_X, L36_x]
  simp only [← evL_X, L36, N36_1_eq, N36_6_eq]
theorem E36 (ρ : Addr → Option Value) (k lim : Nat) (x0 : AV) (H : Heap) : evCall (cx ρ) (k + 1) lim 36 [x0] H = L36 ρ (evCall (cx ρ) k) (evCY (cx ρ) k).2 lim k x0 H := by
  rw [evCall_body (cx ρ) k lim 36 _ H Tryz.f36 c36 [2] (by kernel_rfl) (by kernel_rfl) (by kernel_rfl) (by kernel_rfl) (by kernel_rfl)]
  exact G36 ρ (evCall (cx ρ) k) (evCY (cx ρ) k).2 lim k x0 H
-- (*haycroft/task.Task).look
noncomputable def c37 : Code := Code.of Tryz.prog 37
noncomputable def L37 (ρ : Addr → Option Value) (call : CallF) (yc : YieldF) (lim k : Nat) (x0 : AV) (H : Heap) : Res :=
  mkK H (some (.ptr H.sz 0 0, .new (newCells 140 false [.int .i64 0, .int .i64 0, .int .u64 0, .int .i64 0]))) true fun x4 H =>
  purK (nilChkA x0) fun x8 =>
  purK (addA 1 x8) fun x9 =>
  purK (ld1 ρ H x9) fun x10 =>
  purK (nilChkA x0) fun x12 =>
  purK (addA 7 x12) fun x13 =>
  purK (ld1 ρ H x13) fun x14 =>
  resK (call lim 62 [x10, x14] H) fun x15 H =>
  purK (extA 0 x15) fun x16 =>
  purK (extA 1 x15) fun x17 =>
  effK H (stA lim H 4 x4 x16) fun _ H =>
  purK (binA Tryz.prog H .neq 27 x17 (.int .i64 0)) fun x19 =>
  condK x19
  (
    resK (call lim 44 [x17] H) fun x21 H =>
    purK (extA 0 x21) fun x22 =>
    purK (extA 1 x21) fun x23 =>
    retK [x22, x23] H)
  (
    purK (addA 0 x4) fun x24 =>
    purK (ld1 ρ H x24) fun x25 =>
    purK (binA Tryz.prog H .neq 3 x25 (.int .i64 1)) fun x26 =>
    condK x26
    (
      purK (ldN ρ H 4 x4) fun x28 =>
      resK (call lim 63 [x0, x28] H) fun x29 H =>
      purK (extA 0 x29) fun x30 =>
      purK (extA 1 x29) fun x31 =>
      retK [x30, x31] H)
    (
      purK (addA 1 x4) fun x34 =>
      purK (ld1 ρ H x34) fun x35 =>
      purK (addA 2 x4) fun x36 =>
      purK (ld1 ρ H x36) fun x37 =>
      purK (nilChkA x0) fun x38 =>
      purK (addA 9 x38) fun x39 =>
      effK H (stA lim H 1 x39 x35) fun _ H => bif (agn (ld1 ρ H x36) x37 && true) then
        purK (nilChkA x0) fun x40 =>
        purK (addA 10 x40) fun x41 =>
        effK H (stA lim H 1 x41 x37) fun _ H =>
        purK (addA 2 x4) fun x43 =>
        purK (ld1 ρ H x43) fun x44 =>
        resK (call lim 64 [x44, (.int .i64 0), (.int .i64 48)] H) fun x45 H =>
        purK (nilChkA x0) fun x46 =>
        purK (addA 13 x46) fun x47 =>
        effK H (stA lim H 1 x47 x45) fun _ H =>
        purK (nilChkA x0) fun x50 =>
        purK (addA 13 x50) fun x51 =>
        purK (ld1 ρ H x51) fun x52 =>
        purK (nilChkA x0) fun x53 =>
        purK (addA 14 x53) fun x54 =>
        effK H (stA lim H 1 x54 x52) fun _ H =>
        purK (nilChkA x0) fun x57 =>
        purK (addA 13 x57) fun x58 =>
        purK (ld1 ρ H x58) fun x59 =>
        purK (binA Tryz.prog H .eql 22 x59 (.int .u64 0)) fun x60 =>
        condK x60
        (
          resK (call lim 65 [x0] H) fun x62 H =>
          purK (extA 0 x62) fun x63 =>
          purK (extA 1 x62) fun x64 =>
          retK [x63, x64] H)
        (
          resK (call lim 66 [x0, (.int .i64 4)] H) fun x67 H =>
          condK x67
          (
            resK (call lim 67 [x0, (.fn (.func 68) [] [])] H) fun x69 H =>
            purK (extA 0 x69) fun x70 =>
            purK (extA 1 x69) fun x71 =>
            retK [x70, x71] H)
          (
            resK (call lim 67 [x0, (.fn (.func 69) [] [])] H) fun x73 H =>
            purK (extA 0 x73) fun x74 =>
            purK (extA 1 x73) fun x75 =>
            retK [x74, x75] H))
      else none))
theorem G37 (ρ : Addr → Option Value) (call : CallF) (yc : YieldF) (lim k : Nat) (x0 : AV) (H : Heap) :
    evL (cx ρ) call yc false 37 lim k c37 [x0, (.tup []), (.tup []), (.tup []), (.tup []), (.tup []), (.tup []), (.tup []), (.tup []), (.tup []), (.tup []), (.tup []), (.tup []), (.tup []), (.tup []), (.tup []), (.tup []), (.tup []), (.tup []), (.tup []), (.tup []), (.tup []), (.tup []), (.tup []), (.tup []), (.tup []), (.tup []), (.tup []), (.tup []), (.tup []), (.tup []), (.tup []), (.tup []), (.tup []), (.tup []), (.tup []), (.tup []), (.tup []), (.tup []), (.tup []), (.tup []), (.tup []), (.tup []), (.tup []), (.tup []), (.tup []), (.tup []), (.tup []), (.tup []), (.tup []), (.tup []), (.tup []), (.tup []), (.tup []), (.tup []), (.tup []), (.tup []), (.tup []), (.tup []), (.tup []), (.tup []), (.tup []), (.tup []), (.tup []), (.tup []), (.tup []), (.tup []), (.tup []), (.tup []), (.tup []), (.tup []), (.tup []), (.tup []), (.tup []), (.tup []), (.tup [])] H (kk none (fun s H => retK (([2, 3] : List Nat).map fun t => s.getD t (.tup [])) H) [] retK [2, 3]) = L37 ρ call yc lim k x0 H := by
  kernel_rfl
theorem E37 (ρ : Addr → Option Value) (k lim : Nat) (x0 : AV) (H : Heap) : evCall (cx ρ) (k + 1) lim 37 [x0] H = L37 ρ (evCall (cx ρ) k) (evCY (cx ρ) k).2 lim k x0 H := by
  rw [evCall_body (cx ρ) k lim 37 _ H Tryz.f37 c37 [2, 3] (by kernel_rfl) (by kernel_rfl) (by kernel_rfl) (by kernel_rfl) (by kernel_rfl)]
  exact G37 ρ (evCall (cx ρ) k) (evCY (cx ρ) k).2 lim k x0 H
-- (*haycroft/task.Task).Outcome
noncomputable def c38 : Code := Code.of Tryz.prog 38
noncomputable def L38 (ρ : Addr → Option Value) (call : CallF) (yc : YieldF) (lim k : Nat) (x0 : AV) (H : Heap) : Res :=
  effK H (some (.ptr H.sz 0 0, .new (newCells 32 false [.int .i64 0, .str ByteArray.empty]))) fun x2 H =>
  purK (binA Tryz.prog H .eql 57 x0 .nilp) fun x5 =>
  condK x5
  (
    purK (bldA [.int .i64 0, .str ByteArray.empty] []) fun x6 =>
    effK H (stA lim H 2 x2 x6) fun _ H =>
    (retC (cx ρ) [some 32, none]) [x2, (.bool false)] H)
  (
    purK (nilChkA x0) fun x8 =>
    purK (addA 21 x8) fun x9 =>
    purK (ldN ρ H 2 x9) fun x10 =>
    purK (nilChkA x0) fun x12 =>
    purK (addA 20 x12) fun x13 =>
    purK (ld1 ρ H x13) fun x14 =>
    effK H (stA lim H 2 x2 x10) fun _ H => bif (agn (ld1 ρ H x13) x14 && true) then
      (retC (cx ρ) [some 32, none]) [x2, x14] H
    else none)
theorem G38 (ρ : Addr → Option Value) (call : CallF) (yc : YieldF) (lim k : Nat) (x0 : AV) (H : Heap) :
    evL (cx ρ) call yc false 38 lim k c38 [x0, (.tup []), (.tup []), (.tup []), (.tup []), (.tup []), (.tup []), (.tup []), (.tup []), (.tup []), (.tup []), (.tup []), (.tup []), (.tup []), (.tup [])] H (kk none (fun s H => (retC (cx ρ) [some 32, none]) (([2, 3] : List Nat).map fun t => s.getD t (.tup [])) H) [] (retC (cx ρ) [some 32, none]) [2, 3]) = L38 ρ call yc lim k x0 H := by
  kernel_rfl
theorem E38 (ρ : Addr → Option Value) (k lim : Nat) (x0 : AV) (H : Heap) : evCall (cx ρ) (k + 1) lim 38 [x0] H = L38 ρ (evCall (cx ρ) k) (evCY (cx ρ) k).2 lim k x0 H := by
  rw [evCall_cells (cx ρ) k lim 38 _ H Tryz.f38 c38 [2, 3] [some 32, none] (by kernel_rfl) (by kernel_rfl) (by kernel_rfl) (by kernel_rfl) (by kernel_rfl) (by kernel_rfl)]
  exact G38 ρ (evCall (cx ρ) k) (evCY (cx ρ) k).2 lim k x0 H
-- (*haycroft/task.Task).Held
noncomputable def c39 : Code := Code.of Tryz.prog 39
noncomputable def L39 (ρ : Addr → Option Value) (call : CallF) (yc : YieldF) (lim k : Nat) (x0 : AV) (H : Heap) : Res :=
  purK (binA Tryz.prog H .eql 57 x0 .nilp) fun x4 =>
  condK x4
  (
    retK [(.int .i64 0)] H)
  (
    purK (nilChkA x0) fun x6 =>
    purK (addA 12 x6) fun x7 =>
    purK (ld1 ρ H x7) fun x8 =>
    retK [x8] H)
theorem G39 (ρ : Addr → Option Value) (call : CallF) (yc : YieldF) (lim k : Nat) (x0 : AV) (H : Heap) :
    evL (cx ρ) call yc false 39 lim k c39 [x0, (.tup []), (.tup []), (.tup []), (.tup []), (.tup []), (.tup []), (.tup []), (.tup [])] H (kk none (fun s H => retK (([2] : List Nat).map fun t => s.getD t (.tup [])) H) [] retK [2]) = L39 ρ call yc lim k x0 H := by
  kernel_rfl
theorem E39 (ρ : Addr → Option Value) (k lim : Nat) (x0 : AV) (H : Heap) : evCall (cx ρ) (k + 1) lim 39 [x0] H = L39 ρ (evCall (cx ρ) k) (evCY (cx ρ) k).2 lim k x0 H := by
  rw [evCall_body (cx ρ) k lim 39 _ H Tryz.f39 c39 [2] (by kernel_rfl) (by kernel_rfl) (by kernel_rfl) (by kernel_rfl) (by kernel_rfl)]
  exact G39 ρ (evCall (cx ρ) k) (evCY (cx ρ) k).2 lim k x0 H
-- (*haycroft/epoch.Table).there
noncomputable def c40 : Code := Code.of Tryz.prog 40
noncomputable def L40 (ρ : Addr → Option Value) (call : CallF) (yc : YieldF) (lim k : Nat) (x0 x1 : AV) (H : Heap) : Res :=
  purK (binA Tryz.prog H .neq 65 x0 .nilp) fun x6 =>
  purK (gPur (wantV x6 true) (some x1)) fun x8 =>
  purK (gPur (wantV x6 true) (binA Tryz.prog H .geq 3 x8 (.int .i64 0))) fun x9 =>
  purK (pickA x6 x9 (.bool false)) fun x10 =>
  purK (gPur (wantV x10 true) (some x1)) fun x12 =>
  purK (gPur (wantV x10 true) (some x0)) fun x13 =>
  purK (gPur (wantV x10 true) (nilChkA x13)) fun x14 =>
  purK (gPur (wantV x10 true) (addA 0 x14)) fun x15 =>
  purK (gPur (wantV x10 true) (ld1 ρ H x15)) fun x16 =>
  resK (gRes (wantV x10 true) H (call lim 70 [x16] H)) fun x17 H =>
  purK (gPur (wantV x10 true) (binA Tryz.prog H .sub 3 x17 (.int .i64 1))) fun x18 =>
  purK (gPur (wantV x10 true) (binA Tryz.prog H .lss 3 x12 x18)) fun x19 =>
  purK (pickA x10 x19 (.bool false)) fun x20 =>
  retK [x20] H
theorem G40 (ρ : Addr → Option Value) (call : CallF) (yc : YieldF) (lim k : Nat) (x0 x1 : AV) (H : Heap) :
    evL (cx ρ) call yc false 40 lim k c40 [x0, x1, (.tup []), (.tup []), (.tup []), (.tup []), (.tup []), (.tup []), (.tup []), (.tup []), (.tup []), (.tup []), (.tup []), (.tup []), (.tup []), (.tup []), (.tup []), (.tup []), (.tup []), (.tup []), (.tup [])] H (kk none (fun s H => retK (([4] : List Nat).map fun t => s.getD t (.tup [])) H) [] retK [4]) = L40 ρ call yc lim k x0 x1 H := by
  kernel_rfl
theorem E40 (ρ : Addr → Option Value) (k lim : Nat) (x0 x1 : AV) (H : Heap) : evCall (cx ρ) (k + 1) lim 40 [x0, x1] H = L40 ρ (evCall (cx ρ) k) (evCY (cx ρ) k).2 lim k x0 x1 H := by
  rw [evCall_body (cx ρ) k lim 40 _ H Tryz.f40 c40 [4] (by kernel_rfl) (by kernel_rfl) (by kernel_rfl) (by kernel_rfl) (by kernel_rfl)]
  exact G40 ρ (evCall (cx ρ) k) (evCY (cx ρ) k).2 lim k x0 x1 H
-- (*haycroft/cell.Row).Load
noncomputable def c41 : Code := Code.of Tryz.prog 41
noncomputable def L41 (ρ : Addr → Option Value) (call : CallF) (yc : YieldF) (lim k : Nat) (x0 x1 : AV) (H : Heap) : Res :=
  resK (call lim 71 [x0, x1] H) fun x7 H =>
  purK (unA .not x7) fun x8 =>
  condK x8
  (
    retK [(.int .u64 0)] H)
  (
    purK (nilChkA x0) fun x10 =>
    purK (addA 0 x10) fun x11 =>
    purK (ld1 ρ H x11) fun x12 =>
    purK (ixS 1 x12 x1) fun x14 =>
    resK (call lim 72 [x14] H) fun x15 H =>
    retK [x15] H)
theorem G41 (ρ : Addr → Option Value) (call : CallF) (yc : YieldF) (lim k : Nat) (x0 x1 : AV) (H : Heap) :
    evL (cx ρ) call yc false 41 lim k c41 [x0, x1, (.tup []), (.tup []), (.tup []), (.tup []), (.tup []), (.tup []), (.tup []), (.tup []), (.tup []), (.tup []), (.tup []), (.tup []), (.tup []), (.tup [])] H (kk none (fun s H => retK (([4] : List Nat).map fun t => s.getD t (.tup [])) H) [] retK [4]) = L41 ρ call yc lim k x0 x1 H := by
  kernel_rfl
theorem E41 (ρ : Addr → Option Value) (k lim : Nat) (x0 x1 : AV) (H : Heap) : evCall (cx ρ) (k + 1) lim 41 [x0, x1] H = L41 ρ (evCall (cx ρ) k) (evCY (cx ρ) k).2 lim k x0 x1 H := by
  rw [evCall_body (cx ρ) k lim 41 _ H Tryz.f41 c41 [4] (by kernel_rfl) (by kernel_rfl) (by kernel_rfl) (by kernel_rfl) (by kernel_rfl)]
  exact G41 ρ (evCall (cx ρ) k) (evCY (cx ρ) k).2 lim k x0 x1 H
-- (*haycroft/epoch.Table).turn
noncomputable def c42 : Code := Code.of Tryz.prog 42
noncomputable def L42 (ρ : Addr → Option Value) (call : CallF) (yc : YieldF) (lim k : Nat) (x0 x1 x2 x3 x4 : AV) (H : Heap) : Res :=
  purK (binA Tryz.prog H .eql 65 x0 .nilp) fun x13 =>
  condK x13
  (
    retK [(.int .i64 2)] H)
  (
    resK (call lim 40 [x0, x1] H) fun x17 H =>
    purK (unA .not x17) fun x18 =>
    condK x18
    (
      retK [(.int .i64 1)] H)
    (
      resK (call lim 21 [x0, x1] H) fun x23 H =>
      purK (binA Tryz.prog H .gtr 22 x23 (.int .u64 0)) fun x24 =>
      purK (binA Tryz.prog H .neq 4 x2 x24) fun x25 =>
      condK x25
      (
        retK [x4] H)
      (
        purK (nilChkA x0) fun x28 =>
        purK (addA 0 x28) fun x29 =>
        purK (ld1 ρ H x29) fun x30 =>
        purK (binA Tryz.prog H .add 3 (.int .i64 1) x1) fun x32 =>
        resK (call lim 73 [x30, x32, x3] H) fun x34 H =>
        retK [x34] H)))
theorem G42 (ρ : Addr → Option Value) (call : CallF) (yc : YieldF) (lim k : Nat) (x0 x1 x2 x3 x4 : AV) (H : Heap) :
    evL (cx ρ) call yc false 42 lim k c42 [x0, x1, x2, x3, x4, (.tup []), (.tup []), (.tup []), (.tup []), (.tup []), (.tup []), (.tup []), (.tup []), (.tup []), (.tup []), (.tup []), (.tup []), (.tup []), (.tup []), (.tup []), (.tup []), (.tup []), (.tup []), (.tup []), (.tup []), (.tup []), (.tup []), (.tup []), (.tup []), (.tup []), (.tup []), (.tup []), (.tup []), (.tup []), (.tup [])] H (kk none (fun s H => retK (([10] : List Nat).map fun t => s.getD t (.tup [])) H) [] retK [10]) = L42 ρ call yc lim k x0 x1 x2 x3 x4 H := by
  kernel_rfl
theorem E42 (ρ : Addr → Option Value) (k lim : Nat) (x0 x1 x2 x3 x4 : AV) (H : Heap) : evCall (cx ρ) (k + 1) lim 42 [x0, x1, x2, x3, x4] H = L42 ρ (evCall (cx ρ) k) (evCY (cx ρ) k).2 lim k x0 x1 x2 x3 x4 H := by
  rw [evCall_body (cx ρ) k lim 42 _ H Tryz.f42 c42 [10] (by kernel_rfl) (by kernel_rfl) (by kernel_rfl) (by kernel_rfl) (by kernel_rfl)]
  exact G42 ρ (evCall (cx ρ) k) (evCY (cx ρ) k).2 lim k x0 x1 x2 x3 x4 H
-- (*haycroft/epoch.Table).Now
noncomputable def c43 : Code := Code.of Tryz.prog 43
noncomputable def L43 (ρ : Addr → Option Value) (call : CallF) (yc : YieldF) (lim k : Nat) (x0 : AV) (H : Heap) : Res :=
  purK (binA Tryz.prog H .eql 65 x0 .nilp) fun x4 =>
  condK x4
  (
    retK [(.int .u64 0)] H)
  (
    purK (nilChkA x0) fun x6 =>
    purK (addA 0 x6) fun x7 =>
    purK (ld1 ρ H x7) fun x8 =>
    resK (call lim 41 [x8, (.int .i64 0)] H) fun x9 H =>
    retK [x9] H)
theorem G43 (ρ : Addr → Option Value) (call : CallF) (yc : YieldF) (lim k : Nat) (x0 : AV) (H : Heap) :
    evL (cx ρ) call yc false 43 lim k c43 [x0, (.tup []), (.tup []), (.tup []), (.tup []), (.tup []), (.tup []), (.tup []), (.tup []), (.tup [])] H (kk none (fun s H => retK (([2] : List Nat).map fun t => s.getD t (.tup [])) H) [] retK [2]) = L43 ρ call yc lim k x0 H := by
  kernel_rfl
theorem E43 (ρ : Addr → Option Value) (k lim : Nat) (x0 : AV) (H : Heap) : evCall (cx ρ) (k + 1) lim 43 [x0] H = L43 ρ (evCall (cx ρ) k) (evCY (cx ρ) k).2 lim k x0 H := by
  rw [evCall_body (cx ρ) k lim 43 _ H Tryz.f43 c43 [2] (by kernel_rfl) (by kernel_rfl) (by kernel_rfl) (by kernel_rfl) (by kernel_rfl)]
  exact G43 ρ (evCall (cx ρ) k) (evCY (cx ρ) k).2 lim k x0 H
-- (*haycroft/drain.List).Ready
noncomputable def c45 : Code := Code.of Tryz.prog 45
noncomputable def N45_1 (ρ : Addr → Option Value) (call : CallF) (yc : YieldF) (lim k : Nat) (x0 x5 x6 : AV) (H : Heap) (R : List AV → Heap → Res) : Res :=
  purK (nilChkA x0) fun x35_1 =>
  purK (addA 0 x35_1) fun x36_1 =>
  effK H (stA lim H 1 x36_1 x6) fun _ H =>
  R [x5] H
theorem N45_1_eq (ρ : Addr → Option Value) (call : CallF) (yc : YieldF) (lim k : Nat) (x0 x5 x6 : AV) (H : Heap) (R : List AV → Heap → Res) :
    evL (cx ρ) call yc false 45 lim k (Code.at [1, 1, 1, 1] c45) (sp 38 [(0, x0), (5, x5), (6, x6)]) H (kk none (fun s H => R (([4] : List Nat).map fun t => s.getD t (.tup [])) H) [] R [4]) = N45_1 ρ call yc lim k x0 x5 x6 H R := by
  kernel_rfl
noncomputable def N45_4 (ρ : Addr → Option Value) (call : CallF) (yc : YieldF) (lim k : Nat) (x0 x1 x5 x6 x14 x15 x16 : AV) (H : Heap) (kn : AV → AV → AV → AV → AV → AV → AV → Heap → Res) : Res :=
  purK (binA Tryz.prog H .add 3 x16 (.int .i64 1)) fun x32_1 =>
  kn x0 x1 x5 x6 x14 x15 x32_1 H
theorem N45_4_eq (ρ : Addr → Option Value) (call : CallF) (yc : YieldF) (lim k : Nat) (x0 x1 x5 x6 x14 x15 x16 : AV) (H : Heap) (kn : KS) (k0 : KS) (R : List AV → Heap → Res) :
    evL (cx ρ) call yc false 45 lim k (Code.at [1, 1, 1, 0, 1, 0, 0, 1, 1, 1] c45) (sp 38 [(0, x0), (1, x1), (5, x5), (6, x6), (14, x14), (15, x15), (16, x16)]) H (kk (some [0, 1, 5, 6, 14, 15, 16]) kn [(0, (some [0, 5, 6]), k0)] R [4]) = N45_4 ρ call yc lim k x0 x1 x5 x6 x14 x15 x16 H (fun x0 x1 x5 x6 x14 x15 x16 H => kn (sp 38 [(0, x0), (1, x1), (5, x5), (6, x6), (14, x14), (15, x15), (16, x16)]) H) := by
  kernel_rfl
noncomputable def N45_3b (ρ : Addr → Option Value) (call : CallF) (yc : YieldF) (lim k : Nat) (x0 x1 x5 x6 x14 x15 x16 : AV) (H : Heap) (kn : AV → AV → AV → AV → AV → AV → AV → Heap → Res) (k0 : AV → AV → AV → Heap → Res) : Res :=
  purK (binA Tryz.prog H .lss 3 x16 x15) fun x17_1 =>
  condK x17_1
  (
    purK (ixS 3 x14 x16) fun x18_1 =>
    purK (ldN ρ H 3 x18_1) fun x19_1 =>
    effK H (some (.ptr H.sz 0 0, .new (newCells 104 false [.int .u64 0, .int .i64 0, .int .i64 0]))) fun x8_1 H =>
    effK H (stA lim H 3 x8_1 x19_1) fun _ H =>
    purK (addA 0 x8_1) fun x20_1 =>
    purK (ld1 ρ H x20_1) fun x21_1 =>
    purK (binA Tryz.prog H .leq 22 x21_1 x1) fun x23_1 =>
    condK x23_1
    (
      purK (ldN ρ H 3 x8_1) fun x25_1 =>
      effK H (bldS H 104 3 [.int .u64 0, .int .i64 0, .int .i64 0] 1 [(0, 3, x25_1)]) fun x26_1 H =>
      effK H (apA ρ lim H 104 3 24 x5 x26_1) fun x27_1 H =>
      N45_4 ρ call yc lim k x0 x1 x27_1 x6 x14 x15 x16 H kn)
    (
      purK (ldN ρ H 3 x8_1) fun x29_1 =>
      effK H (bldS H 104 3 [.int .u64 0, .int .i64 0, .int .i64 0] 1 [(0, 3, x29_1)]) fun x30_1 H =>
      effK H (apA ρ lim H 104 3 24 x6 x30_1) fun x31_1 H =>
      N45_4 ρ call yc lim k x0 x1 x5 x31_1 x14 x15 x16 H kn))
  (
    k0 x0 x5 x6 H)
theorem N45_3b_x (ρ : Addr → Option Value) (call : CallF) (yc : YieldF) (lim k : Nat) (J : CodeF) (x0 x1 x5 x6 x14 x15 x16 : AV) (H : Heap) (kn : KS) (k0 : KS) (R : List AV → Heap → Res) :
    evX (cx ρ) call yc false 45 lim k J (Code.at [1, 1, 1, 0, 1, 0, 0] c45) (sp 38 [(0, x0), (1, x1), (5, x5), (6, x6), (14, x14), (15, x15), (16, x16)]) H (kk (some [0, 1, 5, 6, 14, 15, 16]) kn [(0, (some [0, 5, 6]), k0)] R [4]) =
  purK (binA Tryz.prog H .lss 3 x16 x15) fun x17_1 =>
  condK x17_1
  (
    purK (ixS 3 x14 x16) fun x18_1 =>
    purK (ldN ρ H 3 x18_1) fun x19_1 =>
    effK H (some (.ptr H.sz 0 0, .new (newCells 104 false [.int .u64 0, .int .i64 0, .int .i64 0]))) fun x8_1 H =>
    effK H (stA lim H 3 x8_1 x19_1) fun _ H =>
    purK (addA 0 x8_1) fun x20_1 =>
    purK (ld1 ρ H x20_1) fun x21_1 =>
    purK (binA Tryz.prog H .leq 22 x21_1 x1) fun x23_1 =>
    condK x23_1
    (
      purK (ldN ρ H 3 x8_1) fun x25_1 =>
      effK H (bldS H 104 3 [.int .u64 0, .int .i64 0, .int .i64 0] 1 [(0, 3, x25_1)]) fun x26_1 H =>
      effK H (apA ρ lim H 104 3 24 x5 x26_1) fun x27_1 H =>
      J (Code.at [1, 1, 1, 0, 1, 0, 0, 1, 1, 1] c45) (sp 38 [(0, x0), (1, x1), (5, x27_1), (6, x6), (14, x14), (15, x15), (16, x16)]) H (kk (some [0, 1, 5, 6, 14, 15, 16]) kn [(0, (some [0, 5, 6]), k0)] R [4]))
    (
      purK (ldN ρ H 3 x8_1) fun x29_1 =>
      effK H (bldS H 104 3 [.int .u64 0, .int .i64 0, .int .i64 0] 1 [(0, 3, x29_1)]) fun x30_1 H =>
      effK H (apA ρ lim H 104 3 24 x6 x30_1) fun x31_1 H =>
      J (Code.at [1, 1, 1, 0, 1, 0, 0, 1, 1, 1] c45) (sp 38 [(0, x0), (1, x1), (5, x5), (6, x31_1), (14, x14), (15, x15), (16, x16)]) H (kk (some [0, 1, 5, 6, 14, 15, 16]) kn [(0, (some [0, 5, 6]), k0)] R [4])))
  (
    k0 (sp 38 [(0, x0), (5, x5), (6, x6)]) H) := by
  kernel_rfl
theorem N45_3b_eq (ρ : Addr → Option Value) (call : CallF) (yc : YieldF) (lim k : Nat) (x0 x1 x5 x6 x14 x15 x16 : AV) (H : Heap) (kn : KS) (k0 : KS) (R : List AV → Heap → Res) :
    evL (cx ρ) call yc false 45 lim k (Code.at [1, 1, 1, 0, 1, 0, 0] c45) (sp 38 [(0, x0), (1, x1), (5, x5), (6, x6), (14, x14), (15, x15), (16, x16)]) H (kk (some [0, 1, 5, 6, 14, 15, 16]) kn [(0, (some [0, 5, 6]), k0)] R [4]) = N45_3b ρ call yc lim k x0 x1 x5 x6 x14 x15 x16 H (fun x0 x1 x5 x6 x14 x15 x16 H => kn (sp 38 [(0, x0), (1, x1), (5, x5), (6, x6), (14, x14), (15, x15), (16, x16)]) H) (fun x0 x5 x6 H => k0 (sp 38 [(0, x0), (5, x5), (6, x6)]) H) := by
  rw [evL_X, N45_3b_x]
  simp only [← evL_X, N45_3b, N45_4_eq]
noncomputable def N45_3 (ρ : Addr → Option Value) (call : CallF) (yc : YieldF) (lim k : Nat) (x0 x1 x5 x6 x14 x15 x16 : AV) (H : Heap) (k0 : AV → AV → AV → Heap → Res) : Res :=
  loopL (fun (x : AV × AV × AV) H kn => N45_3b ρ call yc lim k x0 x1 x.1 x.2.1 x14 x15 x.2.2 H (fun _ _ x5 x6 _ _ x16 H => kn (x5, x6, x16) H) k0) k (x5, x6, x16) H
theorem N45_3_eq (ρ : Addr → Option Value) (call : CallF) (yc : YieldF) (lim k : Nat) (x0 x1 x5 x6 x14 x15 x16 : AV) (H : Heap) (kn : KS) (k0 : KS) (R : List AV → Heap → Res) :
    evL (cx ρ) call yc false 45 lim k (Code.at [1, 1, 1, 0, 1, 0] c45) (sp 38 [(0, x0), (1, x1), (5, x5), (6, x6), (14, x14), (15, x15), (16, x16)]) H (kk (some [0, 5, 6]) kn [(0, (some [0, 5, 6]), k0)] R [4]) = N45_3 ρ call yc lim k x0 x1 x5 x6 x14 x15 x16 H (fun x0 x5 x6 H => k0 (sp 38 [(0, x0), (5, x5), (6, x6)]) H) := by
  have e : Code.at [1, 1, 1, 0, 1, 0] c45 = .loop (Code.at [1, 1, 1, 0, 1, 0, 0] c45) := by kernel_rfl
  rw [e]
  unfold N45_3
  exact loop_node [0, 1, 5, 6, 14, 15, 16] (fun x : AV × AV × AV => (sp 38 [(0, x0), (1, x1), (5, (x.1)), (6, (x.2.1)), (14, x14), (15, x15), (16, (x.2.2))])) (fun (x : AV × AV × AV) H kn => N45_3b ρ call yc lim k x0 x1 x.1 x.2.1 x14 x15 x.2.2 H (fun _ _ x5 x6 _ _ x16 H => kn (x5, x6, x16) H) (fun x0 x5 x6 H => k0 (sp 38 [(0, x0), (5, x5), (6, x6)]) H)) (by kernel_rfl) (fun x => by kernel_rfl) (fun x H kn => N45_3b_eq ρ call yc lim k x0 x1 (x.1) (x.2.1) x14 x15 (x.2.2) H kn k0 R) (x5, x6, x16) (sp 38 [(0, x0), (1, x1), (5, x5), (6, x6), (14, x14), (15, x15), (16, x16)]) H (by kernel_rfl)
noncomputable def N45_2 (ρ : Addr → Option Value) (call : CallF) (yc : YieldF) (lim k : Nat) (x0 x1 x5 x6 x14 x15 x16 : AV) (H : Heap) (kn : AV → AV → AV → Heap → Res) : Res :=
  N45_3 ρ call yc lim k x0 x1 x5 x6 x14 x15 x16 H kn
theorem N45_2_x (ρ : Addr → Option Value) (call : CallF) (yc : YieldF) (lim k : Nat) (J : CodeF) (x0 x1 x5 x6 x14 x15 x16 : AV) (H : Heap) (kn : KS) (R : List AV → Heap → Res) :
    evX (cx ρ) call yc false 45 lim k J (Code.at [1, 1, 1, 0, 1] c45) (sp 38 [(0, x0), (1, x1), (5, x5), (6, x6), (14, x14), (15, x15), (16, x16)]) H (kk (some [0, 5, 6]) kn [] R [4]) =
  J (Code.at [1, 1, 1, 0, 1, 0] c45) (sp 38 [(0, x0), (1, x1), (5, x5), (6, x6), (14, x14), (15, x15), (16, x16)]) H (kk (some [0, 5, 6]) kn [(0, (some [0, 5, 6]), kn)] R [4]) := by
  kernel_rfl
theorem N45_2_eq (ρ : Addr → Option Value) (call : CallF) (yc : YieldF) (lim k : Nat) (x0 x1 x5 x6 x14 x15 x16 : AV) (H : Heap) (kn : KS) (R : List AV → Heap → Res) :
    evL (cx ρ) call yc false 45 lim k (Code.at [1, 1, 1, 0, 1] c45) (sp 38 [(0, x0), (1, x1), (5, x5), (6, x6), (14, x14), (15, x15), (16, x16)]) H (kk (some [0, 5, 6]) kn [] R [4]) = N45_2 ρ call yc lim k x0 x1 x5 x6 x14 x15 x16 H (fun x0 x5 x6 H => kn (sp 38 [(0, x0), (5, x5), (6, x6)]) H) := by
  rw [evL_X, N45_2_x]
  simp only [← evL_X, N45_2, N45_3_eq]
noncomputable def L45 (ρ : Addr → Option Value) (call : CallF) (yc : YieldF) (lim k : Nat) (x0 x1 : AV) (H : Heap) : Res :=
  purK (binA Tryz.prog H .eql 90 x0 .nilp) fun x10 =>
  condK x10
  (
    retK [.nils] H)
  (
    purK (nilChkA x0) fun x12 =>
    purK (addA 0 x12) fun x13 =>
    purK (ld1 ρ H x13) fun x14 =>
    purK (lenS x14) fun x15 =>
    N45_2 ρ call yc lim k x0 x1 .nils .nils x14 x15 (.int .i64 0) H (fun x0_1 x5 x6 H =>
      N45_1 ρ call yc lim k x0_1 x5 x6 H retK))
theorem L45_x (ρ : Addr → Option Value) (call : CallF) (yc : YieldF) (lim k : Nat) (J : CodeF) (x0 x1 : AV) (H : Heap) :
    evX (cx ρ) call yc false 45 lim k J c45 [x0, x1, (.tup []), (.tup []), (.tup []), (.tup []), (.tup []), (.tup []), (.tup []), (.tup []), (.tup []), (.tup []), (.tup []), (.tup []), (.tup []), (.tup []), (.tup []), (.tup []), (.tup []), (.tup []), (.tup []), (.tup []), (.tup []), (.tup []), (.tup []), (.tup []), (.tup []), (.tup []), (.tup []), (.tup []), (.tup []), (.tup []), (.tup []), (.tup []), (.tup []), (.tup []), (.tup []), (.tup [])] H (kk none (fun s H => retK (([4] : List Nat).map fun t => s.getD t (.tup [])) H) [] retK [4]) =
  purK (binA Tryz.prog H .eql 90 x0 .nilp) fun x10 =>
  condK x10
  (
    retK [.nils] H)
  (
    purK (nilChkA x0) fun x12 =>
    purK (addA 0 x12) fun x13 =>
    purK (ld1 ρ H x13) fun x14 =>
    purK (lenS x14) fun x15 =>
    J (Code.at [1, 1, 1, 0, 1] c45) (sp 38 [(0, x0), (1, x1), (5, .nils), (6, .nils), (14, x14), (15, x15), (16, (.int .i64 0))]) H (kk (some [0, 5, 6]) (fun s H => J (Code.at [1, 1, 1, 1] c45) s H (kk none (fun s H => retK (([4] : List Nat).map fun t => s.getD t (.tup [])) H) [] retK [4])) [] retK [4])) := by
  kernel_rfl
theorem G45 (ρ : Addr → Option Value) (call : CallF) (yc : YieldF) (lim k : Nat) (x0 x1 : AV) (H : Heap) :
    evL (cx ρ) call yc false 45 lim k c45 [x0, x1, (.tup []), (.tup []), (.tup []), (.tup []), (.tup []), (.tup []), (.tup []), (.tup []), (.tup []), (.tup []), (.tup []), (.tup []), (.tup []), (.tup []), (.tup []), (.tup []), (.tup []), (.tup []), (.tup []), (.tup []), (.tup []), (.tup []), (.tup []), (.tup []), (.tup []), (.tup []), (.tup []), (.tup []), (.tup []), (.tup []), (.tup []), (.tup []), (.tup []), (.tup []), (.tup []), (.tup [])] H (kk none (fun s H => retK (([4] : List Nat).map fun t => s.getD t (.tup [])) H) [] retK [4]) = L45 ρ call yc lim k x0 x1 H := by
  rw [evL_X, L45_x]
  simp only [← evL_X, L45, N45_1_eq, N45_2_eq]
theorem E45 (ρ : Addr → Option Value) (k lim : Nat) (x0 x1 : AV) (H : Heap) : evCall (cx ρ) (k + 1) lim 45 [x0, x1] H = L45 ρ (evCall (cx ρ) k) (evCY (cx ρ) k).2 lim k x0 x1 H := by
  rw [evCall_body (cx ρ) k lim 45 _ H Tryz.f45 c45 [4] (by kernel_rfl) (by kernel_rfl) (by kernel_rfl) (by kernel_rfl) (by kernel_rfl)]
  exact G45 ρ (evCall (cx ρ) k) (evCY (cx ρ) k).2 lim k x0 x1 H
-- (*haycroft/epoch.Table).Safe
noncomputable def c46 : Code := Code.of Tryz.prog 46
noncomputable def N46_1 (ρ : Addr → Option Value) (call : CallF) (yc : YieldF) (lim k : Nat) (x3 : AV) (H : Heap) (R : List AV → Heap → Res) : Res :=
  purK (binA Tryz.prog H .sub 22 x3 (.int .u64 1)) fun x24_1 =>
  R [x24_1] H
theorem N46_1_eq (ρ : Addr → Option Value) (call : CallF) (yc : YieldF) (lim k : Nat) (x3 : AV) (H : Heap) (R : List AV → Heap → Res) :
    evL (cx ρ) call yc false 46 lim k (Code.at [1, 1, 1, 1] c46) (sp 25 [(3, x3)]) H (kk none (fun s H => R (([2] : List Nat).map fun t => s.getD t (.tup [])) H) [] R [2]) = N46_1 ρ call yc lim k x3 H R := by
  kernel_rfl
noncomputable def N46_3b (ρ : Addr → Option Value) (call : CallF) (yc : YieldF) (lim k : Nat) (x0 x3 x11 x12 x13 : AV) (H : Heap) (kn : AV → AV → AV → AV → AV → Heap → Res) (k0 : AV → Heap → Res) : Res :=
  purK (binA Tryz.prog H .lss 3 x13 x12) fun x14_1 =>
  condK x14_1
  (
    purK (ixS 1 x11 x13) fun x15_1 =>
    purK (ld1 ρ H x15_1) fun x16_1 =>
    resK (call lim 21 [x0, x16_1] H) fun x20_1 H =>
    purK (foldsA minA [x3, x20_1]) fun x21_1 =>
    purK (binA Tryz.prog H .add 3 x13 (.int .i64 1)) fun x22_1 =>
    kn x0 x21_1 x11 x12 x22_1 H)
  (
    k0 x3 H)
theorem N46_3b_eq (ρ : Addr → Option Value) (call : CallF) (yc : YieldF) (lim k : Nat) (x0 x3 x11 x12 x13 : AV) (H : Heap) (kn : KS) (k0 : KS) (R : List AV → Heap → Res) :
    evL (cx ρ) call yc false 46 lim k (Code.at [1, 1, 1, 0, 1, 0, 0] c46) (sp 25 [(0, x0), (3, x3), (11, x11), (12, x12), (13, x13)]) H (kk (some [0, 3, 11, 12, 13]) kn [(0, (some [3]), k0)] R [2]) = N46_3b ρ call yc lim k x0 x3 x11 x12 x13 H (fun x0 x3 x11 x12 x13 H => kn (sp 25 [(0, x0), (3, x3), (11, x11), (12, x12), (13, x13)]) H) (fun x3 H => k0 (sp 25 [(3, x3)]) H) := by
  kernel_rfl
noncomputable def N46_3 (ρ : Addr → Option Value) (call : CallF) (yc : YieldF) (lim k : Nat) (x0 x3 x11 x12 x13 : AV) (H : Heap) (k0 : AV → Heap → Res) : Res :=
  loopL (fun (x : AV × AV) H kn => N46_3b ρ call yc lim k x0 x.1 x11 x12 x.2 H (fun _ x3 _ _ x13 H => kn (x3, x13) H) k0) k (x3, x13) H
theorem N46_3_eq (ρ : Addr → Option Value) (call : CallF) (yc : YieldF) (lim k : Nat) (x0 x3 x11 x12 x13 : AV) (H : Heap) (kn : KS) (k0 : KS) (R : List AV → Heap → Res) :
    evL (cx ρ) call yc false 46 lim k (Code.at [1, 1, 1, 0, 1, 0] c46) (sp 25 [(0, x0), (3, x3), (11, x11), (12, x12), (13, x13)]) H (kk (some [3]) kn [(0, (some [3]), k0)] R [2]) = N46_3 ρ call yc lim k x0 x3 x11 x12 x13 H (fun x3 H => k0 (sp 25 [(3, x3)]) H) := by
  have e : Code.at [1, 1, 1, 0, 1, 0] c46 = .loop (Code.at [1, 1, 1, 0, 1, 0, 0] c46) := by kernel_rfl
  rw [e]
  unfold N46_3
  exact loop_node [0, 3, 11, 12, 13] (fun x : AV × AV => (sp 25 [(0, x0), (3, (x.1)), (11, x11), (12, x12), (13, (x.2))])) (fun (x : AV × AV) H kn => N46_3b ρ call yc lim k x0 x.1 x11 x12 x.2 H (fun _ x3 _ _ x13 H => kn (x3, x13) H) (fun x3 H => k0 (sp 25 [(3, x3)]) H)) (by kernel_rfl) (fun x => by kernel_rfl) (fun x H kn => N46_3b_eq ρ call yc lim k x0 (x.1) x11 x12 (x.2) H kn k0 R) (x3, x13) (sp 25 [(0, x0), (3, x3), (11, x11), (12, x12), (13, x13)]) H (by kernel_rfl)
noncomputable def N46_2 (ρ : Addr → Option Value) (call : CallF) (yc : YieldF) (lim k : Nat) (x0 x3 x11 x12 x13 : AV) (H : Heap) (kn : AV → Heap → Res) : Res :=
  N46_3 ρ call yc lim k x0 x3 x11 x12 x13 H kn
theorem N46_2_x (ρ : Addr → Option Value) (call : CallF) (yc : YieldF) (lim k : Nat) (J : CodeF) (x0 x3 x11 x12 x13 : AV) (H : Heap) (kn : KS) (R : List AV → Heap → Res) :
    evX (cx ρ) call yc false 46 lim k J (Code.at [1, 1, 1, 0, 1] c46) (sp 25 [(0, x0), (3, x3), (11, x11), (12, x12), (13, x13)]) H (kk (some [3]) kn [] R [2]) =
  J (Code.at [1, 1, 1, 0, 1, 0] c46) (sp 25 [(0, x0), (3, x3), (11, x11), (12, x12), (13, x13)]) H (kk (some [3]) kn [(0, (some [3]), kn)] R [2]) := by
  kernel_rfl
theorem N46_2_eq (ρ : Addr → Option Value) (call : CallF) (yc : YieldF) (lim k : Nat) (x0 x3 x11 x12 x13 : AV) (H : Heap) (kn : KS) (R : List AV → Heap → Res) :
    evL (cx ρ) call yc false 46 lim k (Code.at [1, 1, 1, 0, 1] c46) (sp 25 [(0, x0), (3, x3), (11, x11), (12, x12), (13, x13)]) H (kk (some [3]) kn [] R [2]) = N46_2 ρ call yc lim k x0 x3 x11 x12 x13 H (fun x3 H => kn (sp 25 [(3, x3)]) H) := by
  rw [evL_X, N46_2_x]
  simp only [← evL_X, N46_2, N46_3_eq]
noncomputable def L46 (ρ : Addr → Option Value) (call : CallF) (yc : YieldF) (lim k : Nat) (x0 : AV) (H : Heap) : Res :=
  purK (binA Tryz.prog H .eql 65 x0 .nilp) fun x7 =>
  condK x7
  (
    retK [(.int .u64 0)] H)
  (
    resK (call lim 43 [x0] H) fun x9 H =>
    resK (call lim 74 [x0] H) fun x11 H =>
    purK (lenS x11) fun x12 =>
    N46_2 ρ call yc lim k x0 x9 x11 x12 (.int .i64 0) H (fun x3 H =>
      N46_1 ρ call yc lim k x3 H retK))
theorem L46_x (ρ : Addr → Option Value) (call : CallF) (yc : YieldF) (lim k : Nat) (J : CodeF) (x0 : AV) (H : Heap) :
    evX (cx ρ) call yc false 46 lim k J c46 [x0, (.tup []), (.tup []), (.tup []), (.tup []), (.tup []), (.tup []), (.tup []), (.tup []), (.tup []), (.tup []), (.tup []), (.tup []), (.tup []), (.tup []), (.tup []), (.tup []), (.tup []), (.tup []), (.tup []), (.tup []), (.tup []), (.tup []), (.tup []), (.tup [])] H (kk none (fun s H => retK (([2] : List Nat).map fun t => s.getD t (.tup [])) H) [] retK [2]) =
  purK (binA Tryz.prog H .eql 65 x0 .nilp) fun x7 =>
  condK x7
  (
    retK [(.int .u64 0)] H)
  (
    resK (call lim 43 [x0] H) fun x9 H =>
    resK (call lim 74 [x0] H) fun x11 H =>
    purK (lenS x11) fun x12 =>
    J (Code.at [1, 1, 1, 0, 1] c46) (sp 25 [(0, x0), (3, x9), (11, x11), (12, x12), (13, (.int .i64 0))]) H (kk (some [3]) (fun s H => J (Code.at [1, 1, 1, 1] c46) s H (kk none (fun s H => retK (([2] : List Nat).map fun t => s.getD t (.tup [])) H) [] retK [2])) [] retK [2])) := by
  kernel_rfl
theorem G46 (ρ : Addr → Option Value) (call : CallF) (yc : YieldF) (lim k : Nat) (x0 : AV) (H : Heap) :
    evL (cx ρ) call yc false 46 lim k c46 [x0, (.tup []), (.tup []), (.tup []), (.tup []), (.tup []), (.tup []), (.tup []), (.tup []), (.tup []), (.tup []), (.tup []), (.tup []), (.tup []), (.tup []), (.tup []), (.tup []), (.tup []), (.tup []), (.tup []), (.tup []), (.tup []), (.tup []), (.tup []), (.tup [])] H (kk none (fun s H => retK (([2] : List Nat).map fun t => s.getD t (.tup [])) H) [] retK [2]) = L46 ρ call yc lim k x0 H := by
  rw [evL_X, L46_x]
  simp only [← evL_X, L46, N46_1_eq, N46_2_eq]
theorem E46 (ρ : Addr → Option Value) (k lim : Nat) (x0 : AV) (H : Heap) : evCall (cx ρ) (k + 1) lim 46 [x0] H = L46 ρ (evCall (cx ρ) k) (evCY (cx ρ) k).2 lim k x0 H := by
  rw [evCall_body (cx ρ) k lim 46 _ H Tryz.f46 c46 [2] (by kernel_rfl) (by kernel_rfl) (by kernel_rfl) (by kernel_rfl) (by kernel_rfl)]
  exact G46 ρ (evCall (cx ρ) k) (evCY (cx ρ) k).2 lim k x0 H
-- haycroft/tail.New
noncomputable def c54 : Code := Code.of Tryz.prog 54
noncomputable def L54 (ρ : Addr → Option Value) (call : CallF) (yc : YieldF) (lim k : Nat) (x0 x1 : AV) (H : Heap) : Res :=
  resK (call lim 92 [x0] H) fun x10 H =>
  purK (unA .not x10) fun x11 =>
  purK (gPur (wantV x11 false) (some x1)) fun x13 =>
  purK (gPur (wantV x11 false) (binA Tryz.prog H .lss 3 x13 (.int .i64 1))) fun x14 =>
  purK (pickA x11 (.bool true) x14) fun x15 =>
  purK (gPur (wantV x15 false) (some x1)) fun x17 =>
  purK (gPur (wantV x15 false) (binA Tryz.prog H .gtr 3 x17 (.int .i64 64))) fun x18 =>
  purK (pickA x15 (.bool true) x18) fun x19 =>
  condK x19
  (
    retK [.nilp, (.int .i64 1)] H)
  (
    resK (call lim 61 [(.int .i64 1)] H) fun x21 H =>
    purK (extA 0 x21) fun x22 =>
    purK (extA 1 x21) fun x23 =>
    purK (binA Tryz.prog H .neq 27 x23 (.int .i64 0)) fun x25 =>
    condK x25
    (
      retK [.nilp, x23] H)
    (
      purK (bldA [.int .i64 0, .int .i64 0, .nilp] [(0, 1, x0), (1, 1, x1), (2, 1, x22)]) fun x30 =>
      effK H (boxA H 180 x30) fun x31 H =>
      resK (call lim 93 [x31, (.int .i64 0)] H) fun x34 H =>
      retK [x31, x34] H))
theorem G54 (ρ : Addr → Option Value) (call : CallF) (yc : YieldF) (lim k : Nat) (x0 x1 : AV) (H : Heap) :
    evL (cx ρ) call yc false 54 lim k c54 [x0, x1, (.tup []), (.tup []), (.tup []), (.tup []), (.tup []), (.tup []), (.tup []), (.tup []), (.tup []), (.tup []), (.tup []), (.tup []), (.tup []), (.tup []), (.tup []), (.tup []), (.tup []), (.tup []), (.tup []), (.tup []), (.tup []), (.tup []), (.tup []), (.tup []), (.tup []), (.tup []), (.tup []), (.tup []), (.tup []), (.tup []), (.tup []), (.tup []), (.tup [])] H (kk none (fun s H => retK (([4, 5] : List Nat).map fun t => s.getD t (.tup [])) H) [] retK [4, 5]) = L54 ρ call yc lim k x0 x1 H := by
  kernel_rfl
theorem E54 (ρ : Addr → Option Value) (k lim : Nat) (x0 x1 : AV) (H : Heap) : evCall (cx ρ) (k + 1) lim 54 [x0, x1] H = L54 ρ (evCall (cx ρ) k) (evCY (cx ρ) k).2 lim k x0 x1 H := by
  rw [evCall_body (cx ρ) k lim 54 _ H Tryz.f54 c54 [4, 5] (by kernel_rfl) (by kernel_rfl) (by kernel_rfl) (by kernel_rfl) (by kernel_rfl)]
  exact G54 ρ (evCall (cx ρ) k) (evCY (cx ρ) k).2 lim k x0 x1 H
-- haycroft/pages.New
noncomputable def c55 : Code := Code.of Tryz.prog 55
noncomputable def L55 (ρ : Addr → Option Value) (call : CallF) (yc : YieldF) (lim k : Nat) (x0 x1 : AV) (H : Heap) : Res :=
  resK (call lim 92 [x0] H) fun x10 H =>
  purK (unA .not x10) fun x11 =>
  purK (gPur (wantV x11 false) (some x1)) fun x13 =>
  purK (gPur (wantV x11 false) (binA Tryz.prog H .lss 3 x13 (.int .i64 2))) fun x14 =>
  purK (pickA x11 (.bool true) x14) fun x15 =>
  purK (gPur (wantV x15 false) (some x1)) fun x17 =>
  purK (gPur (wantV x15 false) (binA Tryz.prog H .gtr 3 x17 (.int .i64 8))) fun x18 =>
  purK (pickA x15 (.bool true) x18) fun x19 =>
  condK x19
  (
    retK [.nilp, (.int .i64 1)] H)
  (
    resK (call lim 85 [x0] H) fun x23 H =>
    purK (binA Tryz.prog H .mul 3 x1 x23) fun x24 =>
    resK (call lim 61 [x24] H) fun x25 H =>
    purK (extA 0 x25) fun x26 =>
    purK (extA 1 x25) fun x27 =>
    purK (binA Tryz.prog H .neq 27 x27 (.int .i64 0)) fun x29 =>
    condK x29
    (
      retK [.nilp, x27] H)
    (
      resK (call lim 61 [x1] H) fun x33 H =>
      purK (extA 0 x33) fun x34 =>
      purK (extA 1 x33) fun x35 =>
      purK (binA Tryz.prog H .neq 27 x35 (.int .i64 0)) fun x37 =>
      condK x37
      (
        retK [.nilp, x35] H)
      (
        purK (bldA [.int .i64 0, .nilp, .nilp] [(0, 1, x0), (1, 1, x26), (2, 1, x34)]) fun x42 =>
        effK H (boxA H 182 x42) fun x43 H =>
        retK [x43, (.int .i64 0)] H)))
theorem G55 (ρ : Addr → Option Value) (call : CallF) (yc : YieldF) (lim k : Nat) (x0 x1 : AV) (H : Heap) :
    evL (cx ρ) call yc false 55 lim k c55 [x0, x1, (.tup []), (.tup []), (.tup []), (.tup []), (.tup []), (.tup []), (.tup []), (.tup []), (.tup []), (.tup []), (.tup []), (.tup []), (.tup []), (.tup []), (.tup []), (.tup []), (.tup []), (.tup []), (.tup []), (.tup []), (.tup []), (.tup []), (.tup []), (.tup []), (.tup []), (.tup []), (.tup []), (.tup []), (.tup []), (.tup []), (.tup []), (.tup []), (.tup []), (.tup []), (.tup []), (.tup []), (.tup []), (.tup []), (.tup []), (.tup []), (.tup []), (.tup [])] H (kk none (fun s H => retK (([4, 5] : List Nat).map fun t => s.getD t (.tup [])) H) [] retK [4, 5]) = L55 ρ call yc lim k x0 x1 H := by
  kernel_rfl
theorem E55 (ρ : Addr → Option Value) (k lim : Nat) (x0 x1 : AV) (H : Heap) : evCall (cx ρ) (k + 1) lim 55 [x0, x1] H = L55 ρ (evCall (cx ρ) k) (evCY (cx ρ) k).2 lim k x0 x1 H := by
  rw [evCall_body (cx ρ) k lim 55 _ H Tryz.f55 c55 [4, 5] (by kernel_rfl) (by kernel_rfl) (by kernel_rfl) (by kernel_rfl) (by kernel_rfl)]
  exact G55 ρ (evCall (cx ρ) k) (evCY (cx ρ) k).2 lim k x0 x1 H
-- haycroft/epoch.New
noncomputable def c56 : Code := Code.of Tryz.prog 56
noncomputable def L56 (ρ : Addr → Option Value) (call : CallF) (yc : YieldF) (lim k : Nat) (x0 : AV) (H : Heap) : Res :=
  purK (binA Tryz.prog H .lss 3 x0 (.int .i64 1)) fun x7 =>
  purK (gPur (wantV x7 false) (some x0)) fun x9 =>
  purK (gPur (wantV x7 false) (binA Tryz.prog H .gtr 3 x9 (.int .i64 8))) fun x10 =>
  purK (pickA x7 (.bool true) x10) fun x11 =>
  condK x11
  (
    retK [.nilp, (.int .i64 1)] H)
  (
    purK (binA Tryz.prog H .add 3 (.int .i64 1) x0) fun x14 =>
    resK (call lim 61 [x14] H) fun x15 H =>
    purK (extA 0 x15) fun x16 =>
    purK (extA 1 x15) fun x17 =>
    purK (binA Tryz.prog H .neq 27 x17 (.int .i64 0)) fun x19 =>
    condK x19
    (
      retK [.nilp, x17] H)
    (
      resK (call lim 73 [x16, (.int .i64 0), (.int .u64 1)] H) fun x22 H =>
      purK (bldA [.nilp] [(0, 1, x16)]) fun x24 =>
      effK H (boxA H 97 x24) fun x25 H =>
      retK [x25, (.int .i64 0)] H))
theorem G56 (ρ : Addr → Option Value) (call : CallF) (yc : YieldF) (lim k : Nat) (x0 : AV) (H : Heap) :
    evL (cx ρ) call yc false 56 lim k c56 [x0, (.tup []), (.tup []), (.tup []), (.tup []), (.tup []), (.tup []), (.tup []), (.tup []), (.tup []), (.tup []), (.tup []), (.tup []), (.tup []), (.tup []), (.tup []), (.tup []), (.tup []), (.tup []), (.tup []), (.tup []), (.tup []), (.tup []), (.tup []), (.tup []), (.tup [])] H (kk none (fun s H => retK (([2, 3] : List Nat).map fun t => s.getD t (.tup [])) H) [] retK [2, 3]) = L56 ρ call yc lim k x0 H := by
  kernel_rfl
theorem E56 (ρ : Addr → Option Value) (k lim : Nat) (x0 : AV) (H : Heap) : evCall (cx ρ) (k + 1) lim 56 [x0] H = L56 ρ (evCall (cx ρ) k) (evCY (cx ρ) k).2 lim k x0 H := by
  rw [evCall_body (cx ρ) k lim 56 _ H Tryz.f56 c56 [2, 3] (by kernel_rfl) (by kernel_rfl) (by kernel_rfl) (by kernel_rfl) (by kernel_rfl)]
  exact G56 ρ (evCall (cx ρ) k) (evCY (cx ρ) k).2 lim k x0 H
-- haycroft/marks.New
noncomputable def c57 : Code := Code.of Tryz.prog 57
noncomputable def L57 (ρ : Addr → Option Value) (call : CallF) (yc : YieldF) (lim k : Nat) (H : Heap) : Res :=
  resK (call lim 61 [(.int .i64 5)] H) fun x4 H =>
  purK (extA 0 x4) fun x5 =>
  purK (extA 1 x4) fun x6 =>
  purK (bldA [.nilp] [(0, 1, x5)]) fun x8 =>
  effK H (boxA H 162 x8) fun x9 H =>
  retK [x9] H
theorem G57 (ρ : Addr → Option Value) (call : CallF) (yc : YieldF) (lim k : Nat) (H : Heap) :
    evL (cx ρ) call yc false 57 lim k c57 [(.tup []), (.tup []), (.tup []), (.tup []), (.tup []), (.tup []), (.tup []), (.tup []), (.tup []), (.tup [])] H (kk none (fun s H => retK (([0] : List Nat).map fun t => s.getD t (.tup [])) H) [] retK [0]) = L57 ρ call yc lim k H := by
  kernel_rfl
theorem E57 (ρ : Addr → Option Value) (k lim : Nat) (H : Heap) : evCall (cx ρ) (k + 1) lim 57 [] H = L57 ρ (evCall (cx ρ) k) (evCY (cx ρ) k).2 lim k H := by
  rw [evCall_body (cx ρ) k lim 57 _ H Tryz.f57 c57 [0] (by kernel_rfl) (by kernel_rfl) (by kernel_rfl) (by kernel_rfl) (by kernel_rfl)]
  exact G57 ρ (evCall (cx ρ) k) (evCY (cx ρ) k).2 lim k H
-- haycroft/drain.New
noncomputable def c58 : Code := Code.of Tryz.prog 58
noncomputable def L58 (ρ : Addr → Option Value) (call : CallF) (yc : YieldF) (lim k : Nat) (H : Heap) : Res :=
  purK (bldA [.nils] []) fun x1 =>
  effK H (boxA H 158 x1) fun x2 H =>
  retK [x2] H
theorem G58 (ρ : Addr → Option Value) (call : CallF) (yc : YieldF) (lim k : Nat) (H : Heap) :
    evL (cx ρ) call yc false 58 lim k c58 [(.tup []), (.tup []), (.tup [])] H (kk none (fun s H => retK (([0] : List Nat).map fun t => s.getD t (.tup [])) H) [] retK [0]) = L58 ρ call yc lim k H := by
  kernel_rfl
theorem E58 (ρ : Addr → Option Value) (k lim : Nat) (H : Heap) : evCall (cx ρ) (k + 1) lim 58 [] H = L58 ρ (evCall (cx ρ) k) (evCY (cx ρ) k).2 lim k H := by
  rw [evCall_body (cx ρ) k lim 58 _ H Tryz.f58 c58 [0] (by kernel_rfl) (by kernel_rfl) (by kernel_rfl) (by kernel_rfl) (by kernel_rfl)]
  exact G58 ρ (evCall (cx ρ) k) (evCY (cx ρ) k).2 lim k H
-- (*haycroft/pages.Buffer).Open
noncomputable def c59 : Code := Code.of Tryz.prog 59
noncomputable def L59 (ρ : Addr → Option Value) (call : CallF) (yc : YieldF) (lim k : Nat) (x0 x1 : AV) (H : Heap) : Res :=
  purK (binA Tryz.prog H .eql 88 x0 .nilp) fun x11 =>
  condK x11
  (
    retK [(.int .i64 2)] H)
  (
    purK (binA Tryz.prog H .lss 3 x1 (.int .i64 0)) fun x14 =>
    condK x14
    (
      retK [(.int .i64 1)] H)
    (
      resK (call lim 94 [x0, x1] H) fun x18 H =>
      condK x18
      (
        retK [(.int .i64 8)] H)
      (
        resK (call lim 95 [x0, x1] H) fun x21 H =>
        purK (nilChkA x0) fun x24 =>
        purK (addA 2 x24) fun x25 =>
        purK (ld1 ρ H x25) fun x26 =>
        resK (call lim 97 [x1] H) fun x29 H => bif (agn (ld1 ρ H x25) x26 && true) then
          resK (call lim 96 [x26, x21, (.int .u64 0), x29] H) fun x30 H =>
          purK (extA 0 x30) fun x31 =>
          purK (extA 1 x30) fun x32 =>
          purK (unA .not x31) fun x34 =>
          condK x34
          (
            retK [(.int .i64 10)] H)
          (
            purK (nilChkA x0) fun x36 =>
            purK (addA 0 x36) fun x37 =>
            purK (ld1 ρ H x37) fun x38 =>
            resK (call lim 85 [x38] H) fun x39 H =>
            purK (nilChkA x0) fun x41 =>
            purK (addA 1 x41) fun x42 =>
            purK (ld1 ρ H x42) fun x43 =>
            purK (binA Tryz.prog H .mul 3 x21 x39) fun x46 =>
            effK H (mkS H 22 1 8 [.int .u64 0] x39 x39) fun x48 H => bif (agn (binA Tryz.prog H .mul 3 x21 x39) x46 && (agn (ld1 ρ H x42) x43 && true)) then
              resK (call lim 98 [x43, x46, x48] H) fun x49 H =>
              retK [x49] H
            else none)
        else none)))
theorem G59 (ρ : Addr → Option Value) (call : CallF) (yc : YieldF) (lim k : Nat) (x0 x1 : AV) (H : Heap) :
    evL (cx ρ) call yc false 59 lim k c59 [x0, x1, (.tup []), (.tup []), (.tup []), (.tup []), (.tup []), (.tup []), (.tup []), (.tup []), (.tup []), (.tup []), (.tup []), (.tup []), (.tup []), (.tup []), (.tup []), (.tup []), (.tup []), (.tup []), (.tup []), (.tup []), (.tup []), (.tup []), (.tup []), (.tup []), (.tup []), (.tup []), (.tup []), (.tup []), (.tup []), (.tup []), (.tup []), (.tup []), (.tup []), (.tup []), (.tup []), (.tup []), (.tup []), (.tup []), (.tup []), (.tup []), (.tup []), (.tup []), (.tup []), (.tup []), (.tup []), (.tup []), (.tup []), (.tup [])] H (kk none (fun s H => retK (([4] : List Nat).map fun t => s.getD t (.tup [])) H) [] retK [4]) = L59 ρ call yc lim k x0 x1 H := by
  kernel_rfl
theorem E59 (ρ : Addr → Option Value) (k lim : Nat) (x0 x1 : AV) (H : Heap) : evCall (cx ρ) (k + 1) lim 59 [x0, x1] H = L59 ρ (evCall (cx ρ) k) (evCY (cx ρ) k).2 lim k x0 x1 H := by
  rw [evCall_body (cx ρ) k lim 59 _ H Tryz.f59 c59 [4] (by kernel_rfl) (by kernel_rfl) (by kernel_rfl) (by kernel_rfl) (by kernel_rfl)]
  exact G59 ρ (evCall (cx ρ) k) (evCY (cx ρ) k).2 lim k x0 x1 H
-- haycroft/mix.May
noncomputable def c60 : Code := Code.of Tryz.prog 60
noncomputable def L60 (ρ : Addr → Option Value) (call : CallF) (yc : YieldF) (lim k : Nat) (x0 : AV) (H : Heap) : Res :=
  purK (binA Tryz.prog H .geq 3 x0 (.int .i64 1)) fun x4 =>
  purK (gPur (wantV x4 true) (some x0)) fun x6 =>
  purK (gPur (wantV x4 true) (binA Tryz.prog H .leq 3 x6 (.int .i64 1024))) fun x7 =>
  purK (pickA x4 x7 (.bool false)) fun x8 =>
  purK (gPur (wantV x8 true) (some x0)) fun x10 =>
  purK (gPur (wantV x8 true) (some x0)) fun x11 =>
  purK (gPur (wantV x8 true) (binA Tryz.prog H .sub 3 x11 (.int .i64 1))) fun x12 =>
  purK (gPur (wantV x8 true) (binA Tryz.prog H .and 3 x10 x12)) fun x13 =>
  purK (gPur (wantV x8 true) (binA Tryz.prog H .eql 3 x13 (.int .i64 0))) fun x14 =>
  purK (pickA x8 x14 (.bool false)) fun x15 =>
  retK [x15] H
theorem G60 (ρ : Addr → Option Value) (call : CallF) (yc : YieldF) (lim k : Nat) (x0 : AV) (H : Heap) :
    evL (cx ρ) call yc false 60 lim k c60 [x0, (.tup []), (.tup []), (.tup []), (.tup []), (.tup []), (.tup []), (.tup []), (.tup []), (.tup []), (.tup []), (.tup []), (.tup []), (.tup []), (.tup []), (.tup [])] H (kk none (fun s H => retK (([2] : List Nat).map fun t => s.getD t (.tup [])) H) [] retK [2]) = L60 ρ call yc lim k x0 H := by
  kernel_rfl
theorem E60 (ρ : Addr → Option Value) (k lim : Nat) (x0 : AV) (H : Heap) : evCall (cx ρ) (k + 1) lim 60 [x0] H = L60 ρ (evCall (cx ρ) k) (evCY (cx ρ) k).2 lim k x0 H := by
  rw [evCall_body (cx ρ) k lim 60 _ H Tryz.f60 c60 [2] (by kernel_rfl) (by kernel_rfl) (by kernel_rfl) (by kernel_rfl) (by kernel_rfl)]
  exact G60 ρ (evCall (cx ρ) k) (evCY (cx ρ) k).2 lim k x0 H
-- haycroft/cell.New
noncomputable def c61 : Code := Code.of Tryz.prog 61
noncomputable def L61 (ρ : Addr → Option Value) (call : CallF) (yc : YieldF) (lim k : Nat) (x0 : AV) (H : Heap) : Res :=
  purK (binA Tryz.prog H .lss 3 x0 (.int .i64 1)) fun x5 =>
  purK (gPur (wantV x5 false) (some x0)) fun x7 =>
  purK (gPur (wantV x5 false) (binA Tryz.prog H .gtr 3 x7 (.int .i64 65536))) fun x8 =>
  purK (pickA x5 (.bool true) x8) fun x9 =>
  condK x9
  (
    retK [.nilp, (.int .i64 1)] H)
  (
    effK H (mkS H 150 1 8 [.int .u64 0] x0 x0) fun x11 H =>
    purK (bldA [.nils, .int .i64 0, .int .i64 0] [(0, 1, x11)]) fun x12 =>
    effK H (boxA H 155 x12) fun x13 H =>
    retK [x13, (.int .i64 0)] H)
theorem G61 (ρ : Addr → Option Value) (call : CallF) (yc : YieldF) (lim k : Nat) (x0 : AV) (H : Heap) :
    evL (cx ρ) call yc false 61 lim k c61 [x0, (.tup []), (.tup []), (.tup []), (.tup []), (.tup []), (.tup []), (.tup []), (.tup []), (.tup []), (.tup []), (.tup []), (.tup []), (.tup [])] H (kk none (fun s H => retK (([2, 3] : List Nat).map fun t => s.getD t (.tup [])) H) [] retK [2, 3]) = L61 ρ call yc lim k x0 H := by
  kernel_rfl
theorem E61 (ρ : Addr → Option Value) (k lim : Nat) (x0 : AV) (H : Heap) : evCall (cx ρ) (k + 1) lim 61 [x0] H = L61 ρ (evCall (cx ρ) k) (evCY (cx ρ) k).2 lim k x0 H := by
  rw [evCall_body (cx ρ) k lim 61 _ H Tryz.f61 c61 [2, 3] (by kernel_rfl) (by kernel_rfl) (by kernel_rfl) (by kernel_rfl) (by kernel_rfl)]
  exact G61 ρ (evCall (cx ρ) k) (evCY (cx ρ) k).2 lim k x0 H
-- (*haycroft/index.Index).Look
noncomputable def c62 : Code := Code.of Tryz.prog 62
noncomputable def L62 (ρ : Addr → Option Value) (call : CallF) (yc : YieldF) (lim k : Nat) (x0 x1 : AV) (H : Heap) : Res :=
  effK H (boxA H 43 x0) fun x2 H =>
  effK H (boxA H 22 x1) fun x3 H =>
  effK H (some (.ptr H.sz 0 0, .new (newCells 140 false [.int .i64 0, .int .i64 0, .int .u64 0, .int .i64 0]))) fun x4 H =>
  purK (ld1 ρ H x2) fun x10 =>
  purK (binA Tryz.prog H .eql 43 x10 .nilp) fun x11 =>
  condK x11
  (
    purK (bldA [.int .i64 0, .int .i64 0, .int .u64 0, .int .i64 0] []) fun x12 =>
    effK H (stA lim H 4 x4 x12) fun _ H =>
    (retC (cx ρ) [some 140, none]) [x4, (.int .i64 2)] H)
  (
    purK (ld1 ρ H x2) fun x13 =>
    purK (ld1 ρ H x3) fun x14 =>
    purK (ld1 ρ H x2) fun x15 =>
    purK (nilChkA x15) fun x16 =>
    purK (addA 0 x16) fun x17 =>
    purK (ld1 ρ H x17) fun x18 =>
    resK (call lim 100 [x14, x18] H) fun x19 H => bif (agn (ld1 ρ H x2) x13 && true) then
      resK (call lim 99 [x13, x19] H) fun x20 H =>
      purK (lenS x20) fun x23 =>
      purK (binA Tryz.prog H .sub 3 x23 (.int .i64 1)) fun x24 =>
      purK (ixS 1 x20 x24) fun x25 =>
      purK (ld1 ρ H x25) fun x26 =>
      resK (call lim 101 [x20] H) fun x28 H =>
      resK (call lim 102 [x28, (.fn (.func 103) [] [x2, x3])] H) fun x31 H =>
      purK (binA Tryz.prog H .geq 3 x31 (.int .i64 0)) fun x33 =>
      condK x33
      (
        purK (ixS 1 x28 x31) fun x36 =>
        purK (ld1 ρ H x36) fun x37 =>
        purK (ld1 ρ H x2) fun x38 =>
        purK (nilChkA x38) fun x39 =>
        purK (addA 2 x39) fun x40 =>
        purK (ld1 ρ H x40) fun x41 =>
        purK (ixS 1 x28 x31) fun x44 =>
        purK (ld1 ρ H x44) fun x45 =>
        resK (call lim 41 [x41, x45] H) fun x46 H => bif (agn (ld1 ρ H x36) x37 && true) then
          purK (bldA [.int .i64 0, .int .i64 0, .int .u64 0, .int .i64 0] [(0, 1, (.int .i64 1)), (1, 1, x37), (2, 1, x46), (3, 1, x26)]) fun x48 =>
          effK H (stA lim H 4 x4 x48) fun _ H =>
          (retC (cx ρ) [some 140, none]) [x4, (.int .i64 0)] H
        else none)
      (
        resK (call lim 102 [x28, (.fn (.func 106) [] [x2])] H) fun x51 H =>
        purK (binA Tryz.prog H .geq 3 x51 (.int .i64 0)) fun x53 =>
        condK x53
        (
          purK (ixS 1 x28 x51) fun x56 =>
          purK (ld1 ρ H x56) fun x57 =>
          purK (bldA [.int .i64 0, .int .i64 0, .int .u64 0, .int .i64 0] [(0, 1, (.int .i64 2)), (1, 1, x57), (3, 1, x26)]) fun x59 =>
          effK H (stA lim H 4 x4 x59) fun _ H =>
          (retC (cx ρ) [some 140, none]) [x4, (.int .i64 0)] H)
        (
          purK (bldA [.int .i64 0, .int .i64 0, .int .u64 0, .int .i64 0] [(0, 1, (.int .i64 3)), (3, 1, x26)]) fun x61 =>
          effK H (stA lim H 4 x4 x61) fun _ H =>
          (retC (cx ρ) [some 140, none]) [x4, (.int .i64 0)] H))
    else none)
theorem G62 (ρ : Addr → Option Value) (call : CallF) (yc : YieldF) (lim k : Nat) (x0 x1 : AV) (H : Heap) :
    evL (cx ρ) call yc false 62 lim k c62 [x0, x1, (.tup []), (.tup []), (.tup []), (.tup []), (.tup []), (.tup []), (.tup []), (.tup []), (.tup []), (.tup []), (.tup []), (.tup []), (.tup []), (.tup []), (.tup []), (.tup []), (.tup []), (.tup []), (.tup []), (.tup []), (.tup []), (.tup []), (.tup []), (.tup []), (.tup []), (.tup []), (.tup []), (.tup []), (.tup []), (.tup []), (.tup []), (.tup []), (.tup []), (.tup []), (.tup []), (.tup []), (.tup []), (.tup []), (.tup []), (.tup []), (.tup []), (.tup []), (.tup []), (.tup []), (.tup []), (.tup []), (.tup []), (.tup []), (.tup []), (.tup []), (.tup []), (.tup []), (.tup []), (.tup []), (.tup []), (.tup []), (.tup []), (.tup []), (.tup []), (.tup [])] H (kk none (fun s H => (retC (cx ρ) [some 140, none]) (([4, 5] : List Nat).map fun t => s.getD t (.tup [])) H) [] (retC (cx ρ) [some 140, none]) [4, 5]) = L62 ρ call yc lim k x0 x1 H := by
  kernel_rfl
theorem E62 (ρ : Addr → Option Value) (k lim : Nat) (x0 x1 : AV) (H : Heap) : evCall (cx ρ) (k + 1) lim 62 [x0, x1] H = L62 ρ (evCall (cx ρ) k) (evCY (cx ρ) k).2 lim k x0 x1 H := by
  rw [evCall_cells (cx ρ) k lim 62 _ H Tryz.f62 c62 [4, 5] [some 140, none] (by kernel_rfl) (by kernel_rfl) (by kernel_rfl) (by kernel_rfl) (by kernel_rfl) (by kernel_rfl)]
  exact G62 ρ (evCall (cx ρ) k) (evCY (cx ρ) k).2 lim k x0 x1 H
-- (*haycroft/task.Task).missing
noncomputable def c63 : Code := Code.of Tryz.prog 63
noncomputable def L63 (ρ : Addr → Option Value) (call : CallF) (yc : YieldF) (lim k : Nat) (x0 x1 : AV) (H : Heap) : Res :=
  effK H (boxA H 140 x1) fun x3 H =>
  resK (call lim 66 [x0, (.int .i64 1)] H) fun x7 H =>
  purK (gPur (wantV x7 false) (some x0)) fun x9 =>
  resK (gRes (wantV x7 false) H (call lim 66 [x9, (.int .i64 4)] H)) fun x10 H =>
  purK (pickA x7 (.bool true) x10) fun x11 =>
  condK x11
  (
    resK (call lim 65 [x0] H) fun x13 H =>
    purK (extA 0 x13) fun x14 =>
    purK (extA 1 x13) fun x15 =>
    retK [x14, x15] H)
  (
    purK (addA 1 x3) fun x18 =>
    purK (ld1 ρ H x18) fun x19 =>
    purK (addA 3 x3) fun x20 =>
    purK (ld1 ρ H x20) fun x21 =>
    purK (nilChkA x0) fun x22 =>
    purK (addA 9 x22) fun x23 =>
    effK H (stA lim H 1 x23 x19) fun _ H => bif (agn (ld1 ρ H x20) x21 && true) then
      purK (nilChkA x0) fun x24 =>
      purK (addA 11 x24) fun x25 =>
      effK H (stA lim H 1 x25 x21) fun _ H =>
      purK (addA 0 x3) fun x27 =>
      purK (ld1 ρ H x27) fun x28 =>
      purK (binA Tryz.prog H .eql 3 x28 (.int .i64 2)) fun x29 =>
      condK x29
      (
        resK (call lim 67 [x0, (.fn (.func 107) [] [])] H) fun x31 H =>
        purK (extA 0 x31) fun x32 =>
        purK (extA 1 x31) fun x33 =>
        retK [x32, x33] H)
      (
        purK (nilChkA x0) fun x36 =>
        purK (addA 12 x36) fun x37 =>
        purK (ld1 ρ H x37) fun x38 =>
        purK (binA Tryz.prog H .gtr 3 x38 (.int .i64 0)) fun x39 =>
        condK x39
        (
          resK (call lim 67 [x0, (.fn (.func 108) [] [])] H) fun x41 H =>
          purK (extA 0 x41) fun x42 =>
          purK (extA 1 x41) fun x43 =>
          retK [x42, x43] H)
        (
          resK (call lim 67 [x0, (.fn (.func 109) [] [])] H) fun x45 H =>
          purK (extA 0 x45) fun x46 =>
          purK (extA 1 x45) fun x47 =>
          retK [x46, x47] H))
    else none)
theorem G63 (ρ : Addr → Option Value) (call : CallF) (yc : YieldF) (lim k : Nat) (x0 x1 : AV) (H : Heap) :
    evL (cx ρ) call yc false 63 lim k c63 [x0, x1, (.tup []), (.tup []), (.tup []), (.tup []), (.tup []), (.tup []), (.tup []), (.tup []), (.tup []), (.tup []), (.tup []), (.tup []), (.tup []), (.tup []), (.tup []), (.tup []), (.tup []), (.tup []), (.tup []), (.tup []), (.tup []), (.tup []), (.tup []), (.tup []), (.tup []), (.tup []), (.tup []), (.tup []), (.tup []), (.tup []), (.tup []), (.tup []), (.tup []), (.tup []), (.tup []), (.tup []), (.tup []), (.tup []), (.tup []), (.tup []), (.tup []), (.tup []), (.tup []), (.tup []), (.tup []), (.tup [])] H (kk none (fun s H => retK (([4, 5] : List Nat).map fun t => s.getD t (.tup [])) H) [] retK [4, 5]) = L63 ρ call yc lim k x0 x1 H := by
  kernel_rfl
theorem E63 (ρ : Addr → Option Value) (k lim : Nat) (x0 x1 : AV) (H : Heap) : evCall (cx ρ) (k + 1) lim 63 [x0, x1] H = L63 ρ (evCall (cx ρ) k) (evCY (cx ρ) k).2 lim k x0 x1 H := by
  rw [evCall_body (cx ρ) k lim 63 _ H Tryz.f63 c63 [4, 5] (by kernel_rfl) (by kernel_rfl) (by kernel_rfl) (by kernel_rfl) (by kernel_rfl)]
  exact G63 ρ (evCall (cx ρ) k) (evCY (cx ρ) k).2 lim k x0 x1 H
-- haycroft/field.Get
noncomputable def c64 : Code := Code.of Tryz.prog 64
noncomputable def L64 (ρ : Addr → Option Value) (call : CallF) (yc : YieldF) (lim k : Nat) (x0 x1 x2 : AV) (H : Heap) : Res :=
  resK (call lim 110 [x1, x2] H) fun x9 H =>
  purK (unA .not x9) fun x10 =>
  condK x10
  (
    retK [(.int .u64 0)] H)
  (
    purK (binA Tryz.prog H .shr 22 x0 x1) fun x13 =>
    resK (call lim 111 [x2] H) fun x15 H => bif (agn (binA Tryz.prog H .shr 22 x0 x1) x13 && true) then
      purK (binA Tryz.prog H .and 22 x13 x15) fun x16 =>
      retK [x16] H
    else none)
theorem G64 (ρ : Addr → Option Value) (call : CallF) (yc : YieldF) (lim k : Nat) (x0 x1 x2 : AV) (H : Heap) :
    evL (cx ρ) call yc false 64 lim k c64 [x0, x1, x2, (.tup []), (.tup []), (.tup []), (.tup []), (.tup []), (.tup []), (.tup []), (.tup []), (.tup []), (.tup []), (.tup []), (.tup []), (.tup []), (.tup [])] H (kk none (fun s H => retK (([6] : List Nat).map fun t => s.getD t (.tup [])) H) [] retK [6]) = L64 ρ call yc lim k x0 x1 x2 H := by
  kernel_rfl
theorem E64 (ρ : Addr → Option Value) (k lim : Nat) (x0 x1 x2 : AV) (H : Heap) : evCall (cx ρ) (k + 1) lim 64 [x0, x1, x2] H = L64 ρ (evCall (cx ρ) k) (evCY (cx ρ) k).2 lim k x0 x1 x2 H := by
  rw [evCall_body (cx ρ) k lim 64 _ H Tryz.f64 c64 [6] (by kernel_rfl) (by kernel_rfl) (by kernel_rfl) (by kernel_rfl) (by kernel_rfl)]
  exact G64 ρ (evCall (cx ρ) k) (evCY (cx ρ) k).2 lim k x0 x1 x2 H
-- (*haycroft/task.Task).absent
noncomputable def c65 : Code := Code.of Tryz.prog 65
noncomputable def L65 (ρ : Addr → Option Value) (call : CallF) (yc : YieldF) (lim k : Nat) (x0 : AV) (H : Heap) : Res :=
  purK (nilChkA x0) fun x5 =>
  purK (addA 3 x5) fun x6 =>
  purK (addA 0 x6) fun x7 =>
  purK (ld1 ρ H x7) fun x8 =>
  purK (binA Tryz.prog H .eql 3 x8 (.int .i64 1)) fun x10 =>
  condK x10
  (
    resK (call lim 90 [x0, (.int .i64 7), (.str (ByteArray.mk #[]))] H) fun x12 H =>
    purK (extA 0 x12) fun x13 =>
    purK (extA 1 x12) fun x14 =>
    retK [x13, x14] H)
  (
    purK (binA Tryz.prog H .eql 3 x8 (.int .i64 4)) fun x16 =>
    condK x16
    (
      resK (call lim 90 [x0, (.int .i64 0), (.str (ByteArray.mk #[]))] H) fun x18 H =>
      purK (extA 0 x18) fun x19 =>
      purK (extA 1 x18) fun x20 =>
      retK [x19, x20] H)
    (
      purK (nilChkA x0) fun x22 =>
      purK (addA 16 x22) fun x23 =>
      effK H (stA lim H 1 x23 (.str (ByteArray.mk #[]))) fun _ H =>
      resK (call lim 67 [x0, (.fn (.func 68) [] [])] H) fun x25 H =>
      purK (extA 0 x25) fun x26 =>
      purK (extA 1 x25) fun x27 =>
      retK [x26, x27] H))
theorem G65 (ρ : Addr → Option Value) (call : CallF) (yc : YieldF) (lim k : Nat) (x0 : AV) (H : Heap) :
    evL (cx ρ) call yc false 65 lim k c65 [x0, (.tup []), (.tup []), (.tup []), (.tup []), (.tup []), (.tup []), (.tup []), (.tup []), (.tup []), (.tup []), (.tup []), (.tup []), (.tup []), (.tup []), (.tup []), (.tup []), (.tup []), (.tup []), (.tup []), (.tup []), (.tup []), (.tup []), (.tup []), (.tup []), (.tup []), (.tup []), (.tup [])] H (kk none (fun s H => retK (([2, 3] : List Nat).map fun t => s.getD t (.tup [])) H) [] retK [2, 3]) = L65 ρ call yc lim k x0 H := by
  kernel_rfl
theorem E65 (ρ : Addr → Option Value) (k lim : Nat) (x0 : AV) (H : Heap) : evCall (cx ρ) (k + 1) lim 65 [x0] H = L65 ρ (evCall (cx ρ) k) (evCY (cx ρ) k).2 lim k x0 H := by
  rw [evCall_body (cx ρ) k lim 65 _ H Tryz.f65 c65 [2, 3] (by kernel_rfl) (by kernel_rfl) (by kernel_rfl) (by kernel_rfl) (by kernel_rfl)]
  exact G65 ρ (evCall (cx ρ) k) (evCY (cx ρ) k).2 lim k x0 H
-- (*haycroft/task.Task).is
noncomputable def c66 : Code := Code.of Tryz.prog 66
noncomputable def L66 (ρ : Addr → Option Value) (call : CallF) (yc : YieldF) (lim k : Nat) (x0 x1 : AV) (H : Heap) : Res :=
  purK (nilChkA x0) fun x6 =>
  purK (addA 3 x6) fun x7 =>
  purK (addA 0 x7) fun x8 =>
  purK (ld1 ρ H x8) fun x9 =>
  purK (binA Tryz.prog H .eql 3 x9 x1) fun x11 =>
  retK [x11] H
theorem G66 (ρ : Addr → Option Value) (call : CallF) (yc : YieldF) (lim k : Nat) (x0 x1 : AV) (H : Heap) :
    evL (cx ρ) call yc false 66 lim k c66 [x0, x1, (.tup []), (.tup []), (.tup []), (.tup []), (.tup []), (.tup []), (.tup []), (.tup []), (.tup []), (.tup [])] H (kk none (fun s H => retK (([4] : List Nat).map fun t => s.getD t (.tup [])) H) [] retK [4]) = L66 ρ call yc lim k x0 x1 H := by
  kernel_rfl
theorem E66 (ρ : Addr → Option Value) (k lim : Nat) (x0 x1 : AV) (H : Heap) : evCall (cx ρ) (k + 1) lim 66 [x0, x1] H = L66 ρ (evCall (cx ρ) k) (evCY (cx ρ) k).2 lim k x0 x1 H := by
  rw [evCall_body (cx ρ) k lim 66 _ H Tryz.f66 c66 [4] (by kernel_rfl) (by kernel_rfl) (by kernel_rfl) (by kernel_rfl) (by kernel_rfl)]
  exact G66 ρ (evCall (cx ρ) k) (evCY (cx ρ) k).2 lim k x0 x1 H
-- (*haycroft/cell.Row).Len
noncomputable def c70 : Code := Code.of Tryz.prog 70
noncomputable def L70 (ρ : Addr → Option Value) (call : CallF) (yc : YieldF) (lim k : Nat) (x0 : AV) (H : Heap) : Res :=
  purK (binA Tryz.prog H .eql 95 x0 .nilp) fun x4 =>
  condK x4
  (
    retK [(.int .i64 0)] H)
  (
    purK (nilChkA x0) fun x6 =>
    purK (addA 0 x6) fun x7 =>
    purK (ld1 ρ H x7) fun x8 =>
    purK (lenS x8) fun x9 =>
    retK [x9] H)
theorem G70 (ρ : Addr → Option Value) (call : CallF) (yc : YieldF) (lim k : Nat) (x0 : AV) (H : Heap) :
    evL (cx ρ) call yc false 70 lim k c70 [x0, (.tup []), (.tup []), (.tup []), (.tup []), (.tup []), (.tup []), (.tup []), (.tup []), (.tup [])] H (kk none (fun s H => retK (([2] : List Nat).map fun t => s.getD t (.tup [])) H) [] retK [2]) = L70 ρ call yc lim k x0 H := by
  kernel_rfl
theorem E70 (ρ : Addr → Option Value) (k lim : Nat) (x0 : AV) (H : Heap) : evCall (cx ρ) (k + 1) lim 70 [x0] H = L70 ρ (evCall (cx ρ) k) (evCY (cx ρ) k).2 lim k x0 H := by
  rw [evCall_body (cx ρ) k lim 70 _ H Tryz.f70 c70 [2] (by kernel_rfl) (by kernel_rfl) (by kernel_rfl) (by kernel_rfl) (by kernel_rfl)]
  exact G70 ρ (evCall (cx ρ) k) (evCY (cx ρ) k).2 lim k x0 H
-- (*haycroft/cell.Row).there
noncomputable def c71 : Code := Code.of Tryz.prog 71
noncomputable def L71 (ρ : Addr → Option Value) (call : CallF) (yc : YieldF) (lim k : Nat) (x0 x1 : AV) (H : Heap) : Res :=
  purK (binA Tryz.prog H .geq 3 x1 (.int .i64 0)) fun x6 =>
  purK (gPur (wantV x6 true) (some x1)) fun x8 =>
  purK (gPur (wantV x6 true) (some x0)) fun x9 =>
  resK (gRes (wantV x6 true) H (call lim 70 [x9] H)) fun x10 H =>
  purK (gPur (wantV x6 true) (binA Tryz.prog H .lss 3 x8 x10)) fun x11 =>
  purK (pickA x6 x11 (.bool false)) fun x12 =>
  retK [x12] H
theorem G71 (ρ : Addr → Option Value) (call : CallF) (yc : YieldF) (lim k : Nat) (x0 x1 : AV) (H : Heap) :
    evL (cx ρ) call yc false 71 lim k c71 [x0, x1, (.tup []), (.tup []), (.tup []), (.tup []), (.tup []), (.tup []), (.tup []), (.tup []), (.tup []), (.tup []), (.tup [])] H (kk none (fun s H => retK (([4] : List Nat).map fun t => s.getD t (.tup [])) H) [] retK [4]) = L71 ρ call yc lim k x0 x1 H := by
  kernel_rfl
theorem E71 (ρ : Addr → Option Value) (k lim : Nat) (x0 x1 : AV) (H : Heap) : evCall (cx ρ) (k + 1) lim 71 [x0, x1] H = L71 ρ (evCall (cx ρ) k) (evCY (cx ρ) k).2 lim k x0 x1 H := by
  rw [evCall_body (cx ρ) k lim 71 _ H Tryz.f71 c71 [4] (by kernel_rfl) (by kernel_rfl) (by kernel_rfl) (by kernel_rfl) (by kernel_rfl)]
  exact G71 ρ (evCall (cx ρ) k) (evCY (cx ρ) k).2 lim k x0 x1 H
-- (*sync/atomic.Uint64).Load
noncomputable def c72 : Code := Code.of Tryz.prog 72
noncomputable def L72 (ρ : Addr → Option Value) (call : CallF) (yc : YieldF) (lim k : Nat) (x0 : AV) (H : Heap) : Res :=
  purK (nilChkA x0) fun x4 =>
  purK (addA 0 x4) fun x5 =>
  resK (call lim 125 [x5] H) fun x6 H =>
  retK [x6] H
theorem G72 (ρ : Addr → Option Value) (call : CallF) (yc : YieldF) (lim k : Nat) (x0 : AV) (H : Heap) :
    evL (cx ρ) call yc false 72 lim k c72 [x0, (.tup []), (.tup []), (.tup []), (.tup []), (.tup []), (.tup [])] H (kk none (fun s H => retK (([2] : List Nat).map fun t => s.getD t (.tup [])) H) [] retK [2]) = L72 ρ call yc lim k x0 H := by
  kernel_rfl
theorem E72 (ρ : Addr → Option Value) (k lim : Nat) (x0 : AV) (H : Heap) : evCall (cx ρ) (k + 1) lim 72 [x0] H = L72 ρ (evCall (cx ρ) k) (evCY (cx ρ) k).2 lim k x0 H := by
  rw [evCall_body (cx ρ) k lim 72 _ H Tryz.f72 c72 [2] (by kernel_rfl) (by kernel_rfl) (by kernel_rfl) (by kernel_rfl) (by kernel_rfl)]
  exact G72 ρ (evCall (cx ρ) k) (evCY (cx ρ) k).2 lim k x0 H
-- (*haycroft/cell.Row).Store
noncomputable def c73 : Code := Code.of Tryz.prog 73
noncomputable def N73_1 (ρ : Addr → Option Value) (call : CallF) (yc : YieldF) (lim k : Nat) (x7 : AV) (H : Heap) (R : List AV → Heap → Res) : Res :=
  R [x7] H
theorem N73_1_eq (ρ : Addr → Option Value) (call : CallF) (yc : YieldF) (lim k : Nat) (x7 : AV) (H : Heap) (R : List AV → Heap → Res) :
    evL (cx ρ) call yc false 73 lim k (Code.at [1, 1, 1] c73) (sp 22 [(7, x7)]) H (kk none (fun s H => R (([6] : List Nat).map fun t => s.getD t (.tup [])) H) [] R [6]) = N73_1 ρ call yc lim k x7 H R := by
  kernel_rfl
noncomputable def L73 (ρ : Addr → Option Value) (call : CallF) (yc : YieldF) (lim k : Nat) (x0 x1 x2 : AV) (H : Heap) : Res :=
  resK (call lim 126 [x0, x1] H) fun x10 H =>
  purK (binA Tryz.prog H .eql 27 x10 (.int .i64 0)) fun x12 =>
  condK x12
  (
    purK (nilChkA x0) fun x14 =>
    purK (addA 0 x14) fun x15 =>
    purK (ld1 ρ H x15) fun x16 =>
    purK (ixS 1 x16 x1) fun x18 =>
    resK (call lim 127 [x18, x2] H) fun x20 H =>
    N73_1 ρ call yc lim k x10 H retK)
  (
    N73_1 ρ call yc lim k x10 H retK)
theorem L73_x (ρ : Addr → Option Value) (call : CallF) (yc : YieldF) (lim k : Nat) (J : CodeF) (x0 x1 x2 : AV) (H : Heap) :
    evX (cx ρ) call yc false 73 lim k J c73 [x0, x1, x2, (.tup []), (.tup []), (.tup []), (.tup []), (.tup []), (.tup []), (.tup []), (.tup []), (.tup []), (.tup []), (.tup []), (.tup []), (.tup []), (.tup []), (.tup []), (.tup []), (.tup []), (.tup []), (.tup [])] H (kk none (fun s H => retK (([6] : List Nat).map fun t => s.getD t (.tup [])) H) [] retK [6]) =
  resK (call lim 126 [x0, x1] H) fun x10 H =>
  purK (binA Tryz.prog H .eql 27 x10 (.int .i64 0)) fun x12 =>
  condK x12
  (
    purK (nilChkA x0) fun x14 =>
    purK (addA 0 x14) fun x15 =>
    purK (ld1 ρ H x15) fun x16 =>
    purK (ixS 1 x16 x1) fun x18 =>
    resK (call lim 127 [x18, x2] H) fun x20 H =>
    J (Code.at [1, 1, 1] c73) (sp 22 [(7, x10)]) H (kk none (fun s H => retK (([6] : List Nat).map fun t => s.getD t (.tup [])) H) [] retK [6]))
  (
    J (Code.at [1, 1, 1] c73) (sp 22 [(7, x10)]) H (kk none (fun s H => retK (([6] : List Nat).map fun t => s.getD t (.tup [])) H) [] retK [6])) := by
  kernel_rfl
theorem G73 (ρ : Addr → Option Value) (call : CallF) (yc : YieldF) (lim k : Nat) (x0 x1 x2 : AV) (H : Heap) :
    evL (cx ρ) call yc false 73 lim k c73 [x0, x1, x2, (.tup []), (.tup []), (.tup []), (.tup []), (.tup []), (.tup []), (.tup []), (.tup []), (.tup []), (.tup []), (.tup []), (.tup []), (.tup []), (.tup []), (.tup []), (.tup []), (.tup []), (.tup []), (.tup [])] H (kk none (fun s H => retK (([6] : List Nat).map fun t => s.getD t (.tup [])) H) [] retK [6]) = L73 ρ call yc lim k x0 x1 x2 H := by
  rw [evL_X, L73_x]
  simp only [← evL_X, L73, N73_1_eq]
theorem E73 (ρ : Addr → Option Value) (k lim : Nat) (x0 x1 x2 : AV) (H : Heap) : evCall (cx ρ) (k + 1) lim 73 [x0, x1, x2] H = L73 ρ (evCall (cx ρ) k) (evCY (cx ρ) k).2 lim k x0 x1 x2 H := by
  rw [evCall_body (cx ρ) k lim 73 _ H Tryz.f73 c73 [6] (by kernel_rfl) (by kernel_rfl) (by kernel_rfl) (by kernel_rfl) (by kernel_rfl)]
  exact G73 ρ (evCall (cx ρ) k) (evCY (cx ρ) k).2 lim k x0 x1 x2 H
-- (*haycroft/epoch.Table).In
noncomputable def c74 : Code := Code.of Tryz.prog 74
noncomputable def N74_1 (ρ : Addr → Option Value) (call : CallF) (yc : YieldF) (lim k : Nat) (x3 : AV) (H : Heap) (R : List AV → Heap → Res) : Res :=
  R [x3] H
theorem N74_1_eq (ρ : Addr → Option Value) (call : CallF) (yc : YieldF) (lim k : Nat) (x3 : AV) (H : Heap) (R : List AV → Heap → Res) :
    evL (cx ρ) call yc false 74 lim k (Code.at [1, 1, 1] c74) (sp 19 [(3, x3)]) H (kk none (fun s H => R (([2] : List Nat).map fun t => s.getD t (.tup [])) H) [] R [2]) = N74_1 ρ call yc lim k x3 H R := by
  kernel_rfl
noncomputable def N74_4 (ρ : Addr → Option Value) (call : CallF) (yc : YieldF) (lim k : Nat) (x0 x3 x4 : AV) (H : Heap) (kn : AV → AV → AV → Heap → Res) : Res :=
  purK (binA Tryz.prog H .add 3 x4 (.int .i64 1)) fun x9_1 =>
  kn x0 x3 x9_1 H
theorem N74_4_eq (ρ : Addr → Option Value) (call : CallF) (yc : YieldF) (lim k : Nat) (x0 x3 x4 : AV) (H : Heap) (kn : KS) (k0 : KS) (R : List AV → Heap → Res) :
    evL (cx ρ) call yc false 74 lim k (Code.at [1, 1, 0, 1, 0, 0, 1, 1] c74) (sp 19 [(0, x0), (3, x3), (4, x4)]) H (kk (some [0, 3, 4]) kn [(0, (some [3]), k0)] R [2]) = N74_4 ρ call yc lim k x0 x3 x4 H (fun x0 x3 x4 H => kn (sp 19 [(0, x0), (3, x3), (4, x4)]) H) := by
  kernel_rfl
noncomputable def N74_3b (ρ : Addr → Option Value) (call : CallF) (yc : YieldF) (lim k : Nat) (x0 x3 x4 : AV) (H : Heap) (kn : AV → AV → AV → Heap → Res) (k0 : AV → Heap → Res) : Res :=
  resK (call lim 40 [x0, x4] H) fun x7_1 H =>
  condK x7_1
  (
    resK (call lim 21 [x0, x4] H) fun x12_1 H =>
    purK (binA Tryz.prog H .gtr 22 x12_1 (.int .u64 0)) fun x13_1 =>
    condK x13_1
    (
      effK H (bldS H 3 1 [.int .i64 0] 1 [(0, 1, x4)]) fun x16_1 H =>
      effK H (apA ρ lim H 3 1 8 x3 x16_1) fun x17_1 H =>
      N74_4 ρ call yc lim k x0 x17_1 x4 H kn)
    (
      N74_4 ρ call yc lim k x0 x3 x4 H kn))
  (
    k0 x3 H)
theorem N74_3b_x (ρ : Addr → Option Value) (call : CallF) (yc : YieldF) (lim k : Nat) (J : CodeF) (x0 x3 x4 : AV) (H : Heap) (kn : KS) (k0 : KS) (R : List AV → Heap → Res) :
    evX (cx ρ) call yc false 74 lim k J (Code.at [1, 1, 0, 1, 0, 0] c74) (sp 19 [(0, x0), (3, x3), (4, x4)]) H (kk (some [0, 3, 4]) kn [(0, (some [3]), k0)] R [2]) =
  resK (call lim 40 [x0, x4] H) fun x7_1 H =>
  condK x7_1
  (
    resK (call lim 21 [x0, x4] H) fun x12_1 H =>
    purK (binA Tryz.prog H .gtr 22 x12_1 (.int .u64 0)) fun x13_1 =>
    condK x13_1
    (
      effK H (bldS H 3 1 [.int .i64 0] 1 [(0, 1, x4)]) fun x16_1 H =>
      effK H (apA ρ lim H 3 1 8 x3 x16_1) fun x17_1 H =>
      J (Code.at [1, 1, 0, 1, 0, 0, 1, 1] c74) (sp 19 [(0, x0), (3, x17_1), (4, x4)]) H (kk (some [0, 3, 4]) kn [(0, (some [3]), k0)] R [2]))
    (
      J (Code.at [1, 1, 0, 1, 0, 0, 1, 1] c74) (sp 19 [(0, x0), (3, x3), (4, x4)]) H (kk (some [0, 3, 4]) kn [(0, (some [3]), k0)] R [2])))
  (
    k0 (sp 19 [(3, x3)]) H) := by
  kernel_rfl
theorem N74_3b_eq (ρ : Addr → Option Value) (call : CallF) (yc : YieldF) (lim k : Nat) (x0 x3 x4 : AV) (H : Heap) (kn : KS) (k0 : KS) (R : List AV → Heap → Res) :
    evL (cx ρ) call yc false 74 lim k (Code.at [1, 1, 0, 1, 0, 0] c74) (sp 19 [(0, x0), (3, x3), (4, x4)]) H (kk (some [0, 3, 4]) kn [(0, (some [3]), k0)] R [2]) = N74_3b ρ call yc lim k x0 x3 x4 H (fun x0 x3 x4 H => kn (sp 19 [(0, x0), (3, x3), (4, x4)]) H) (fun x3 H => k0 (sp 19 [(3, x3)]) H) := by
  rw [evL_X, N74_3b_x]
  simp only [← evL_X, N74_3b, N74_4_eq]
noncomputable def N74_3 (ρ : Addr → Option Value) (call : CallF) (yc : YieldF) (lim k : Nat) (x0 x3 x4 : AV) (H : Heap) (k0 : AV → Heap → Res) : Res :=
  loopL (fun (x : AV × AV) H kn => N74_3b ρ call yc lim k x0 x.1 x.2 H (fun _ x3 x4 H => kn (x3, x4) H) k0) k (x3, x4) H
theorem N74_3_eq (ρ : Addr → Option Value) (call : CallF) (yc : YieldF) (lim k : Nat) (x0 x3 x4 : AV) (H : Heap) (kn : KS) (k0 : KS) (R : List AV → Heap → Res) :
    evL (cx ρ) call yc false 74 lim k (Code.at [1, 1, 0, 1, 0] c74) (sp 19 [(0, x0), (3, x3), (4, x4)]) H (kk (some [3]) kn [(0, (some [3]), k0)] R [2]) = N74_3 ρ call yc lim k x0 x3 x4 H (fun x3 H => k0 (sp 19 [(3, x3)]) H) := by
  have e : Code.at [1, 1, 0, 1, 0] c74 = .loop (Code.at [1, 1, 0, 1, 0, 0] c74) := by kernel_rfl
  rw [e]
  unfold N74_3
  exact loop_node [0, 3, 4] (fun x : AV × AV => (sp 19 [(0, x0), (3, (x.1)), (4, (x.2))])) (fun (x : AV × AV) H kn => N74_3b ρ call yc lim k x0 x.1 x.2 H (fun _ x3 x4 H => kn (x3, x4) H) (fun x3 H => k0 (sp 19 [(3, x3)]) H)) (by kernel_rfl) (fun x => by kernel_rfl) (fun x H kn => N74_3b_eq ρ call yc lim k x0 (x.1) (x.2) H kn k0 R) (x3, x4) (sp 19 [(0, x0), (3, x3), (4, x4)]) H (by kernel_rfl)
noncomputable def N74_2 (ρ : Addr → Option Value) (call : CallF) (yc : YieldF) (lim k : Nat) (x0 x3 x4 : AV) (H : Heap) (kn : AV → Heap → Res) : Res :=
  N74_3 ρ call yc lim k x0 x3 x4 H kn
theorem N74_2_x (ρ : Addr → Option Value) (call : CallF) (yc : YieldF) (lim k : Nat) (J : CodeF) (x0 x3 x4 : AV) (H : Heap) (kn : KS) (R : List AV → Heap → Res) :
    evX (cx ρ) call yc false 74 lim k J (Code.at [1, 1, 0, 1] c74) (sp 19 [(0, x0), (3, x3), (4, x4)]) H (kk (some [3]) kn [] R [2]) =
  J (Code.at [1, 1, 0, 1, 0] c74) (sp 19 [(0, x0), (3, x3), (4, x4)]) H (kk (some [3]) kn [(0, (some [3]), kn)] R [2]) := by
  kernel_rfl
theorem N74_2_eq (ρ : Addr → Option Value) (call : CallF) (yc : YieldF) (lim k : Nat) (x0 x3 x4 : AV) (H : Heap) (kn : KS) (R : List AV → Heap → Res) :
    evL (cx ρ) call yc false 74 lim k (Code.at [1, 1, 0, 1] c74) (sp 19 [(0, x0), (3, x3), (4, x4)]) H (kk (some [3]) kn [] R [2]) = N74_2 ρ call yc lim k x0 x3 x4 H (fun x3 H => kn (sp 19 [(3, x3)]) H) := by
  rw [evL_X, N74_2_x]
  simp only [← evL_X, N74_2, N74_3_eq]
noncomputable def L74 (ρ : Addr → Option Value) (call : CallF) (yc : YieldF) (lim k : Nat) (x0 : AV) (H : Heap) : Res :=
  N74_2 ρ call yc lim k x0 .nils (.int .i64 0) H (fun x3 H =>
    N74_1 ρ call yc lim k x3 H retK)
theorem L74_x (ρ : Addr → Option Value) (call : CallF) (yc : YieldF) (lim k : Nat) (J : CodeF) (x0 : AV) (H : Heap) :
    evX (cx ρ) call yc false 74 lim k J c74 [x0, (.tup []), (.tup []), (.tup []), (.tup []), (.tup []), (.tup []), (.tup []), (.tup []), (.tup []), (.tup []), (.tup []), (.tup []), (.tup []), (.tup []), (.tup []), (.tup []), (.tup []), (.tup [])] H (kk none (fun s H => retK (([2] : List Nat).map fun t => s.getD t (.tup [])) H) [] retK [2]) =
  J (Code.at [1, 1, 0, 1] c74) (sp 19 [(0, x0), (3, .nils), (4, (.int .i64 0))]) H (kk (some [3]) (fun s H => J (Code.at [1, 1, 1] c74) s H (kk none (fun s H => retK (([2] : List Nat).map fun t => s.getD t (.tup [])) H) [] retK [2])) [] retK [2]) := by
  kernel_rfl
theorem G74 (ρ : Addr → Option Value) (call : CallF) (yc : YieldF) (lim k : Nat) (x0 : AV) (H : Heap) :
    evL (cx ρ) call yc false 74 lim k c74 [x0, (.tup []), (.tup []), (.tup []), (.tup []), (.tup []), (.tup []), (.tup []), (.tup []), (.tup []), (.tup []), (.tup []), (.tup []), (.tup []), (.tup []), (.tup []), (.tup []), (.tup []), (.tup [])] H (kk none (fun s H => retK (([2] : List Nat).map fun t => s.getD t (.tup [])) H) [] retK [2]) = L74 ρ call yc lim k x0 H := by
  rw [evL_X, L74_x]
  simp only [← evL_X, L74, N74_1_eq, N74_2_eq]
theorem E74 (ρ : Addr → Option Value) (k lim : Nat) (x0 : AV) (H : Heap) : evCall (cx ρ) (k + 1) lim 74 [x0] H = L74 ρ (evCall (cx ρ) k) (evCY (cx ρ) k).2 lim k x0 H := by
  rw [evCall_body (cx ρ) k lim 74 _ H Tryz.f74 c74 [2] (by kernel_rfl) (by kernel_rfl) (by kernel_rfl) (by kernel_rfl) (by kernel_rfl)]
  exact G74 ρ (evCall (cx ρ) k) (evCY (cx ρ) k).2 lim k x0 H
-- haycroft/place.Size
noncomputable def c85 : Code := Code.of Tryz.prog 85
noncomputable def L85 (ρ : Addr → Option Value) (call : CallF) (yc : YieldF) (lim k : Nat) (x0 : AV) (H : Heap) : Res :=
  resK (call lim 92 [x0] H) fun x4 H =>
  purK (unA .not x4) fun x5 =>
  condK x5
  (
    retK [(.int .i64 0)] H)
  (
    purK (binA Tryz.prog H .shl 3 (.int .i64 1) x0) fun x7 =>
    retK [x7] H)
theorem G85 (ρ : Addr → Option Value) (call : CallF) (yc : YieldF) (lim k : Nat) (x0 : AV) (H : Heap) :
    evL (cx ρ) call yc false 85 lim k c85 [x0, (.tup []), (.tup []), (.tup []), (.tup []), (.tup []), (.tup []), (.tup [])] H (kk none (fun s H => retK (([2] : List Nat).map fun t => s.getD t (.tup [])) H) [] retK [2]) = L85 ρ call yc lim k x0 H := by
  kernel_rfl
theorem E85 (ρ : Addr → Option Value) (k lim : Nat) (x0 : AV) (H : Heap) : evCall (cx ρ) (k + 1) lim 85 [x0] H = L85 ρ (evCall (cx ρ) k) (evCY (cx ρ) k).2 lim k x0 H := by
  rw [evCall_body (cx ρ) k lim 85 _ H Tryz.f85 c85 [2] (by kernel_rfl) (by kernel_rfl) (by kernel_rfl) (by kernel_rfl) (by kernel_rfl)]
  exact G85 ρ (evCall (cx ρ) k) (evCY (cx ρ) k).2 lim k x0 H
-- (*haycroft/task.Task).ends
noncomputable def c90 : Code := Code.of Tryz.prog 90
noncomputable def L90 (ρ : Addr → Option Value) (call : CallF) (yc : YieldF) (lim k : Nat) (x0 x1 x2 : AV) (H : Heap) : Res :=
  purK (bldA [.int .i64 0, .str ByteArray.empty] [(0, 1, x1), (1, 1, x2)]) fun x12 =>
  purK (nilChkA x0) fun x13 =>
  purK (addA 20 x13) fun x14 =>
  effK H (stA lim H 1 x14 (.bool true)) fun _ H =>
  purK (nilChkA x0) fun x15 =>
  purK (addA 21 x15) fun x16 =>
  effK H (stA lim H 2 x16 x12) fun _ H =>
  retK [(.int .i64 2), (.int .i64 0)] H
theorem G90 (ρ : Addr → Option Value) (call : CallF) (yc : YieldF) (lim k : Nat) (x0 x1 x2 : AV) (H : Heap) :
    evL (cx ρ) call yc false 90 lim k c90 [x0, x1, x2, (.tup []), (.tup []), (.tup []), (.tup []), (.tup []), (.tup []), (.tup []), (.tup []), (.tup []), (.tup []), (.tup []), (.tup []), (.tup []), (.tup [])] H (kk none (fun s H => retK (([6, 7] : List Nat).map fun t => s.getD t (.tup [])) H) [] retK [6, 7]) = L90 ρ call yc lim k x0 x1 x2 H := by
  kernel_rfl
theorem E90 (ρ : Addr → Option Value) (k lim : Nat) (x0 x1 x2 : AV) (H : Heap) : evCall (cx ρ) (k + 1) lim 90 [x0, x1, x2] H = L90 ρ (evCall (cx ρ) k) (evCY (cx ρ) k).2 lim k x0 x1 x2 H := by
  rw [evCall_body (cx ρ) k lim 90 _ H Tryz.f90 c90 [6, 7] (by kernel_rfl) (by kernel_rfl) (by kernel_rfl) (by kernel_rfl) (by kernel_rfl)]
  exact G90 ρ (evCall (cx ρ) k) (evCY (cx ρ) k).2 lim k x0 x1 x2 H
-- haycroft/place.May
noncomputable def c92 : Code := Code.of Tryz.prog 92
noncomputable def L92 (ρ : Addr → Option Value) (call : CallF) (yc : YieldF) (lim k : Nat) (x0 : AV) (H : Heap) : Res :=
  purK (binA Tryz.prog H .geq 3 x0 (.int .i64 5)) fun x4 =>
  purK (gPur (wantV x4 true) (some x0)) fun x6 =>
  purK (gPur (wantV x4 true) (binA Tryz.prog H .leq 3 x6 (.int .i64 9))) fun x7 =>
  purK (pickA x4 x7 (.bool false)) fun x8 =>
  retK [x8] H
theorem G92 (ρ : Addr → Option Value) (call : CallF) (yc : YieldF) (lim k : Nat) (x0 : AV) (H : Heap) :
    evL (cx ρ) call yc false 92 lim k c92 [x0, (.tup []), (.tup []), (.tup []), (.tup []), (.tup []), (.tup []), (.tup []), (.tup [])] H (kk none (fun s H => retK (([2] : List Nat).map fun t => s.getD t (.tup [])) H) [] retK [2]) = L92 ρ call yc lim k x0 H := by
  kernel_rfl
theorem E92 (ρ : Addr → Option Value) (k lim : Nat) (x0 : AV) (H : Heap) : evCall (cx ρ) (k + 1) lim 92 [x0] H = L92 ρ (evCall (cx ρ) k) (evCY (cx ρ) k).2 lim k x0 H := by
  rw [evCall_body (cx ρ) k lim 92 _ H Tryz.f92 c92 [2] (by kernel_rfl) (by kernel_rfl) (by kernel_rfl) (by kernel_rfl) (by kernel_rfl)]
  exact G92 ρ (evCall (cx ρ) k) (evCY (cx ρ) k).2 lim k x0 H
-- (*haycroft/tail.Tail).Begin
noncomputable def c93 : Code := Code.of Tryz.prog 93
noncomputable def L93 (ρ : Addr → Option Value) (call : CallF) (yc : YieldF) (lim k : Nat) (x0 x1 : AV) (H : Heap) : Res :=
  purK (binA Tryz.prog H .eql 87 x0 .nilp) fun x7 =>
  condK x7
  (
    retK [(.int .i64 2)] H)
  (
    purK (binA Tryz.prog H .lss 3 x1 (.int .i64 0)) fun x10 =>
    purK (gPur (wantV x10 false) (some x1)) fun x12 =>
    purK (gPur (wantV x10 false) (some x0)) fun x13 =>
    purK (gPur (wantV x10 false) (nilChkA x13)) fun x14 =>
    purK (gPur (wantV x10 false) (addA 1 x14)) fun x15 =>
    purK (gPur (wantV x10 false) (ld1 ρ H x15)) fun x16 =>
    purK (gPur (wantV x10 false) (binA Tryz.prog H .geq 3 x12 x16)) fun x17 =>
    purK (pickA x10 (.bool true) x17) fun x18 =>
    condK x18
    (
      retK [(.int .i64 1)] H)
    (
      purK (nilChkA x0) fun x20 =>
      purK (addA 2 x20) fun x21 =>
      purK (ld1 ρ H x21) fun x22 =>
      resK (call lim 139 [x1] H) fun x25 H => bif (agn (ld1 ρ H x21) x22 && true) then
        resK (call lim 138 [x1, x25] H) fun x26 H => bif (agn (ld1 ρ H x21) x22 && true) then
          resK (call lim 73 [x22, (.int .i64 0), x26] H) fun x27 H =>
          retK [x27] H
        else none
      else none))
theorem G93 (ρ : Addr → Option Value) (call : CallF) (yc : YieldF) (lim k : Nat) (x0 x1 : AV) (H : Heap) :
    evL (cx ρ) call yc false 93 lim k c93 [x0, x1, (.tup []), (.tup []), (.tup []), (.tup []), (.tup []), (.tup []), (.tup []), (.tup []), (.tup []), (.tup []), (.tup []), (.tup []), (.tup []), (.tup []), (.tup []), (.tup []), (.tup []), (.tup []), (.tup []), (.tup []), (.tup []), (.tup []), (.tup []), (.tup []), (.tup []), (.tup [])] H (kk none (fun s H => retK (([4] : List Nat).map fun t => s.getD t (.tup [])) H) [] retK [4]) = L93 ρ call yc lim k x0 x1 H := by
  kernel_rfl
theorem E93 (ρ : Addr → Option Value) (k lim : Nat) (x0 x1 : AV) (H : Heap) : evCall (cx ρ) (k + 1) lim 93 [x0, x1] H = L93 ρ (evCall (cx ρ) k) (evCY (cx ρ) k).2 lim k x0 x1 H := by
  rw [evCall_body (cx ρ) k lim 93 _ H Tryz.f93 c93 [4] (by kernel_rfl) (by kernel_rfl) (by kernel_rfl) (by kernel_rfl) (by kernel_rfl)]
  exact G93 ρ (evCall (cx ρ) k) (evCY (cx ρ) k).2 lim k x0 x1 H
-- (*haycroft/pages.Buffer).Has
noncomputable def c94 : Code := Code.of Tryz.prog 94
noncomputable def L94 (ρ : Addr → Option Value) (call : CallF) (yc : YieldF) (lim k : Nat) (x0 x1 : AV) (H : Heap) : Res :=
  purK (binA Tryz.prog H .neq 88 x0 .nilp) fun x6 =>
  boolK (wantV x6 true) fun b1 => purK (bif b1 then some x1 else some (.tup [])) fun x8 =>
  boolK (wantV x6 true) fun b2 => purK (bif b2 then binA Tryz.prog H .geq 3 x8 (.int .i64 0) else some (.tup [])) fun x9 =>
  purK (pickA x6 x9 (.bool false)) fun x10 =>
  boolK (wantV x10 true) fun b3 => purK (bif b3 then some x0 else some (.tup [])) fun x12 =>
  boolK (wantV x10 true) fun b4 => purK (bif b4 then nilChkA x12 else some (.tup [])) fun x13 =>
  boolK (wantV x10 true) fun b5 => purK (bif b5 then addA 2 x13 else some (.tup [])) fun x14 =>
  boolK (wantV x10 true) fun b6 => purK (bif b6 then ld1 ρ H x14 else some (.tup [])) fun x15 =>
  boolK (wantV x10 true) fun b7 => purK (bif b7 then some x0 else some (.tup [])) fun x16 =>
  boolK (wantV x10 true) fun b8 => purK (bif b8 then some x1 else some (.tup [])) fun x17 =>
  boolK (wantV x10 true) fun b9 => purK (bif b9 then some x1 else some (.tup [])) fun x20 =>
  boolK (wantV x10 true) fun b10 => resK (gRes (some b10) H (call lim 95 [x16, x17] H)) fun x18 H => bif !b10 || ((!b6 || agn (ld1 ρ H x14) x15) && ((!b2 || true) && true)) then
    boolK (wantV x10 true) fun b11 => resK (gRes (some b11) H (call lim 41 [x15, x18] H)) fun x19 H => bif !b11 || ((!b6 || true) && ((!b2 || true) && true)) then
      boolK (wantV x10 true) fun b12 => resK (gRes (some b12) H (call lim 97 [x20] H)) fun x21 H => bif !b12 || ((!b6 || true) && ((!b2 || true) && true)) then
        purK (gPur (wantV x10 true) (binA Tryz.prog H .eql 22 x19 x21)) fun x22 =>
        purK (pickA x10 x22 (.bool false)) fun x23 =>
        retK [x23] H
      else none
    else none
  else none
theorem G94 (ρ : Addr → Option Value) (call : CallF) (yc : YieldF) (lim k : Nat) (x0 x1 : AV) (H : Heap) :
    evL (cx ρ) call yc false 94 lim k c94 [x0, x1, (.tup []), (.tup []), (.tup []), (.tup []), (.tup []), (.tup []), (.tup []), (.tup []), (.tup []), (.tup []), (.tup []), (.tup []), (.tup []), (.tup []), (.tup []), (.tup []), (.tup []), (.tup []), (.tup []), (.tup []), (.tup []), (.tup [])] H (kk none (fun s H => retK (([4] : List Nat).map fun t => s.getD t (.tup [])) H) [] retK [4]) = L94 ρ call yc lim k x0 x1 H := by
  kernel_rfl
theorem E94 (ρ : Addr → Option Value) (k lim : Nat) (x0 x1 : AV) (H : Heap) : evCall (cx ρ) (k + 1) lim 94 [x0, x1] H = L94 ρ (evCall (cx ρ) k) (evCY (cx ρ) k).2 lim k x0 x1 H := by
  rw [evCall_body (cx ρ) k lim 94 _ H Tryz.f94 c94 [4] (by kernel_rfl) (by kernel_rfl) (by kernel_rfl) (by kernel_rfl) (by kernel_rfl)]
  exact G94 ρ (evCall (cx ρ) k) (evCY (cx ρ) k).2 lim k x0 x1 H
-- (*haycroft/pages.Buffer).frame
noncomputable def c95 : Code := Code.of Tryz.prog 95
noncomputable def L95 (ρ : Addr → Option Value) (call : CallF) (yc : YieldF) (lim k : Nat) (x0 x1 : AV) (H : Heap) : Res :=
  purK (nilChkA x0) fun x7 =>
  purK (addA 2 x7) fun x8 =>
  purK (ld1 ρ H x8) fun x9 =>
  resK (call lim 70 [x9] H) fun x10 H =>
  purK (binA Tryz.prog H .rem 3 x1 x10) fun x11 =>
  retK [x11] H
theorem G95 (ρ : Addr → Option Value) (call : CallF) (yc : YieldF) (lim k : Nat) (x0 x1 : AV) (H : Heap) :
    evL (cx ρ) call yc false 95 lim k c95 [x0, x1, (.tup []), (.tup []), (.tup []), (.tup []), (.tup []), (.tup []), (.tup []), (.tup []), (.tup []), (.tup [])] H (kk none (fun s H => retK (([4] : List Nat).map fun t => s.getD t (.tup [])) H) [] retK [4]) = L95 ρ call yc lim k x0 x1 H := by
  kernel_rfl
theorem E95 (ρ : Addr → Option Value) (k lim : Nat) (x0 x1 : AV) (H : Heap) : evCall (cx ρ) (k + 1) lim 95 [x0, x1] H = L95 ρ (evCall (cx ρ) k) (evCY (cx ρ) k).2 lim k x0 x1 H := by
  rw [evCall_body (cx ρ) k lim 95 _ H Tryz.f95 c95 [4] (by kernel_rfl) (by kernel_rfl) (by kernel_rfl) (by kernel_rfl) (by kernel_rfl)]
  exact G95 ρ (evCall (cx ρ) k) (evCY (cx ρ) k).2 lim k x0 x1 H
-- (*haycroft/cell.Row).CAS
noncomputable def c96 : Code := Code.of Tryz.prog 96
noncomputable def N96_1 (ρ : Addr → Option Value) (call : CallF) (yc : YieldF) (lim k : Nat) (x11 : AV) (H : Heap) (R : List AV → Heap → Res) : Res :=
  R [x11, (.int .i64 0)] H
theorem N96_1_eq (ρ : Addr → Option Value) (call : CallF) (yc : YieldF) (lim k : Nat) (x11 : AV) (H : Heap) (R : List AV → Heap → Res) :
    evL (cx ρ) call yc false 96 lim k (Code.at [1, 1, 1, 1] c96) (sp 37 [(11, x11)]) H (kk none (fun s H => R (([8, 9] : List Nat).map fun t => s.getD t (.tup [])) H) [] R [8, 9]) = N96_1 ρ call yc lim k x11 H R := by
  kernel_rfl
noncomputable def L96 (ρ : Addr → Option Value) (call : CallF) (yc : YieldF) (lim k : Nat) (x0 x1 x2 x3 : AV) (H : Heap) : Res :=
  resK (call lim 126 [x0, x1] H) fun x14 H =>
  purK (binA Tryz.prog H .neq 27 x14 (.int .i64 0)) fun x16 =>
  condK x16
  (
    retK [(.bool false), x14] H)
  (
    purK (nilChkA x0) fun x19 =>
    purK (addA 0 x19) fun x20 =>
    purK (ld1 ρ H x20) fun x21 =>
    purK (ixS 1 x21 x1) fun x23 =>
    resK (call lim 140 [x23, x2, x3] H) fun x26 H =>
    condK x26
    (
      purK (nilChkA x0) fun x29 =>
      purK (addA 1 x29) fun x30 =>
      resK (call lim 141 [x30, (.int .i64 1)] H) fun x31 H =>
      N96_1 ρ call yc lim k x26 H retK)
    (
      purK (nilChkA x0) fun x33 =>
      purK (addA 2 x33) fun x34 =>
      resK (call lim 141 [x34, (.int .i64 1)] H) fun x35 H =>
      N96_1 ρ call yc lim k x26 H retK))
theorem L96_x (ρ : Addr → Option Value) (call : CallF) (yc : YieldF) (lim k : Nat) (J : CodeF) (x0 x1 x2 x3 : AV) (H : Heap) :
    evX (cx ρ) call yc false 96 lim k J c96 [x0, x1, x2, x3, (.tup []), (.tup []), (.tup []), (.tup []), (.tup []), (.tup []), (.tup []), (.tup []), (.tup []), (.tup []), (.tup []), (.tup []), (.tup []), (.tup []), (.tup []), (.tup []), (.tup []), (.tup []), (.tup []), (.tup []), (.tup []), (.tup []), (.tup []), (.tup []), (.tup []), (.tup []), (.tup []), (.tup []), (.tup []), (.tup []), (.tup []), (.tup []), (.tup [])] H (kk none (fun s H => retK (([8, 9] : List Nat).map fun t => s.getD t (.tup [])) H) [] retK [8, 9]) =
  resK (call lim 126 [x0, x1] H) fun x14 H =>
  purK (binA Tryz.prog H .neq 27 x14 (.int .i64 0)) fun x16 =>
  condK x16
  (
    retK [(.bool false), x14] H)
  (
    purK (nilChkA x0) fun x19 =>
    purK (addA 0 x19) fun x20 =>
    purK (ld1 ρ H x20) fun x21 =>
    purK (ixS 1 x21 x1) fun x23 =>
    resK (call lim 140 [x23, x2, x3] H) fun x26 H =>
    condK x26
    (
      purK (nilChkA x0) fun x29 =>
      purK (addA 1 x29) fun x30 =>
      resK (call lim 141 [x30, (.int .i64 1)] H) fun x31 H =>
      J (Code.at [1, 1, 1, 1] c96) (sp 37 [(11, x26)]) H (kk none (fun s H => retK (([8, 9] : List Nat).map fun t => s.getD t (.tup [])) H) [] retK [8, 9]))
    (
      purK (nilChkA x0) fun x33 =>
      purK (addA 2 x33) fun x34 =>
      resK (call lim 141 [x34, (.int .i64 1)] H) fun x35 H =>
      J (Code.at [1, 1, 1, 1] c96) (sp 37 [(11, x26)]) H (kk none (fun s H => retK (([8, 9] : List Nat).map fun t => s.getD t (.tup [])) H) [] retK [8, 9]))) := by
  kernel_rfl
theorem G96 (ρ : Addr → Option Value) (call : CallF) (yc : YieldF) (lim k : Nat) (x0 x1 x2 x3 : AV) (H : Heap) :
    evL (cx ρ) call yc false 96 lim k c96 [x0, x1, x2, x3, (.tup []), (.tup []), (.tup []), (.tup []), (.tup []), (.tup []), (.tup []), (.tup []), (.tup []), (.tup []), (.tup []), (.tup []), (.tup []), (.tup []), (.tup []), (.tup []), (.tup []), (.tup []), (.tup []), (.tup []), (.tup []), (.tup []), (.tup []), (.tup []), (.tup []), (.tup []), (.tup []), (.tup []), (.tup []), (.tup []), (.tup []), (.tup []), (.tup [])] H (kk none (fun s H => retK (([8, 9] : List Nat).map fun t => s.getD t (.tup [])) H) [] retK [8, 9]) = L96 ρ call yc lim k x0 x1 x2 x3 H := by
  rw [evL_X, L96_x]
  simp only [← evL_X, L96, N96_1_eq]
theorem E96 (ρ : Addr → Option Value) (k lim : Nat) (x0 x1 x2 x3 : AV) (H : Heap) : evCall (cx ρ) (k + 1) lim 96 [x0, x1, x2, x3] H = L96 ρ (evCall (cx ρ) k) (evCY (cx ρ) k).2 lim k x0 x1 x2 x3 H := by
  rw [evCall_body (cx ρ) k lim 96 _ H Tryz.f96 c96 [8, 9] (by kernel_rfl) (by kernel_rfl) (by kernel_rfl) (by kernel_rfl) (by kernel_rfl)]
  exact G96 ρ (evCall (cx ρ) k) (evCY (cx ρ) k).2 lim k x0 x1 x2 x3 H
-- haycroft/pages.mark
noncomputable def c97 : Code := Code.of Tryz.prog 97
noncomputable def L97 (ρ : Addr → Option Value) (call : CallF) (yc : YieldF) (lim k : Nat) (x0 : AV) (H : Heap) : Res :=
  purK (cvI .u64 x0) fun x4 =>
  purK (binA Tryz.prog H .add 22 x4 (.int .u64 1)) fun x5 =>
  retK [x5] H
theorem G97 (ρ : Addr → Option Value) (call : CallF) (yc : YieldF) (lim k : Nat) (x0 : AV) (H : Heap) :
    evL (cx ρ) call yc false 97 lim k c97 [x0, (.tup []), (.tup []), (.tup []), (.tup []), (.tup [])] H (kk none (fun s H => retK (([2] : List Nat).map fun t => s.getD t (.tup [])) H) [] retK [2]) = L97 ρ call yc lim k x0 H := by
  kernel_rfl
theorem E97 (ρ : Addr → Option Value) (k lim : Nat) (x0 : AV) (H : Heap) : evCall (cx ρ) (k + 1) lim 97 [x0] H = L97 ρ (evCall (cx ρ) k) (evCY (cx ρ) k).2 lim k x0 H := by
  rw [evCall_body (cx ρ) k lim 97 _ H Tryz.f97 c97 [2] (by kernel_rfl) (by kernel_rfl) (by kernel_rfl) (by kernel_rfl) (by kernel_rfl)]
  exact G97 ρ (evCall (cx ρ) k) (evCY (cx ρ) k).2 lim k x0 H
end Go.Proofs.YtipjgmjmfkhcnaaGreat
