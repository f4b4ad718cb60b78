/- Functions, lifted. Printed by a program of this repo. -/
import Derived.Test.YtdiafdmgenefnaaGreatLfTab
set_option linter.unusedVariables false
set_option linter.unusedSimpArgs false
set_option maxRecDepth 100000
set_option maxHeartbeats 4000000
namespace Go.Proofs.YtdiafdmgenefnaaGreat
open Go.Ev Go.RowKit
-- (*haycroft/session.Session).Resume
noncomputable def c29 : Code := Code.of Tryz.prog 29
noncomputable def N29_1 (ρ : Addr → Option Value) (call : CallF) (yc : YieldF) (lim k : Nat) (H : Heap) (R : List AV → Heap → Res) : Res :=
  R [(.int .i64 0), (.int .i64 7)] H
theorem N29_1_eq (ρ : Addr → Option Value) (call : CallF) (yc : YieldF) (lim k : Nat) (H : Heap) (R : List AV → Heap → Res) :
    evL (cx ρ) call yc false 29 lim k (Code.at [1, 1, 1] c29) (sp 106 []) H (kk none (fun s H => R (([2, 3] : List Nat).map fun t => s.getD t (.tup [])) H) [] R [2, 3]) = N29_1 ρ call yc lim k H R := by
  kernel_rfl
noncomputable def N29_4 (ρ : Addr → Option Value) (call : CallF) (yc : YieldF) (lim k : Nat) (x0 x28 x29 x30 : AV) (H : Heap) (kn : AV → AV → AV → AV → Heap → Res) : Res :=
  purK (binA Tryz.prog H .add 3 x30 (.int .i64 1)) fun x105_1 =>
  kn x0 x28 x29 x105_1 H
theorem N29_4_eq (ρ : Addr → Option Value) (call : CallF) (yc : YieldF) (lim k : Nat) (x0 x28 x29 x30 : AV) (H : Heap) (kn : KS) (k1 : KS) (R : List AV → Heap → Res) :
    evL (cx ρ) call yc false 29 lim k (Code.at [1, 1, 0, 1, 0, 0, 1, 1, 1] c29) (sp 106 [(0, x0), (28, x28), (29, x29), (30, x30)]) H (kk (some [0, 28, 29, 30]) kn [(1, (some []), k1)] R [2, 3]) = N29_4 ρ call yc lim k x0 x28 x29 x30 H (fun x0 x28 x29 x30 H => kn (sp 106 [(0, x0), (28, x28), (29, x29), (30, x30)]) H) := by
  kernel_rfl
noncomputable def N29_5 (ρ : Addr → Option Value) (call : CallF) (yc : YieldF) (lim k : Nat) (H : Heap) (R : List AV → Heap → Res) : Res :=
  R [(.int .i64 0), (.int .i64 4)] H
theorem N29_5_eq (ρ : Addr → Option Value) (call : CallF) (yc : YieldF) (lim k : Nat) (H : Heap) (kn : KS) (k2 : KS) (k1 : KS) (R : List AV → Heap → Res) :
    evL (cx ρ) call yc false 29 lim k (Code.at [1, 1, 0, 1, 0, 0, 1, 1, 0, 0, 1, 1, 1, 1, 1] c29) (sp 106 []) H (kk (some [0, 28, 29, 30]) kn [(2, (some [0, 28, 29, 30]), k2), (1, (some []), k1)] R [2, 3]) = N29_5 ρ call yc lim k H R := by
  kernel_rfl
noncomputable def N29_3b (ρ : Addr → Option Value) (call : CallF) (yc : YieldF) (lim k : Nat) (x0 x28 x29 x30 : AV) (H : Heap) (kn : AV → AV → AV → AV → Heap → Res) (k1 : Heap → Res) (R : List AV → Heap → Res) : Res :=
  purK (binA Tryz.prog H .lss 3 x30 x29) fun x31_1 =>
  condK x31_1
  (
    purK (ixS 1 x28 x30) fun x33_1 =>
    purK (ld1 ρ H x33_1) fun x34_1 =>
    purK (nilChkA x0) fun x37_1 =>
    purK (addA 0 x37_1) fun x38_1 =>
    purK (ld1 ρ H x38_1) fun x39_1 =>
    purK (nilChkA x34_1) fun x42_1 =>
    purK (addA 2 x42_1) fun x43_1 =>
    purK (ld1 ρ H x43_1) fun x44_1 =>
    resK (call lim 57 [x39_1] H) fun x40_1 H => bif (agn (ld1 ρ H x43_1) x44_1 && true) then
      resK (call lim 58 [x40_1, x44_1] H) fun x45_1 H =>
      purK (extA 0 x45_1) fun x46_1 =>
      purK (extA 1 x45_1) fun x47_1 =>
      purK (binA Tryz.prog H .eql 30 x47_1 (.int .i64 10)) fun x49_1 =>
      condK x49_1
      (
        N29_4 ρ call yc lim k x0 x28 x29 x30 H kn)
      (
        purK (binA Tryz.prog H .eql 30 x47_1 (.int .i64 0)) fun x51_1 =>
        purK (gPur (wantV x51_1 true) (some x0)) fun x53_1 =>
        purK (gPur (wantV x51_1 true) (some x34_1)) fun x54_1 =>
        purK (gPur (wantV x51_1 true) (some x46_1)) fun x55_1 =>
        resK (gRes (wantV x51_1 true) H (call lim 59 [x53_1, x54_1, x55_1] H)) fun x56_1 H =>
        purK (pickA x51_1 x56_1 (.bool false)) fun x57_1 =>
        condK x57_1
        (
          purK (nilChkA x0) fun x60_1 =>
          purK (addA 6 x60_1) fun x61_1 =>
          purK (ld1 ρ H x61_1) fun x62_1 =>
          purK (slS 1 x62_1 none (some x30) (some x30)) fun x65_1 =>
          purK (nilChkA x0) fun x67_1 =>
          purK (addA 6 x67_1) fun x68_1 =>
          purK (ld1 ρ H x68_1) fun x69_1 =>
          purK (binA Tryz.prog H .add 3 x30 (.int .i64 1)) fun x71_1 =>
          purK (slS 1 x69_1 (some x71_1) none none) fun x72_1 =>
          effK H (apA ρ lim H 100 1 8 x65_1 x72_1) fun x73_1 H =>
          purK (nilChkA x0) fun x74_1 =>
          purK (addA 6 x74_1) fun x75_1 =>
          effK H (stA lim H 1 x75_1 x73_1) fun _ H =>
          resK (call lim 50 [x0, x34_1] H) fun x78_1 H =>
          R [x78_1, (.int .i64 0)] H)
        (
          resK (call lim 60 [x0, x34_1] H) fun x81_1 H =>
          purK (unA .not x81_1) fun x82_1 =>
          condK x82_1
          (
            purK (nilChkA x0) fun x85_1 =>
            purK (addA 6 x85_1) fun x86_1 =>
            purK (ld1 ρ H x86_1) fun x87_1 =>
            purK (slS 1 x87_1 none (some x30) (some x30)) fun x90_1 =>
            purK (nilChkA x0) fun x92_1 =>
            purK (addA 6 x92_1) fun x93_1 =>
            purK (ld1 ρ H x93_1) fun x94_1 =>
            purK (binA Tryz.prog H .add 3 x30 (.int .i64 1)) fun x96_1 =>
            purK (slS 1 x94_1 (some x96_1) none none) fun x97_1 =>
            effK H (apA ρ lim H 100 1 8 x90_1 x97_1) fun x98_1 H =>
            purK (nilChkA x0) fun x99_1 =>
            purK (addA 6 x99_1) fun x100_1 =>
            effK H (stA lim H 1 x100_1 x98_1) fun _ H =>
            purK (nilChkA x0) fun x103_1 =>
            purK (addA 5 x103_1) fun x104_1 =>
            effK H (stA lim H 1 x104_1 x34_1) fun _ H =>
            N29_5 ρ call yc lim k H R)
          (
            N29_5 ρ call yc lim k H R)))
    else none)
  (
    k1 H)
theorem N29_3b_x (ρ : Addr → Option Value) (call : CallF) (yc : YieldF) (lim k : Nat) (J : CodeF) (x0 x28 x29 x30 : AV) (H : Heap) (kn : KS) (k1 : KS) (R : List AV → Heap → Res) :
    evX (cx ρ) call yc false 29 lim k J (Code.at [1, 1, 0, 1, 0, 0] c29) (sp 106 [(0, x0), (28, x28), (29, x29), (30, x30)]) H (kk (some [0, 28, 29, 30]) kn [(1, (some []), k1)] R [2, 3]) =
  purK (binA Tryz.prog H .lss 3 x30 x29) fun x31_1 =>
  condK x31_1
  (
    purK (ixS 1 x28 x30) fun x33_1 =>
    purK (ld1 ρ H x33_1) fun x34_1 =>
    purK (nilChkA x0) fun x37_1 =>
    purK (addA 0 x37_1) fun x38_1 =>
    purK (ld1 ρ H x38_1) fun x39_1 =>
    purK (nilChkA x34_1) fun x42_1 =>
    purK (addA 2 x42_1) fun x43_1 =>
    purK (ld1 ρ H x43_1) fun x44_1 =>
    resK (call lim 57 [x39_1] H) fun x40_1 H => bif (agn (ld1 ρ H x43_1) x44_1 && true) then
      resK (call lim 58 [x40_1, x44_1] H) fun x45_1 H =>
      purK (extA 0 x45_1) fun x46_1 =>
      purK (extA 1 x45_1) fun x47_1 =>
      purK (binA Tryz.prog H .eql 30 x47_1 (.int .i64 10)) fun x49_1 =>
      condK x49_1
      (
        J (Code.at [1, 1, 0, 1, 0, 0, 1, 1, 1] c29) (sp 106 [(0, x0), (28, x28), (29, x29), (30, x30)]) H (kk (some [0, 28, 29, 30]) kn [(1, (some []), k1)] R [2, 3]))
      (
        purK (binA Tryz.prog H .eql 30 x47_1 (.int .i64 0)) fun x51_1 =>
        purK (gPur (wantV x51_1 true) (some x0)) fun x53_1 =>
        purK (gPur (wantV x51_1 true) (some x34_1)) fun x54_1 =>
        purK (gPur (wantV x51_1 true) (some x46_1)) fun x55_1 =>
        resK (gRes (wantV x51_1 true) H (call lim 59 [x53_1, x54_1, x55_1] H)) fun x56_1 H =>
        purK (pickA x51_1 x56_1 (.bool false)) fun x57_1 =>
        condK x57_1
        (
          purK (nilChkA x0) fun x60_1 =>
          purK (addA 6 x60_1) fun x61_1 =>
          purK (ld1 ρ H x61_1) fun x62_1 =>
          purK (slS 1 x62_1 none (some x30) (some x30)) fun x65_1 =>
          purK (nilChkA x0) fun x67_1 =>
          purK (addA 6 x67_1) fun x68_1 =>
          purK (ld1 ρ H x68_1) fun x69_1 =>
          purK (binA Tryz.prog H .add 3 x30 (.int .i64 1)) fun x71_1 =>
          purK (slS 1 x69_1 (some x71_1) none none) fun x72_1 =>
          effK H (apA ρ lim H 100 1 8 x65_1 x72_1) fun x73_1 H =>
          purK (nilChkA x0) fun x74_1 =>
          purK (addA 6 x74_1) fun x75_1 =>
          effK H (stA lim H 1 x75_1 x73_1) fun _ H =>
          resK (call lim 50 [x0, x34_1] H) fun x78_1 H =>
          R [x78_1, (.int .i64 0)] H)
        (
          resK (call lim 60 [x0, x34_1] H) fun x81_1 H =>
          purK (unA .not x81_1) fun x82_1 =>
          condK x82_1
          (
            purK (nilChkA x0) fun x85_1 =>
            purK (addA 6 x85_1) fun x86_1 =>
            purK (ld1 ρ H x86_1) fun x87_1 =>
            purK (slS 1 x87_1 none (some x30) (some x30)) fun x90_1 =>
            purK (nilChkA x0) fun x92_1 =>
            purK (addA 6 x92_1) fun x93_1 =>
            purK (ld1 ρ H x93_1) fun x94_1 =>
            purK (binA Tryz.prog H .add 3 x30 (.int .i64 1)) fun x96_1 =>
            purK (slS 1 x94_1 (some x96_1) none none) fun x97_1 =>
            effK H (apA ρ lim H 100 1 8 x90_1 x97_1) fun x98_1 H =>
            purK (nilChkA x0) fun x99_1 =>
            purK (addA 6 x99_1) fun x100_1 =>
            effK H (stA lim H 1 x100_1 x98_1) fun _ H =>
            purK (nilChkA x0) fun x103_1 =>
            purK (addA 5 x103_1) fun x104_1 =>
            effK H (stA lim H 1 x104_1 x34_1) fun _ H =>
            J (Code.at [1, 1, 0, 1, 0, 0, 1, 1, 0, 0, 1, 1, 1, 1, 1] c29) (sp 106 []) H (kk (some [0, 28, 29, 30]) (fun s H => J (Code.at [1, 1, 0, 1, 0, 0, 1, 1, 1] c29) s H (kk (some [0, 28, 29, 30]) kn [(1, (some []), k1)] R [2, 3])) [(2, (some [0, 28, 29, 30]), (fun s H => J (Code.at [1, 1, 0, 1, 0, 0, 1, 1, 1] c29) s H (kk (some [0, 28, 29, 30]) kn [(1, (some []), k1)] R [2, 3]))), (1, (some []), k1)] R [2, 3]))
          (
            J (Code.at [1, 1, 0, 1, 0, 0, 1, 1, 0, 0, 1, 1, 1, 1, 1] c29) (sp 106 []) H (kk (some [0, 28, 29, 30]) (fun s H => J (Code.at [1, 1, 0, 1, 0, 0, 1, 1, 1] c29) s H (kk (some [0, 28, 29, 30]) kn [(1, (some []), k1)] R [2, 3])) [(2, (some [0, 28, 29, 30]), (fun s H => J (Code.at [1, 1, 0, 1, 0, 0, 1, 1, 1] c29) s H (kk (some [0, 28, 29, 30]) kn [(1, (some []), k1)] R [2, 3]))), (1, (some []), k1)] R [2, 3]))))
    else none)
  (
    k1 (sp 106 []) H) := by
  kernel_rfl
theorem N29_3b_eq (ρ : Addr → Option Value) (call : CallF) (yc : YieldF) (lim k : Nat) (x0 x28 x29 x30 : AV) (H : Heap) (kn : KS) (k1 : KS) (R : List AV → Heap → Res) :
    evL (cx ρ) call yc false 29 lim k (Code.at [1, 1, 0, 1, 0, 0] c29) (sp 106 [(0, x0), (28, x28), (29, x29), (30, x30)]) H (kk (some [0, 28, 29, 30]) kn [(1, (some []), k1)] R [2, 3]) = N29_3b ρ call yc lim k x0 x28 x29 x30 H (fun x0 x28 x29 x30 H => kn (sp 106 [(0, x0), (28, x28), (29, x29), (30, x30)]) H) (fun H => k1 (sp 106 []) H) R := by
  rw [evL_X, N29_3b_x]
  simp only [← evL_X, N29_3b, N29_4_eq, N29_5_eq]
noncomputable def N29_3 (ρ : Addr → Option Value) (call : CallF) (yc : YieldF) (lim k : Nat) (x0 x28 x29 x30 : AV) (H : Heap) (k1 : Heap → Res) (R : List AV → Heap → Res) : Res :=
  loopL (fun (x : AV) H kn => N29_3b ρ call yc lim k x0 x28 x29 x H (fun _ _ _ x30 H => kn x30 H) k1 R) k x30 H
theorem N29_3_eq (ρ : Addr → Option Value) (call : CallF) (yc : YieldF) (lim k : Nat) (x0 x28 x29 x30 : AV) (H : Heap) (kn : KS) (k1 : KS) (R : List AV → Heap → Res) :
    evL (cx ρ) call yc false 29 lim k (Code.at [1, 1, 0, 1, 0] c29) (sp 106 [(0, x0), (28, x28), (29, x29), (30, x30)]) H (kk (some []) kn [(1, (some []), k1)] R [2, 3]) = N29_3 ρ call yc lim k x0 x28 x29 x30 H (fun H => k1 (sp 106 []) H) R := by
  have e : Code.at [1, 1, 0, 1, 0] c29 = .loop (Code.at [1, 1, 0, 1, 0, 0] c29) := by kernel_rfl
  rw [e]
  unfold N29_3
  exact loop_node [0, 28, 29, 30] (fun x : AV => (sp 106 [(0, x0), (28, x28), (29, x29), (30, (x))])) (fun (x : AV) H kn => N29_3b ρ call yc lim k x0 x28 x29 x H (fun _ _ _ x30 H => kn x30 H) (fun H => k1 (sp 106 []) H) R) (by kernel_rfl) (fun x => by kernel_rfl) (fun x H kn => N29_3b_eq ρ call yc lim k x0 x28 x29 (x) H kn k1 R) x30 (sp 106 [(0, x0), (28, x28), (29, x29), (30, x30)]) H (by kernel_rfl)
noncomputable def N29_2 (ρ : Addr → Option Value) (call : CallF) (yc : YieldF) (lim k : Nat) (x0 x28 x29 x30 : AV) (H : Heap) (kn : Heap → Res) (R : List AV → Heap → Res) : Res :=
  N29_3 ρ call yc lim k x0 x28 x29 x30 H kn R
theorem N29_2_x (ρ : Addr → Option Value) (call : CallF) (yc : YieldF) (lim k : Nat) (J : CodeF) (x0 x28 x29 x30 : AV) (H : Heap) (kn : KS) (R : List AV → Heap → Res) :
    evX (cx ρ) call yc false 29 lim k J (Code.at [1, 1, 0, 1] c29) (sp 106 [(0, x0), (28, x28), (29, x29), (30, x30)]) H (kk (some []) kn [] R [2, 3]) =
  J (Code.at [1, 1, 0, 1, 0] c29) (sp 106 [(0, x0), (28, x28), (29, x29), (30, x30)]) H (kk (some []) kn [(1, (some []), kn)] R [2, 3]) := by
  kernel_rfl
theorem N29_2_eq (ρ : Addr → Option Value) (call : CallF) (yc : YieldF) (lim k : Nat) (x0 x28 x29 x30 : AV) (H : Heap) (kn : KS) (R : List AV → Heap → Res) :
    evL (cx ρ) call yc false 29 lim k (Code.at [1, 1, 0, 1] c29) (sp 106 [(0, x0), (28, x28), (29, x29), (30, x30)]) H (kk (some []) kn [] R [2, 3]) = N29_2 ρ call yc lim k x0 x28 x29 x30 H (fun H => kn (sp 106 []) H) R := by
  rw [evL_X, N29_2_x]
  simp only [← evL_X, N29_2, N29_3_eq]
noncomputable def L29 (ρ : Addr → Option Value) (call : CallF) (yc : YieldF) (lim k : Nat) (x0 : AV) (H : Heap) : Res :=
  purK (binA Tryz.prog H .eql 67 x0 .nilp) fun x10 =>
  condK x10
  (
    retK [(.int .i64 0), (.int .i64 2)] H)
  (
    purK (nilChkA x0) fun x13 =>
    purK (addA 5 x13) fun x14 =>
    purK (ld1 ρ H x14) fun x15 =>
    purK (binA Tryz.prog H .neq 100 x15 .nilp) fun x16 =>
    condK x16
    (
      retK [(.int .i64 0), (.int .i64 10)] H)
    (
      purK (nilChkA x0) fun x19 =>
      purK (addA 0 x19) fun x20 =>
      purK (ld1 ρ H x20) fun x21 =>
      resK (call lim 57 [x21] H) fun x22 H =>
      resK (call lim 45 [x22] H) fun x23 H =>
      purK (unA .not x23) fun x24 =>
      condK x24
      (
        retK [(.int .i64 0), (.int .i64 6)] H)
      (
        purK (nilChkA x0) fun x26 =>
        purK (addA 6 x26) fun x27 =>
        purK (ld1 ρ H x27) fun x28 =>
        purK (lenS x28) fun x29 =>
        N29_2 ρ call yc lim k x0 x28 x29 (.int .i64 0) H (fun H =>
          N29_1 ρ call yc lim k H retK) retK)))
theorem L29_x (ρ : Addr → Option Value) (call : CallF) (yc : YieldF) (lim k : Nat) (J : CodeF) (x0 : AV) (H : Heap) :
    evX (cx ρ) call yc false 29 lim k J c29 [x0, (.tup []), (.tup []), (.tup []), (.tup []), (.tup []), (.tup []), (.tup []), (.tup []), (.tup []), (.tup []), (.tup []), (.tup []), (.tup []), (.tup []), (.tup []), (.tup []), (.tup []), (.tup []), (.tup []), (.tup []), (.tup []), (.tup []), (.tup []), (.tup []), (.tup []), (.tup []), (.tup []), (.tup []), (.tup []), (.tup []), (.tup []), (.tup []), (.tup []), (.tup []), (.tup []), (.tup []), (.tup []), (.tup []), (.tup []), (.tup []), (.tup []), (.tup []), (.tup []), (.tup []), (.tup []), (.tup []), (.tup []), (.tup []), (.tup []), (.tup []), (.tup []), (.tup []), (.tup []), (.tup []), (.tup []), (.tup []), (.tup []), (.tup []), (.tup []), (.tup []), (.tup []), (.tup []), (.tup []), (.tup []), (.tup []), (.tup []), (.tup []), (.tup []), (.tup []), (.tup []), (.tup []), (.tup []), (.tup []), (.tup []), (.tup []), (.tup []), (.tup []), (.tup []), (.tup []), (.tup []), (.tup []), (.tup []), (.tup []), (.tup []), (.tup []), (.tup []), (.tup []), (.tup []), (.tup []), (.tup []), (.tup []), (.tup []), (.tup []), (.tup []), (.tup []), (.tup []), (.tup []), (.tup []), (.tup []), (.tup []), (.tup []), (.tup []), (.tup []), (.tup []), (.tup [])] H (kk none (fun s H => retK (([2, 3] : List Nat).map fun t => s.getD t (.tup [])) H) [] retK [2, 3]) =
  purK (binA Tryz.prog H .eql 67 x0 .nilp) fun x10 =>
  condK x10
  (
    retK [(.int .i64 0), (.int .i64 2)] H)
  (
    purK (nilChkA x0) fun x13 =>
    purK (addA 5 x13) fun x14 =>
    purK (ld1 ρ H x14) fun x15 =>
    purK (binA Tryz.prog H .neq 100 x15 .nilp) fun x16 =>
    condK x16
    (
      retK [(.int .i64 0), (.int .i64 10)] H)
    (
      purK (nilChkA x0) fun x19 =>
      purK (addA 0 x19) fun x20 =>
      purK (ld1 ρ H x20) fun x21 =>
      resK (call lim 57 [x21] H) fun x22 H =>
      resK (call lim 45 [x22] H) fun x23 H =>
      purK (unA .not x23) fun x24 =>
      condK x24
      (
        retK [(.int .i64 0), (.int .i64 6)] H)
      (
        purK (nilChkA x0) fun x26 =>
        purK (addA 6 x26) fun x27 =>
        purK (ld1 ρ H x27) fun x28 =>
        purK (lenS x28) fun x29 =>
        J (Code.at [1, 1, 0, 1] c29) (sp 106 [(0, x0), (28, x28), (29, x29), (30, (.int .i64 0))]) H (kk (some []) (fun s H => J (Code.at [1, 1, 1] c29) s H (kk none (fun s H => retK (([2, 3] : List Nat).map fun t => s.getD t (.tup [])) H) [] retK [2, 3])) [] retK [2, 3])))) := by
  kernel_rfl
theorem G29 (ρ : Addr → Option Value) (call : CallF) (yc : YieldF) (lim k : Nat) (x0 : AV) (H : Heap) :
    evL (cx ρ) call yc false 29 lim k c29 [x0, (.tup []), (.tup []), (.tup []), (.tup []), (.tup []), (.tup []), (.tup []), (.tup []), (.tup []), (.tup []), (.tup []), (.tup []), (.tup []), (.tup []), (.tup []), (.tup []), (.tup []), (.tup []), (.tup []), (.tup []), (.tup []), (.tup []), (.tup []), (.tup []), (.tup []), (.tup []), (.tup []), (.tup []), (.tup []), (.tup []), (.tup []), (.tup []), (.tup []), (.tup []), (.tup []), (.tup []), (.tup []), (.tup []), (.tup []), (.tup []), (.tup []), (.tup []), (.tup []), (.tup []), (.tup []), (.tup []), (.tup []), (.tup []), (.tup []), (.tup []), (.tup []), (.tup []), (.tup []), (.tup []), (.tup []), (.tup []), (.tup []), (.tup []), (.tup []), (.tup []), (.tup []), (.tup []), (.tup []), (.tup []), (.tup []), (.tup []), (.tup []), (.tup []), (.tup []), (.tup []), (.tup []), (.tup []), (.tup []), (.tup []), (.tup []), (.tup []), (.tup []), (.tup []), (.tup []), (.tup []), (.tup []), (.tup []), (.tup []), (.tup []), (.tup []), (.tup []), (.tup []), (.tup []), (.tup []), (.tup []), (.tup []), (.tup []), (.tup []), (.tup []), (.tup []), (.tup []), (.tup []), (.tup []), (.tup []), (.tup []), (.tup []), (.tup []), (.tup []), (.tup []), (.tup [])] H (kk none (fun s H => retK (([2, 3] : List Nat).map fun t => s.getD t (.tup [])) H) [] retK [2, 3]) = L29 ρ call yc lim k x0 H := by
  rw [evL_X, L29_x]
  simp only [← evL_X, L29, N29_1_eq, N29_2_eq]
theorem E29 (ρ : Addr → Option Value) (k lim : Nat) (x0 : AV) (H : Heap) : evCall (cx ρ) (k + 1) lim 29 [x0] H = L29 ρ (evCall (cx ρ) k) (evCY (cx ρ) k).2 lim k x0 H := by
  rw [evCall_body (cx ρ) k lim 29 _ H Tryz.f29 c29 [2, 3] (by kernel_rfl) (by kernel_rfl) (by kernel_rfl) (by kernel_rfl) (by kernel_rfl)]
  exact G29 ρ (evCall (cx ρ) k) (evCY (cx ρ) k).2 lim k x0 H
-- slices.IndexFunc[[]haycroft/watch.asked,haycroft/watch.asked]
noncomputable def c37 : Code := Code.of Tryz.prog 37
noncomputable def N37_1 (ρ : Addr → Option Value) (call : CallF) (yc : YieldF) (lim k : Nat) (H : Heap) (R : List AV → Heap → Res) : Res :=
  R [(.int .i64 (-1))] H
theorem N37_1_eq (ρ : Addr → Option Value) (call : CallF) (yc : YieldF) (lim k : Nat) (H : Heap) (R : List AV → Heap → Res) :
    evL (cx ρ) call yc false 37 lim k (Code.at [1, 1] c37) (sp 19 []) H (kk none (fun s H => R (([4] : List Nat).map fun t => s.getD t (.tup [])) H) [] R [4]) = N37_1 ρ call yc lim k H R := by
  kernel_rfl
noncomputable def N37_3b (ρ : Addr → Option Value) (call : CallF) (yc : YieldF) (lim k : Nat) (x0 x1 x7 x8 : AV) (H : Heap) (kn : AV → AV → AV → AV → Heap → Res) (k0 : Heap → Res) (R : List AV → Heap → Res) : Res :=
  purK (binA Tryz.prog H .lss 3 x8 x7) fun x9_1 =>
  condK x9_1
  (
    purK (ixS 3 x0 x8) fun x14_1 =>
    purK (ldN ρ H 3 x14_1) fun x15_1 =>
    valK call yc lim x1 [x15_1] H fun x16_1 H =>
    condK x16_1
    (
      R [x8] H)
    (
      purK (binA Tryz.prog H .add 3 x8 (.int .i64 1)) fun x18_1 =>
      kn x0 x1 x7 x18_1 H))
  (
    k0 H)
theorem N37_3b_eq (ρ : Addr → Option Value) (call : CallF) (yc : YieldF) (lim k : Nat) (x0 x1 x7 x8 : AV) (H : Heap) (kn : KS) (k0 : KS) (R : List AV → Heap → Res) :
    evL (cx ρ) call yc false 37 lim k (Code.at [1, 0, 1, 0, 0] c37) (sp 19 [(0, x0), (1, x1), (7, x7), (8, x8)]) H (kk (some [0, 1, 7, 8]) kn [(0, (some []), k0)] R [4]) = N37_3b ρ call yc lim k x0 x1 x7 x8 H (fun x0 x1 x7 x8 H => kn (sp 19 [(0, x0), (1, x1), (7, x7), (8, x8)]) H) (fun H => k0 (sp 19 []) H) R := by
  kernel_rfl
noncomputable def N37_3 (ρ : Addr → Option Value) (call : CallF) (yc : YieldF) (lim k : Nat) (x0 x1 x7 x8 : AV) (H : Heap) (k0 : Heap → Res) (R : List AV → Heap → Res) : Res :=
  loopL (fun (x : AV) H kn => N37_3b ρ call yc lim k x0 x1 x7 x H (fun _ _ _ x8 H => kn x8 H) k0 R) k x8 H
theorem N37_3_eq (ρ : Addr → Option Value) (call : CallF) (yc : YieldF) (lim k : Nat) (x0 x1 x7 x8 : AV) (H : Heap) (kn : KS) (k0 : KS) (R : List AV → Heap → Res) :
    evL (cx ρ) call yc false 37 lim k (Code.at [1, 0, 1, 0] c37) (sp 19 [(0, x0), (1, x1), (7, x7), (8, x8)]) H (kk (some []) kn [(0, (some []), k0)] R [4]) = N37_3 ρ call yc lim k x0 x1 x7 x8 H (fun H => k0 (sp 19 []) H) R := by
  have e : Code.at [1, 0, 1, 0] c37 = .loop (Code.at [1, 0, 1, 0, 0] c37) := by kernel_rfl
  rw [e]
  unfold N37_3
  exact loop_node [0, 1, 7, 8] (fun x : AV => (sp 19 [(0, x0), (1, x1), (7, x7), (8, (x))])) (fun (x : AV) H kn => N37_3b ρ call yc lim k x0 x1 x7 x H (fun _ _ _ x8 H => kn x8 H) (fun H => k0 (sp 19 []) H) R) (by kernel_rfl) (fun x => by kernel_rfl) (fun x H kn => N37_3b_eq ρ call yc lim k x0 x1 x7 (x) H kn k0 R) x8 (sp 19 [(0, x0), (1, x1), (7, x7), (8, x8)]) H (by kernel_rfl)
noncomputable def N37_2 (ρ : Addr → Option Value) (call : CallF) (yc : YieldF) (lim k : Nat) (x0 x1 x7 x8 : AV) (H : Heap) (kn : Heap → Res) (R : List AV → Heap → Res) : Res :=
  N37_3 ρ call yc lim k x0 x1 x7 x8 H kn R
theorem N37_2_x (ρ : Addr → Option Value) (call : CallF) (yc : YieldF) (lim k : Nat) (J : CodeF) (x0 x1 x7 x8 : AV) (H : Heap) (kn : KS) (R : List AV → Heap → Res) :
    evX (cx ρ) call yc false 37 lim k J (Code.at [1, 0, 1] c37) (sp 19 [(0, x0), (1, x1), (7, x7), (8, x8)]) H (kk (some []) kn [] R [4]) =
  J (Code.at [1, 0, 1, 0] c37) (sp 19 [(0, x0), (1, x1), (7, x7), (8, x8)]) H (kk (some []) kn [(0, (some []), kn)] R [4]) := by
  kernel_rfl
theorem N37_2_eq (ρ : Addr → Option Value) (call : CallF) (yc : YieldF) (lim k : Nat) (x0 x1 x7 x8 : AV) (H : Heap) (kn : KS) (R : List AV → Heap → Res) :
    evL (cx ρ) call yc false 37 lim k (Code.at [1, 0, 1] c37) (sp 19 [(0, x0), (1, x1), (7, x7), (8, x8)]) H (kk (some []) kn [] R [4]) = N37_2 ρ call yc lim k x0 x1 x7 x8 H (fun H => kn (sp 19 []) H) R := by
  rw [evL_X, N37_2_x]
  simp only [← evL_X, N37_2, N37_3_eq]
noncomputable def L37 (ρ : Addr → Option Value) (call : CallF) (yc : YieldF) (lim k : Nat) (x0 x1 : AV) (H : Heap) : Res :=
  purK (lenS x0) fun x7 =>
  N37_2 ρ call yc lim k x0 x1 x7 (.int .i64 0) H (fun H =>
    N37_1 ρ call yc lim k H retK) retK
theorem L37_x (ρ : Addr → Option Value) (call : CallF) (yc : YieldF) (lim k : Nat) (J : CodeF) (x0 x1 : AV) (H : Heap) :
    evX (cx ρ) call yc false 37 lim k J c37 [x0, x1, (.tup []), (.tup []), (.tup []), (.tup []), (.tup []), (.tup []), (.tup []), (.tup []), (.tup []), (.tup []), (.tup []), (.tup []), (.tup []), (.tup []), (.tup []), (.tup []), (.tup [])] H (kk none (fun s H => retK (([4] : List Nat).map fun t => s.getD t (.tup [])) H) [] retK [4]) =
  purK (lenS x0) fun x7 =>
  J (Code.at [1, 0, 1] c37) (sp 19 [(0, x0), (1, x1), (7, x7), (8, (.int .i64 0))]) H (kk (some []) (fun s H => J (Code.at [1, 1] c37) s H (kk none (fun s H => retK (([4] : List Nat).map fun t => s.getD t (.tup [])) H) [] retK [4])) [] retK [4]) := by
  kernel_rfl
theorem G37 (ρ : Addr → Option Value) (call : CallF) (yc : YieldF) (lim k : Nat) (x0 x1 : AV) (H : Heap) :
    evL (cx ρ) call yc false 37 lim k c37 [x0, x1, (.tup []), (.tup []), (.tup []), (.tup []), (.tup []), (.tup []), (.tup []), (.tup []), (.tup []), (.tup []), (.tup []), (.tup []), (.tup []), (.tup []), (.tup []), (.tup []), (.tup [])] H (kk none (fun s H => retK (([4] : List Nat).map fun t => s.getD t (.tup [])) H) [] retK [4]) = L37 ρ call yc lim k x0 x1 H := by
  rw [evL_X, L37_x]
  simp only [← evL_X, L37, N37_1_eq, N37_2_eq]
theorem E37 (ρ : Addr → Option Value) (k lim : Nat) (x0 x1 : AV) (H : Heap) : evCall (cx ρ) (k + 1) lim 37 [x0, x1] H = L37 ρ (evCall (cx ρ) k) (evCY (cx ρ) k).2 lim k x0 x1 H := by
  rw [evCall_body (cx ρ) k lim 37 _ H Tryz.f37 c37 [4] (by kernel_rfl) (by kernel_rfl) (by kernel_rfl) (by kernel_rfl) (by kernel_rfl)]
  exact G37 ρ (evCall (cx ρ) k) (evCY (cx ρ) k).2 lim k x0 x1 H
-- (*haycroft/store.Store).Outcome
noncomputable def c38 : Code := Code.of Tryz.prog 38
noncomputable def L38 (ρ : Addr → Option Value) (call : CallF) (yc : YieldF) (lim k : Nat) (x0 x1 x2 : AV) (H : Heap) : Res :=
  effK H (some (.ptr H.sz 0 0, .new (newCells 50 false [.int .i64 0, .str ByteArray.empty]))) fun x6 H =>
  resK (call lim 75 [x0, x1] H) fun x10 H =>
  resK (call lim 76 [x10, x2] H) fun x12 H =>
  purK (extA 0 x12) fun x13 =>
  purK (extA 1 x12) fun x14 =>
  effK H (stA lim H 2 x6 x13) fun _ H =>
  (retC (cx ρ) [some 50, none]) [x6, x14] H
theorem G38 (ρ : Addr → Option Value) (call : CallF) (yc : YieldF) (lim k : Nat) (x0 x1 x2 : AV) (H : Heap) :
    evL (cx ρ) call yc false 38 lim k c38 [x0, x1, x2, (.tup []), (.tup []), (.tup []), (.tup []), (.tup []), (.tup []), (.tup []), (.tup []), (.tup []), (.tup []), (.tup []), (.tup [])] H (kk none (fun s H => (retC (cx ρ) [some 50, none]) (([6, 7] : List Nat).map fun t => s.getD t (.tup [])) H) [] (retC (cx ρ) [some 50, none]) [6, 7]) = L38 ρ call yc lim k x0 x1 x2 H := by
  kernel_rfl
theorem E38 (ρ : Addr → Option Value) (k lim : Nat) (x0 x1 x2 : AV) (H : Heap) : evCall (cx ρ) (k + 1) lim 38 [x0, x1, x2] H = L38 ρ (evCall (cx ρ) k) (evCY (cx ρ) k).2 lim k x0 x1 x2 H := by
  rw [evCall_cells (cx ρ) k lim 38 _ H Tryz.f38 c38 [6, 7] [some 50, none] (by kernel_rfl) (by kernel_rfl) (by kernel_rfl) (by kernel_rfl) (by kernel_rfl) (by kernel_rfl)]
  exact G38 ρ (evCall (cx ρ) k) (evCY (cx ρ) k).2 lim k x0 x1 x2 H
-- (*haycroft/store.Store).Device
noncomputable def c42 : Code := Code.of Tryz.prog 42
noncomputable def L42 (ρ : Addr → Option Value) (call : CallF) (yc : YieldF) (lim k : Nat) (x0 : AV) (H : Heap) : Res :=
  purK (binA Tryz.prog H .eql 38 x0 .nilp) fun x4 =>
  condK x4
  (
    retK [.nilp] H)
  (
    purK (nilChkA x0) fun x6 =>
    purK (addA 6 x6) fun x7 =>
    purK (ld1 ρ H x7) fun x8 =>
    retK [x8] H)
theorem G42 (ρ : Addr → Option Value) (call : CallF) (yc : YieldF) (lim k : Nat) (x0 : AV) (H : Heap) :
    evL (cx ρ) call yc false 42 lim k c42 [x0, (.tup []), (.tup []), (.tup []), (.tup []), (.tup []), (.tup []), (.tup []), (.tup [])] H (kk none (fun s H => retK (([2] : List Nat).map fun t => s.getD t (.tup [])) H) [] retK [2]) = L42 ρ call yc lim k x0 H := by
  kernel_rfl
theorem E42 (ρ : Addr → Option Value) (k lim : Nat) (x0 : AV) (H : Heap) : evCall (cx ρ) (k + 1) lim 42 [x0] H = L42 ρ (evCall (cx ρ) k) (evCY (cx ρ) k).2 lim k x0 H := by
  rw [evCall_body (cx ρ) k lim 42 _ H Tryz.f42 c42 [2] (by kernel_rfl) (by kernel_rfl) (by kernel_rfl) (by kernel_rfl) (by kernel_rfl)]
  exact G42 ρ (evCall (cx ρ) k) (evCY (cx ρ) k).2 lim k x0 H
-- (*haycroft/device.Device).Flight
noncomputable def c43 : Code := Code.of Tryz.prog 43
noncomputable def L43 (ρ : Addr → Option Value) (call : CallF) (yc : YieldF) (lim k : Nat) (x0 : AV) (H : Heap) : Res :=
  purK (binA Tryz.prog H .eql 64 x0 .nilp) fun x4 =>
  condK x4
  (
    retK [.nils] H)
  (
    purK (nilChkA x0) fun x6 =>
    purK (addA 2 x6) fun x7 =>
    purK (ld1 ρ H x7) fun x8 =>
    resK (call lim 85 [x8] H) fun x9 H =>
    resK (call lim 84 [x9] H) fun x10 H =>
    retK [x10] H)
theorem G43 (ρ : Addr → Option Value) (call : CallF) (yc : YieldF) (lim k : Nat) (x0 : AV) (H : Heap) :
    evL (cx ρ) call yc false 43 lim k c43 [x0, (.tup []), (.tup []), (.tup []), (.tup []), (.tup []), (.tup []), (.tup []), (.tup []), (.tup []), (.tup [])] H (kk none (fun s H => retK (([2] : List Nat).map fun t => s.getD t (.tup [])) H) [] retK [2]) = L43 ρ call yc lim k x0 H := by
  kernel_rfl
theorem E43 (ρ : Addr → Option Value) (k lim : Nat) (x0 : AV) (H : Heap) : evCall (cx ρ) (k + 1) lim 43 [x0] H = L43 ρ (evCall (cx ρ) k) (evCY (cx ρ) k).2 lim k x0 H := by
  rw [evCall_body (cx ρ) k lim 43 _ H Tryz.f43 c43 [2] (by kernel_rfl) (by kernel_rfl) (by kernel_rfl) (by kernel_rfl) (by kernel_rfl)]
  exact G43 ρ (evCall (cx ρ) k) (evCY (cx ρ) k).2 lim k x0 H
-- haycroft/store.Right
noncomputable def c44 : Code := Code.of Tryz.prog 44
noncomputable def L44 (ρ : Addr → Option Value) (call : CallF) (yc : YieldF) (lim k : Nat) (x0 : AV) (H : Heap) : Res :=
  effK H (boxA H 47 x0) fun x1 H =>
  purK (addA 0 x1) fun x3 =>
  purK (ld1 ρ H x3) fun x4 =>
  resK (call lim 86 [x4] H) fun x5 H =>
  purK (gPur (wantV x5 true) (addA 1 x1)) fun x7 =>
  purK (gPur (wantV x5 true) (ld1 ρ H x7)) fun x8 =>
  resK (gRes (wantV x5 true) H (call lim 47 [x8, (.int .i64 2), (.int .i64 8)] H)) fun x9 H =>
  purK (pickA x5 x9 (.bool false)) fun x10 =>
  purK (gPur (wantV x10 true) (addA 2 x1)) fun x12 =>
  purK (gPur (wantV x10 true) (ld1 ρ H x12)) fun x13 =>
  resK (gRes (wantV x10 true) H (call lim 47 [x13, (.int .i64 1), (.int .i64 64)] H)) fun x14 H =>
  purK (pickA x10 x14 (.bool false)) fun x15 =>
  purK (gPur (wantV x15 true) (addA 3 x1)) fun x17 =>
  purK (gPur (wantV x15 true) (ld1 ρ H x17)) fun x18 =>
  resK (gRes (wantV x15 true) H (call lim 87 [x18] H)) fun x19 H =>
  purK (pickA x15 x19 (.bool false)) fun x20 =>
  purK (gPur (wantV x20 true) (addA 4 x1)) fun x22 =>
  purK (gPur (wantV x20 true) (ld1 ρ H x22)) fun x23 =>
  resK (gRes (wantV x20 true) H (call lim 47 [x23, (.int .i64 0), (.int .i64 64)] H)) fun x24 H =>
  purK (pickA x20 x24 (.bool false)) fun x25 =>
  purK (gPur (wantV x25 true) (addA 5 x1)) fun x27 =>
  purK (gPur (wantV x25 true) (ld1 ρ H x27)) fun x28 =>
  resK (gRes (wantV x25 true) H (call lim 47 [x28, (.int .i64 1), (.int .i64 8)] H)) fun x29 H =>
  purK (pickA x25 x29 (.bool false)) fun x30 =>
  retK [x30] H
theorem G44 (ρ : Addr → Option Value) (call : CallF) (yc : YieldF) (lim k : Nat) (x0 : AV) (H : Heap) :
    evL (cx ρ) call yc false 44 lim k c44 [x0, (.tup []), (.tup []), (.tup []), (.tup []), (.tup []), (.tup []), (.tup []), (.tup []), (.tup []), (.tup []), (.tup []), (.tup []), (.tup []), (.tup []), (.tup []), (.tup []), (.tup []), (.tup []), (.tup []), (.tup []), (.tup []), (.tup []), (.tup []), (.tup []), (.tup []), (.tup []), (.tup []), (.tup []), (.tup []), (.tup [])] H (kk none (fun s H => retK (([2] : List Nat).map fun t => s.getD t (.tup [])) H) [] retK [2]) = L44 ρ call yc lim k x0 H := by
  kernel_rfl
theorem E44 (ρ : Addr → Option Value) (k lim : Nat) (x0 : AV) (H : Heap) : evCall (cx ρ) (k + 1) lim 44 [x0] H = L44 ρ (evCall (cx ρ) k) (evCY (cx ρ) k).2 lim k x0 H := by
  rw [evCall_body (cx ρ) k lim 44 _ H Tryz.f44 c44 [2] (by kernel_rfl) (by kernel_rfl) (by kernel_rfl) (by kernel_rfl) (by kernel_rfl)]
  exact G44 ρ (evCall (cx ρ) k) (evCY (cx ρ) k).2 lim k x0 H
-- (*haycroft/device.Device).On
noncomputable def c45 : Code := Code.of Tryz.prog 45
noncomputable def L45 (ρ : Addr → Option Value) (call : CallF) (yc : YieldF) (lim k : Nat) (x0 : AV) (H : Heap) : Res :=
  resK (call lim 88 [x0] H) fun x4 H =>
  purK (binA Tryz.prog H .eql 30 x4 (.int .i64 0)) fun x5 =>
  retK [x5] H
theorem G45 (ρ : Addr → Option Value) (call : CallF) (yc : YieldF) (lim k : Nat) (x0 : AV) (H : Heap) :
    evL (cx ρ) call yc false 45 lim k c45 [x0, (.tup []), (.tup []), (.tup []), (.tup []), (.tup [])] H (kk none (fun s H => retK (([2] : List Nat).map fun t => s.getD t (.tup [])) H) [] retK [2]) = L45 ρ call yc lim k x0 H := by
  kernel_rfl
theorem E45 (ρ : Addr → Option Value) (k lim : Nat) (x0 : AV) (H : Heap) : evCall (cx ρ) (k + 1) lim 45 [x0] H = L45 ρ (evCall (cx ρ) k) (evCY (cx ρ) k).2 lim k x0 H := by
  rw [evCall_body (cx ρ) k lim 45 _ H Tryz.f45 c45 [2] (by kernel_rfl) (by kernel_rfl) (by kernel_rfl) (by kernel_rfl) (by kernel_rfl)]
  exact G45 ρ (evCall (cx ρ) k) (evCY (cx ρ) k).2 lim k x0 H
-- haycroft/store.load
noncomputable def c46 : Code := Code.of Tryz.prog 46
noncomputable def N46_1 (ρ : Addr → Option Value) (call : CallF) (yc : YieldF) (lim k : Nat) (x1 x2 : AV) (H : Heap) (R : List AV → Heap → Res) : Res :=
  purK (ldN ρ H 6 x2) fun x25_1 =>
  resK (call lim 91 [x25_1, x1] H) fun x27_1 H =>
  purK (extA 0 x27_1) fun x28_1 =>
  purK (extA 1 x27_1) fun x29_1 =>
  R [x28_1, x29_1] H
theorem N46_1_eq (ρ : Addr → Option Value) (call : CallF) (yc : YieldF) (lim k : Nat) (x1 x2 : AV) (H : Heap) (R : List AV → Heap → Res) :
    evL (cx ρ) call yc false 46 lim k (Code.at [1, 1] c46) (sp 30 [(1, x1), (2, x2)]) H (kk none (fun s H => R (([4, 5] : List Nat).map fun t => s.getD t (.tup [])) H) [] R [4, 5]) = N46_1 ρ call yc lim k x1 x2 H R := by
  kernel_rfl
noncomputable def L46 (ρ : Addr → Option Value) (call : CallF) (yc : YieldF) (lim k : Nat) (x0 x1 : AV) (H : Heap) : Res :=
  effK H (boxA H 47 x0) fun x2 H =>
  resK (call lim 89 [x1] H) fun x12 H =>
  purK (extA 0 x12) fun x13 =>
  purK (extA 1 x12) fun x14 =>
  effK H (some (.ptr H.sz 0 0, .new (newCells 161 false [.int .i64 0, .int .i64 0, .nils, .nils]))) fun x6 H =>
  effK H (stA lim H 4 x6 x13) fun _ H =>
  condK x14
  (
    purK (ldN ρ H 6 x2) fun x17 =>
    purK (ldN ρ H 4 x6) fun x19 =>
    resK (call lim 90 [x17, x1, x19] H) fun x20 H =>
    purK (extA 0 x20) fun x21 =>
    purK (extA 1 x20) fun x22 =>
    condK x22
    (
      retK [x21, (.int .i64 0)] H)
    (
      N46_1 ρ call yc lim k x1 x2 H retK))
  (
    N46_1 ρ call yc lim k x1 x2 H retK)
theorem L46_x (ρ : Addr → Option Value) (call : CallF) (yc : YieldF) (lim k : Nat) (J : CodeF) (x0 x1 : AV) (H : Heap) :
    evX (cx ρ) call yc false 46 lim k J c46 [x0, x1, (.tup []), (.tup []), (.tup []), (.tup []), (.tup []), (.tup []), (.tup []), (.tup []), (.tup []), (.tup []), (.tup []), (.tup []), (.tup []), (.tup []), (.tup []), (.tup []), (.tup []), (.tup []), (.tup []), (.tup []), (.tup []), (.tup []), (.tup []), (.tup []), (.tup []), (.tup []), (.tup []), (.tup [])] H (kk none (fun s H => retK (([4, 5] : List Nat).map fun t => s.getD t (.tup [])) H) [] retK [4, 5]) =
  effK H (boxA H 47 x0) fun x2 H =>
  resK (call lim 89 [x1] H) fun x12 H =>
  purK (extA 0 x12) fun x13 =>
  purK (extA 1 x12) fun x14 =>
  effK H (some (.ptr H.sz 0 0, .new (newCells 161 false [.int .i64 0, .int .i64 0, .nils, .nils]))) fun x6 H =>
  effK H (stA lim H 4 x6 x13) fun _ H =>
  condK x14
  (
    purK (ldN ρ H 6 x2) fun x17 =>
    purK (ldN ρ H 4 x6) fun x19 =>
    resK (call lim 90 [x17, x1, x19] H) fun x20 H =>
    purK (extA 0 x20) fun x21 =>
    purK (extA 1 x20) fun x22 =>
    condK x22
    (
      retK [x21, (.int .i64 0)] H)
    (
      J (Code.at [1, 1] c46) (sp 30 [(1, x1), (2, x2)]) H (kk none (fun s H => retK (([4, 5] : List Nat).map fun t => s.getD t (.tup [])) H) [] retK [4, 5])))
  (
    J (Code.at [1, 1] c46) (sp 30 [(1, x1), (2, x2)]) H (kk none (fun s H => retK (([4, 5] : List Nat).map fun t => s.getD t (.tup [])) H) [] retK [4, 5])) := by
  kernel_rfl
theorem G46 (ρ : Addr → Option Value) (call : CallF) (yc : YieldF) (lim k : Nat) (x0 x1 : AV) (H : Heap) :
    evL (cx ρ) call yc false 46 lim k c46 [x0, x1, (.tup []), (.tup []), (.tup []), (.tup []), (.tup []), (.tup []), (.tup []), (.tup []), (.tup []), (.tup []), (.tup []), (.tup []), (.tup []), (.tup []), (.tup []), (.tup []), (.tup []), (.tup []), (.tup []), (.tup []), (.tup []), (.tup []), (.tup []), (.tup []), (.tup []), (.tup []), (.tup []), (.tup [])] H (kk none (fun s H => retK (([4, 5] : List Nat).map fun t => s.getD t (.tup [])) H) [] retK [4, 5]) = L46 ρ call yc lim k x0 x1 H := by
  rw [evL_X, L46_x]
  simp only [← evL_X, L46, N46_1_eq]
theorem E46 (ρ : Addr → Option Value) (k lim : Nat) (x0 x1 : AV) (H : Heap) : evCall (cx ρ) (k + 1) lim 46 [x0, x1] H = L46 ρ (evCall (cx ρ) k) (evCY (cx ρ) k).2 lim k x0 x1 H := by
  rw [evCall_body (cx ρ) k lim 46 _ H Tryz.f46 c46 [4, 5] (by kernel_rfl) (by kernel_rfl) (by kernel_rfl) (by kernel_rfl) (by kernel_rfl)]
  exact G46 ρ (evCall (cx ρ) k) (evCY (cx ρ) k).2 lim k x0 x1 H
-- haycroft/store.within
noncomputable def c47 : Code := Code.of Tryz.prog 47
noncomputable def L47 (ρ : Addr → Option Value) (call : CallF) (yc : YieldF) (lim k : Nat) (x0 x1 x2 : AV) (H : Heap) : Res :=
  purK (binA Tryz.prog H .geq 3 x0 x1) fun x9 =>
  purK (gPur (wantV x9 true) (some x0)) fun x11 =>
  purK (gPur (wantV x9 true) (some x2)) fun x12 =>
  purK (gPur (wantV x9 true) (binA Tryz.prog H .leq 3 x11 x12)) fun x13 =>
  purK (pickA x9 x13 (.bool false)) fun x14 =>
  retK [x14] H
theorem G47 (ρ : Addr → Option Value) (call : CallF) (yc : YieldF) (lim k : Nat) (x0 x1 x2 : AV) (H : Heap) :
    evL (cx ρ) call yc false 47 lim k c47 [x0, x1, x2, (.tup []), (.tup []), (.tup []), (.tup []), (.tup []), (.tup []), (.tup []), (.tup []), (.tup []), (.tup []), (.tup []), (.tup [])] H (kk none (fun s H => retK (([6] : List Nat).map fun t => s.getD t (.tup [])) H) [] retK [6]) = L47 ρ call yc lim k x0 x1 x2 H := by
  kernel_rfl
theorem E47 (ρ : Addr → Option Value) (k lim : Nat) (x0 x1 x2 : AV) (H : Heap) : evCall (cx ρ) (k + 1) lim 47 [x0, x1, x2] H = L47 ρ (evCall (cx ρ) k) (evCY (cx ρ) k).2 lim k x0 x1 x2 H := by
  rw [evCall_body (cx ρ) k lim 47 _ H Tryz.f47 c47 [6] (by kernel_rfl) (by kernel_rfl) (by kernel_rfl) (by kernel_rfl) (by kernel_rfl)]
  exact G47 ρ (evCall (cx ρ) k) (evCY (cx ρ) k).2 lim k x0 x1 x2 H
-- (*haycroft/session.Session).Ask
noncomputable def c48 : Code := Code.of Tryz.prog 48
noncomputable def L48 (ρ : Addr → Option Value) (call : CallF) (yc : YieldF) (lim k : Nat) (x0 x1 : AV) (H : Heap) : Res :=
  effK H (boxA H 24 x1) fun x3 H =>
  purK (binA Tryz.prog H .eql 67 x0 .nilp) fun x10 =>
  condK x10
  (
    retK [(.int .i64 0), (.int .i64 2)] H)
  (
    purK (nilChkA x0) fun x13 =>
    purK (addA 5 x13) fun x14 =>
    purK (ld1 ρ H x14) fun x15 =>
    purK (binA Tryz.prog H .neq 100 x15 .nilp) fun x16 =>
    condK x16
    (
      retK [(.int .i64 0), (.int .i64 10)] H)
    (
      purK (nilChkA x0) fun x19 =>
      purK (addA 6 x19) fun x20 =>
      purK (ld1 ρ H x20) fun x21 =>
      purK (lenS x21) fun x22 =>
      purK (binA Tryz.prog H .geq 3 x22 (.int .i64 8)) fun x23 =>
      condK x23
      (
        retK [(.int .i64 0), (.int .i64 9)] H)
      (
        purK (nilChkA x0) fun x26 =>
        purK (addA 0 x26) fun x27 =>
        purK (ld1 ρ H x27) fun x28 =>
        purK (nilChkA x0) fun x30 =>
        purK (addA 1 x30) fun x31 =>
        purK (ld1 ρ H x31) fun x32 =>
        purK (nilChkA x0) fun x34 =>
        purK (addA 2 x34) fun x35 =>
        purK (ld1 ρ H x35) fun x36 =>
        purK (ldN ρ H 4 x3) fun x37 =>
        purK (nilChkA x0) fun x39 =>
        purK (addA 7 x39) fun x40 =>
        purK (ld1 ρ H x40) fun x41 =>
        resK (call lim 92 [x28, x32, x36, x37, x41] H) fun x42 H =>
        purK (extA 0 x42) fun x43 =>
        purK (extA 1 x42) fun x44 =>
        purK (binA Tryz.prog H .neq 30 x44 (.int .i64 0)) fun x47 =>
        condK x47
        (
          retK [(.int .i64 0), x44] H)
        (
          purK (nilChkA x0) fun x51 =>
          purK (addA 3 x51) fun x52 =>
          purK (ld1 ρ H x52) fun x53 =>
          purK (binA Tryz.prog H .geq 3 x53 (.int .i64 1073741824)) fun x54 =>
          condK x54
          (
            retK [(.int .i64 0), (.int .i64 13)] H)
          (
            purK (nilChkA x0) fun x56 =>
            purK (addA 3 x56) fun x57 =>
            purK (ld1 ρ H x57) fun x58 =>
            purK (binA Tryz.prog H .add 3 x58 (.int .i64 1)) fun x59 =>
            purK (nilChkA x0) fun x60 =>
            purK (addA 3 x60) fun x61 =>
            effK H (stA lim H 1 x61 x59) fun _ H =>
            purK (nilChkA x0) fun x63 =>
            purK (addA 4 x63) fun x64 =>
            effK H (stA lim H 1 x64 (.bool true)) fun _ H =>
            purK (nilChkA x0) fun x68 =>
            purK (addA 3 x68) fun x69 =>
            purK (ld1 ρ H x69) fun x70 =>
            purK (bldA [.int .i64 0, .nilp, .int .i64 0] [(0, 1, x70), (1, 1, x43)]) fun x72 =>
            effK H (boxA H 108 x72) fun x73 H =>
            purK (nilChkA x0) fun x74 =>
            purK (addA 5 x74) fun x75 =>
            effK H (stA lim H 1 x75 x73) fun _ H =>
            purK (nilChkA x0) fun x76 =>
            purK (addA 7 x76) fun x77 =>
            effK H (stA lim H 1 x77 (.int .i64 0)) fun _ H =>
            purK (nilChkA x0) fun x79 =>
            purK (addA 3 x79) fun x80 =>
            purK (ld1 ρ H x80) fun x81 =>
            retK [x81, (.int .i64 0)] H)))))
theorem G48 (ρ : Addr → Option Value) (call : CallF) (yc : YieldF) (lim k : Nat) (x0 x1 : AV) (H : Heap) :
    evL (cx ρ) call yc false 48 lim k c48 [x0, x1, (.tup []), (.tup []), (.tup []), (.tup []), (.tup []), (.tup []), (.tup []), (.tup []), (.tup []), (.tup []), (.tup []), (.tup []), (.tup []), (.tup []), (.tup []), (.tup []), (.tup []), (.tup []), (.tup []), (.tup []), (.tup []), (.tup []), (.tup []), (.tup []), (.tup []), (.tup []), (.tup []), (.tup []), (.tup []), (.tup []), (.tup []), (.tup []), (.tup []), (.tup []), (.tup []), (.tup []), (.tup []), (.tup []), (.tup []), (.tup []), (.tup []), (.tup []), (.tup []), (.tup []), (.tup []), (.tup []), (.tup []), (.tup []), (.tup []), (.tup []), (.tup []), (.tup []), (.tup []), (.tup []), (.tup []), (.tup []), (.tup []), (.tup []), (.tup []), (.tup []), (.tup []), (.tup []), (.tup []), (.tup []), (.tup []), (.tup []), (.tup []), (.tup []), (.tup []), (.tup []), (.tup []), (.tup []), (.tup []), (.tup []), (.tup []), (.tup []), (.tup []), (.tup []), (.tup []), (.tup [])] H (kk none (fun s H => retK (([4, 5] : List Nat).map fun t => s.getD t (.tup [])) H) [] retK [4, 5]) = L48 ρ call yc lim k x0 x1 H := by
  kernel_rfl
theorem E48 (ρ : Addr → Option Value) (k lim : Nat) (x0 x1 : AV) (H : Heap) : evCall (cx ρ) (k + 1) lim 48 [x0, x1] H = L48 ρ (evCall (cx ρ) k) (evCY (cx ρ) k).2 lim k x0 x1 H := by
  rw [evCall_body (cx ρ) k lim 48 _ H Tryz.f48 c48 [4, 5] (by kernel_rfl) (by kernel_rfl) (by kernel_rfl) (by kernel_rfl) (by kernel_rfl)]
  exact G48 ρ (evCall (cx ρ) k) (evCY (cx ρ) k).2 lim k x0 x1 H
-- (*haycroft/task.Task).Want
noncomputable def c49 : Code := Code.of Tryz.prog 49
noncomputable def L49 (ρ : Addr → Option Value) (call : CallF) (yc : YieldF) (lim k : Nat) (x0 : AV) (H : Heap) : Res :=
  purK (binA Tryz.prog H .eql 106 x0 .nilp) fun x5 =>
  purK (gPur (wantV x5 false) (some x0)) fun x7 =>
  purK (gPur (wantV x5 false) (nilChkA x7)) fun x8 =>
  purK (gPur (wantV x5 false) (addA 20 x8)) fun x9 =>
  purK (gPur (wantV x5 false) (ld1 ρ H x9)) fun x10 =>
  purK (pickA x5 (.bool true) x10) fun x11 =>
  purK (gPur (wantV x11 false) (some x0)) fun x13 =>
  purK (gPur (wantV x11 false) (nilChkA x13)) fun x14 =>
  purK (gPur (wantV x11 false) (addA 19 x14)) fun x15 =>
  purK (gPur (wantV x11 false) (ld1 ρ H x15)) fun x16 =>
  purK (gPur (wantV x11 false) (unA .not x16)) fun x17 =>
  purK (pickA x11 (.bool true) x17) fun x18 =>
  condK x18
  (
    retK [(.int .u64 0), (.bool false)] H)
  (
    purK (nilChkA x0) fun x20 =>
    purK (addA 13 x20) fun x21 =>
    purK (ld1 ρ H x21) fun x22 =>
    retK [x22, (.bool true)] H)
theorem G49 (ρ : Addr → Option Value) (call : CallF) (yc : YieldF) (lim k : Nat) (x0 : AV) (H : Heap) :
    evL (cx ρ) call yc false 49 lim k c49 [x0, (.tup []), (.tup []), (.tup []), (.tup []), (.tup []), (.tup []), (.tup []), (.tup []), (.tup []), (.tup []), (.tup []), (.tup []), (.tup []), (.tup []), (.tup []), (.tup []), (.tup []), (.tup []), (.tup []), (.tup []), (.tup []), (.tup [])] H (kk none (fun s H => retK (([2, 3] : List Nat).map fun t => s.getD t (.tup [])) H) [] retK [2, 3]) = L49 ρ call yc lim k x0 H := by
  kernel_rfl
theorem E49 (ρ : Addr → Option Value) (k lim : Nat) (x0 : AV) (H : Heap) : evCall (cx ρ) (k + 1) lim 49 [x0] H = L49 ρ (evCall (cx ρ) k) (evCY (cx ρ) k).2 lim k x0 H := by
  rw [evCall_body (cx ρ) k lim 49 _ H Tryz.f49 c49 [2, 3] (by kernel_rfl) (by kernel_rfl) (by kernel_rfl) (by kernel_rfl) (by kernel_rfl)]
  exact G49 ρ (evCall (cx ρ) k) (evCY (cx ρ) k).2 lim k x0 H
-- (*haycroft/session.Session).comes
noncomputable def c50 : Code := Code.of Tryz.prog 50
noncomputable def N50_1 (ρ : Addr → Option Value) (call : CallF) (yc : YieldF) (lim k : Nat) (x0 x1 : AV) (H : Heap) (R : List AV → Heap → Res) : Res :=
  purK (nilChkA x0) fun x88_1 =>
  purK (addA 5 x88_1) fun x89_1 =>
  effK H (stA lim H 1 x89_1 x1) fun _ H =>
  R [(.int .i64 1)] H
theorem N50_1_eq (ρ : Addr → Option Value) (call : CallF) (yc : YieldF) (lim k : Nat) (x0 x1 : AV) (H : Heap) (R : List AV → Heap → Res) :
    evL (cx ρ) call yc false 50 lim k (Code.at [1, 1, 1, 1, 1] c50) (sp 90 [(0, x0), (1, x1)]) H (kk none (fun s H => R (([4] : List Nat).map fun t => s.getD t (.tup [])) H) [] R [4]) = N50_1 ρ call yc lim k x0 x1 H R := by
  kernel_rfl
noncomputable def N50_2 (ρ : Addr → Option Value) (call : CallF) (yc : YieldF) (lim k : Nat) (x0 x1 : AV) (H : Heap) (R : List AV → Heap → Res) : Res :=
  purK (nilChkA x0) fun x52_1 =>
  purK (addA 9 x52_1) fun x53_1 =>
  purK (ld1 ρ H x53_1) fun x54_1 =>
  purK (nilChkA x1) fun x56_1 =>
  purK (addA 1 x56_1) fun x57_1 =>
  purK (ld1 ρ H x57_1) fun x58_1 =>
  resK (call lim 95 [x58_1] H) fun x59_1 H => bif (agn (ld1 ρ H x53_1) x54_1 && true) then
    purK (binA Tryz.prog H .add 3 x54_1 x59_1) fun x60_1 =>
    purK (nilChkA x0) fun x61_1 =>
    purK (addA 9 x61_1) fun x62_1 =>
    effK H (stA lim H 1 x62_1 x60_1) fun _ H =>
    R [(.int .i64 2)] H
  else none
theorem N50_2_eq (ρ : Addr → Option Value) (call : CallF) (yc : YieldF) (lim k : Nat) (x0 x1 : AV) (H : Heap) (kn : KS) (k0 : KS) (R : List AV → Heap → Res) :
    evL (cx ρ) call yc false 50 lim k (Code.at [1, 1, 1, 1, 0, 0, 1, 0, 1, 1] c50) (sp 90 [(0, x0), (1, x1)]) H (kk (some [0, 1]) kn [(0, (some [0, 1]), k0)] R [4]) = N50_2 ρ call yc lim k x0 x1 H R := by
  kernel_rfl
noncomputable def L50 (ρ : Addr → Option Value) (call : CallF) (yc : YieldF) (lim k : Nat) (x0 x1 : AV) (H : Heap) : Res :=
  purK (nilChkA x1) fun x12 =>
  purK (addA 1 x12) fun x13 =>
  purK (ld1 ρ H x13) fun x14 =>
  resK (call lim 93 [x14] H) fun x15 H =>
  purK (extA 0 x15) fun x16 =>
  purK (extA 1 x15) fun x17 =>
  effK H (some (.ptr H.sz 0 0, .new (newCells 50 false [.int .i64 0, .str ByteArray.empty]))) fun x5 H =>
  effK H (stA lim H 2 x5 x16) fun _ H =>
  purK (nilChkA x1) fun x20 =>
  purK (addA 1 x20) fun x21 =>
  purK (ld1 ρ H x21) fun x22 =>
  resK (call lim 49 [x22] H) fun x23 H =>
  purK (extA 0 x23) fun x24 =>
  purK (extA 1 x23) fun x25 =>
  purK (nilChkA x0) fun x27 =>
  purK (addA 5 x27) fun x28 =>
  effK H (stA lim H 1 x28 .nilp) fun _ H =>
  condK x17
  (
    purK (nilChkA x0) fun x32 =>
    purK (addA 8 x32) fun x33 =>
    purK (ld1 ρ H x33) fun x34 =>
    purK (nilChkA x1) fun x36 =>
    purK (addA 0 x36) fun x37 =>
    purK (ld1 ρ H x37) fun x38 =>
    purK (ldN ρ H 2 x5) fun x39 =>
    effK H ((mapPutA (cx ρ) lim H 102 x34 x38 x39).map skips) fun _ H =>
    purK (nilChkA x1) fun x41 =>
    purK (addA 1 x41) fun x42 =>
    purK (ld1 ρ H x42) fun x43 =>
    resK (call lim 94 [x43] H) fun x44 H =>
    purK (binA Tryz.prog H .gtr 3 x44 (.int .i64 0)) fun x46 =>
    condK x46
    (
      purK (nilChkA x0) fun x49 =>
      purK (addA 7 x49) fun x50 =>
      effK H (stA lim H 1 x50 x44) fun _ H =>
      N50_2 ρ call yc lim k x0 x1 H retK)
    (
      N50_2 ρ call yc lim k x0 x1 H retK))
  (
    purK (gPur (wantV x25 true) (some x0)) fun x66 =>
    purK (gPur (wantV x25 true) (some x1)) fun x67 =>
    resK (gRes (wantV x25 true) H (call lim 60 [x66, x67] H)) fun x68 H =>
    purK (pickA x25 x68 (.bool false)) fun x69 =>
    condK x69
    (
      purK (nilChkA x0) fun x72 =>
      purK (addA 6 x72) fun x73 =>
      purK (ld1 ρ H x73) fun x74 =>
      effK H (bldS H 100 1 [.nilp] 1 [(0, 1, x1)]) fun x76 H =>
      effK H (apA ρ lim H 100 1 8 x74 x76) fun x77 H =>
      purK (nilChkA x0) fun x78 =>
      purK (addA 6 x78) fun x79 =>
      effK H (stA lim H 1 x79 x77) fun _ H =>
      retK [(.int .i64 4)] H)
    (
      condK x25
      (
        purK (nilChkA x0) fun x84 =>
        purK (addA 5 x84) fun x85 =>
        effK H (stA lim H 1 x85 x1) fun _ H =>
        retK [(.int .i64 3)] H)
      (
        N50_1 ρ call yc lim k x0 x1 H retK)))
theorem L50_x (ρ : Addr → Option Value) (call : CallF) (yc : YieldF) (lim k : Nat) (J : CodeF) (x0 x1 : AV) (H : Heap) :
    evX (cx ρ) call yc false 50 lim k J c50 [x0, x1, (.tup []), (.tup []), (.tup []), (.tup []), (.tup []), (.tup []), (.tup []), (.tup []), (.tup []), (.tup []), (.tup []), (.tup []), (.tup []), (.tup []), (.tup []), (.tup []), (.tup []), (.tup []), (.tup []), (.tup []), (.tup []), (.tup []), (.tup []), (.tup []), (.tup []), (.tup []), (.tup []), (.tup []), (.tup []), (.tup []), (.tup []), (.tup []), (.tup []), (.tup []), (.tup []), (.tup []), (.tup []), (.tup []), (.tup []), (.tup []), (.tup []), (.tup []), (.tup []), (.tup []), (.tup []), (.tup []), (.tup []), (.tup []), (.tup []), (.tup []), (.tup []), (.tup []), (.tup []), (.tup []), (.tup []), (.tup []), (.tup []), (.tup []), (.tup []), (.tup []), (.tup []), (.tup []), (.tup []), (.tup []), (.tup []), (.tup []), (.tup []), (.tup []), (.tup []), (.tup []), (.tup []), (.tup []), (.tup []), (.tup []), (.tup []), (.tup []), (.tup []), (.tup []), (.tup []), (.tup []), (.tup []), (.tup []), (.tup []), (.tup []), (.tup []), (.tup []), (.tup []), (.tup [])] H (kk none (fun s H => retK (([4] : List Nat).map fun t => s.getD t (.tup [])) H) [] retK [4]) =
  purK (nilChkA x1) fun x12 =>
  purK (addA 1 x12) fun x13 =>
  purK (ld1 ρ H x13) fun x14 =>
  resK (call lim 93 [x14] H) fun x15 H =>
  purK (extA 0 x15) fun x16 =>
  purK (extA 1 x15) fun x17 =>
  effK H (some (.ptr H.sz 0 0, .new (newCells 50 false [.int .i64 0, .str ByteArray.empty]))) fun x5 H =>
  effK H (stA lim H 2 x5 x16) fun _ H =>
  purK (nilChkA x1) fun x20 =>
  purK (addA 1 x20) fun x21 =>
  purK (ld1 ρ H x21) fun x22 =>
  resK (call lim 49 [x22] H) fun x23 H =>
  purK (extA 0 x23) fun x24 =>
  purK (extA 1 x23) fun x25 =>
  purK (nilChkA x0) fun x27 =>
  purK (addA 5 x27) fun x28 =>
  effK H (stA lim H 1 x28 .nilp) fun _ H =>
  condK x17
  (
    purK (nilChkA x0) fun x32 =>
    purK (addA 8 x32) fun x33 =>
    purK (ld1 ρ H x33) fun x34 =>
    purK (nilChkA x1) fun x36 =>
    purK (addA 0 x36) fun x37 =>
    purK (ld1 ρ H x37) fun x38 =>
    purK (ldN ρ H 2 x5) fun x39 =>
    effK H ((mapPutA (cx ρ) lim H 102 x34 x38 x39).map skips) fun _ H =>
    purK (nilChkA x1) fun x41 =>
    purK (addA 1 x41) fun x42 =>
    purK (ld1 ρ H x42) fun x43 =>
    resK (call lim 94 [x43] H) fun x44 H =>
    purK (binA Tryz.prog H .gtr 3 x44 (.int .i64 0)) fun x46 =>
    condK x46
    (
      purK (nilChkA x0) fun x49 =>
      purK (addA 7 x49) fun x50 =>
      effK H (stA lim H 1 x50 x44) fun _ H =>
      J (Code.at [1, 1, 1, 1, 0, 0, 1, 0, 1, 1] c50) (sp 90 [(0, x0), (1, x1)]) H (kk (some [0, 1]) (fun s H => J (Code.at [1, 1, 1, 1, 1] c50) s H (kk none (fun s H => retK (([4] : List Nat).map fun t => s.getD t (.tup [])) H) [] retK [4])) [(0, (some [0, 1]), (fun s H => J (Code.at [1, 1, 1, 1, 1] c50) s H (kk none (fun s H => retK (([4] : List Nat).map fun t => s.getD t (.tup [])) H) [] retK [4])))] retK [4]))
    (
      J (Code.at [1, 1, 1, 1, 0, 0, 1, 0, 1, 1] c50) (sp 90 [(0, x0), (1, x1)]) H (kk (some [0, 1]) (fun s H => J (Code.at [1, 1, 1, 1, 1] c50) s H (kk none (fun s H => retK (([4] : List Nat).map fun t => s.getD t (.tup [])) H) [] retK [4])) [(0, (some [0, 1]), (fun s H => J (Code.at [1, 1, 1, 1, 1] c50) s H (kk none (fun s H => retK (([4] : List Nat).map fun t => s.getD t (.tup [])) H) [] retK [4])))] retK [4])))
  (
    purK (gPur (wantV x25 true) (some x0)) fun x66 =>
    purK (gPur (wantV x25 true) (some x1)) fun x67 =>
    resK (gRes (wantV x25 true) H (call lim 60 [x66, x67] H)) fun x68 H =>
    purK (pickA x25 x68 (.bool false)) fun x69 =>
    condK x69
    (
      purK (nilChkA x0) fun x72 =>
      purK (addA 6 x72) fun x73 =>
      purK (ld1 ρ H x73) fun x74 =>
      effK H (bldS H 100 1 [.nilp] 1 [(0, 1, x1)]) fun x76 H =>
      effK H (apA ρ lim H 100 1 8 x74 x76) fun x77 H =>
      purK (nilChkA x0) fun x78 =>
      purK (addA 6 x78) fun x79 =>
      effK H (stA lim H 1 x79 x77) fun _ H =>
      retK [(.int .i64 4)] H)
    (
      condK x25
      (
        purK (nilChkA x0) fun x84 =>
        purK (addA 5 x84) fun x85 =>
        effK H (stA lim H 1 x85 x1) fun _ H =>
        retK [(.int .i64 3)] H)
      (
        J (Code.at [1, 1, 1, 1, 1] c50) (sp 90 [(0, x0), (1, x1)]) H (kk none (fun s H => retK (([4] : List Nat).map fun t => s.getD t (.tup [])) H) [] retK [4])))) := by
  kernel_rfl
theorem G50 (ρ : Addr → Option Value) (call : CallF) (yc : YieldF) (lim k : Nat) (x0 x1 : AV) (H : Heap) :
    evL (cx ρ) call yc false 50 lim k c50 [x0, x1, (.tup []), (.tup []), (.tup []), (.tup []), (.tup []), (.tup []), (.tup []), (.tup []), (.tup []), (.tup []), (.tup []), (.tup []), (.tup []), (.tup []), (.tup []), (.tup []), (.tup []), (.tup []), (.tup []), (.tup []), (.tup []), (.tup []), (.tup []), (.tup []), (.tup []), (.tup []), (.tup []), (.tup []), (.tup []), (.tup []), (.tup []), (.tup []), (.tup []), (.tup []), (.tup []), (.tup []), (.tup []), (.tup []), (.tup []), (.tup []), (.tup []), (.tup []), (.tup []), (.tup []), (.tup []), (.tup []), (.tup []), (.tup []), (.tup []), (.tup []), (.tup []), (.tup []), (.tup []), (.tup []), (.tup []), (.tup []), (.tup []), (.tup []), (.tup []), (.tup []), (.tup []), (.tup []), (.tup []), (.tup []), (.tup []), (.tup []), (.tup []), (.tup []), (.tup []), (.tup []), (.tup []), (.tup []), (.tup []), (.tup []), (.tup []), (.tup []), (.tup []), (.tup []), (.tup []), (.tup []), (.tup []), (.tup []), (.tup []), (.tup []), (.tup []), (.tup []), (.tup []), (.tup [])] H (kk none (fun s H => retK (([4] : List Nat).map fun t => s.getD t (.tup [])) H) [] retK [4]) = L50 ρ call yc lim k x0 x1 H := by
  rw [evL_X, L50_x]
  simp only [← evL_X, L50, N50_1_eq, N50_2_eq]
theorem E50 (ρ : Addr → Option Value) (k lim : Nat) (x0 x1 : AV) (H : Heap) : evCall (cx ρ) (k + 1) lim 50 [x0, x1] H = L50 ρ (evCall (cx ρ) k) (evCY (cx ρ) k).2 lim k x0 x1 H := by
  rw [evCall_body (cx ρ) k lim 50 _ H Tryz.f50 c50 [4] (by kernel_rfl) (by kernel_rfl) (by kernel_rfl) (by kernel_rfl) (by kernel_rfl)]
  exact G50 ρ (evCall (cx ρ) k) (evCY (cx ρ) k).2 lim k x0 x1 H
-- (*haycroft/hlog.Log).Epoch
noncomputable def c51 : Code := Code.of Tryz.prog 51
noncomputable def L51 (ρ : Addr → Option Value) (call : CallF) (yc : YieldF) (lim k : Nat) (x0 : AV) (H : Heap) : Res :=
  purK (binA Tryz.prog H .eql 71 x0 .nilp) fun x4 =>
  condK x4
  (
    retK [.nilp] H)
  (
    purK (nilChkA x0) fun x6 =>
    purK (addA 3 x6) fun x7 =>
    purK (ld1 ρ H x7) fun x8 =>
    retK [x8] H)
theorem G51 (ρ : Addr → Option Value) (call : CallF) (yc : YieldF) (lim k : Nat) (x0 : AV) (H : Heap) :
    evL (cx ρ) call yc false 51 lim k c51 [x0, (.tup []), (.tup []), (.tup []), (.tup []), (.tup []), (.tup []), (.tup []), (.tup [])] H (kk none (fun s H => retK (([2] : List Nat).map fun t => s.getD t (.tup [])) H) [] retK [2]) = L51 ρ call yc lim k x0 H := by
  kernel_rfl
theorem E51 (ρ : Addr → Option Value) (k lim : Nat) (x0 : AV) (H : Heap) : evCall (cx ρ) (k + 1) lim 51 [x0] H = L51 ρ (evCall (cx ρ) k) (evCY (cx ρ) k).2 lim k x0 H := by
  rw [evCall_body (cx ρ) k lim 51 _ H Tryz.f51 c51 [2] (by kernel_rfl) (by kernel_rfl) (by kernel_rfl) (by kernel_rfl) (by kernel_rfl)]
  exact G51 ρ (evCall (cx ρ) k) (evCY (cx ρ) k).2 lim k x0 H
-- (*haycroft/epoch.Table).Seen
noncomputable def c52 : Code := Code.of Tryz.prog 52
noncomputable def L52 (ρ : Addr → Option Value) (call : CallF) (yc : YieldF) (lim k : Nat) (x0 x1 : AV) (H : Heap) : Res :=
  resK (call lim 96 [x0, x1] H) fun x7 H =>
  purK (unA .not x7) fun x8 =>
  condK x8
  (
    retK [(.int .u64 0)] H)
  (
    purK (nilChkA x0) fun x10 =>
    purK (addA 0 x10) fun x11 =>
    purK (ld1 ρ H x11) fun x12 =>
    purK (binA Tryz.prog H .add 3 (.int .i64 1) x1) fun x14 =>
    resK (call lim 97 [x12, x14] H) fun x15 H =>
    retK [x15] H)
theorem G52 (ρ : Addr → Option Value) (call : CallF) (yc : YieldF) (lim k : Nat) (x0 x1 : AV) (H : Heap) :
    evL (cx ρ) call yc false 52 lim k c52 [x0, x1, (.tup []), (.tup []), (.tup []), (.tup []), (.tup []), (.tup []), (.tup []), (.tup []), (.tup []), (.tup []), (.tup []), (.tup []), (.tup []), (.tup [])] H (kk none (fun s H => retK (([4] : List Nat).map fun t => s.getD t (.tup [])) H) [] retK [4]) = L52 ρ call yc lim k x0 x1 H := by
  kernel_rfl
theorem E52 (ρ : Addr → Option Value) (k lim : Nat) (x0 x1 : AV) (H : Heap) : evCall (cx ρ) (k + 1) lim 52 [x0, x1] H = L52 ρ (evCall (cx ρ) k) (evCY (cx ρ) k).2 lim k x0 x1 H := by
  rw [evCall_body (cx ρ) k lim 52 _ H Tryz.f52 c52 [4] (by kernel_rfl) (by kernel_rfl) (by kernel_rfl) (by kernel_rfl) (by kernel_rfl)]
  exact G52 ρ (evCall (cx ρ) k) (evCY (cx ρ) k).2 lim k x0 x1 H
-- (*haycroft/epoch.Table).Enter
noncomputable def c53 : Code := Code.of Tryz.prog 53
noncomputable def L53 (ρ : Addr → Option Value) (call : CallF) (yc : YieldF) (lim k : Nat) (x0 x1 : AV) (H : Heap) : Res :=
  resK (call lim 99 [x0] H) fun x8 H =>
  resK (call lim 98 [x0, x1, (.bool false), x8, (.int .i64 8)] H) fun x9 H =>
  retK [x9] H
theorem G53 (ρ : Addr → Option Value) (call : CallF) (yc : YieldF) (lim k : Nat) (x0 x1 : AV) (H : Heap) :
    evL (cx ρ) call yc false 53 lim k c53 [x0, x1, (.tup []), (.tup []), (.tup []), (.tup []), (.tup []), (.tup []), (.tup []), (.tup [])] H (kk none (fun s H => retK (([4] : List Nat).map fun t => s.getD t (.tup [])) H) [] retK [4]) = L53 ρ call yc lim k x0 x1 H := by
  kernel_rfl
theorem E53 (ρ : Addr → Option Value) (k lim : Nat) (x0 x1 : AV) (H : Heap) : evCall (cx ρ) (k + 1) lim 53 [x0, x1] H = L53 ρ (evCall (cx ρ) k) (evCY (cx ρ) k).2 lim k x0 x1 H := by
  rw [evCall_body (cx ρ) k lim 53 _ H Tryz.f53 c53 [4] (by kernel_rfl) (by kernel_rfl) (by kernel_rfl) (by kernel_rfl) (by kernel_rfl)]
  exact G53 ρ (evCall (cx ρ) k) (evCY (cx ρ) k).2 lim k x0 x1 H
-- (*haycroft/task.Task).Move
noncomputable def c54 : Code := Code.of Tryz.prog 54
noncomputable def L54 (ρ : Addr → Option Value) (call : CallF) (yc : YieldF) (lim k : Nat) (x0 : AV) (H : Heap) : Res :=
  purK (binA Tryz.prog H .eql 106 x0 .nilp) fun x6 =>
  condK x6
  (
    resK (call lim 100 [(.int .i64 2)] H) fun x7 H =>
    purK (extA 0 x7) fun x8 =>
    purK (extA 1 x7) fun x9 =>
    retK [x8, x9] H)
  (
    purK (nilChkA x0) fun x12 =>
    purK (addA 20 x12) fun x13 =>
    purK (ld1 ρ H x13) fun x14 =>
    condK x14
    (
      retK [(.int .i64 2), (.int .i64 0)] H)
    (
      purK (nilChkA x0) fun x17 =>
      purK (addA 0 x17) fun x18 =>
      purK (ld1 ρ H x18) fun x19 =>
      purK (nilChkA x0) fun x22 =>
      purK (addA 2 x22) fun x23 =>
      purK (ld1 ρ H x23) fun x24 =>
      resK (call lim 51 [x19] H) fun x20 H => bif (agn (ld1 ρ H x23) x24 && true) then
        resK (call lim 52 [x20, x24] H) fun x25 H =>
        purK (binA Tryz.prog H .eql 22 x25 (.int .u64 0)) fun x26 =>
        condK x26
        (
          resK (call lim 100 [(.int .i64 7)] H) fun x27 H =>
          purK (extA 0 x27) fun x28 =>
          purK (extA 1 x27) fun x29 =>
          retK [x28, x29] H)
        (
          purK (nilChkA x0) fun x31 =>
          purK (addA 8 x31) fun x32 =>
          purK (ld1 ρ H x32) fun x33 =>
          valK call yc lim x33 [x0] H fun x35 H =>
          purK (extA 0 x35) fun x36 =>
          purK (extA 1 x35) fun x37 =>
          retK [x36, x37] H)
      else none))
theorem G54 (ρ : Addr → Option Value) (call : CallF) (yc : YieldF) (lim k : Nat) (x0 : AV) (H : Heap) :
    evL (cx ρ) call yc false 54 lim k c54 [x0, (.tup []), (.tup []), (.tup []), (.tup []), (.tup []), (.tup []), (.tup []), (.tup []), (.tup []), (.tup []), (.tup []), (.tup []), (.tup []), (.tup []), (.tup []), (.tup []), (.tup []), (.tup []), (.tup []), (.tup []), (.tup []), (.tup []), (.tup []), (.tup []), (.tup []), (.tup []), (.tup []), (.tup []), (.tup []), (.tup []), (.tup []), (.tup []), (.tup []), (.tup []), (.tup []), (.tup []), (.tup [])] H (kk none (fun s H => retK (([2, 3] : List Nat).map fun t => s.getD t (.tup [])) H) [] retK [2, 3]) = L54 ρ call yc lim k x0 H := by
  kernel_rfl
theorem E54 (ρ : Addr → Option Value) (k lim : Nat) (x0 : AV) (H : Heap) : evCall (cx ρ) (k + 1) lim 54 [x0] H = L54 ρ (evCall (cx ρ) k) (evCY (cx ρ) k).2 lim k x0 H := by
  rw [evCall_body (cx ρ) k lim 54 _ H Tryz.f54 c54 [2, 3] (by kernel_rfl) (by kernel_rfl) (by kernel_rfl) (by kernel_rfl) (by kernel_rfl)]
  exact G54 ρ (evCall (cx ρ) k) (evCY (cx ρ) k).2 lim k x0 H
-- (*haycroft/epoch.Table).Leave
noncomputable def c55 : Code := Code.of Tryz.prog 55
noncomputable def L55 (ρ : Addr → Option Value) (call : CallF) (yc : YieldF) (lim k : Nat) (x0 x1 : AV) (H : Heap) : Res :=
  resK (call lim 98 [x0, x1, (.bool true), (.int .u64 0), (.int .i64 7)] H) fun x7 H =>
  retK [x7] H
theorem G55 (ρ : Addr → Option Value) (call : CallF) (yc : YieldF) (lim k : Nat) (x0 x1 : AV) (H : Heap) :
    evL (cx ρ) call yc false 55 lim k c55 [x0, x1, (.tup []), (.tup []), (.tup []), (.tup []), (.tup []), (.tup [])] H (kk none (fun s H => retK (([4] : List Nat).map fun t => s.getD t (.tup [])) H) [] retK [4]) = L55 ρ call yc lim k x0 x1 H := by
  kernel_rfl
theorem E55 (ρ : Addr → Option Value) (k lim : Nat) (x0 x1 : AV) (H : Heap) : evCall (cx ρ) (k + 1) lim 55 [x0, x1] H = L55 ρ (evCall (cx ρ) k) (evCY (cx ρ) k).2 lim k x0 x1 H := by
  rw [evCall_body (cx ρ) k lim 55 _ H Tryz.f55 c55 [4] (by kernel_rfl) (by kernel_rfl) (by kernel_rfl) (by kernel_rfl) (by kernel_rfl)]
  exact G55 ρ (evCall (cx ρ) k) (evCY (cx ρ) k).2 lim k x0 x1 H
-- (*haycroft/hlog.Log).Settle
noncomputable def c56 : Code := Code.of Tryz.prog 56
noncomputable def N56_1 (ρ : Addr → Option Value) (call : CallF) (yc : YieldF) (lim k : Nat) (x3 : AV) (H : Heap) (R : List AV → Heap → Res) : Res :=
  purK (lenS x3) fun x53_1 =>
  R [x53_1] H
theorem N56_1_eq (ρ : Addr → Option Value) (call : CallF) (yc : YieldF) (lim k : Nat) (x3 : AV) (H : Heap) (R : List AV → Heap → Res) :
    evL (cx ρ) call yc false 56 lim k (Code.at [1, 1, 1, 1] c56) (sp 54 [(3, x3)]) H (kk none (fun s H => R (([2] : List Nat).map fun t => s.getD t (.tup [])) H) [] R [2]) = N56_1 ρ call yc lim k x3 H R := by
  kernel_rfl
noncomputable def N56_4 (ρ : Addr → Option Value) (call : CallF) (yc : YieldF) (lim k : Nat) (x0 x3 x18 x19 x20 : AV) (H : Heap) (kn : AV → AV → AV → AV → AV → Heap → Res) : Res :=
  purK (binA Tryz.prog H .add 3 x20 (.int .i64 1)) fun x51_1 =>
  kn x0 x3 x18 x19 x51_1 H
theorem N56_4_eq (ρ : Addr → Option Value) (call : CallF) (yc : YieldF) (lim k : Nat) (x0 x3 x18 x19 x20 : AV) (H : Heap) (kn : KS) (k0 : KS) (R : List AV → Heap → Res) :
    evL (cx ρ) call yc false 56 lim k (Code.at [1, 1, 1, 0, 1, 0, 0, 1, 1, 1] c56) (sp 54 [(0, x0), (3, x3), (18, x18), (19, x19), (20, x20)]) H (kk (some [0, 3, 18, 19, 20]) kn [(0, (some [3]), k0)] R [2]) = N56_4 ρ call yc lim k x0 x3 x18 x19 x20 H (fun x0 x3 x18 x19 x20 H => kn (sp 54 [(0, x0), (3, x3), (18, x18), (19, x19), (20, x20)]) H) := by
  kernel_rfl
noncomputable def N56_3b (ρ : Addr → Option Value) (call : CallF) (yc : YieldF) (lim k : Nat) (x0 x3 x18 x19 x20 : AV) (H : Heap) (kn : AV → AV → AV → AV → AV → Heap → Res) (k0 : AV → Heap → Res) : Res :=
  purK (binA Tryz.prog H .lss 3 x20 x19) fun x21_1 =>
  condK x21_1
  (
    purK (ixS 3 x18 x20) fun x22_1 =>
    purK (ldN ρ H 3 x22_1) fun x23_1 =>
    effK H (some (.ptr H.sz 0 0, .new (newCells 184 false [.int .u64 0, .int .i64 0, .int .i64 0]))) fun x5_1 H =>
    effK H (stA lim H 3 x5_1 x23_1) fun _ H =>
    purK (addA 1 x5_1) fun x24_1 =>
    purK (ld1 ρ H x24_1) fun x25_1 =>
    purK (binA Tryz.prog H .eql 3 x25_1 (.int .i64 1)) fun x26_1 =>
    condK x26_1
    (
      purK (nilChkA x0) fun x28_1 =>
      purK (addA 2 x28_1) fun x29_1 =>
      purK (ld1 ρ H x29_1) fun x30_1 =>
      purK (addA 2 x5_1) fun x31_1 =>
      purK (ld1 ρ H x31_1) fun x32_1 =>
      purK (nilChkA x0) fun x34_1 =>
      purK (addA 0 x34_1) fun x35_1 =>
      purK (ld1 ρ H x35_1) fun x36_1 =>
      resK (call lim 104 [x36_1] H) fun x37_1 H => bif (agn (ld1 ρ H x31_1) x32_1 && (agn (ld1 ρ H x29_1) x30_1 && true)) then
        resK (call lim 103 [x30_1, (.int .i64 1), x32_1, x37_1] H) fun x38_1 H =>
        N56_4 ρ call yc lim k x0 x3 x18 x19 x20 H kn
      else none)
    (
      purK (nilChkA x0) fun x40_1 =>
      purK (addA 2 x40_1) fun x41_1 =>
      purK (ld1 ρ H x41_1) fun x42_1 =>
      purK (addA 2 x5_1) fun x43_1 =>
      purK (ld1 ρ H x43_1) fun x44_1 =>
      purK (nilChkA x0) fun x46_1 =>
      purK (addA 0 x46_1) fun x47_1 =>
      purK (ld1 ρ H x47_1) fun x48_1 =>
      resK (call lim 104 [x48_1] H) fun x49_1 H => bif (agn (ld1 ρ H x43_1) x44_1 && (agn (ld1 ρ H x41_1) x42_1 && true)) then
        resK (call lim 103 [x42_1, (.int .i64 4), x44_1, x49_1] H) fun x50_1 H =>
        N56_4 ρ call yc lim k x0 x3 x18 x19 x20 H kn
      else none))
  (
    k0 x3 H)
theorem N56_3b_x (ρ : Addr → Option Value) (call : CallF) (yc : YieldF) (lim k : Nat) (J : CodeF) (x0 x3 x18 x19 x20 : AV) (H : Heap) (kn : KS) (k0 : KS) (R : List AV → Heap → Res) :
    evX (cx ρ) call yc false 56 lim k J (Code.at [1, 1, 1, 0, 1, 0, 0] c56) (sp 54 [(0, x0), (3, x3), (18, x18), (19, x19), (20, x20)]) H (kk (some [0, 3, 18, 19, 20]) kn [(0, (some [3]), k0)] R [2]) =
  purK (binA Tryz.prog H .lss 3 x20 x19) fun x21_1 =>
  condK x21_1
  (
    purK (ixS 3 x18 x20) fun x22_1 =>
    purK (ldN ρ H 3 x22_1) fun x23_1 =>
    effK H (some (.ptr H.sz 0 0, .new (newCells 184 false [.int .u64 0, .int .i64 0, .int .i64 0]))) fun x5_1 H =>
    effK H (stA lim H 3 x5_1 x23_1) fun _ H =>
    purK (addA 1 x5_1) fun x24_1 =>
    purK (ld1 ρ H x24_1) fun x25_1 =>
    purK (binA Tryz.prog H .eql 3 x25_1 (.int .i64 1)) fun x26_1 =>
    condK x26_1
    (
      purK (nilChkA x0) fun x28_1 =>
      purK (addA 2 x28_1) fun x29_1 =>
      purK (ld1 ρ H x29_1) fun x30_1 =>
      purK (addA 2 x5_1) fun x31_1 =>
      purK (ld1 ρ H x31_1) fun x32_1 =>
      purK (nilChkA x0) fun x34_1 =>
      purK (addA 0 x34_1) fun x35_1 =>
      purK (ld1 ρ H x35_1) fun x36_1 =>
      resK (call lim 104 [x36_1] H) fun x37_1 H => bif (agn (ld1 ρ H x31_1) x32_1 && (agn (ld1 ρ H x29_1) x30_1 && true)) then
        resK (call lim 103 [x30_1, (.int .i64 1), x32_1, x37_1] H) fun x38_1 H =>
        J (Code.at [1, 1, 1, 0, 1, 0, 0, 1, 1, 1] c56) (sp 54 [(0, x0), (3, x3), (18, x18), (19, x19), (20, x20)]) H (kk (some [0, 3, 18, 19, 20]) kn [(0, (some [3]), k0)] R [2])
      else none)
    (
      purK (nilChkA x0) fun x40_1 =>
      purK (addA 2 x40_1) fun x41_1 =>
      purK (ld1 ρ H x41_1) fun x42_1 =>
      purK (addA 2 x5_1) fun x43_1 =>
      purK (ld1 ρ H x43_1) fun x44_1 =>
      purK (nilChkA x0) fun x46_1 =>
      purK (addA 0 x46_1) fun x47_1 =>
      purK (ld1 ρ H x47_1) fun x48_1 =>
      resK (call lim 104 [x48_1] H) fun x49_1 H => bif (agn (ld1 ρ H x43_1) x44_1 && (agn (ld1 ρ H x41_1) x42_1 && true)) then
        resK (call lim 103 [x42_1, (.int .i64 4), x44_1, x49_1] H) fun x50_1 H =>
        J (Code.at [1, 1, 1, 0, 1, 0, 0, 1, 1, 1] c56) (sp 54 [(0, x0), (3, x3), (18, x18), (19, x19), (20, x20)]) H (kk (some [0, 3, 18, 19, 20]) kn [(0, (some [3]), k0)] R [2])
      else none))
  (
    k0 (sp 54 [(3, x3)]) H) := by
  kernel_rfl
theorem N56_3b_eq (ρ : Addr → Option Value) (call : CallF) (yc : YieldF) (lim k : Nat) (x0 x3 x18 x19 x20 : AV) (H : Heap) (kn : KS) (k0 : KS) (R : List AV → Heap → Res) :
    evL (cx ρ) call yc false 56 lim k (Code.at [1, 1, 1, 0, 1, 0, 0] c56) (sp 54 [(0, x0), (3, x3), (18, x18), (19, x19), (20, x20)]) H (kk (some [0, 3, 18, 19, 20]) kn [(0, (some [3]), k0)] R [2]) = N56_3b ρ call yc lim k x0 x3 x18 x19 x20 H (fun x0 x3 x18 x19 x20 H => kn (sp 54 [(0, x0), (3, x3), (18, x18), (19, x19), (20, x20)]) H) (fun x3 H => k0 (sp 54 [(3, x3)]) H) := by
  rw [evL_X, N56_3b_x]
  simp only [← evL_X, N56_3b, N56_4_eq]
noncomputable def N56_3 (ρ : Addr → Option Value) (call : CallF) (yc : YieldF) (lim k : Nat) (x0 x3 x18 x19 x20 : AV) (H : Heap) (k0 : AV → Heap → Res) : Res :=
  loopL (fun (x : AV) H kn => N56_3b ρ call yc lim k x0 x3 x18 x19 x H (fun _ _ _ _ x20 H => kn x20 H) k0) k x20 H
theorem N56_3_eq (ρ : Addr → Option Value) (call : CallF) (yc : YieldF) (lim k : Nat) (x0 x3 x18 x19 x20 : AV) (H : Heap) (kn : KS) (k0 : KS) (R : List AV → Heap → Res) :
    evL (cx ρ) call yc false 56 lim k (Code.at [1, 1, 1, 0, 1, 0] c56) (sp 54 [(0, x0), (3, x3), (18, x18), (19, x19), (20, x20)]) H (kk (some [3]) kn [(0, (some [3]), k0)] R [2]) = N56_3 ρ call yc lim k x0 x3 x18 x19 x20 H (fun x3 H => k0 (sp 54 [(3, x3)]) H) := by
  have e : Code.at [1, 1, 1, 0, 1, 0] c56 = .loop (Code.at [1, 1, 1, 0, 1, 0, 0] c56) := by kernel_rfl
  rw [e]
  unfold N56_3
  exact loop_node [0, 3, 18, 19, 20] (fun x : AV => (sp 54 [(0, x0), (3, x3), (18, x18), (19, x19), (20, (x))])) (fun (x : AV) H kn => N56_3b ρ call yc lim k x0 x3 x18 x19 x H (fun _ _ _ _ x20 H => kn x20 H) (fun x3 H => k0 (sp 54 [(3, x3)]) H)) (by kernel_rfl) (fun x => by kernel_rfl) (fun x H kn => N56_3b_eq ρ call yc lim k x0 x3 x18 x19 (x) H kn k0 R) x20 (sp 54 [(0, x0), (3, x3), (18, x18), (19, x19), (20, x20)]) H (by kernel_rfl)
noncomputable def N56_2 (ρ : Addr → Option Value) (call : CallF) (yc : YieldF) (lim k : Nat) (x0 x3 x18 x19 x20 : AV) (H : Heap) (kn : AV → Heap → Res) : Res :=
  N56_3 ρ call yc lim k x0 x3 x18 x19 x20 H kn
theorem N56_2_x (ρ : Addr → Option Value) (call : CallF) (yc : YieldF) (lim k : Nat) (J : CodeF) (x0 x3 x18 x19 x20 : AV) (H : Heap) (kn : KS) (R : List AV → Heap → Res) :
    evX (cx ρ) call yc false 56 lim k J (Code.at [1, 1, 1, 0, 1] c56) (sp 54 [(0, x0), (3, x3), (18, x18), (19, x19), (20, x20)]) H (kk (some [3]) kn [] R [2]) =
  J (Code.at [1, 1, 1, 0, 1, 0] c56) (sp 54 [(0, x0), (3, x3), (18, x18), (19, x19), (20, x20)]) H (kk (some [3]) kn [(0, (some [3]), kn)] R [2]) := by
  kernel_rfl
theorem N56_2_eq (ρ : Addr → Option Value) (call : CallF) (yc : YieldF) (lim k : Nat) (x0 x3 x18 x19 x20 : AV) (H : Heap) (kn : KS) (R : List AV → Heap → Res) :
    evL (cx ρ) call yc false 56 lim k (Code.at [1, 1, 1, 0, 1] c56) (sp 54 [(0, x0), (3, x3), (18, x18), (19, x19), (20, x20)]) H (kk (some [3]) kn [] R [2]) = N56_2 ρ call yc lim k x0 x3 x18 x19 x20 H (fun x3 H => kn (sp 54 [(3, x3)]) H) := by
  rw [evL_X, N56_2_x]
  simp only [← evL_X, N56_2, N56_3_eq]
noncomputable def L56 (ρ : Addr → Option Value) (call : CallF) (yc : YieldF) (lim k : Nat) (x0 : AV) (H : Heap) : Res :=
  purK (binA Tryz.prog H .eql 71 x0 .nilp) fun x7 =>
  condK x7
  (
    retK [(.int .i64 0)] H)
  (
    purK (nilChkA x0) fun x9 =>
    purK (addA 4 x9) fun x10 =>
    purK (ld1 ρ H x10) fun x11 =>
    purK (nilChkA x0) fun x13 =>
    purK (addA 3 x13) fun x14 =>
    purK (ld1 ρ H x14) fun x15 =>
    resK (call lim 102 [x15] H) fun x16 H => bif (agn (ld1 ρ H x10) x11 && true) then
      resK (call lim 101 [x11, x16] H) fun x17 H =>
      purK (lenS x17) fun x19 =>
      N56_2 ρ call yc lim k x0 x17 x17 x19 (.int .i64 0) H (fun x3_1 H =>
        N56_1 ρ call yc lim k x3_1 H retK)
    else none)
theorem L56_x (ρ : Addr → Option Value) (call : CallF) (yc : YieldF) (lim k : Nat) (J : CodeF) (x0 : AV) (H : Heap) :
    evX (cx ρ) call yc false 56 lim k J c56 [x0, (.tup []), (.tup []), (.tup []), (.tup []), (.tup []), (.tup []), (.tup []), (.tup []), (.tup []), (.tup []), (.tup []), (.tup []), (.tup []), (.tup []), (.tup []), (.tup []), (.tup []), (.tup []), (.tup []), (.tup []), (.tup []), (.tup []), (.tup []), (.tup []), (.tup []), (.tup []), (.tup []), (.tup []), (.tup []), (.tup []), (.tup []), (.tup []), (.tup []), (.tup []), (.tup []), (.tup []), (.tup []), (.tup []), (.tup []), (.tup []), (.tup []), (.tup []), (.tup []), (.tup []), (.tup []), (.tup []), (.tup []), (.tup []), (.tup []), (.tup []), (.tup []), (.tup []), (.tup [])] H (kk none (fun s H => retK (([2] : List Nat).map fun t => s.getD t (.tup [])) H) [] retK [2]) =
  purK (binA Tryz.prog H .eql 71 x0 .nilp) fun x7 =>
  condK x7
  (
    retK [(.int .i64 0)] H)
  (
    purK (nilChkA x0) fun x9 =>
    purK (addA 4 x9) fun x10 =>
    purK (ld1 ρ H x10) fun x11 =>
    purK (nilChkA x0) fun x13 =>
    purK (addA 3 x13) fun x14 =>
    purK (ld1 ρ H x14) fun x15 =>
    resK (call lim 102 [x15] H) fun x16 H => bif (agn (ld1 ρ H x10) x11 && true) then
      resK (call lim 101 [x11, x16] H) fun x17 H =>
      purK (lenS x17) fun x19 =>
      J (Code.at [1, 1, 1, 0, 1] c56) (sp 54 [(0, x0), (3, x17), (18, x17), (19, x19), (20, (.int .i64 0))]) H (kk (some [3]) (fun s H => J (Code.at [1, 1, 1, 1] c56) s H (kk none (fun s H => retK (([2] : List Nat).map fun t => s.getD t (.tup [])) H) [] retK [2])) [] retK [2])
    else none) := by
  kernel_rfl
theorem G56 (ρ : Addr → Option Value) (call : CallF) (yc : YieldF) (lim k : Nat) (x0 : AV) (H : Heap) :
    evL (cx ρ) call yc false 56 lim k c56 [x0, (.tup []), (.tup []), (.tup []), (.tup []), (.tup []), (.tup []), (.tup []), (.tup []), (.tup []), (.tup []), (.tup []), (.tup []), (.tup []), (.tup []), (.tup []), (.tup []), (.tup []), (.tup []), (.tup []), (.tup []), (.tup []), (.tup []), (.tup []), (.tup []), (.tup []), (.tup []), (.tup []), (.tup []), (.tup []), (.tup []), (.tup []), (.tup []), (.tup []), (.tup []), (.tup []), (.tup []), (.tup []), (.tup []), (.tup []), (.tup []), (.tup []), (.tup []), (.tup []), (.tup []), (.tup []), (.tup []), (.tup []), (.tup []), (.tup []), (.tup []), (.tup []), (.tup []), (.tup [])] H (kk none (fun s H => retK (([2] : List Nat).map fun t => s.getD t (.tup [])) H) [] retK [2]) = L56 ρ call yc lim k x0 H := by
  rw [evL_X, L56_x]
  simp only [← evL_X, L56, N56_1_eq, N56_2_eq]
theorem E56 (ρ : Addr → Option Value) (k lim : Nat) (x0 : AV) (H : Heap) : evCall (cx ρ) (k + 1) lim 56 [x0] H = L56 ρ (evCall (cx ρ) k) (evCY (cx ρ) k).2 lim k x0 H := by
  rw [evCall_body (cx ρ) k lim 56 _ H Tryz.f56 c56 [2] (by kernel_rfl) (by kernel_rfl) (by kernel_rfl) (by kernel_rfl) (by kernel_rfl)]
  exact G56 ρ (evCall (cx ρ) k) (evCY (cx ρ) k).2 lim k x0 H
-- (*haycroft/hlog.Log).Device
noncomputable def c57 : Code := Code.of Tryz.prog 57
noncomputable def L57 (ρ : Addr → Option Value) (call : CallF) (yc : YieldF) (lim k : Nat) (x0 : AV) (H : Heap) : Res :=
  purK (binA Tryz.prog H .eql 71 x0 .nilp) fun x4 =>
  condK x4
  (
    retK [.nilp] H)
  (
    purK (nilChkA x0) fun x6 =>
    purK (addA 5 x6) fun x7 =>
    purK (ld1 ρ H x7) fun x8 =>
    retK [x8] H)
theorem G57 (ρ : Addr → Option Value) (call : CallF) (yc : YieldF) (lim k : Nat) (x0 : AV) (H : Heap) :
    evL (cx ρ) call yc false 57 lim k c57 [x0, (.tup []), (.tup []), (.tup []), (.tup []), (.tup []), (.tup []), (.tup []), (.tup [])] H (kk none (fun s H => retK (([2] : List Nat).map fun t => s.getD t (.tup [])) H) [] retK [2]) = L57 ρ call yc lim k x0 H := by
  kernel_rfl
theorem E57 (ρ : Addr → Option Value) (k lim : Nat) (x0 : AV) (H : Heap) : evCall (cx ρ) (k + 1) lim 57 [x0] H = L57 ρ (evCall (cx ρ) k) (evCY (cx ρ) k).2 lim k x0 H := by
  rw [evCall_body (cx ρ) k lim 57 _ H Tryz.f57 c57 [2] (by kernel_rfl) (by kernel_rfl) (by kernel_rfl) (by kernel_rfl) (by kernel_rfl)]
  exact G57 ρ (evCall (cx ρ) k) (evCY (cx ρ) k).2 lim k x0 H
-- (*haycroft/store.Store).Session
noncomputable def c75 : Code := Code.of Tryz.prog 75
noncomputable def L75 (ρ : Addr → Option Value) (call : CallF) (yc : YieldF) (lim k : Nat) (x0 x1 : AV) (H : Heap) : Res :=
  resK (call lim 20 [x0] H) fun x6 H =>
  purK (unA .not x6) fun x7 =>
  purK (gPur (wantV x7 false) (some x1)) fun x9 =>
  purK (gPur (wantV x7 false) (some x0)) fun x10 =>
  purK (gPur (wantV x7 false) (nilChkA x10)) fun x11 =>
  purK (gPur (wantV x7 false) (addA 0 x11)) fun x12 =>
  purK (gPur (wantV x7 false) (addA 5 x12)) fun x13 =>
  purK (gPur (wantV x7 false) (ld1 ρ H x13)) fun x14 =>
  purK (gPur (wantV x7 false) (binA Tryz.prog H .sub 3 x14 (.int .i64 1))) fun x15 =>
  resK (gRes (wantV x7 false) H (call lim 47 [x9, (.int .i64 0), x15] H)) fun x16 H =>
  purK (gPur (wantV x7 false) (unA .not x16)) fun x17 =>
  purK (pickA x7 (.bool true) x17) fun x18 =>
  condK x18
  (
    retK [.nilp] H)
  (
    purK (nilChkA x0) fun x20 =>
    purK (addA 7 x20) fun x21 =>
    purK (ld1 ρ H x21) fun x22 =>
    purK (nilChkA x22) fun x23 =>
    purK (addA 2 x23) fun x24 =>
    purK (ld1 ρ H x24) fun x25 =>
    purK (ixS 1 x25 x1) fun x27 =>
    purK (ld1 ρ H x27) fun x28 =>
    retK [x28] H)
theorem G75 (ρ : Addr → Option Value) (call : CallF) (yc : YieldF) (lim k : Nat) (x0 x1 : AV) (H : Heap) :
    evL (cx ρ) call yc false 75 lim k c75 [x0, x1, (.tup []), (.tup []), (.tup []), (.tup []), (.tup []), (.tup []), (.tup []), (.tup []), (.tup []), (.tup []), (.tup []), (.tup []), (.tup []), (.tup []), (.tup []), (.tup []), (.tup []), (.tup []), (.tup []), (.tup []), (.tup []), (.tup []), (.tup []), (.tup []), (.tup []), (.tup []), (.tup [])] H (kk none (fun s H => retK (([4] : List Nat).map fun t => s.getD t (.tup [])) H) [] retK [4]) = L75 ρ call yc lim k x0 x1 H := by
  kernel_rfl
theorem E75 (ρ : Addr → Option Value) (k lim : Nat) (x0 x1 : AV) (H : Heap) : evCall (cx ρ) (k + 1) lim 75 [x0, x1] H = L75 ρ (evCall (cx ρ) k) (evCY (cx ρ) k).2 lim k x0 x1 H := by
  rw [evCall_body (cx ρ) k lim 75 _ H Tryz.f75 c75 [4] (by kernel_rfl) (by kernel_rfl) (by kernel_rfl) (by kernel_rfl) (by kernel_rfl)]
  exact G75 ρ (evCall (cx ρ) k) (evCY (cx ρ) k).2 lim k x0 x1 H
-- (*haycroft/session.Session).Outcome
noncomputable def c76 : Code := Code.of Tryz.prog 76
noncomputable def L76 (ρ : Addr → Option Value) (call : CallF) (yc : YieldF) (lim k : Nat) (x0 x1 : AV) (H : Heap) : Res :=
  effK H (some (.ptr H.sz 0 0, .new (newCells 50 false [.int .i64 0, .str ByteArray.empty]))) fun x4 H =>
  purK (binA Tryz.prog H .eql 67 x0 .nilp) fun x9 =>
  condK x9
  (
    purK (bldA [.int .i64 0, .str ByteArray.empty] []) fun x10 =>
    effK H (stA lim H 2 x4 x10) fun _ H =>
    (retC (cx ρ) [some 50, none]) [x4, (.bool false)] H)
  (
    purK (nilChkA x0) fun x13 =>
    purK (addA 8 x13) fun x14 =>
    purK (ld1 ρ H x14) fun x15 =>
    purK (lookupA (cx ρ) H 102 x15 x1 true) fun x17 =>
    purK (extA 0 x17) fun x18 =>
    purK (extA 1 x17) fun x19 =>
    effK H (some (.ptr H.sz 0 0, .new (newCells 50 false [.int .i64 0, .str ByteArray.empty]))) fun x6 H =>
    effK H (stA lim H 2 x6 x18) fun _ H =>
    purK (ldN ρ H 2 x6) fun x20 =>
    effK H (stA lim H 2 x4 x20) fun _ H =>
    (retC (cx ρ) [some 50, none]) [x4, x19] H)
theorem G76 (ρ : Addr → Option Value) (call : CallF) (yc : YieldF) (lim k : Nat) (x0 x1 : AV) (H : Heap) :
    evL (cx ρ) call yc false 76 lim k c76 [x0, x1, (.tup []), (.tup []), (.tup []), (.tup []), (.tup []), (.tup []), (.tup []), (.tup []), (.tup []), (.tup []), (.tup []), (.tup []), (.tup []), (.tup []), (.tup []), (.tup []), (.tup []), (.tup []), (.tup []), (.tup [])] H (kk none (fun s H => (retC (cx ρ) [some 50, none]) (([4, 5] : List Nat).map fun t => s.getD t (.tup [])) H) [] (retC (cx ρ) [some 50, none]) [4, 5]) = L76 ρ call yc lim k x0 x1 H := by
  kernel_rfl
theorem E76 (ρ : Addr → Option Value) (k lim : Nat) (x0 x1 : AV) (H : Heap) : evCall (cx ρ) (k + 1) lim 76 [x0, x1] H = L76 ρ (evCall (cx ρ) k) (evCY (cx ρ) k).2 lim k x0 x1 H := by
  rw [evCall_cells (cx ρ) k lim 76 _ H Tryz.f76 c76 [4, 5] [some 50, none] (by kernel_rfl) (by kernel_rfl) (by kernel_rfl) (by kernel_rfl) (by kernel_rfl) (by kernel_rfl)]
  exact G76 ρ (evCall (cx ρ) k) (evCY (cx ρ) k).2 lim k x0 x1 H
-- slices.Sorted[int]
noncomputable def c84 : Code := Code.of Tryz.prog 84
noncomputable def L84 (ρ : Addr → Option Value) (call : CallF) (yc : YieldF) (lim k : Nat) (x0 : AV) (H : Heap) : Res :=
  resK (call lim 115 [x0] H) fun x5 H =>
  resK (call lim 143 [x5] H) fun x7 H =>
  retK [x5] H
theorem G84 (ρ : Addr → Option Value) (call : CallF) (yc : YieldF) (lim k : Nat) (x0 : AV) (H : Heap) :
    evL (cx ρ) call yc false 84 lim k c84 [x0, (.tup []), (.tup []), (.tup []), (.tup []), (.tup []), (.tup []), (.tup []), (.tup [])] H (kk none (fun s H => retK (([2] : List Nat).map fun t => s.getD t (.tup [])) H) [] retK [2]) = L84 ρ call yc lim k x0 H := by
  kernel_rfl
theorem E84 (ρ : Addr → Option Value) (k lim : Nat) (x0 : AV) (H : Heap) : evCall (cx ρ) (k + 1) lim 84 [x0] H = L84 ρ (evCall (cx ρ) k) (evCY (cx ρ) k).2 lim k x0 H := by
  rw [evCall_body (cx ρ) k lim 84 _ H Tryz.f84 c84 [2] (by kernel_rfl) (by kernel_rfl) (by kernel_rfl) (by kernel_rfl) (by kernel_rfl)]
  exact G84 ρ (evCall (cx ρ) k) (evCY (cx ρ) k).2 lim k x0 H
-- maps.Keys[map[int]haycroft/device.job,int,haycroft/device.job]
noncomputable def c85 : Code := Code.of Tryz.prog 85
noncomputable def L85 (ρ : Addr → Option Value) (call : CallF) (yc : YieldF) (lim k : Nat) (x0 : AV) (H : Heap) : Res :=
  effK H (boxA H 94 x0) fun x1 H =>
  retK [(.fn (.func 144) [] [x1])] H
theorem G85 (ρ : Addr → Option Value) (call : CallF) (yc : YieldF) (lim k : Nat) (x0 : AV) (H : Heap) :
    evL (cx ρ) call yc false 85 lim k c85 [x0, (.tup []), (.tup []), (.tup [])] H (kk none (fun s H => retK (([2] : List Nat).map fun t => s.getD t (.tup [])) H) [] retK [2]) = L85 ρ call yc lim k x0 H := by
  kernel_rfl
theorem E85 (ρ : Addr → Option Value) (k lim : Nat) (x0 : AV) (H : Heap) : evCall (cx ρ) (k + 1) lim 85 [x0] H = L85 ρ (evCall (cx ρ) k) (evCY (cx ρ) k).2 lim k x0 H := by
  rw [evCall_body (cx ρ) k lim 85 _ H Tryz.f85 c85 [2] (by kernel_rfl) (by kernel_rfl) (by kernel_rfl) (by kernel_rfl) (by kernel_rfl)]
  exact G85 ρ (evCall (cx ρ) k) (evCY (cx ρ) k).2 lim k x0 H
-- haycroft/place.May
noncomputable def c86 : Code := Code.of Tryz.prog 86
noncomputable def L86 (ρ : Addr → Option Value) (call : CallF) (yc : YieldF) (lim k : Nat) (x0 : AV) (H : Heap) : Res :=
  purK (binA Tryz.prog H .geq 3 x0 (.int .i64 5)) fun x4 =>
  purK (gPur (wantV x4 true) (some x0)) fun x6 =>
  purK (gPur (wantV x4 true) (binA Tryz.prog H .leq 3 x6 (.int .i64 9))) fun x7 =>
  purK (pickA x4 x7 (.bool false)) fun x8 =>
  retK [x8] H
theorem G86 (ρ : Addr → Option Value) (call : CallF) (yc : YieldF) (lim k : Nat) (x0 : AV) (H : Heap) :
    evL (cx ρ) call yc false 86 lim k c86 [x0, (.tup []), (.tup []), (.tup []), (.tup []), (.tup []), (.tup []), (.tup []), (.tup [])] H (kk none (fun s H => retK (([2] : List Nat).map fun t => s.getD t (.tup [])) H) [] retK [2]) = L86 ρ call yc lim k x0 H := by
  kernel_rfl
theorem E86 (ρ : Addr → Option Value) (k lim : Nat) (x0 : AV) (H : Heap) : evCall (cx ρ) (k + 1) lim 86 [x0] H = L86 ρ (evCall (cx ρ) k) (evCY (cx ρ) k).2 lim k x0 H := by
  rw [evCall_body (cx ρ) k lim 86 _ H Tryz.f86 c86 [2] (by kernel_rfl) (by kernel_rfl) (by kernel_rfl) (by kernel_rfl) (by kernel_rfl)]
  exact G86 ρ (evCall (cx ρ) k) (evCY (cx ρ) k).2 lim k x0 H
-- haycroft/mix.May
noncomputable def c87 : Code := Code.of Tryz.prog 87
noncomputable def L87 (ρ : Addr → Option Value) (call : CallF) (yc : YieldF) (lim k : Nat) (x0 : AV) (H : Heap) : Res :=
  purK (binA Tryz.prog H .geq 3 x0 (.int .i64 1)) fun x4 =>
  purK (gPur (wantV x4 true) (some x0)) fun x6 =>
  purK (gPur (wantV x4 true) (binA Tryz.prog H .leq 3 x6 (.int .i64 1024))) fun x7 =>
  purK (pickA x4 x7 (.bool false)) fun x8 =>
  purK (gPur (wantV x8 true) (some x0)) fun x10 =>
  purK (gPur (wantV x8 true) (some x0)) fun x11 =>
  purK (gPur (wantV x8 true) (binA Tryz.prog H .sub 3 x11 (.int .i64 1))) fun x12 =>
  purK (gPur (wantV x8 true) (binA Tryz.prog H .and 3 x10 x12)) fun x13 =>
  purK (gPur (wantV x8 true) (binA Tryz.prog H .eql 3 x13 (.int .i64 0))) fun x14 =>
  purK (pickA x8 x14 (.bool false)) fun x15 =>
  retK [x15] H
theorem G87 (ρ : Addr → Option Value) (call : CallF) (yc : YieldF) (lim k : Nat) (x0 : AV) (H : Heap) :
    evL (cx ρ) call yc false 87 lim k c87 [x0, (.tup []), (.tup []), (.tup []), (.tup []), (.tup []), (.tup []), (.tup []), (.tup []), (.tup []), (.tup []), (.tup []), (.tup []), (.tup []), (.tup []), (.tup [])] H (kk none (fun s H => retK (([2] : List Nat).map fun t => s.getD t (.tup [])) H) [] retK [2]) = L87 ρ call yc lim k x0 H := by
  kernel_rfl
theorem E87 (ρ : Addr → Option Value) (k lim : Nat) (x0 : AV) (H : Heap) : evCall (cx ρ) (k + 1) lim 87 [x0] H = L87 ρ (evCall (cx ρ) k) (evCY (cx ρ) k).2 lim k x0 H := by
  rw [evCall_body (cx ρ) k lim 87 _ H Tryz.f87 c87 [2] (by kernel_rfl) (by kernel_rfl) (by kernel_rfl) (by kernel_rfl) (by kernel_rfl)]
  exact G87 ρ (evCall (cx ρ) k) (evCY (cx ρ) k).2 lim k x0 H
-- (*haycroft/device.Device).power
noncomputable def c88 : Code := Code.of Tryz.prog 88
noncomputable def L88 (ρ : Addr → Option Value) (call : CallF) (yc : YieldF) (lim k : Nat) (x0 : AV) (H : Heap) : Res :=
  purK (binA Tryz.prog H .eql 64 x0 .nilp) fun x5 =>
  condK x5
  (
    retK [(.int .i64 2)] H)
  (
    purK (nilChkA x0) fun x8 =>
    purK (addA 0 x8) fun x9 =>
    purK (ld1 ρ H x9) fun x10 =>
    condK x10
    (
      retK [(.int .i64 6)] H)
    (
      retK [(.int .i64 0)] H))
theorem G88 (ρ : Addr → Option Value) (call : CallF) (yc : YieldF) (lim k : Nat) (x0 : AV) (H : Heap) :
    evL (cx ρ) call yc false 88 lim k c88 [x0, (.tup []), (.tup []), (.tup []), (.tup []), (.tup []), (.tup []), (.tup []), (.tup []), (.tup []), (.tup [])] H (kk none (fun s H => retK (([2] : List Nat).map fun t => s.getD t (.tup [])) H) [] retK [2]) = L88 ρ call yc lim k x0 H := by
  kernel_rfl
theorem E88 (ρ : Addr → Option Value) (k lim : Nat) (x0 : AV) (H : Heap) : evCall (cx ρ) (k + 1) lim 88 [x0] H = L88 ρ (evCall (cx ρ) k) (evCY (cx ρ) k).2 lim k x0 H := by
  rw [evCall_body (cx ρ) k lim 88 _ H Tryz.f88 c88 [2] (by kernel_rfl) (by kernel_rfl) (by kernel_rfl) (by kernel_rfl) (by kernel_rfl)]
  exact G88 ρ (evCall (cx ρ) k) (evCY (cx ρ) k).2 lim k x0 H
-- haycroft/save.Find
noncomputable def c89 : Code := Code.of Tryz.prog 89
noncomputable def N89_2 (ρ : Addr → Option Value) (call : CallF) (yc : YieldF) (lim k : Nat) (x2 : AV) (H : Heap) (R : List AV → Heap → Res) : Res :=
  purK (bldA [.int .i64 0, .int .i64 0, .nils, .nils] []) fun x53_1 =>
  effK H (stA lim H 4 x2 x53_1) fun _ H =>
  R [x2, (.bool false)] H
theorem N89_2_eq (ρ : Addr → Option Value) (call : CallF) (yc : YieldF) (lim k : Nat) (x2 : AV) (H : Heap) (R : List AV → Heap → Res) :
    evL (cx ρ) call yc false 89 lim k (Code.at [1, 1, 1, 1, 1] c89) (sp 54 [(2, x2)]) H (kk none (fun s H => R (([2, 3] : List Nat).map fun t => s.getD t (.tup [])) H) [] R [2, 3]) = N89_2 ρ call yc lim k x2 H R := by
  kernel_rfl
noncomputable def N89_4b (ρ : Addr → Option Value) (call : CallF) (yc : YieldF) (lim k : Nat) (x0 x2 x38 x39 x40 : AV) (H : Heap) (kn : AV → AV → AV → AV → AV → Heap → Res) (k2 : AV → Heap → Res) (R : List AV → Heap → Res) : Res :=
  purK (binA Tryz.prog H .lss 3 x40 x39) fun x41_1 =>
  condK x41_1
  (
    purK (ixS 3 x38 x40) fun x42_1 =>
    purK (ldN ρ H 3 x42_1) fun x43_1 =>
    effK H (some (.ptr H.sz 0 0, .new (newCells 229 false [.int .i64 0, .int .i64 0, .int .u64 0]))) fun x11_1 H =>
    effK H (stA lim H 3 x11_1 x43_1) fun _ H =>
    purK (ldN ρ H 3 x11_1) fun x46_1 =>
    resK (call lim 150 [x0, x46_1] H) fun x47_1 H =>
    purK (extA 0 x47_1) fun x48_1 =>
    purK (extA 1 x47_1) fun x49_1 =>
    effK H (some (.ptr H.sz 0 0, .new (newCells 161 false [.int .i64 0, .int .i64 0, .nils, .nils]))) fun x12_1 H =>
    effK H (stA lim H 4 x12_1 x48_1) fun _ H =>
    condK x49_1
    (
      purK (ldN ρ H 4 x12_1) fun x51_1 =>
      effK H (stA lim H 4 x2 x51_1) fun _ H =>
      R [x2, (.bool true)] H)
    (
      purK (binA Tryz.prog H .add 3 x40 (.int .i64 1)) fun x52_1 =>
      kn x0 x2 x38 x39 x52_1 H))
  (
    k2 x2 H)
theorem N89_4b_eq (ρ : Addr → Option Value) (call : CallF) (yc : YieldF) (lim k : Nat) (x0 x2 x38 x39 x40 : AV) (H : Heap) (kn : KS) (k2 : KS) (R : List AV → Heap → Res) :
    evL (cx ρ) call yc false 89 lim k (Code.at [1, 1, 1, 1, 0, 1, 0, 0] c89) (sp 54 [(0, x0), (2, x2), (38, x38), (39, x39), (40, x40)]) H (kk (some [0, 2, 38, 39, 40]) kn [(2, (some [2]), k2)] R [2, 3]) = N89_4b ρ call yc lim k x0 x2 x38 x39 x40 H (fun x0 x2 x38 x39 x40 H => kn (sp 54 [(0, x0), (2, x2), (38, x38), (39, x39), (40, x40)]) H) (fun x2 H => k2 (sp 54 [(2, x2)]) H) R := by
  kernel_rfl
noncomputable def N89_4 (ρ : Addr → Option Value) (call : CallF) (yc : YieldF) (lim k : Nat) (x0 x2 x38 x39 x40 : AV) (H : Heap) (k2 : AV → Heap → Res) (R : List AV → Heap → Res) : Res :=
  loopL (fun (x : AV) H kn => N89_4b ρ call yc lim k x0 x2 x38 x39 x H (fun _ _ _ _ x40 H => kn x40 H) k2 R) k x40 H
theorem N89_4_eq (ρ : Addr → Option Value) (call : CallF) (yc : YieldF) (lim k : Nat) (x0 x2 x38 x39 x40 : AV) (H : Heap) (kn : KS) (k2 : KS) (R : List AV → Heap → Res) :
    evL (cx ρ) call yc false 89 lim k (Code.at [1, 1, 1, 1, 0, 1, 0] c89) (sp 54 [(0, x0), (2, x2), (38, x38), (39, x39), (40, x40)]) H (kk (some [2]) kn [(2, (some [2]), k2)] R [2, 3]) = N89_4 ρ call yc lim k x0 x2 x38 x39 x40 H (fun x2 H => k2 (sp 54 [(2, x2)]) H) R := by
  have e : Code.at [1, 1, 1, 1, 0, 1, 0] c89 = .loop (Code.at [1, 1, 1, 1, 0, 1, 0, 0] c89) := by kernel_rfl
  rw [e]
  unfold N89_4
  exact loop_node [0, 2, 38, 39, 40] (fun x : AV => (sp 54 [(0, x0), (2, x2), (38, x38), (39, x39), (40, (x))])) (fun (x : AV) H kn => N89_4b ρ call yc lim k x0 x2 x38 x39 x H (fun _ _ _ _ x40 H => kn x40 H) (fun x2 H => k2 (sp 54 [(2, x2)]) H) R) (by kernel_rfl) (fun x => by kernel_rfl) (fun x H kn => N89_4b_eq ρ call yc lim k x0 x2 x38 x39 (x) H kn k2 R) x40 (sp 54 [(0, x0), (2, x2), (38, x38), (39, x39), (40, x40)]) H (by kernel_rfl)
noncomputable def N89_3 (ρ : Addr → Option Value) (call : CallF) (yc : YieldF) (lim k : Nat) (x0 x2 x38 x39 x40 : AV) (H : Heap) (kn : AV → Heap → Res) (R : List AV → Heap → Res) : Res :=
  N89_4 ρ call yc lim k x0 x2 x38 x39 x40 H kn R
theorem N89_3_x (ρ : Addr → Option Value) (call : CallF) (yc : YieldF) (lim k : Nat) (J : CodeF) (x0 x2 x38 x39 x40 : AV) (H : Heap) (kn : KS) (R : List AV → Heap → Res) :
    evX (cx ρ) call yc false 89 lim k J (Code.at [1, 1, 1, 1, 0, 1] c89) (sp 54 [(0, x0), (2, x2), (38, x38), (39, x39), (40, x40)]) H (kk (some [2]) kn [] R [2, 3]) =
  J (Code.at [1, 1, 1, 1, 0, 1, 0] c89) (sp 54 [(0, x0), (2, x2), (38, x38), (39, x39), (40, x40)]) H (kk (some [2]) kn [(2, (some [2]), kn)] R [2, 3]) := by
  kernel_rfl
theorem N89_3_eq (ρ : Addr → Option Value) (call : CallF) (yc : YieldF) (lim k : Nat) (x0 x2 x38 x39 x40 : AV) (H : Heap) (kn : KS) (R : List AV → Heap → Res) :
    evL (cx ρ) call yc false 89 lim k (Code.at [1, 1, 1, 1, 0, 1] c89) (sp 54 [(0, x0), (2, x2), (38, x38), (39, x39), (40, x40)]) H (kk (some [2]) kn [] R [2, 3]) = N89_3 ρ call yc lim k x0 x2 x38 x39 x40 H (fun x2 H => kn (sp 54 [(2, x2)]) H) R := by
  rw [evL_X, N89_3_x]
  simp only [← evL_X, N89_3, N89_4_eq]
noncomputable def N89_1 (ρ : Addr → Option Value) (call : CallF) (yc : YieldF) (lim k : Nat) (x0 x2 x4 : AV) (H : Heap) (R : List AV → Heap → Res) : Res :=
  resK (call lim 147 [x4, (.fn (.func 148) [] [])] H) fun x37_1 H =>
  purK (lenS x4) fun x39_1 =>
  N89_3 ρ call yc lim k x0 x2 x4 x39_1 (.int .i64 0) H (fun x2_1 H =>
    N89_2 ρ call yc lim k x2_1 H R) R
theorem N89_1_x (ρ : Addr → Option Value) (call : CallF) (yc : YieldF) (lim k : Nat) (J : CodeF) (x0 x2 x4 : AV) (H : Heap) (R : List AV → Heap → Res) :
    evX (cx ρ) call yc false 89 lim k J (Code.at [1, 1, 1] c89) (sp 54 [(0, x0), (2, x2), (4, x4)]) H (kk none (fun s H => R (([2, 3] : List Nat).map fun t => s.getD t (.tup [])) H) [] R [2, 3]) =
  resK (call lim 147 [x4, (.fn (.func 148) [] [])] H) fun x37_1 H =>
  purK (lenS x4) fun x39_1 =>
  J (Code.at [1, 1, 1, 1, 0, 1] c89) (sp 54 [(0, x0), (2, x2), (38, x4), (39, x39_1), (40, (.int .i64 0))]) H (kk (some [2]) (fun s H => J (Code.at [1, 1, 1, 1, 1] c89) s H (kk none (fun s H => R (([2, 3] : List Nat).map fun t => s.getD t (.tup [])) H) [] R [2, 3])) [] R [2, 3]) := by
  kernel_rfl
theorem N89_1_eq (ρ : Addr → Option Value) (call : CallF) (yc : YieldF) (lim k : Nat) (x0 x2 x4 : AV) (H : Heap) (R : List AV → Heap → Res) :
    evL (cx ρ) call yc false 89 lim k (Code.at [1, 1, 1] c89) (sp 54 [(0, x0), (2, x2), (4, x4)]) H (kk none (fun s H => R (([2, 3] : List Nat).map fun t => s.getD t (.tup [])) H) [] R [2, 3]) = N89_1 ρ call yc lim k x0 x2 x4 H R := by
  rw [evL_X, N89_1_x]
  simp only [← evL_X, N89_1, N89_2_eq, N89_3_eq]
noncomputable def N89_7 (ρ : Addr → Option Value) (call : CallF) (yc : YieldF) (lim k : Nat) (x0 x2 x4 x14 : AV) (H : Heap) (kn : AV → AV → AV → AV → Heap → Res) : Res :=
  purK (binA Tryz.prog H .add 3 x14 (.int .i64 1)) fun x35_1 =>
  kn x0 x2 x4 x35_1 H
theorem N89_7_eq (ρ : Addr → Option Value) (call : CallF) (yc : YieldF) (lim k : Nat) (x0 x2 x4 x14 : AV) (H : Heap) (kn : KS) (k0 : KS) (R : List AV → Heap → Res) :
    evL (cx ρ) call yc false 89 lim k (Code.at [1, 1, 0, 1, 0, 0, 1, 1, 1] c89) (sp 54 [(0, x0), (2, x2), (4, x4), (14, x14)]) H (kk (some [0, 2, 4, 14]) kn [(0, (some [0, 2, 4]), k0)] R [2, 3]) = N89_7 ρ call yc lim k x0 x2 x4 x14 H (fun x0 x2 x4 x14 H => kn (sp 54 [(0, x0), (2, x2), (4, x4), (14, x14)]) H) := by
  kernel_rfl
noncomputable def N89_6b (ρ : Addr → Option Value) (call : CallF) (yc : YieldF) (lim k : Nat) (x0 x2 x4 x14 : AV) (H : Heap) (kn : AV → AV → AV → AV → Heap → Res) (k0 : AV → AV → AV → Heap → Res) : Res :=
  purK (binA Tryz.prog H .lss 3 x14 (.int .i64 2)) fun x15_1 =>
  condK x15_1
  (
    purK (bldA [.int .i64 0, .int .i64 0] [(0, 1, (.int .i64 2)), (1, 1, x14)]) fun x20_1 =>
    resK (call lim 145 [x0, x20_1] H) fun x21_1 H =>
    purK (extA 0 x21_1) fun x22_1 =>
    purK (extA 1 x21_1) fun x23_1 =>
    resK (call lim 146 [x22_1] H) fun x26_1 H =>
    purK (extA 0 x26_1) fun x27_1 =>
    purK (extA 1 x26_1) fun x28_1 =>
    effK H (some (.ptr H.sz 0 0, .new (newCells 229 false [.int .i64 0, .int .i64 0, .int .u64 0]))) fun x8_1 H =>
    effK H (stA lim H 3 x8_1 x27_1) fun _ H =>
    purK (binA Tryz.prog H .eql 30 x28_1 (.int .i64 0)) fun x30_1 =>
    condK x30_1
    (
      purK (ldN ρ H 3 x8_1) fun x32_1 =>
      effK H (bldS H 229 3 [.int .i64 0, .int .i64 0, .int .u64 0] 1 [(0, 3, x32_1)]) fun x33_1 H =>
      effK H (apA ρ lim H 229 3 24 x4 x33_1) fun x34_1 H =>
      N89_7 ρ call yc lim k x0 x2 x34_1 x14 H kn)
    (
      N89_7 ρ call yc lim k x0 x2 x4 x14 H kn))
  (
    k0 x0 x2 x4 H)
theorem N89_6b_x (ρ : Addr → Option Value) (call : CallF) (yc : YieldF) (lim k : Nat) (J : CodeF) (x0 x2 x4 x14 : AV) (H : Heap) (kn : KS) (k0 : KS) (R : List AV → Heap → Res) :
    evX (cx ρ) call yc false 89 lim k J (Code.at [1, 1, 0, 1, 0, 0] c89) (sp 54 [(0, x0), (2, x2), (4, x4), (14, x14)]) H (kk (some [0, 2, 4, 14]) kn [(0, (some [0, 2, 4]), k0)] R [2, 3]) =
  purK (binA Tryz.prog H .lss 3 x14 (.int .i64 2)) fun x15_1 =>
  condK x15_1
  (
    purK (bldA [.int .i64 0, .int .i64 0] [(0, 1, (.int .i64 2)), (1, 1, x14)]) fun x20_1 =>
    resK (call lim 145 [x0, x20_1] H) fun x21_1 H =>
    purK (extA 0 x21_1) fun x22_1 =>
    purK (extA 1 x21_1) fun x23_1 =>
    resK (call lim 146 [x22_1] H) fun x26_1 H =>
    purK (extA 0 x26_1) fun x27_1 =>
    purK (extA 1 x26_1) fun x28_1 =>
    effK H (some (.ptr H.sz 0 0, .new (newCells 229 false [.int .i64 0, .int .i64 0, .int .u64 0]))) fun x8_1 H =>
    effK H (stA lim H 3 x8_1 x27_1) fun _ H =>
    purK (binA Tryz.prog H .eql 30 x28_1 (.int .i64 0)) fun x30_1 =>
    condK x30_1
    (
      purK (ldN ρ H 3 x8_1) fun x32_1 =>
      effK H (bldS H 229 3 [.int .i64 0, .int .i64 0, .int .u64 0] 1 [(0, 3, x32_1)]) fun x33_1 H =>
      effK H (apA ρ lim H 229 3 24 x4 x33_1) fun x34_1 H =>
      J (Code.at [1, 1, 0, 1, 0, 0, 1, 1, 1] c89) (sp 54 [(0, x0), (2, x2), (4, x34_1), (14, x14)]) H (kk (some [0, 2, 4, 14]) kn [(0, (some [0, 2, 4]), k0)] R [2, 3]))
    (
      J (Code.at [1, 1, 0, 1, 0, 0, 1, 1, 1] c89) (sp 54 [(0, x0), (2, x2), (4, x4), (14, x14)]) H (kk (some [0, 2, 4, 14]) kn [(0, (some [0, 2, 4]), k0)] R [2, 3])))
  (
    k0 (sp 54 [(0, x0), (2, x2), (4, x4)]) H) := by
  kernel_rfl
theorem N89_6b_eq (ρ : Addr → Option Value) (call : CallF) (yc : YieldF) (lim k : Nat) (x0 x2 x4 x14 : AV) (H : Heap) (kn : KS) (k0 : KS) (R : List AV → Heap → Res) :
    evL (cx ρ) call yc false 89 lim k (Code.at [1, 1, 0, 1, 0, 0] c89) (sp 54 [(0, x0), (2, x2), (4, x4), (14, x14)]) H (kk (some [0, 2, 4, 14]) kn [(0, (some [0, 2, 4]), k0)] R [2, 3]) = N89_6b ρ call yc lim k x0 x2 x4 x14 H (fun x0 x2 x4 x14 H => kn (sp 54 [(0, x0), (2, x2), (4, x4), (14, x14)]) H) (fun x0 x2 x4 H => k0 (sp 54 [(0, x0), (2, x2), (4, x4)]) H) := by
  rw [evL_X, N89_6b_x]
  simp only [← evL_X, N89_6b, N89_7_eq]
noncomputable def N89_6 (ρ : Addr → Option Value) (call : CallF) (yc : YieldF) (lim k : Nat) (x0 x2 x4 x14 : AV) (H : Heap) (k0 : AV → AV → AV → Heap → Res) : Res :=
  loopL (fun (x : AV × AV) H kn => N89_6b ρ call yc lim k x0 x2 x.1 x.2 H (fun _ _ x4 x14 H => kn (x4, x14) H) k0) k (x4, x14) H
theorem N89_6_eq (ρ : Addr → Option Value) (call : CallF) (yc : YieldF) (lim k : Nat) (x0 x2 x4 x14 : AV) (H : Heap) (kn : KS) (k0 : KS) (R : List AV → Heap → Res) :
    evL (cx ρ) call yc false 89 lim k (Code.at [1, 1, 0, 1, 0] c89) (sp 54 [(0, x0), (2, x2), (4, x4), (14, x14)]) H (kk (some [0, 2, 4]) kn [(0, (some [0, 2, 4]), k0)] R [2, 3]) = N89_6 ρ call yc lim k x0 x2 x4 x14 H (fun x0 x2 x4 H => k0 (sp 54 [(0, x0), (2, x2), (4, x4)]) H) := by
  have e : Code.at [1, 1, 0, 1, 0] c89 = .loop (Code.at [1, 1, 0, 1, 0, 0] c89) := by kernel_rfl
  rw [e]
  unfold N89_6
  exact loop_node [0, 2, 4, 14] (fun x : AV × AV => (sp 54 [(0, x0), (2, x2), (4, (x.1)), (14, (x.2))])) (fun (x : AV × AV) H kn => N89_6b ρ call yc lim k x0 x2 x.1 x.2 H (fun _ _ x4 x14 H => kn (x4, x14) H) (fun x0 x2 x4 H => k0 (sp 54 [(0, x0), (2, x2), (4, x4)]) H)) (by kernel_rfl) (fun x => by kernel_rfl) (fun x H kn => N89_6b_eq ρ call yc lim k x0 x2 (x.1) (x.2) H kn k0 R) (x4, x14) (sp 54 [(0, x0), (2, x2), (4, x4), (14, x14)]) H (by kernel_rfl)
noncomputable def N89_5 (ρ : Addr → Option Value) (call : CallF) (yc : YieldF) (lim k : Nat) (x0 x2 x4 x14 : AV) (H : Heap) (kn : AV → AV → AV → Heap → Res) : Res :=
  N89_6 ρ call yc lim k x0 x2 x4 x14 H kn
theorem N89_5_x (ρ : Addr → Option Value) (call : CallF) (yc : YieldF) (lim k : Nat) (J : CodeF) (x0 x2 x4 x14 : AV) (H : Heap) (kn : KS) (R : List AV → Heap → Res) :
    evX (cx ρ) call yc false 89 lim k J (Code.at [1, 1, 0, 1] c89) (sp 54 [(0, x0), (2, x2), (4, x4), (14, x14)]) H (kk (some [0, 2, 4]) kn [] R [2, 3]) =
  J (Code.at [1, 1, 0, 1, 0] c89) (sp 54 [(0, x0), (2, x2), (4, x4), (14, x14)]) H (kk (some [0, 2, 4]) kn [(0, (some [0, 2, 4]), kn)] R [2, 3]) := by
  kernel_rfl
theorem N89_5_eq (ρ : Addr → Option Value) (call : CallF) (yc : YieldF) (lim k : Nat) (x0 x2 x4 x14 : AV) (H : Heap) (kn : KS) (R : List AV → Heap → Res) :
    evL (cx ρ) call yc false 89 lim k (Code.at [1, 1, 0, 1] c89) (sp 54 [(0, x0), (2, x2), (4, x4), (14, x14)]) H (kk (some [0, 2, 4]) kn [] R [2, 3]) = N89_5 ρ call yc lim k x0 x2 x4 x14 H (fun x0 x2 x4 H => kn (sp 54 [(0, x0), (2, x2), (4, x4)]) H) := by
  rw [evL_X, N89_5_x]
  simp only [← evL_X, N89_5, N89_6_eq]
noncomputable def L89 (ρ : Addr → Option Value) (call : CallF) (yc : YieldF) (lim k : Nat) (x0 : AV) (H : Heap) : Res :=
  effK H (some (.ptr H.sz 0 0, .new (newCells 161 false [.int .i64 0, .int .i64 0, .nils, .nils]))) fun x2 H =>
  N89_5 ρ call yc lim k x0 x2 .nils (.int .i64 0) H (fun x0_1 x2_1 x4 H =>
    N89_1 ρ call yc lim k x0_1 x2_1 x4 H (retC (cx ρ) [some 161, none]))
theorem L89_x (ρ : Addr → Option Value) (call : CallF) (yc : YieldF) (lim k : Nat) (J : CodeF) (x0 : AV) (H : Heap) :
    evX (cx ρ) call yc false 89 lim k J c89 [x0, (.tup []), (.tup []), (.tup []), (.tup []), (.tup []), (.tup []), (.tup []), (.tup []), (.tup []), (.tup []), (.tup []), (.tup []), (.tup []), (.tup []), (.tup []), (.tup []), (.tup []), (.tup []), (.tup []), (.tup []), (.tup []), (.tup []), (.tup []), (.tup []), (.tup []), (.tup []), (.tup []), (.tup []), (.tup []), (.tup []), (.tup []), (.tup []), (.tup []), (.tup []), (.tup []), (.tup []), (.tup []), (.tup []), (.tup []), (.tup []), (.tup []), (.tup []), (.tup []), (.tup []), (.tup []), (.tup []), (.tup []), (.tup []), (.tup []), (.tup []), (.tup []), (.tup []), (.tup [])] H (kk none (fun s H => (retC (cx ρ) [some 161, none]) (([2, 3] : List Nat).map fun t => s.getD t (.tup [])) H) [] (retC (cx ρ) [some 161, none]) [2, 3]) =
  effK H (some (.ptr H.sz 0 0, .new (newCells 161 false [.int .i64 0, .int .i64 0, .nils, .nils]))) fun x2 H =>
  J (Code.at [1, 1, 0, 1] c89) (sp 54 [(0, x0), (2, x2), (4, .nils), (14, (.int .i64 0))]) H (kk (some [0, 2, 4]) (fun s H => J (Code.at [1, 1, 1] c89) s H (kk none (fun s H => (retC (cx ρ) [some 161, none]) (([2, 3] : List Nat).map fun t => s.getD t (.tup [])) H) [] (retC (cx ρ) [some 161, none]) [2, 3])) [] (retC (cx ρ) [some 161, none]) [2, 3]) := by
  kernel_rfl
theorem G89 (ρ : Addr → Option Value) (call : CallF) (yc : YieldF) (lim k : Nat) (x0 : AV) (H : Heap) :
    evL (cx ρ) call yc false 89 lim k c89 [x0, (.tup []), (.tup []), (.tup []), (.tup []), (.tup []), (.tup []), (.tup []), (.tup []), (.tup []), (.tup []), (.tup []), (.tup []), (.tup []), (.tup []), (.tup []), (.tup []), (.tup []), (.tup []), (.tup []), (.tup []), (.tup []), (.tup []), (.tup []), (.tup []), (.tup []), (.tup []), (.tup []), (.tup []), (.tup []), (.tup []), (.tup []), (.tup []), (.tup []), (.tup []), (.tup []), (.tup []), (.tup []), (.tup []), (.tup []), (.tup []), (.tup []), (.tup []), (.tup []), (.tup []), (.tup []), (.tup []), (.tup []), (.tup []), (.tup []), (.tup []), (.tup []), (.tup []), (.tup [])] H (kk none (fun s H => (retC (cx ρ) [some 161, none]) (([2, 3] : List Nat).map fun t => s.getD t (.tup [])) H) [] (retC (cx ρ) [some 161, none]) [2, 3]) = L89 ρ call yc lim k x0 H := by
  rw [evL_X, L89_x]
  simp only [← evL_X, L89, N89_1_eq, N89_5_eq]
theorem E89 (ρ : Addr → Option Value) (k lim : Nat) (x0 : AV) (H : Heap) : evCall (cx ρ) (k + 1) lim 89 [x0] H = L89 ρ (evCall (cx ρ) k) (evCY (cx ρ) k).2 lim k x0 H := by
  rw [evCall_cells (cx ρ) k lim 89 _ H Tryz.f89 c89 [2, 3] [some 161, none] (by kernel_rfl) (by kernel_rfl) (by kernel_rfl) (by kernel_rfl) (by kernel_rfl) (by kernel_rfl)]
  exact G89 ρ (evCall (cx ρ) k) (evCY (cx ρ) k).2 lim k x0 H
end Go.Proofs.YtdiafdmgenefnaaGreat
