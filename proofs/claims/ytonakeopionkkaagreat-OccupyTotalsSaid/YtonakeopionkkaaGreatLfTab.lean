/- The tables of the program: what is live, how draws go. Printed by a program of this repo. -/
import Derived.Test.YtonakeopionkkaaGreatEvN
import Derived.Test.YtonakeopionkkaaGreatEvQ
import Derived.Test.YtonakeopionkkaaGreatProg
import Derived.KernelRfl
set_option linter.unusedVariables false
namespace Go.Proofs.YtonakeopionkkaaGreat
open Go.Ev Go.RowKit
def dr : FuncId → Nat → Option (List (Nat × Bool))
  | 4, 29 => some [(0, true), (2, true), (1, false), (3, true), (4, true), (5, true), (6, true), (7, true), (8, true), (9, true), (10, true), (11, true), (12, true), (13, true), (14, true), (15, true), (16, true), (17, true), (19, true), (18, false), (20, false), (21, true), (22, true)]
  | 97, 6 => some [(0, true), (1, true), (2, true), (3, true), (4, true), (5, true), (7, true), (9, true), (6, false), (8, true), (10, false), (11, true), (12, true), (13, true), (14, true)]
  | 98, 3 => some [(0, true), (1, true), (2, true), (3, true), (4, true), (5, true), (6, true), (7, true), (9, true), (11, true), (12, true), (13, true), (14, true), (8, false), (10, false), (15, false), (16, false), (17, true)]
  | 111, 4 => some [(0, true), (1, true), (2, true), (5, true), (6, true), (7, true), (3, false), (4, false), (8, true), (9, true)]
  | 115, 3 => some [(0, true), (1, true), (2, true), (3, true), (4, true), (7, true), (5, false), (6, false), (8, false), (9, true), (10, true), (11, true)]
  | 124, 1 => some [(0, true), (1, true), (2, true), (3, true), (4, true), (5, true), (6, true), (7, true), (8, true), (9, true), (10, true), (11, true), (12, true), (15, true), (13, false), (14, false), (16, false), (17, true), (18, true), (19, true)]
  | 133, 3 => some [(9, true), (0, true), (1, true), (2, true), (3, true), (5, true), (6, true), (4, false), (7, false), (8, true), (10, false), (11, true), (12, true), (13, true), (14, true)]
  | 135, 5 => some [(0, true), (1, true), (3, true), (6, true), (7, true), (8, true), (2, false), (4, true), (5, true), (9, true), (10, true), (11, true)]
  | _, _ => none
def xk : FuncId → Option XK
  | 68 => some (.load .u64)
  | 158 => some (.store)
  | 159 => some (.cas .u64)
  | 160 => some (.add .i64)
  | _ => none
def lv4 : Nat → Option (List Nat)
  | 10 => some [0, 1, 5, 6, 7, 8, 9]
  | 11 => some [0, 1, 5, 6, 7, 8, 9]
  | 15 => some [0, 1, 5, 6, 7, 8, 9, 10]
  | 19 => some [0, 1, 5, 6, 7, 8, 9, 10]
  | 22 => some [0, 1, 5, 6, 7, 8, 9, 10]
  | 24 => some [0, 1, 5, 6, 7, 8]
  | 29 => some [0, 1, 5, 6, 7, 8, 11, 12]
  | 1000014 => some [0, 1, 5, 6, 7, 8, 9, 10, 55]
  | 1000028 => some [0, 1, 5, 6, 7, 8, 11, 12, 133]
  | _ => none
def lv6 : Nat → Option (List Nat)
  | 7 => some [4, 21, 22, 23]
  | 15 => some [4, 21, 22, 23]
  | 16 => some [4]
  | _ => none
def lv7 : Nat → Option (List Nat)
  | 3 => some [4, 7, 8, 9]
  | 7 => some [4, 7, 8, 9]
  | 8 => some [4]
  | _ => none
def lv8 : Nat → Option (List Nat)
  | 3 => some [2, 3, 9, 10, 11]
  | 8 => some [2, 3, 5, 9, 10, 11]
  | 9 => some [2, 3, 9, 10, 11]
  | 10 => some [2, 3]
  | _ => none
def lv9 : Nat → Option (List Nat)
  | 3 => some [1, 5, 8, 9, 10]
  | 7 => some [1, 5, 8, 9, 10]
  | 8 => some [5]
  | _ => none
def lv11 : Nat → Option (List Nat)
  | 4 => some [0, 1, 5]
  | 8 => some []
  | _ => none
def lv12 : Nat → Option (List Nat)
  | 10 => some [1, 2, 6]
  | 1000009 => some [1, 2, 6, 7, 26]
  | _ => none
def lv16 : Nat → Option (List Nat)
  | 3 => some [0, 3, 13, 14]
  | 7 => some [3]
  | _ => none
def lv18 : Nat → Option (List Nat)
  | 5 => some [0, 3, 13, 14]
  | 8 => some [0, 3, 13, 14, 20, 21, 22]
  | 13 => some [0, 3, 13, 14, 20, 21, 22]
  | 14 => some [0, 3, 13, 14]
  | 15 => some [3]
  | _ => none
def lv23 : Nat → Option (List Nat)
  | 6 => some [1, 2]
  | _ => none
def lv29 : Nat → Option (List Nat)
  | 3 => some [3, 7, 8, 9]
  | 6 => some [3, 5, 7, 8, 9, 13]
  | 10 => some [3, 7, 8, 9]
  | 11 => some [3]
  | _ => none
def lv30 : Nat → Option (List Nat)
  | 3 => some [0, 1, 5, 6]
  | 6 => some [5]
  | _ => none
def lv41 : Nat → Option (List Nat)
  | 3 => some [0, 2, 4, 14]
  | 9 => some [0, 2, 4, 14]
  | 10 => some [0, 2, 4]
  | 12 => some [0, 2, 38, 39, 40]
  | 18 => some [2]
  | _ => none
def lv43 : Nat → Option (List Nat)
  | 5 => some [2, 6, 7, 8]
  | 9 => some [6, 8, 9, 38, 39]
  | 15 => some [6, 8, 9, 38, 39]
  | 16 => some [9]
  | _ => none
def lv57 : Nat → Option (List Nat)
  | 6 => some [2, 4, 5, 6]
  | _ => none
def lv64 : Nat → Option (List Nat)
  | 5 => some [1, 2, 6, 7, 8, 9]
  | _ => none
def lv65 : Nat → Option (List Nat)
  | 4 => some [0, 1, 6, 7]
  | _ => none
def lv81 : Nat → Option (List Nat)
  | 2 => some [0, 1, 2, 6, 7, 8]
  | 6 => some [0, 1, 2, 6, 7]
  | 7 => some [0, 1, 2, 6]
  | 9 => some [0, 1, 2, 6, 7, 8]
  | 13 => some [0, 1, 2, 6, 7]
  | 16 => some [0, 1, 2, 6]
  | _ => none
def lv89 : Nat → Option (List Nat)
  | 6 => some [0, 1, 6]
  | _ => none
def lv90 : Nat → Option (List Nat)
  | 4 => some [0, 1, 6, 7]
  | _ => none
def lv91 : Nat → Option (List Nat)
  | 7 => some [4]
  | _ => none
def lv94 : Nat → Option (List Nat)
  | 9 => some [0, 5, 6]
  | _ => none
def lv109 : Nat → Option (List Nat)
  | 1 => some [0, 1, 2, 3, 8]
  | 2 => some [0, 1, 2, 3, 8]
  | 4 => some [0, 1, 2, 3, 8, 9]
  | 5 => some [0, 1, 2, 3, 8, 9]
  | _ => none
def lv122 : Nat → Option (List Nat)
  | 4 => some [7]
  | _ => none
def lv123 : Nat → Option (List Nat)
  | 5 => some [0, 1, 18, 19, 20]
  | 9 => some []
  | _ => none
def lv126 : Nat → Option (List Nat)
  | 8 => some [11]
  | _ => none
def lv150 : Nat → Option (List Nat)
  | 8 => some []
  | 1000007 => some [10]
  | _ => none
def lv : FuncId → Nat → Option (List Nat)
  | 4 => lv4
  | 6 => lv6
  | 7 => lv7
  | 8 => lv8
  | 9 => lv9
  | 11 => lv11
  | 12 => lv12
  | 16 => lv16
  | 18 => lv18
  | 23 => lv23
  | 29 => lv29
  | 30 => lv30
  | 41 => lv41
  | 43 => lv43
  | 57 => lv57
  | 64 => lv64
  | 65 => lv65
  | 81 => lv81
  | 89 => lv89
  | 90 => lv90
  | 91 => lv91
  | 94 => lv94
  | 109 => lv109
  | 122 => lv122
  | 123 => lv123
  | 126 => lv126
  | 150 => lv150
  | _ => fun _ => none
noncomputable def cx (ρ : Addr → Option Value) : Ctx := { P := Tryz.prog, ext := xk, ρ := ρ, live := lv, draw := dr, pur := fun _ => false, strict := false }
end Go.Proofs.YtonakeopionkkaaGreat
