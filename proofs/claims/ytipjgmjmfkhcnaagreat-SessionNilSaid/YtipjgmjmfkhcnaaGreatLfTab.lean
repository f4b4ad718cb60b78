/- The tables of the program: what is live, how draws go. Printed by a program of this repo. -/
import Derived.Test.YtipjgmjmfkhcnaaGreatEvN
import Derived.Test.YtipjgmjmfkhcnaaGreatEvQ
import Derived.Test.YtipjgmjmfkhcnaaGreatProg
import Derived.KernelRfl
set_option linter.unusedVariables false
namespace Go.Proofs.YtipjgmjmfkhcnaaGreat
open Go.Ev Go.RowKit
def dr : FuncId → Nat → Option (List (Nat × Bool))
  | 6, 9 => some [(0, true), (1, true), (2, true), (3, true), (5, true), (6, true), (7, true), (8, true), (4, false), (9, false), (10, true)]
  | 6, 10 => some [(0, true), (1, true), (2, true), (3, true), (5, true), (6, true), (7, true), (8, true), (4, false), (9, false), (10, true)]
  | 6, 17 => some [(0, true), (1, true), (2, true), (3, true), (5, true), (6, true), (7, true), (8, true), (4, false), (9, false)]
  | 7, 10 => some [(0, true), (1, true), (2, true), (3, true), (5, true), (6, true), (7, true), (8, true), (4, false), (9, false), (10, true), (11, true), (12, true), (13, true), (14, true)]
  | 16, 4 => some [(0, true), (1, true), (2, true), (3, true), (4, true), (5, true), (6, true), (7, true), (8, true), (11, true), (9, false), (10, true)]
  | 17, 6 => some [(0, true), (1, true), (2, true), (3, true), (4, true), (5, true), (7, true), (6, false), (8, true), (9, false), (10, true), (11, true)]
  | 23, 5 => some [(0, true), (1, true), (2, true), (3, true), (5, true), (6, true), (7, true), (8, true), (4, false), (9, false), (10, true), (11, true)]
  | 37, 1 => some [(12, true), (0, true), (1, true), (2, true), (3, true), (4, true), (5, true), (6, true), (7, true), (8, false), (9, true), (10, true), (11, true), (13, false), (14, true)]
  | 62, 8 => some [(0, true), (1, true), (2, true), (3, true), (4, true), (5, true), (6, true), (7, true), (8, true), (9, true), (10, true), (11, true), (13, true), (12, false), (14, true), (15, false), (16, true)]
  | 69, 7 => some [(0, true), (1, true), (2, true), (3, true), (5, true), (6, true), (7, true), (8, true), (4, false), (9, false), (10, true), (11, true), (12, true), (13, true), (14, true)]
  | 69, 16 => some [(0, true), (1, true), (2, true), (3, true), (5, true), (6, true), (7, true), (8, true), (9, true), (10, true), (4, false), (11, false), (12, true), (13, false), (14, true), (15, true), (16, true), (17, true), (18, true)]
  | 79, 4 => some [(0, true), (1, true), (2, true), (5, true), (6, true), (7, true), (3, false), (4, false), (8, true), (9, true)]
  | 94, 1 => some [(0, true), (1, true), (2, true), (3, true), (4, true), (5, true), (6, true), (7, true), (8, true), (9, true), (10, true), (11, true), (12, true), (15, true), (13, false), (14, false), (16, false), (17, true), (18, true), (19, true)]
  | 103, 1 => some [(0, true), (1, true), (2, true), (3, true), (4, true), (6, true), (5, false), (7, false), (8, false), (9, true)]
  | 115, 4 => some [(0, true), (1, true), (2, true), (3, true), (5, true), (6, true), (7, true), (8, true), (9, true), (4, false), (10, false), (11, true)]
  | 118, 3 => some [(0, true), (1, true), (2, true), (3, true), (4, true), (5, true), (6, true), (7, true), (9, true), (11, true), (12, true), (13, true), (14, true), (8, false), (10, false), (15, false), (16, false), (17, true)]
  | 124, 12 => some [(0, true), (1, true), (2, true), (3, true), (4, true), (6, true), (7, true), (8, true), (9, true), (10, true), (11, true), (5, false), (12, false), (13, true), (14, true), (15, true), (16, true), (17, true), (18, false), (19, true)]
  | 124, 17 => some [(0, true), (1, true), (2, true), (3, true), (4, true), (6, true), (7, true), (8, true), (9, true), (10, true), (11, true), (12, true), (13, true), (14, true), (15, true), (5, false), (16, false), (17, true), (18, true), (19, true), (20, true), (21, true), (22, false), (23, true)]
  | 124, 23 => some [(0, true), (1, true), (2, true), (3, true), (4, true), (6, true), (7, true), (8, true), (9, true), (10, true), (11, true), (12, true), (13, true), (14, true), (15, true), (5, false), (16, false), (17, true), (18, true), (19, true), (20, true), (21, true), (22, false), (23, true)]
  | 124, 4 => some [(0, true), (1, true), (2, true), (3, true), (5, true), (6, true), (7, true), (8, true), (9, true), (4, false), (10, false), (11, true), (12, true), (13, false), (14, true), (15, true), (16, true), (17, true), (18, true)]
  | 148, 3 => some [(0, true), (1, true), (2, true), (3, true), (5, true), (6, true), (7, true), (8, true), (9, true), (4, false), (10, true), (11, true)]
  | 155, 11 => some [(0, true), (1, true), (2, true), (3, true), (5, true), (6, true), (7, true), (8, true), (9, true), (4, false), (10, false), (11, true)]
  | 157, 0 => some [(0, true), (1, true), (2, true), (3, true), (5, true), (6, true), (7, true), (8, true), (4, false), (9, false)]
  | 172, 3 => some [(9, true), (0, true), (1, true), (2, true), (3, true), (5, true), (6, true), (4, false), (7, false), (8, true), (10, false), (11, true), (12, true), (13, true), (14, true)]
  | 195, 6 => some [(0, true), (1, true), (2, true), (3, true), (4, true), (5, true), (8, true), (9, true), (10, true), (11, true), (14, true), (15, true), (16, true), (17, true), (18, true), (6, false), (7, false), (12, false), (13, true), (19, false), (20, true), (21, true), (22, true)]
  | 207, 1 => some [(0, true), (1, true), (2, true), (3, true), (6, true), (7, true), (8, true), (9, true), (4, false), (5, true), (10, true), (11, true), (12, true)]
  | 210, 5 => some [(0, true), (1, true), (3, true), (6, true), (7, true), (8, true), (2, false), (4, true), (5, true), (9, true), (10, true), (11, true)]
  | 212, 1 => some [(0, true), (1, true), (2, true), (3, true), (6, true), (7, true), (8, true), (9, true), (4, false), (5, true), (10, false), (11, true), (12, true), (13, true)]
  | 238, 6 => some [(0, true), (1, true), (2, true), (3, true), (4, true), (5, true), (7, true), (9, true), (6, false), (8, true), (10, false), (11, true), (12, true), (13, true), (14, true)]
  | _, _ => none
def xk : FuncId → Option XK
  | 125 => some (.load .u64)
  | 170 => some (.store)
  | 176 => some (.cas .u64)
  | 177 => some (.add .i64)
  | 226 => some (.add .u64)
  | _ => none
def lv6 : Nat → Option (List Nat)
  | 13 => some [0, 4]
  | _ => none
def lv7 : Nat → Option (List Nat)
  | 8 => some [0, 28, 29, 30]
  | 18 => some []
  | 19 => some [0, 28, 29, 30]
  | 20 => some []
  | _ => none
def lv10 : Nat → Option (List Nat)
  | 7 => some [1, 4, 6, 8, 9]
  | 13 => some [8]
  | _ => none
def lv14 : Nat → Option (List Nat)
  | 5 => some [3, 11, 12, 13]
  | 9 => some [3]
  | _ => none
def lv16 : Nat → Option (List Nat)
  | 5 => some [3, 21, 22, 23]
  | 9 => some [3, 21, 22, 23]
  | 10 => some [3]
  | _ => none
def lv19 : Nat → Option (List Nat)
  | 9 => some [0, 1]
  | 17 => some [0, 1]
  | _ => none
def lv25 : Nat → Option (List Nat)
  | 5 => some [0, 3, 18, 19, 20]
  | 10 => some [0, 3, 18, 19, 20]
  | 11 => some [3]
  | _ => none
def lv35 : Nat → Option (List Nat)
  | 7 => some []
  | 1000003 => some [1, 3]
  | 1000006 => some [15]
  | _ => none
def lv36 : Nat → Option (List Nat)
  | 3 => some [0, 3, 7, 8]
  | 7 => some [3]
  | 8 => some [3, 19]
  | 13 => some [3, 19]
  | 14 => some [3]
  | _ => none
def lv45 : Nat → Option (List Nat)
  | 5 => some [0, 1, 5, 6, 14, 15, 16]
  | 10 => some [0, 1, 5, 6, 14, 15, 16]
  | 11 => some [0, 5, 6]
  | _ => none
def lv46 : Nat → Option (List Nat)
  | 5 => some [0, 3, 11, 12, 13]
  | 9 => some [3]
  | _ => none
def lv73 : Nat → Option (List Nat)
  | 4 => some [7]
  | _ => none
def lv74 : Nat → Option (List Nat)
  | 3 => some [0, 3, 4]
  | 4 => some [0, 3, 4]
  | 7 => some [3]
  | _ => none
def lv96 : Nat → Option (List Nat)
  | 8 => some [11]
  | _ => none
def lv98 : Nat → Option (List Nat)
  | 5 => some [0, 1, 18, 19, 20]
  | 9 => some []
  | _ => none
def lv99 : Nat → Option (List Nat)
  | 3 => some [0, 1, 5, 6]
  | 6 => some [5]
  | _ => none
def lv101 : Nat → Option (List Nat)
  | 3 => some [3, 7, 8, 9]
  | 6 => some [3, 5, 7, 8, 9, 13]
  | 10 => some [3, 7, 8, 9]
  | 11 => some [3]
  | _ => none
def lv102 : Nat → Option (List Nat)
  | 2 => some [0, 1, 7, 8]
  | 7 => some []
  | _ => none
def lv142 : Nat → Option (List Nat)
  | 8 => some []
  | 1000007 => some [10]
  | _ => none
def lv : FuncId → Nat → Option (List Nat)
  | 6 => lv6
  | 7 => lv7
  | 10 => lv10
  | 14 => lv14
  | 16 => lv16
  | 19 => lv19
  | 25 => lv25
  | 35 => lv35
  | 36 => lv36
  | 45 => lv45
  | 46 => lv46
  | 73 => lv73
  | 74 => lv74
  | 96 => lv96
  | 98 => lv98
  | 99 => lv99
  | 101 => lv101
  | 102 => lv102
  | 142 => lv142
  | _ => fun _ => none
noncomputable def cx (ρ : Addr → Option Value) : Ctx := { P := Tryz.prog, ext := xk, ρ := ρ, live := lv, draw := dr, pur := fun _ => false, strict := false }
end Go.Proofs.YtipjgmjmfkhcnaaGreat
