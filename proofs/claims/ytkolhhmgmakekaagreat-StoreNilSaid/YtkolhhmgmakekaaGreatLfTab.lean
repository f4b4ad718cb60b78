/- The tables of the program: what is live, how draws go. Printed by a program of this repo. -/
import Derived.Test.YtkolhhmgmakekaaGreatEvN
import Derived.Test.YtkolhhmgmakekaaGreatEvQ
import Derived.Test.YtkolhhmgmakekaaGreatProg
import Derived.KernelRfl
set_option linter.unusedVariables false
namespace Go.Proofs.YtkolhhmgmakekaaGreat
open Go.Ev Go.RowKit
def dr : FuncId → Nat → Option (List (Nat × Bool))
  | 9, 11 => some [(0, true), (1, true), (2, true), (3, true), (4, true), (5, true), (6, false)]
  | 22, 9 => some [(0, true), (1, true), (2, true), (3, true), (5, true), (6, true), (7, true), (8, true), (4, false), (9, false), (10, true)]
  | 22, 10 => some [(0, true), (1, true), (2, true), (3, true), (5, true), (6, true), (7, true), (8, true), (4, false), (9, false), (10, true)]
  | 22, 17 => some [(0, true), (1, true), (2, true), (3, true), (5, true), (6, true), (7, true), (8, true), (4, false), (9, false)]
  | 23, 10 => some [(0, true), (1, true), (2, true), (3, true), (5, true), (6, true), (7, true), (8, true), (4, false), (9, false), (10, true), (11, true), (12, true), (13, true), (14, true)]
  | 47, 5 => some [(0, true), (1, true), (2, true), (3, true), (5, true), (6, true), (7, true), (8, true), (4, false), (9, false), (10, true), (11, true)]
  | 59, 6 => some [(0, true), (1, true), (2, true), (3, true), (4, true), (5, true), (7, true), (9, true), (6, false), (8, true), (10, false), (11, true), (12, true), (13, true), (14, true)]
  | 74, 6 => some [(0, true), (1, true), (2, true), (3, true), (4, true), (5, true), (7, true), (6, false), (8, true), (9, false), (10, true), (11, true)]
  | 99, 1 => some [(0, true), (1, true), (2, true), (3, true), (4, true), (5, true), (6, true), (7, true), (8, true), (9, true), (10, true), (11, true), (12, true), (15, true), (13, false), (14, false), (16, false), (17, true), (18, true), (19, true)]
  | 111, 2 => some [(0, true), (1, true), (2, true), (3, true), (4, true), (5, true), (8, true), (9, true), (10, true), (11, true), (6, false), (7, false), (12, false), (13, true), (14, true), (15, false), (16, true), (17, true), (18, false)]
  | 113, 2 => some [(0, true), (1, true), (2, true), (3, true), (6, true), (7, true), (8, true), (9, true), (4, false), (5, false), (10, true)]
  | 115, 1 => some [(12, true), (0, true), (1, true), (2, true), (3, true), (4, true), (5, true), (6, true), (7, true), (8, false), (9, true), (10, true), (11, true), (13, false), (14, true)]
  | 116, 1 => some [(0, true), (1, true), (2, true), (3, true), (5, true), (6, true), (7, true), (8, true), (4, false), (9, false), (10, true), (11, true), (12, true), (13, true), (14, true)]
  | 132, 1 => some [(12, true), (0, true), (1, true), (2, true), (3, true), (4, true), (5, true), (6, true), (7, true), (8, false), (9, true), (10, true), (11, true), (13, false), (14, true)]
  | 140, 4 => some [(0, true), (1, true), (2, true), (5, true), (6, true), (7, true), (3, false), (4, false), (8, true), (9, true)]
  | 179, 1 => some [(0, true), (1, true), (2, true), (3, true), (5, true), (6, true), (7, true), (8, true), (9, true), (12, true), (4, false), (10, false), (11, true), (13, false), (14, true), (15, true), (16, true), (17, true), (18, true)]
  | 202, 8 => some [(0, true), (1, true), (2, true), (3, true), (4, true), (5, true), (6, true), (7, true), (8, true), (9, true), (10, true), (11, true), (13, true), (12, false), (14, true), (15, false), (16, true)]
  | 206, 7 => some [(0, true), (1, true), (2, true), (3, true), (5, true), (6, true), (7, true), (8, true), (4, false), (9, false), (10, true), (11, true), (12, true), (13, true), (14, true)]
  | 206, 16 => some [(0, true), (1, true), (2, true), (3, true), (5, true), (6, true), (7, true), (8, true), (9, true), (10, true), (4, false), (11, false), (12, true), (13, false), (14, true), (15, true), (16, true), (17, true), (18, true)]
  | 220, 4 => some [(0, true), (1, true), (2, true), (3, true), (5, true), (6, true), (7, true), (8, true), (9, true), (4, false), (10, false), (11, true)]
  | 237, 3 => some [(0, true), (1, true), (2, true), (3, true), (5, true), (6, true), (7, true), (8, true), (9, true), (4, false), (10, true), (11, true)]
  | 243, 3 => some [(0, true), (1, true), (2, true), (3, true), (4, true), (7, true), (5, false), (6, false), (8, false), (9, true), (10, true), (11, true)]
  | 260, 1 => some [(0, true), (1, true), (2, true), (3, true), (4, true), (6, true), (5, false), (7, false), (8, false), (9, true)]
  | 268, 3 => some [(0, true), (1, true), (2, true), (3, true), (4, true), (5, true), (6, true), (7, true), (9, true), (11, true), (12, true), (13, true), (14, true), (8, false), (10, false), (15, false), (16, false), (17, true)]
  | 270, 12 => some [(0, true), (1, true), (2, true), (3, true), (4, true), (6, true), (7, true), (8, true), (9, true), (10, true), (11, true), (5, false), (12, false), (13, true), (14, true), (15, true), (16, true), (17, true), (18, false), (19, true)]
  | 270, 17 => some [(0, true), (1, true), (2, true), (3, true), (4, true), (6, true), (7, true), (8, true), (9, true), (10, true), (11, true), (12, true), (13, true), (14, true), (15, true), (5, false), (16, false), (17, true), (18, true), (19, true), (20, true), (21, true), (22, false), (23, true)]
  | 270, 23 => some [(0, true), (1, true), (2, true), (3, true), (4, true), (6, true), (7, true), (8, true), (9, true), (10, true), (11, true), (12, true), (13, true), (14, true), (15, true), (5, false), (16, false), (17, true), (18, true), (19, true), (20, true), (21, true), (22, false), (23, true)]
  | 270, 4 => some [(0, true), (1, true), (2, true), (3, true), (5, true), (6, true), (7, true), (8, true), (9, true), (4, false), (10, false), (11, true), (12, true), (13, false), (14, true), (15, true), (16, true), (17, true), (18, true)]
  | 276, 3 => some [(9, true), (0, true), (1, true), (2, true), (3, true), (5, true), (6, true), (4, false), (7, false), (8, true), (10, false), (11, true), (12, true), (13, true), (14, true)]
  | 281, 11 => some [(0, true), (1, true), (2, true), (3, true), (5, true), (6, true), (7, true), (8, true), (9, true), (4, false), (10, false), (11, true)]
  | 283, 0 => some [(0, true), (1, true), (2, true), (3, true), (5, true), (6, true), (7, true), (8, true), (4, false), (9, false)]
  | 286, 1 => some [(0, true), (1, true), (2, true), (3, true), (6, true), (7, true), (8, true), (9, true), (4, false), (5, true), (10, true), (11, true), (12, true)]
  | 287, 1 => some [(0, true), (1, true), (2, true), (3, true), (6, true), (7, true), (8, true), (9, true), (4, false), (5, true), (10, false), (11, true), (12, true), (13, true)]
  | 336, 6 => some [(0, true), (1, true), (2, true), (3, true), (4, true), (5, true), (8, true), (9, true), (10, true), (11, true), (14, true), (15, true), (16, true), (17, true), (18, true), (6, false), (7, false), (12, false), (13, true), (19, false), (20, true), (21, true), (22, true)]
  | 343, 5 => some [(0, true), (1, true), (3, true), (6, true), (7, true), (8, true), (2, false), (4, true), (5, true), (9, true), (10, true), (11, true)]
  | _, _ => none
def xk : FuncId → Option XK
  | 207 => some (.load .u64)
  | 271 => some (.store)
  | 284 => some (.add .u64)
  | 330 => some (.cas .u64)
  | 331 => some (.add .i64)
  | _ => none
def lv3 : Nat → Option (List Nat)
  | 13 => some [3, 5, 6, 7, 8, 9, 10, 11, 13, 14, 15]
  | _ => none
def lv9 : Nat → Option (List Nat)
  | 5 => some [0, 1, 16, 17, 18]
  | 12 => some [0, 1, 8, 9, 16, 17, 18]
  | 16 => some [0, 1, 16, 17, 18]
  | 17 => some [0]
  | _ => none
def lv34 : Nat → Option (List Nat)
  | 6 => some [1, 2]
  | _ => none
def lv39 : Nat → Option (List Nat)
  | 2 => some [0, 3]
  | 6 => some []
  | _ => none
def lv69 : Nat → Option (List Nat)
  | 3 => some [0, 2, 4, 14]
  | 9 => some [0, 2, 4, 14]
  | 10 => some [0, 2, 4]
  | 12 => some [0, 2, 38, 39, 40]
  | 18 => some [2]
  | _ => none
def lv71 : Nat → Option (List Nat)
  | 9 => some [6, 8, 9, 38, 39]
  | 16 => some [9]
  | _ => none
def lv129 : Nat → Option (List Nat)
  | 1 => some [0, 5]
  | _ => none
def lv130 : Nat → Option (List Nat)
  | 7 => some []
  | 1000003 => some [1, 3]
  | 1000006 => some [15]
  | _ => none
def lv131 : Nat → Option (List Nat)
  | 3 => some [0, 3, 7, 8]
  | 7 => some [3]
  | 8 => some [3, 19]
  | 13 => some [3, 19]
  | 14 => some [3]
  | _ => none
def lv136 : Nat → Option (List Nat)
  | 4 => some [7]
  | _ => none
def lv160 : Nat → Option (List Nat)
  | 8 => some []
  | 1000007 => some [10]
  | _ => none
def lv185 : Nat → Option (List Nat)
  | 2 => some [0, 1, 2, 6, 7, 8]
  | 6 => some [0, 1, 2, 6, 7]
  | 7 => some [0, 1, 2, 6]
  | 9 => some [0, 1, 2, 6, 7, 8]
  | 13 => some [0, 1, 2, 6, 7]
  | 16 => some [0, 1, 2, 6]
  | _ => none
def lv200 : Nat → Option (List Nat)
  | 2 => some [0, 1, 2, 3, 8, 9]
  | 10 => some [0, 1, 2, 3, 8, 9, 10]
  | 15 => some [0, 1, 2, 3, 8, 9, 10, 11, 12]
  | 17 => some [0, 1, 2, 3, 8, 9, 10, 11]
  | _ => none
def lv236 : Nat → Option (List Nat)
  | 5 => some [0, 1, 18, 19, 20]
  | 9 => some []
  | _ => none
def lv240 : Nat → Option (List Nat)
  | 1 => some [0, 1, 2, 3, 8]
  | 2 => some [0, 1, 2, 3, 8]
  | 4 => some [0, 1, 2, 3, 8, 9]
  | _ => none
def lv247 : Nat → Option (List Nat)
  | 8 => some [11]
  | _ => none
def lv248 : Nat → Option (List Nat)
  | 1 => some [0, 1, 2, 6]
  | 2 => some [0, 1, 2, 6]
  | 4 => some [0, 1, 2, 6, 7]
  | _ => none
def lv258 : Nat → Option (List Nat)
  | 4 => some [0, 2]
  | 7 => some [0, 2]
  | 10 => some [0, 2]
  | _ => none
def lv : FuncId → Nat → Option (List Nat)
  | 3 => lv3
  | 9 => lv9
  | 34 => lv34
  | 39 => lv39
  | 69 => lv69
  | 71 => lv71
  | 129 => lv129
  | 130 => lv130
  | 131 => lv131
  | 136 => lv136
  | 160 => lv160
  | 185 => lv185
  | 200 => lv200
  | 236 => lv236
  | 240 => lv240
  | 247 => lv247
  | 248 => lv248
  | 258 => lv258
  | _ => fun _ => none
noncomputable def cx (ρ : Addr → Option Value) : Ctx := { P := Tryz.prog, ext := xk, ρ := ρ, live := lv, draw := dr, pur := fun _ => false, strict := false }
end Go.Proofs.YtkolhhmgmakekaaGreat
