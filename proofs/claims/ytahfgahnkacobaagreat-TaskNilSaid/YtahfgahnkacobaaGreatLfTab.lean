/- The tables of the program: what is live, how draws go. Printed by a program of this repo. -/
import Derived.Test.YtahfgahnkacobaaGreatEvN
import Derived.Test.YtahfgahnkacobaaGreatEvQ
import Derived.Test.YtahfgahnkacobaaGreatProg
import Derived.KernelRfl
set_option linter.unusedVariables false
namespace Go.Proofs.YtahfgahnkacobaaGreat
open Go.Ev Go.RowKit
def dr : FuncId → Nat → Option (List (Nat × Bool))
  | 3, 8 => some [(0, true), (2, true), (1, false), (3, false), (4, true), (5, true), (6, true), (7, true), (8, true), (9, true), (10, true), (11, true), (12, true), (13, true), (14, true), (15, true), (16, true), (17, true), (18, true), (19, true), (20, true), (21, true), (22, true), (23, true), (24, false), (25, true), (26, true), (27, true), (28, true), (29, true), (30, true), (31, true), (32, true), (33, true), (34, true), (35, true), (36, true), (37, true), (38, false), (39, true), (40, true), (41, true), (42, true), (43, false), (44, true), (45, true), (46, true), (47, true), (49, true), (48, false), (50, true), (51, true), (52, true), (53, true), (54, true), (55, true), (56, true), (57, true), (58, true), (59, true), (60, true)]
  | 5, 5 => some [(0, true), (1, true), (2, true), (3, true), (5, true), (6, true), (7, true), (8, true), (4, false), (9, false), (10, true), (11, true)]
  | 8, 6 => some [(0, true), (1, true), (2, true), (3, true), (4, true), (5, true), (7, true), (6, false), (8, true), (9, false), (10, true), (11, true)]
  | 24, 1 => some [(12, true), (0, true), (1, true), (2, true), (3, true), (4, true), (5, true), (6, true), (7, true), (8, false), (9, true), (10, true), (11, true), (13, false), (14, true)]
  | 48, 8 => some [(0, true), (1, true), (2, true), (3, true), (4, true), (5, true), (6, true), (7, true), (8, true), (9, true), (10, true), (11, true), (13, true), (12, false), (14, true), (15, false), (16, true)]
  | 52, 7 => some [(0, true), (1, true), (2, true), (3, true), (5, true), (6, true), (7, true), (8, true), (4, false), (9, false), (10, true), (11, true), (12, true), (13, true), (14, true)]
  | 52, 16 => some [(0, true), (1, true), (2, true), (3, true), (5, true), (6, true), (7, true), (8, true), (9, true), (10, true), (4, false), (11, false), (12, true), (13, false), (14, true), (15, true), (16, true), (17, true), (18, true)]
  | 64, 4 => some [(0, true), (1, true), (2, true), (3, true), (5, true), (6, true), (7, true), (8, true), (9, true), (4, false), (10, false), (11, true)]
  | 69, 1 => some [(0, true), (1, true), (2, true), (3, true), (4, true), (5, true), (6, true), (7, true), (8, true), (9, true), (10, true), (11, true), (12, true), (15, true), (13, false), (14, false), (16, false), (17, true), (18, true), (19, true)]
  | 81, 1 => some [(0, true), (1, true), (2, true), (3, true), (4, true), (6, true), (5, false), (7, false), (8, false), (9, true)]
  | 90, 3 => some [(0, true), (1, true), (2, true), (3, true), (4, true), (5, true), (6, true), (7, true), (9, true), (11, true), (12, true), (13, true), (14, true), (8, false), (10, false), (15, false), (16, false), (17, true)]
  | 92, 12 => some [(0, true), (1, true), (2, true), (3, true), (4, true), (6, true), (7, true), (8, true), (9, true), (10, true), (11, true), (5, false), (12, false), (13, true), (14, true), (15, true), (16, true), (17, true), (18, false), (19, true)]
  | 92, 17 => some [(0, true), (1, true), (2, true), (3, true), (4, true), (6, true), (7, true), (8, true), (9, true), (10, true), (11, true), (12, true), (13, true), (14, true), (15, true), (5, false), (16, false), (17, true), (18, true), (19, true), (20, true), (21, true), (22, false), (23, true)]
  | 92, 23 => some [(0, true), (1, true), (2, true), (3, true), (4, true), (6, true), (7, true), (8, true), (9, true), (10, true), (11, true), (12, true), (13, true), (14, true), (15, true), (5, false), (16, false), (17, true), (18, true), (19, true), (20, true), (21, true), (22, false), (23, true)]
  | 92, 4 => some [(0, true), (1, true), (2, true), (3, true), (5, true), (6, true), (7, true), (8, true), (9, true), (4, false), (10, false), (11, true), (12, true), (13, false), (14, true), (15, true), (16, true), (17, true), (18, true)]
  | 97, 3 => some [(9, true), (0, true), (1, true), (2, true), (3, true), (5, true), (6, true), (4, false), (7, false), (8, true), (10, false), (11, true), (12, true), (13, true), (14, true)]
  | 102, 11 => some [(0, true), (1, true), (2, true), (3, true), (5, true), (6, true), (7, true), (8, true), (9, true), (4, false), (10, false), (11, true)]
  | 104, 0 => some [(0, true), (1, true), (2, true), (3, true), (5, true), (6, true), (7, true), (8, true), (4, false), (9, false)]
  | 118, 3 => some [(0, true), (1, true), (2, true), (3, true), (5, true), (6, true), (7, true), (8, true), (9, true), (4, false), (10, true), (11, true)]
  | 157, 6 => some [(0, true), (1, true), (2, true), (3, true), (4, true), (5, true), (8, true), (9, true), (10, true), (11, true), (14, true), (15, true), (16, true), (17, true), (18, true), (6, false), (7, false), (12, false), (13, true), (19, false), (20, true), (21, true), (22, true)]
  | 164, 5 => some [(0, true), (1, true), (3, true), (6, true), (7, true), (8, true), (2, false), (4, true), (5, true), (9, true), (10, true), (11, true)]
  | 165, 1 => some [(0, true), (1, true), (2, true), (3, true), (6, true), (7, true), (8, true), (9, true), (4, false), (5, true), (10, true), (11, true), (12, true)]
  | 169, 1 => some [(0, true), (1, true), (2, true), (3, true), (6, true), (7, true), (8, true), (9, true), (4, false), (5, true), (10, false), (11, true), (12, true), (13, true)]
  | 204, 6 => some [(0, true), (1, true), (2, true), (3, true), (4, true), (5, true), (7, true), (9, true), (6, false), (8, true), (10, false), (11, true), (12, true), (13, true), (14, true)]
  | _, _ => none
def xk : FuncId → Option XK
  | 112 => some (.load .u64)
  | 147 => some (.store)
  | 148 => some (.cas .u64)
  | 149 => some (.add .i64)
  | 189 => some (.add .u64)
  | _ => none
def lv9 : Nat → Option (List Nat)
  | 7 => some []
  | 1000003 => some [1, 3]
  | 1000006 => some [15]
  | _ => none
def lv11 : Nat → Option (List Nat)
  | 20 => some [0]
  | _ => none
def lv23 : Nat → Option (List Nat)
  | 3 => some [0, 3, 7, 8]
  | 7 => some [3]
  | 8 => some [3, 19]
  | 13 => some [3, 19]
  | 14 => some [3]
  | _ => none
def lv68 : Nat → Option (List Nat)
  | 4 => some [7]
  | _ => none
def lv71 : Nat → Option (List Nat)
  | 8 => some [11]
  | _ => none
def lv73 : Nat → Option (List Nat)
  | 5 => some [0, 1, 18, 19, 20]
  | 9 => some []
  | _ => none
def lv77 : Nat → Option (List Nat)
  | 3 => some [0, 1, 5, 6]
  | 6 => some [5]
  | _ => none
def lv79 : Nat → Option (List Nat)
  | 3 => some [3, 7, 8, 9]
  | 6 => some [3, 5, 7, 8, 9, 13]
  | 10 => some [3, 7, 8, 9]
  | 11 => some [3]
  | _ => none
def lv80 : Nat → Option (List Nat)
  | 2 => some [0, 1, 7, 8]
  | 7 => some []
  | _ => none
def lv111 : Nat → Option (List Nat)
  | 8 => some []
  | 1000007 => some [10]
  | _ => none
def lv : FuncId → Nat → Option (List Nat)
  | 9 => lv9
  | 11 => lv11
  | 23 => lv23
  | 68 => lv68
  | 71 => lv71
  | 73 => lv73
  | 77 => lv77
  | 79 => lv79
  | 80 => lv80
  | 111 => lv111
  | _ => fun _ => none
noncomputable def cx (ρ : Addr → Option Value) : Ctx := { P := Tryz.prog, ext := xk, ρ := ρ, live := lv, draw := dr, pur := fun _ => false, strict := false }
end Go.Proofs.YtahfgahnkacobaaGreat
