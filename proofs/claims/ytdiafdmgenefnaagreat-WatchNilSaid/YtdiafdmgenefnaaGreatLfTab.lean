/- The tables of the program: what is live, how draws go. Printed by a program of this repo. -/
import Derived.Test.YtdiafdmgenefnaaGreatEvN
import Derived.Test.YtdiafdmgenefnaaGreatEvQ
import Derived.Test.YtdiafdmgenefnaaGreatProg
import Derived.KernelRfl
set_option linter.unusedVariables false
namespace Go.Proofs.YtdiafdmgenefnaaGreat
open Go.Ev Go.RowKit
def dr : FuncId → Nat → Option (List (Nat × Bool))
  | 13, 4 => some [(0, true), (4, true), (5, true), (6, true), (7, true), (8, true), (9, true), (10, true), (11, true), (12, true), (13, true), (14, true), (15, true), (1, false), (2, true), (3, true), (16, true), (17, true)]
  | 18, 1 => some [(12, true), (0, true), (1, true), (2, true), (3, true), (4, true), (5, true), (6, true), (7, true), (8, false), (9, true), (10, true), (11, true), (13, false), (14, true)]
  | 28, 9 => some [(0, true), (1, true), (2, true), (3, true), (5, true), (6, true), (7, true), (8, true), (4, false), (9, false), (10, true)]
  | 28, 10 => some [(0, true), (1, true), (2, true), (3, true), (5, true), (6, true), (7, true), (8, true), (4, false), (9, false), (10, true)]
  | 28, 17 => some [(0, true), (1, true), (2, true), (3, true), (5, true), (6, true), (7, true), (8, true), (4, false), (9, false)]
  | 29, 10 => some [(0, true), (1, true), (2, true), (3, true), (5, true), (6, true), (7, true), (8, true), (4, false), (9, false), (10, true), (11, true), (12, true), (13, true), (14, true)]
  | 54, 5 => some [(0, true), (1, true), (2, true), (3, true), (5, true), (6, true), (7, true), (8, true), (4, false), (9, false), (10, true), (11, true)]
  | 66, 6 => some [(0, true), (1, true), (2, true), (3, true), (4, true), (5, true), (7, true), (9, true), (6, false), (8, true), (10, false), (11, true), (12, true), (13, true), (14, true)]
  | 73, 11 => some [(0, true), (1, true), (2, true), (3, true), (4, true), (5, true), (6, false)]
  | 81, 8 => some [(0, true), (1, true), (2, true), (3, true), (4, true), (5, true), (6, true), (7, true), (9, true), (10, true), (11, true), (12, true), (13, true), (14, true), (8, false), (15, false), (16, true), (17, true), (18, false), (19, true), (20, true), (21, false)]
  | 83, 3 => some [(0, true), (1, true), (2, true), (3, true), (4, true), (5, true), (6, true), (7, true), (8, true), (9, true), (10, true), (11, true), (12, true), (13, true), (14, false), (15, false)]
  | 92, 6 => some [(0, true), (1, true), (2, true), (3, true), (4, true), (5, true), (7, true), (6, false), (8, true), (9, false), (10, true), (11, true)]
  | 117, 1 => some [(0, true), (1, true), (2, true), (3, true), (4, true), (5, true), (6, true), (7, true), (8, true), (9, true), (10, true), (11, true), (12, true), (15, true), (13, false), (14, false), (16, false), (17, true), (18, true), (19, true)]
  | 129, 2 => some [(0, true), (1, true), (2, true), (3, true), (4, true), (5, true), (8, true), (9, true), (10, true), (11, true), (6, false), (7, false), (12, false), (13, true), (14, true), (15, false), (16, true), (17, true), (18, false)]
  | 131, 2 => some [(0, true), (1, true), (2, true), (3, true), (6, true), (7, true), (8, true), (9, true), (4, false), (5, false), (10, true)]
  | 133, 1 => some [(12, true), (0, true), (1, true), (2, true), (3, true), (4, true), (5, true), (6, true), (7, true), (8, false), (9, true), (10, true), (11, true), (13, false), (14, true)]
  | 134, 1 => some [(0, true), (1, true), (2, true), (3, true), (5, true), (6, true), (7, true), (8, true), (4, false), (9, false), (10, true), (11, true), (12, true), (13, true), (14, true)]
  | 158, 1 => some [(12, true), (0, true), (1, true), (2, true), (3, true), (4, true), (5, true), (6, true), (7, true), (8, false), (9, true), (10, true), (11, true), (13, false), (14, true)]
  | 166, 4 => some [(0, true), (1, true), (2, true), (5, true), (6, true), (7, true), (3, false), (4, false), (8, true), (9, true)]
  | 205, 1 => some [(0, true), (1, true), (2, true), (3, true), (5, true), (6, true), (7, true), (8, true), (9, true), (12, true), (4, false), (10, false), (11, true), (13, false), (14, true), (15, true), (16, true), (17, true), (18, true)]
  | 240, 8 => some [(0, true), (1, true), (2, true), (3, true), (4, true), (5, true), (6, true), (7, true), (8, true), (9, true), (10, true), (11, true), (13, true), (12, false), (14, true), (15, false), (16, true)]
  | 244, 7 => some [(0, true), (1, true), (2, true), (3, true), (5, true), (6, true), (7, true), (8, true), (4, false), (9, false), (10, true), (11, true), (12, true), (13, true), (14, true)]
  | 244, 16 => some [(0, true), (1, true), (2, true), (3, true), (5, true), (6, true), (7, true), (8, true), (9, true), (10, true), (4, false), (11, false), (12, true), (13, false), (14, true), (15, true), (16, true), (17, true), (18, true)]
  | 258, 4 => some [(0, true), (1, true), (2, true), (3, true), (5, true), (6, true), (7, true), (8, true), (9, true), (4, false), (10, false), (11, true)]
  | 275, 3 => some [(0, true), (1, true), (2, true), (3, true), (5, true), (6, true), (7, true), (8, true), (9, true), (4, false), (10, true), (11, true)]
  | 297, 3 => some [(0, true), (1, true), (2, true), (3, true), (4, true), (7, true), (5, false), (6, false), (8, false), (9, true), (10, true), (11, true)]
  | 303, 1 => some [(0, true), (1, true), (2, true), (3, true), (4, true), (6, true), (5, false), (7, false), (8, false), (9, true)]
  | 311, 3 => some [(0, true), (1, true), (2, true), (3, true), (4, true), (5, true), (6, true), (7, true), (9, true), (11, true), (12, true), (13, true), (14, true), (8, false), (10, false), (15, false), (16, false), (17, true)]
  | 313, 12 => some [(0, true), (1, true), (2, true), (3, true), (4, true), (6, true), (7, true), (8, true), (9, true), (10, true), (11, true), (5, false), (12, false), (13, true), (14, true), (15, true), (16, true), (17, true), (18, false), (19, true)]
  | 313, 17 => some [(0, true), (1, true), (2, true), (3, true), (4, true), (6, true), (7, true), (8, true), (9, true), (10, true), (11, true), (12, true), (13, true), (14, true), (15, true), (5, false), (16, false), (17, true), (18, true), (19, true), (20, true), (21, true), (22, false), (23, true)]
  | 313, 23 => some [(0, true), (1, true), (2, true), (3, true), (4, true), (6, true), (7, true), (8, true), (9, true), (10, true), (11, true), (12, true), (13, true), (14, true), (15, true), (5, false), (16, false), (17, true), (18, true), (19, true), (20, true), (21, true), (22, false), (23, true)]
  | 313, 4 => some [(0, true), (1, true), (2, true), (3, true), (5, true), (6, true), (7, true), (8, true), (9, true), (4, false), (10, false), (11, true), (12, true), (13, false), (14, true), (15, true), (16, true), (17, true), (18, true)]
  | 319, 3 => some [(9, true), (0, true), (1, true), (2, true), (3, true), (5, true), (6, true), (4, false), (7, false), (8, true), (10, false), (11, true), (12, true), (13, true), (14, true)]
  | 324, 11 => some [(0, true), (1, true), (2, true), (3, true), (5, true), (6, true), (7, true), (8, true), (9, true), (4, false), (10, false), (11, true)]
  | 326, 0 => some [(0, true), (1, true), (2, true), (3, true), (5, true), (6, true), (7, true), (8, true), (4, false), (9, false)]
  | 329, 1 => some [(0, true), (1, true), (2, true), (3, true), (6, true), (7, true), (8, true), (9, true), (4, false), (5, true), (10, true), (11, true), (12, true)]
  | 330, 1 => some [(0, true), (1, true), (2, true), (3, true), (6, true), (7, true), (8, true), (9, true), (4, false), (5, true), (10, false), (11, true), (12, true), (13, true)]
  | 378, 6 => some [(0, true), (1, true), (2, true), (3, true), (4, true), (5, true), (8, true), (9, true), (10, true), (11, true), (14, true), (15, true), (16, true), (17, true), (18, true), (6, false), (7, false), (12, false), (13, true), (19, false), (20, true), (21, true), (22, true)]
  | 385, 5 => some [(0, true), (1, true), (3, true), (6, true), (7, true), (8, true), (2, false), (4, true), (5, true), (9, true), (10, true), (11, true)]
  | _, _ => none
def xk : FuncId → Option XK
  | 245 => some (.load .u64)
  | 314 => some (.store)
  | 327 => some (.add .u64)
  | 373 => some (.cas .u64)
  | 374 => some (.add .i64)
  | _ => none
def lv5 : Nat → Option (List Nat)
  | 13 => some [0, 6, 7]
  | _ => none
def lv6 : Nat → Option (List Nat)
  | 6 => some [4]
  | _ => none
def lv8 : Nat → Option (List Nat)
  | 2 => some [0, 1, 5]
  | 5 => some [5]
  | _ => none
def lv17 : Nat → Option (List Nat)
  | 5 => some [0, 1, 5, 6]
  | 6 => some [0, 1, 5, 6]
  | 11 => some [0, 5]
  | _ => none
def lv18 : Nat → Option (List Nat)
  | 4 => some [6]
  | _ => none
def lv21 : Nat → Option (List Nat)
  | 1 => some [0, 10, 11]
  | 6 => some [0]
  | 7 => some [0, 28, 29, 30]
  | _ => none
def lv28 : Nat → Option (List Nat)
  | 13 => some [0, 4]
  | _ => none
def lv29 : Nat → Option (List Nat)
  | 8 => some [0, 28, 29, 30]
  | 18 => some []
  | 19 => some [0, 28, 29, 30]
  | 20 => some []
  | _ => none
def lv37 : Nat → Option (List Nat)
  | 2 => some [0, 1, 7, 8]
  | 7 => some []
  | _ => none
def lv46 : Nat → Option (List Nat)
  | 6 => some [1, 2]
  | _ => none
def lv50 : Nat → Option (List Nat)
  | 9 => some [0, 1]
  | 17 => some [0, 1]
  | _ => none
def lv56 : Nat → Option (List Nat)
  | 5 => some [0, 3, 18, 19, 20]
  | 10 => some [0, 3, 18, 19, 20]
  | 11 => some [3]
  | _ => none
def lv89 : Nat → Option (List Nat)
  | 3 => some [0, 2, 4, 14]
  | 9 => some [0, 2, 4, 14]
  | 10 => some [0, 2, 4]
  | 12 => some [0, 2, 38, 39, 40]
  | 18 => some [2]
  | _ => none
def lv91 : Nat → Option (List Nat)
  | 9 => some [6, 8, 9, 38, 39]
  | 16 => some [9]
  | _ => none
def lv101 : Nat → Option (List Nat)
  | 5 => some [0, 1, 5, 6, 14, 15, 16]
  | 10 => some [0, 1, 5, 6, 14, 15, 16]
  | 11 => some [0, 5, 6]
  | _ => none
def lv102 : Nat → Option (List Nat)
  | 5 => some [0, 3, 11, 12, 13]
  | 9 => some [3]
  | _ => none
def lv144 : Nat → Option (List Nat)
  | 1 => some [0, 5]
  | _ => none
def lv156 : Nat → Option (List Nat)
  | 7 => some []
  | 1000003 => some [1, 3]
  | 1000006 => some [15]
  | _ => none
def lv157 : Nat → Option (List Nat)
  | 3 => some [0, 3, 7, 8]
  | 7 => some [3]
  | 8 => some [3, 19]
  | 13 => some [3, 19]
  | 14 => some [3]
  | _ => none
def lv162 : Nat → Option (List Nat)
  | 4 => some [7]
  | _ => none
def lv163 : Nat → Option (List Nat)
  | 3 => some [0, 3, 4]
  | 4 => some [0, 3, 4]
  | 7 => some [3]
  | _ => none
def lv167 : Nat → Option (List Nat)
  | 3 => some [0, 3, 12, 13]
  | 7 => some [3]
  | _ => none
def lv186 : Nat → Option (List Nat)
  | 8 => some []
  | 1000007 => some [10]
  | _ => none
def lv189 : Nat → Option (List Nat)
  | 7 => some [0, 1, 6, 24, 25]
  | 11 => some [0, 1, 6]
  | 14 => some [1, 6, 51, 52, 53]
  | 19 => some [1, 6]
  | _ => none
def lv218 : Nat → Option (List Nat)
  | 4 => some [0, 2]
  | 7 => some [0, 2]
  | 10 => some [0, 2]
  | _ => none
def lv221 : Nat → Option (List Nat)
  | 2 => some [0, 1, 2, 3, 8, 9]
  | 10 => some [0, 1, 2, 3, 8, 9, 10]
  | 15 => some [0, 1, 2, 3, 8, 9, 10, 11, 12]
  | 17 => some [0, 1, 2, 3, 8, 9, 10, 11]
  | _ => none
def lv225 : Nat → Option (List Nat)
  | 2 => some [0, 1, 2, 6, 7, 8]
  | 6 => some [0, 1, 2, 6, 7]
  | 7 => some [0, 1, 2, 6]
  | 9 => some [0, 1, 2, 6, 7, 8]
  | 13 => some [0, 1, 2, 6, 7]
  | 16 => some [0, 1, 2, 6]
  | _ => none
def lv256 : Nat → Option (List Nat)
  | 8 => some [2, 3]
  | _ => none
def lv267 : Nat → Option (List Nat)
  | 2 => some [0, 1, 7, 8]
  | 7 => some []
  | _ => none
def lv271 : Nat → Option (List Nat)
  | 3 => some [3, 7, 8, 9]
  | 6 => some [3, 5, 7, 8, 9, 13]
  | 10 => some [3, 7, 8, 9]
  | 11 => some [3]
  | _ => none
def lv272 : Nat → Option (List Nat)
  | 3 => some [0, 1, 5, 6]
  | 6 => some [5]
  | _ => none
def lv274 : Nat → Option (List Nat)
  | 5 => some [0, 1, 18, 19, 20]
  | 9 => some []
  | _ => none
def lv284 : Nat → Option (List Nat)
  | 1 => some [0, 1, 2, 6]
  | 2 => some [0, 1, 2, 6]
  | 4 => some [0, 1, 2, 6, 7]
  | _ => none
def lv294 : Nat → Option (List Nat)
  | 1 => some [0, 1, 2, 3, 8]
  | 2 => some [0, 1, 2, 3, 8]
  | 4 => some [0, 1, 2, 3, 8, 9]
  | _ => none
def lv301 : Nat → Option (List Nat)
  | 8 => some [11]
  | _ => none
def lv360 : Nat → Option (List Nat)
  | 6 => some [0, 6, 7, 22, 23, 24]
  | 14 => some [6]
  | _ => none
def lv372 : Nat → Option (List Nat)
  | 8 => some [0, 1, 2]
  | 1000005 => some [0, 1, 2, 8]
  | _ => none
def lv378 : Nat → Option (List Nat)
  | 6 => some [0, 1]
  | 1000005 => some [0, 1, 9]
  | _ => none
def lv384 : Nat → Option (List Nat)
  | 3 => some [3, 6, 7, 8]
  | 9 => some []
  | _ => none
def lv397 : Nat → Option (List Nat)
  | 4 => some [0, 1, 7]
  | _ => none
def lv : FuncId → Nat → Option (List Nat)
  | 5 => lv5
  | 6 => lv6
  | 8 => lv8
  | 17 => lv17
  | 18 => lv18
  | 21 => lv21
  | 28 => lv28
  | 29 => lv29
  | 37 => lv37
  | 46 => lv46
  | 50 => lv50
  | 56 => lv56
  | 89 => lv89
  | 91 => lv91
  | 101 => lv101
  | 102 => lv102
  | 144 => lv144
  | 156 => lv156
  | 157 => lv157
  | 162 => lv162
  | 163 => lv163
  | 167 => lv167
  | 186 => lv186
  | 189 => lv189
  | 218 => lv218
  | 221 => lv221
  | 225 => lv225
  | 256 => lv256
  | 267 => lv267
  | 271 => lv271
  | 272 => lv272
  | 274 => lv274
  | 284 => lv284
  | 294 => lv294
  | 301 => lv301
  | 360 => lv360
  | 372 => lv372
  | 378 => lv378
  | 384 => lv384
  | 397 => lv397
  | _ => fun _ => none
noncomputable def cx (ρ : Addr → Option Value) : Ctx := { P := Tryz.prog, ext := xk, ρ := ρ, live := lv, draw := dr, pur := fun _ => false, strict := false }
end Go.Proofs.YtdiafdmgenefnaaGreat
