/- The tables of the program: what is live, how draws go. Printed by a program of this repo. -/
import Derived.Test.YtbnhlcgbigeceaaGreatEvM
import Derived.Test.YtbnhlcgbigeceaaGreatEvQ
import Derived.Test.YtbnhlcgbigeceaaGreatProg
import Derived.KernelRfl
set_option linter.unusedVariables false
namespace Go.Proofs.YtbnhlcgbigeceaaGreat
open Go.Ev Go.RowKit
def dr : FuncId → Nat → Option (List (Nat × Bool))
  | 9, 13 => some [(0, true), (2, true), (3, true), (1, false), (4, false), (5, true)]
  | 30, 3 => some [(0, true), (1, true), (2, true), (3, true), (4, true), (5, true), (6, true), (7, true), (9, true), (11, true), (12, true), (13, true), (14, true), (8, false), (10, false), (15, false), (16, false), (17, true)]
  | 34, 8 => some [(0, true), (1, true), (2, true), (3, true), (4, true), (5, true), (6, true), (7, true), (8, true), (9, true), (10, true), (11, true), (13, true), (12, false), (14, true), (15, false), (16, true)]
  | 42, 9 => some [(0, true), (1, true), (2, true), (3, true), (5, true), (6, true), (7, true), (8, true), (4, false), (9, false), (10, true)]
  | 42, 10 => some [(0, true), (1, true), (2, true), (3, true), (5, true), (6, true), (7, true), (8, true), (4, false), (9, false), (10, true)]
  | 42, 17 => some [(0, true), (1, true), (2, true), (3, true), (5, true), (6, true), (7, true), (8, true), (4, false), (9, false)]
  | 43, 10 => some [(0, true), (1, true), (2, true), (3, true), (5, true), (6, true), (7, true), (8, true), (4, false), (9, false), (10, true), (11, true), (12, true), (13, true), (14, true)]
  | 54, 6 => some [(0, true), (1, true), (2, true), (3, true), (4, true), (5, true), (7, true), (9, true), (6, false), (8, true), (10, false), (11, true), (12, true), (13, true), (14, true)]
  | 76, 2 => some [(0, true), (1, true), (2, true), (3, true), (4, true), (5, true), (7, true), (8, true), (6, false), (9, true), (10, true), (11, true), (12, true), (13, true), (17, true), (14, false), (15, true), (16, false), (18, true), (19, true), (20, true)]
  | 82, 1 => some [(0, true), (1, true), (2, true), (3, true), (4, true), (6, true), (5, false), (7, false), (8, false), (9, true)]
  | 102, 5 => some [(0, true), (1, true), (2, true), (3, true), (5, true), (6, true), (7, true), (8, true), (4, false), (9, false), (10, true), (11, true)]
  | 120, 11 => some [(0, true), (1, true), (2, true), (3, true), (4, true), (5, true), (6, false)]
  | 122, 1 => some [(0, true), (1, true), (2, true), (3, true), (4, true), (5, true), (6, true), (7, true), (8, true), (9, true), (10, true), (11, true), (12, true), (15, true), (13, false), (14, false), (16, false), (17, true), (18, true), (19, true)]
  | 125, 4 => some [(0, true), (1, true), (2, true), (5, true), (6, true), (7, true), (3, false), (4, false), (8, true), (9, true)]
  | 132, 3 => some [(9, true), (0, true), (1, true), (2, true), (3, true), (5, true), (6, true), (4, false), (7, false), (8, true), (10, false), (11, true), (12, true), (13, true), (14, true)]
  | 162, 6 => some [(0, true), (1, true), (2, true), (3, true), (4, true), (5, true), (7, true), (6, false), (8, true), (9, false), (10, true), (11, true)]
  | 192, 2 => some [(0, true), (1, true), (2, true), (3, true), (4, true), (5, true), (8, true), (9, true), (10, true), (11, true), (6, false), (7, false), (12, false), (13, true), (14, true), (15, false), (16, true), (17, true), (18, false)]
  | 194, 2 => some [(0, true), (1, true), (2, true), (3, true), (6, true), (7, true), (8, true), (9, true), (4, false), (5, false), (10, true)]
  | 196, 1 => some [(12, true), (0, true), (1, true), (2, true), (3, true), (4, true), (5, true), (6, true), (7, true), (8, false), (9, true), (10, true), (11, true), (13, false), (14, true)]
  | 197, 1 => some [(0, true), (1, true), (2, true), (3, true), (5, true), (6, true), (7, true), (8, true), (4, false), (9, false), (10, true), (11, true), (12, true), (13, true), (14, true)]
  | 233, 1 => some [(12, true), (0, true), (1, true), (2, true), (3, true), (4, true), (5, true), (6, true), (7, true), (8, false), (9, true), (10, true), (11, true), (13, false), (14, true)]
  | 265, 1 => some [(0, true), (1, true), (2, true), (3, true), (5, true), (6, true), (7, true), (8, true), (9, true), (12, true), (4, false), (10, false), (11, true), (13, false), (14, true), (15, true), (16, true), (17, true), (18, true)]
  | 271, 5 => some [(0, true), (1, true), (3, true), (6, true), (7, true), (8, true), (2, false), (4, true), (5, true), (9, true), (10, true), (11, true)]
  | 277, 3 => some [(0, true), (1, true), (2, true), (3, true), (4, true), (7, true), (5, false), (6, false), (8, false), (9, true), (10, true), (11, true)]
  | 285, 7 => some [(0, true), (1, true), (2, true), (3, true), (5, true), (6, true), (7, true), (8, true), (4, false), (9, false), (10, true), (11, true), (12, true), (13, true), (14, true)]
  | 285, 16 => some [(0, true), (1, true), (2, true), (3, true), (5, true), (6, true), (7, true), (8, true), (9, true), (10, true), (4, false), (11, false), (12, true), (13, false), (14, true), (15, true), (16, true), (17, true), (18, true)]
  | 290, 4 => some [(0, true), (1, true), (2, true), (3, true), (5, true), (6, true), (7, true), (8, true), (9, true), (4, false), (10, false), (11, true)]
  | 302, 3 => some [(0, true), (1, true), (2, true), (3, true), (5, true), (6, true), (7, true), (8, true), (9, true), (4, false), (10, true), (11, true)]
  | 316, 12 => some [(0, true), (1, true), (2, true), (3, true), (4, true), (6, true), (7, true), (8, true), (9, true), (10, true), (11, true), (5, false), (12, false), (13, true), (14, true), (15, true), (16, true), (17, true), (18, false), (19, true)]
  | 316, 17 => some [(0, true), (1, true), (2, true), (3, true), (4, true), (6, true), (7, true), (8, true), (9, true), (10, true), (11, true), (12, true), (13, true), (14, true), (15, true), (5, false), (16, false), (17, true), (18, true), (19, true), (20, true), (21, true), (22, false), (23, true)]
  | 316, 23 => some [(0, true), (1, true), (2, true), (3, true), (4, true), (6, true), (7, true), (8, true), (9, true), (10, true), (11, true), (12, true), (13, true), (14, true), (15, true), (5, false), (16, false), (17, true), (18, true), (19, true), (20, true), (21, true), (22, false), (23, true)]
  | 316, 4 => some [(0, true), (1, true), (2, true), (3, true), (5, true), (6, true), (7, true), (8, true), (9, true), (4, false), (10, false), (11, true), (12, true), (13, false), (14, true), (15, true), (16, true), (17, true), (18, true)]
  | 322, 11 => some [(0, true), (1, true), (2, true), (3, true), (5, true), (6, true), (7, true), (8, true), (9, true), (4, false), (10, false), (11, true)]
  | 324, 0 => some [(0, true), (1, true), (2, true), (3, true), (5, true), (6, true), (7, true), (8, true), (4, false), (9, false)]
  | 336, 1 => some [(0, true), (1, true), (2, true), (3, true), (6, true), (7, true), (8, true), (9, true), (4, false), (5, true), (10, true), (11, true), (12, true)]
  | 337, 1 => some [(0, true), (1, true), (2, true), (3, true), (6, true), (7, true), (8, true), (9, true), (4, false), (5, true), (10, false), (11, true), (12, true), (13, true)]
  | 369, 6 => some [(0, true), (1, true), (2, true), (3, true), (4, true), (5, true), (8, true), (9, true), (10, true), (11, true), (14, true), (15, true), (16, true), (17, true), (18, true), (6, false), (7, false), (12, false), (13, true), (19, false), (20, true), (21, true), (22, true)]
  | _, _ => none
def xk : FuncId → Option XK
  | 213 => some (.load .u64)
  | 317 => some (.store)
  | 334 => some (.add .u64)
  | 343 => some (.cas .u64)
  | 344 => some (.add .i64)
  | _ => none
def lv4 : Nat → Option (List Nat)
  | 5 => some [1, 2, 3, 4, 5]
  | 8 => some [1, 2, 3, 4]
  | _ => none
def lv5 : Nat → Option (List Nat)
  | 12 => some [4, 9]
  | _ => none
def lv6 : Nat → Option (List Nat)
  | 9 => some [9, 26, 27, 28]
  | 13 => some [9]
  | _ => none
def lv7 : Nat → Option (List Nat)
  | 6 => some [6, 19]
  | 10 => some [6]
  | _ => none
def lv8 : Nat → Option (List Nat)
  | 5 => some [1, 19, 20, 21]
  | 10 => some []
  | _ => none
def lv9 : Nat → Option (List Nat)
  | 6 => some [0, 2, 4, 6, 25, 26, 27]
  | 11 => some [0, 2, 4, 6, 25, 26, 27, 43, 44, 45]
  | 15 => some [0, 2, 4, 6, 25, 26, 27, 43, 44, 45]
  | 16 => some [0, 2, 4, 6, 25, 26, 27]
  | 17 => some [2, 4, 6]
  | 18 => some [2, 6, 63]
  | 23 => some [2, 6]
  | _ => none
def lv10 : Nat → Option (List Nat)
  | 6 => some [0, 5, 18, 19]
  | 9 => some [0, 5, 6, 18, 19, 24, 25, 26]
  | 16 => some [0, 5, 18, 19]
  | 17 => some [5]
  | _ => none
def lv11 : Nat → Option (List Nat)
  | 14 => some [1, 53, 54, 55]
  | 19 => some []
  | _ => none
def lv23 : Nat → Option (List Nat)
  | 2 => some [0, 1, 6]
  | 10 => some [6]
  | _ => none
def lv24 : Nat → Option (List Nat)
  | 6 => some [0, 5, 18, 19, 20]
  | 16 => some [0, 5, 18, 19, 20]
  | 17 => some [5]
  | _ => none
def lv25 : Nat → Option (List Nat)
  | 3 => some [3, 11, 12, 13]
  | 6 => some [3, 11, 12, 13, 17, 18, 19]
  | 11 => some [3, 11, 12, 13, 17, 18, 19]
  | 12 => some [3, 11, 12, 13]
  | 13 => some [3]
  | _ => none
def lv35 : Nat → Option (List Nat)
  | 3 => some [0, 3, 7, 8]
  | 7 => some [3]
  | 8 => some [3, 19]
  | 13 => some [3, 19]
  | 14 => some [3]
  | _ => none
def lv39 : Nat → Option (List Nat)
  | 6 => some [1, 2]
  | _ => none
def lv42 : Nat → Option (List Nat)
  | 13 => some [0, 4]
  | _ => none
def lv63 : Nat → Option (List Nat)
  | 7 => some [0, 1, 6, 24, 25]
  | 11 => some [0, 1, 6]
  | 14 => some [1, 6, 51, 52, 53]
  | 19 => some [1, 6]
  | _ => none
def lv67 : Nat → Option (List Nat)
  | 5 => some [0, 3, 13, 14]
  | 8 => some [0, 3, 13, 14, 20, 21, 22]
  | 13 => some [0, 3, 13, 14, 20, 21, 22]
  | 14 => some [0, 3, 13, 14]
  | 15 => some [3]
  | _ => none
def lv68 : Nat → Option (List Nat)
  | 2 => some [0, 1, 2, 3, 4, 10, 11]
  | 10 => some [0, 1, 2, 3, 4, 10, 11, 12]
  | 15 => some [0, 1, 2, 3, 4, 10, 11, 12, 13, 14]
  | 17 => some [0, 1, 2, 3, 4, 10, 11, 12, 13]
  | _ => none
def lv74 : Nat → Option (List Nat)
  | 3 => some [0, 1, 5, 6]
  | 6 => some [5]
  | _ => none
def lv80 : Nat → Option (List Nat)
  | 3 => some [3, 7, 8, 9]
  | 6 => some [3, 5, 7, 8, 9, 13]
  | 10 => some [3, 7, 8, 9]
  | 11 => some [3]
  | _ => none
def lv81 : Nat → Option (List Nat)
  | 2 => some [0, 1, 7, 8]
  | 7 => some []
  | _ => none
def lv93 : Nat → Option (List Nat)
  | 3 => some [0, 2, 4, 14]
  | 9 => some [0, 2, 4, 14]
  | 10 => some [0, 2, 4]
  | 12 => some [0, 2, 38, 39, 40]
  | 18 => some [2]
  | _ => none
def lv95 : Nat → Option (List Nat)
  | 9 => some [6, 8, 9, 38, 39]
  | 16 => some [9]
  | _ => none
def lv98 : Nat → Option (List Nat)
  | 9 => some [0, 1]
  | 17 => some [0, 1]
  | _ => none
def lv104 : Nat → Option (List Nat)
  | 5 => some [0, 3, 18, 19, 20]
  | 10 => some [0, 3, 18, 19, 20]
  | 11 => some [3]
  | _ => none
def lv123 : Nat → Option (List Nat)
  | 6 => some [0, 1, 9, 21, 22]
  | 10 => some [9]
  | _ => none
def lv126 : Nat → Option (List Nat)
  | 3 => some [0, 3, 12, 13]
  | 7 => some [3]
  | _ => none
def lv133 : Nat → Option (List Nat)
  | 1 => some [0, 1, 2, 3, 8]
  | 2 => some [0, 1, 2, 3, 8]
  | 4 => some [0, 1, 2, 3, 8, 9]
  | _ => none
def lv142 : Nat → Option (List Nat)
  | 4 => some [0, 2]
  | 7 => some [0, 2]
  | 10 => some [0, 2]
  | _ => none
def lv170 : Nat → Option (List Nat)
  | 5 => some [0, 1, 5, 6, 14, 15, 16]
  | 10 => some [0, 1, 5, 6, 14, 15, 16]
  | 11 => some [0, 5, 6]
  | _ => none
def lv171 : Nat → Option (List Nat)
  | 5 => some [0, 3, 11, 12, 13]
  | 9 => some [3]
  | _ => none
def lv201 : Nat → Option (List Nat)
  | 8 => some []
  | 1000007 => some [10]
  | _ => none
def lv205 : Nat → Option (List Nat)
  | 6 => some [0, 6, 7, 13, 14, 15]
  | 11 => some [6]
  | _ => none
def lv206 : Nat → Option (List Nat)
  | 6 => some [0, 6, 7, 22, 23, 24]
  | 14 => some [6]
  | _ => none
def lv217 : Nat → Option (List Nat)
  | 2 => some [0, 1, 2, 6, 7, 8]
  | 6 => some [0, 1, 2, 6, 7]
  | 7 => some [0, 1, 2, 6]
  | 9 => some [0, 1, 2, 6, 7, 8]
  | 13 => some [0, 1, 2, 6, 7]
  | 16 => some [0, 1, 2, 6]
  | _ => none
def lv232 : Nat → Option (List Nat)
  | 7 => some []
  | 1000003 => some [1, 3]
  | 1000006 => some [15]
  | _ => none
def lv234 : Nat → Option (List Nat)
  | 4 => some [7]
  | _ => none
def lv235 : Nat → Option (List Nat)
  | 3 => some [0, 3, 4]
  | 4 => some [0, 3, 4]
  | 7 => some [3]
  | _ => none
def lv270 : Nat → Option (List Nat)
  | 3 => some [3, 6, 7, 8]
  | 9 => some []
  | _ => none
def lv274 : Nat → Option (List Nat)
  | 1 => some [0, 1, 2, 3, 8]
  | 2 => some [0, 1, 2, 3, 8]
  | 4 => some [0, 1, 2, 3, 8, 9]
  | _ => none
def lv281 : Nat → Option (List Nat)
  | 5 => some [0, 1, 18, 19, 20]
  | 9 => some []
  | _ => none
def lv282 : Nat → Option (List Nat)
  | 8 => some [11]
  | _ => none
def lv288 : Nat → Option (List Nat)
  | 8 => some [2, 3]
  | _ => none
def lv342 : Nat → Option (List Nat)
  | 8 => some [0, 1, 2]
  | 1000005 => some [0, 1, 2, 8]
  | _ => none
def lv369 : Nat → Option (List Nat)
  | 6 => some [0, 1]
  | 1000005 => some [0, 1, 9]
  | _ => none
def lv386 : Nat → Option (List Nat)
  | 4 => some [0, 1, 7]
  | _ => none
def lv : FuncId → Nat → Option (List Nat)
  | 4 => lv4
  | 5 => lv5
  | 6 => lv6
  | 7 => lv7
  | 8 => lv8
  | 9 => lv9
  | 10 => lv10
  | 11 => lv11
  | 23 => lv23
  | 24 => lv24
  | 25 => lv25
  | 35 => lv35
  | 39 => lv39
  | 42 => lv42
  | 63 => lv63
  | 67 => lv67
  | 68 => lv68
  | 74 => lv74
  | 80 => lv80
  | 81 => lv81
  | 93 => lv93
  | 95 => lv95
  | 98 => lv98
  | 104 => lv104
  | 123 => lv123
  | 126 => lv126
  | 133 => lv133
  | 142 => lv142
  | 170 => lv170
  | 171 => lv171
  | 201 => lv201
  | 205 => lv205
  | 206 => lv206
  | 217 => lv217
  | 232 => lv232
  | 234 => lv234
  | 235 => lv235
  | 270 => lv270
  | 274 => lv274
  | 281 => lv281
  | 282 => lv282
  | 288 => lv288
  | 342 => lv342
  | 369 => lv369
  | 386 => lv386
  | _ => fun _ => none
noncomputable def cx (ρ : Addr → Option Value) : Ctx := { P := Tryz.prog, ext := xk, ρ := ρ, live := lv, draw := dr, pur := fun _ => false, strict := false }
noncomputable abbrev P : Program := Tryz.prog
noncomputable abbrev Cx (E : LE) : Ctx := cx E.ρ
@[irreducible] noncomputable def jj (E : LE) (f : Nat) : CodeF := evL (cx E.ρ) E.call E.yc false f E.lim E.k
@[irreducible] noncomputable def jx (E : LE) (f : Nat) (J : CodeF) : CodeF := evX (cx E.ρ) E.call E.yc false f E.lim E.k J
theorem jj_X (E : LE) (f : Nat) (c : Code) (s : Slots) (H : Heap) (κ : Ex → Slots → Heap → Res) : jj E f c s H κ = jx E f (jj E f) c s H κ := by unfold jx; rw [show jj E f = evL (cx E.ρ) E.call E.yc false f E.lim E.k from by unfold jj; rfl]; exact evL_X ..
end Go.Proofs.YtbnhlcgbigeceaaGreat
