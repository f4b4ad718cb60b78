/- The tables of the program: what is live, how draws go. Printed by a program of this repo. -/
import Derived.Test.YtcjicmabhejllaaEvN
import Derived.Test.YtcjicmabhejllaaEvQ
import Derived.Test.YtcjicmabhejllaaProg
import Derived.KernelRfl
set_option linter.unusedVariables false
namespace Go.Proofs.Ytcjicmabhejllaa
open Go.Ev Go.RowKit
def dr : FuncId → Nat → Option (List (Nat × Bool))
  | 7, 6 => some [(0, true), (2, true), (1, false), (3, false), (4, true)]
  | 55, 1 => some [(0, true), (1, true), (2, true), (3, true), (5, true), (6, true), (7, true), (8, true), (9, true), (4, false), (10, false), (11, true)]
  | 60, 0 => some [(0, true), (1, true), (2, true), (3, true), (4, true), (5, true), (6, true), (7, true), (9, true), (10, true), (11, true), (12, true), (13, true), (8, false), (14, true), (15, true)]
  | _, _ => none
def xk : FuncId → Option XK
  | 61 => some (.same)
  | 62 => some (.nozero #[3] 65)
  | _ => none
def lv6 : Nat → Option (List Nat)
  | 10 => some [0, 1, 7, 9, 10]
  | 11 => some [0, 1, 7, 9, 10]
  | 16 => some [0, 1, 7, 9, 10, 12]
  | 18 => some []
  | _ => none
def lv10 : Nat → Option (List Nat)
  | 3 => some [0]
  | _ => none
def lv22 : Nat → Option (List Nat)
  | 5 => some [0, 1, 2]
  | 8 => some [0, 1, 8, 9, 30, 31]
  | 10 => some [0, 1, 8, 9, 30, 31, 33, 34]
  | 14 => some [0, 1, 8, 9, 30, 31]
  | 15 => some [0, 1, 8, 9, 30, 31, 45, 46]
  | 19 => some [0, 1, 8, 9, 30, 31]
  | 20 => some [8]
  | 1000004 => some [0, 1, 2, 11]
  | _ => none
def lv23 : Nat → Option (List Nat)
  | 3 => some [0, 1, 2]
  | 7 => some []
  | _ => none
def lv24 : Nat → Option (List Nat)
  | 4 => some [0, 1, 2, 7]
  | 5 => some [0, 1, 2, 7]
  | 7 => some [0, 1, 2, 7, 8]
  | 8 => some [0, 1, 2, 7, 8]
  | 11 => some [0, 1, 2, 7, 8, 9, 10]
  | 14 => some [0, 1, 2, 7, 8, 9]
  | 16 => some []
  | _ => none
def lv34 : Nat → Option (List Nat)
  | 2 => some [0, 6, 7]
  | 7 => some []
  | _ => none
def lv48 : Nat → Option (List Nat)
  | 2 => some [0, 1, 7, 8]
  | 7 => some []
  | _ => none
def lv : FuncId → Nat → Option (List Nat)
  | 6 => lv6
  | 10 => lv10
  | 22 => lv22
  | 23 => lv23
  | 24 => lv24
  | 34 => lv34
  | 48 => lv48
  | _ => fun _ => none
noncomputable def cx (ρ : Addr → Option Value) : Ctx := { P := Try.prog, ext := xk, ρ := ρ, live := lv, draw := dr, pur := fun _ => false, strict := false }
end Go.Proofs.Ytcjicmabhejllaa
