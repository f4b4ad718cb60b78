/- EvA: abstract values, the abstract heap, type tables read off the program: the ground of the evaluator. -/
import Derived.Below
import Derived.Laws.Entries
set_option linter.unusedVariables false
set_option linter.unusedSimpArgs false
namespace Go.Ev
open Go.RowKit

inductive AV where
  | any
  | int (k : IntKind) (n : Int)
  | bool (b : Bool)
  | str (s : ByteArray)
  | nilp
  | ptr (l v o : Nat)
  | nils
  | sl (l v o n c : Nat) (m : Bool)
  | sx (n : Nat)
  | xp (a : Addr)
  | xs (a : Addr) (n c : Nat)
  | nilm
  | mp (l : Nat)
  | nilf
  | fn (f : Fn) (first cap : List AV)
  | nili
  | ifc (t : TypeId) (v : AV)
  | agg (cs : List AV)
  | tup (vs : List AV)
  | ext (v : Value)
  | yld (l : Nat)
  deriving Inhabited

/-- Of a value that the program's text holds, or that old memory holds: its abstract twin. -/
def ofCell : Value → AV
  | .int k n => .int k n
  | .bool b => .bool b
  | .string s => .str s
  | .pointer none => .nilp
  | .pointer (some a) => .xp a
  | .slice none 0 0 => .nils
  | .slice (some a) n c => .xs a n c
  | .map none => .nilm
  | .func f first cap => if first.size = 0 ∧ cap.size = 0 then .fn f [] [] else .ext (.func f first cap)
  | .nilFunc => .nilf
  | .nilIface => .nili
  | v => .ext v
def ofV : Value → AV
  | .agg cs => .agg (cs.toList.map ofCell)
  | .tuple vs => if vs.size = 0 then .tup [] else .ext (.tuple vs)
  | v => ofCell v

/-- What lies in an own place. -/
inductive AObj where
  | hole
  | cells (ver : Nat) (elem : TypeId) (fr : Nat × Nat) (grow : Bool) (c : List AV)
  | map (es : List (AV × AV × Nat)) (clock : Nat)
  | iter (l : Option Nat) (since : Nat) (seen : List Nat) (stepped : Nat)
  | siter (s : ByteArray) (pos : Nat)
  | loop (params : Array Tmp) (assign body : Code) (s : List AV) (st : Nat)
  deriving Inhabited
def AObj.ver : AObj → Nat
  | .cells v _ _ _ _ => v
  | _ => 0

/-- A binary tree of places: the root is place 0; below it the odd and the even ones. -/
inductive Tr where
  | leaf
  | node (x : AObj) (l r : Tr)
  deriving Inhabited
def Tr.get : Nat → Nat → Tr → AObj
  | 0, _, _ => .hole
  | _ + 1, _, .leaf => .hole
  | f + 1, n, .node x l r => match n with
    | 0 => x
    | n + 1 => match n % 2 with
      | 0 => Tr.get f (n / 2) l
      | _ => Tr.get f (n / 2) r
def Tr.set : Nat → Nat → AObj → Tr → Tr
  | 0, _, _, t => t
  | f + 1, n, o, .leaf => match n with
    | 0 => .node o .leaf .leaf
    | n + 1 => match n % 2 with
      | 0 => .node .hole (Tr.set f (n / 2) o .leaf) .leaf
      | _ => .node .hole .leaf (Tr.set f (n / 2) o .leaf)
  | f + 1, n, o, .node x l r => match n with
    | 0 => .node o l r
    | n + 1 => match n % 2 with
      | 0 => .node x (Tr.set f (n / 2) o l) r
      | _ => .node x l (Tr.set f (n / 2) o r)

/-- The own places: how many, and what lies there. -/
structure Heap where
  sz : Nat
  t : Tr
  deriving Inhabited
def Heap.get (H : Heap) (l : Nat) : AObj := H.t.get (l + 1) l
def Heap.put (H : Heap) (l : Nat) (o : AObj) : Heap := ⟨H.sz, H.t.set (l + 1) l o⟩
def Heap.new (H : Heap) (o : AObj) : Heap := ⟨H.sz + 1, H.t.set (H.sz + 1) H.sz o⟩
def Heap.nil : Heap := ⟨0, .leaf⟩
def Heap.ver (H : Heap) (l : Nat) : Nat := (H.get l).ver


theorem Tr.get_leaf (f n : Nat) : Tr.get f n .leaf = .hole := by cases f <;> rfl
theorem Tr.get_fuel : ∀ (f g n : Nat) (t : Tr), n < f → n < g → Tr.get f n t = Tr.get g n t := by
  intro f
  induction f with
  | zero => intro g n t hn; omega
  | succ f ih =>
    intro g n t hn hg
    obtain ⟨g, rfl⟩ : ∃ m, g = m + 1 := ⟨g - 1, by omega⟩
    cases t with
    | leaf => rfl
    | node x l r =>
      cases n with
      | zero => rfl
      | succ n =>
        have h1 := ih g (n / 2) l (by omega) (by omega)
        have h2 := ih g (n / 2) r (by omega) (by omega)
        rcases Nat.mod_two_eq_zero_or_one n with e | e <;> simp [Tr.get, e, h1, h2]
theorem Tr.set_fuel : ∀ (f g n : Nat) (o : AObj) (t : Tr), n < f → n < g → Tr.set f n o t = Tr.set g n o t := by
  intro f
  induction f with
  | zero => intro g n o t hn; omega
  | succ f ih =>
    intro g n o t hn hg
    obtain ⟨g, rfl⟩ : ∃ m, g = m + 1 := ⟨g - 1, by omega⟩
    have hh : ∀ s, n ≠ 0 → Tr.set f ((n - 1) / 2) o s = Tr.set g ((n - 1) / 2) o s := fun s h => ih g ((n - 1) / 2) o s (by omega) (by omega)
    cases n with
    | zero => cases t <;> rfl
    | succ n =>
      have hh' : ∀ s, Tr.set f (n / 2) o s = Tr.set g (n / 2) o s := fun s => hh s (by omega)
      cases t <;> rcases Nat.mod_two_eq_zero_or_one n with e | e <;> simp [Tr.set, e, hh']
theorem Tr.get_set : ∀ (f n m : Nat) (o : AObj) (t : Tr), n < f → m < f → Tr.get f m (Tr.set f n o t) = if m = n then o else Tr.get f m t := by
  intro f
  induction f with
  | zero => intro n m o t hn hm; omega
  | succ f ih =>
    intro n m o t hn hm
    cases n with
    | zero =>
      cases m with
      | zero => cases t <;> simp [Tr.set, Tr.get]
      | succ m => cases t <;> rcases Nat.mod_two_eq_zero_or_one m with e | e <;> simp [Tr.set, Tr.get, Tr.get_leaf, e]
    | succ n =>
      cases m with
      | zero => cases t <;> rcases Nat.mod_two_eq_zero_or_one n with e | e <;> simp [Tr.set, Tr.get, e]
      | succ m =>
        have key : ∀ s : Tr, Tr.get f (m / 2) (Tr.set f (n / 2) o s) = if m / 2 = n / 2 then o else Tr.get f (m / 2) s := fun s => ih (n / 2) (m / 2) o s (by omega) (by omega)
        cases t <;> rcases Nat.mod_two_eq_zero_or_one n with e | e <;> rcases Nat.mod_two_eq_zero_or_one m with e' | e' <;>
          simp only [Tr.set, Tr.get, e, e', key, Tr.get_leaf] <;>
          by_cases hm : m / 2 = n / 2 <;> by_cases hn : m + 1 = n + 1 <;> simp [hm, hn] <;> omega

theorem Heap.get_put (H : Heap) (l m : Nat) (o : AObj) : (H.put l o).get m = if m = l then o else H.get m := by
  have h := Tr.get_set (l + m + 1) l m o H.t (by omega) (by omega)
  rw [Tr.get_fuel (l + m + 1) (m + 1) m _ (by omega) (by omega), Tr.get_fuel (l + m + 1) (m + 1) m H.t (by omega) (by omega), Tr.set_fuel (l + m + 1) (l + 1) l o H.t (by omega) (by omega)] at h
  exact h
theorem Heap.get_new (H : Heap) (m : Nat) (o : AObj) : (H.new o).get m = if m = H.sz then o else H.get m := Heap.get_put H H.sz m o
theorem Heap.sz_put (H : Heap) (l : Nat) (o : AObj) : (H.put l o).sz = H.sz := rfl
theorem Heap.sz_new (H : Heap) (o : AObj) : (H.new o).sz = H.sz + 1 := rfl
end Go.Ev
