/- EvN: operations in which what the program says of their types is looked up already. -/
import Derived.Test.YtonakeopionkkaaGreatEvM
set_option linter.unusedVariables false
set_option linter.unusedSimpArgs false
namespace Go.Ev
open Go.RowKit
def ld1 (ρ : Addr → Option Value) (H : Heap) (x : AV) : Option AV := match x with
  | .ptr l v o => (H.cellsAt l v).bind fun c => c[o]?
  | .xp a => (ρ a).map ofCell
  | _ => none
def ldL (ρ : Addr → Option Value) (H : Heap) (n : Nat) : AV → Option (List AV)
  | .ptr l v o => (H.cellsAt l v).bind fun c => bif Nat.ble (o + n) c.length then some ((c.drop o).take n) else none
  | .xp a => ((List.range n).mapM fun i => ρ (a.add i)).map fun vs => vs.map ofCell
  | _ => none
def ldN (ρ : Addr → Option Value) (H : Heap) (n : Nat) (x : AV) : Option AV := (ldL ρ H n x).map .agg
def stA (lim : Nat) (H : Heap) (n : Nat) (a x : AV) : Option (AV × Eff) := (bif x.cells.length == n then storeN lim H x.cells a else none).map skips
def fld1 (off : Nat) (x : AV) : Option AV := match x with
  | .agg cs => cs[off]?
  | _ => none
def fldN (off n : Nat) (x : AV) : Option AV := match x with
  | .agg cs => bif Nat.ble (off + n) cs.length then some (.agg ((cs.drop off).take n)) else none
  | _ => none
def elAt (n : Nat) (i : Int) (len : Nat) (base : AV) : Option AV :=
  bif decide (0 ≤ i) && decide (i < len) then addA (i.toNat * n) base else none
def ixS (n : Nat) (x ix : AV) : Option AV := (asInt ix).bind fun i => match x with
  | .sl l v o len _ _ => elAt n i len (.ptr l v o)
  | .xs a len _ => elAt n i len (.xp a)
  | _ => none
def ixR (n len : Nat) (x ix : AV) : Option AV := (asInt ix).bind fun i => elAt n i len x
def ixT (x ix : AV) : Option AV := (asInt ix).bind fun i => match x with
  | .str s => bif decide (0 ≤ i) then (s[i.toNat]?).map fun b => .int .u8 b.toNat else none
  | _ => none
def ixV1 (len : Nat) (x ix : AV) : Option AV := (asInt ix).bind fun i => match x with
  | .agg cs => bif decide (0 ≤ i) && decide (i < len) then cs[i.toNat * 1]? else none
  | _ => none
def slT (x : AV) (lo hi : Option AV) : Option AV := match x with
  | .str s => (boundsA s.size s.size lo hi none).map fun b => .str (s.extract b.1 b.2.1)
  | _ => none
def slS (n : Nat) (x : AV) (lo hi mx : Option AV) : Option AV := match x with
  | .nils => (boundsA 0 0 lo hi mx).map fun _ => .nils
  | .sl l v o len cap m => sliceSl n l v o len cap m lo hi mx
  | .xs a len cap => bif !Nat.ble len cap then none else (boundsA len cap lo hi mx).map fun b => .xs (if b.2.2 = b.1 then a else a.add (b.1 * n)) (b.2.1 - b.1) (b.2.2 - b.1)
  | _ => none
def slR (n len : Nat) (x : AV) (lo hi mx : Option AV) : Option AV := match x with
  | .ptr l v o => (boundsA len len lo hi mx).map fun b => .sl l v (bif b.2.2 == b.1 then o else o + b.1 * n) (b.2.1 - b.1) (b.2.2 - b.1) false
  | _ => none
/-- Parts are laid into cells: each one's place, how many cells it has. -/
def fillO : List AV → List (Nat × Nat × AV) → Option (List AV)
  | cs, [] => some cs
  | cs, (off, n, v) :: r => bif (v.cells.length == n) && Nat.ble (off + v.cells.length) cs.length && v.cells.all AV.solid then fillO (layA cs off v.cells) r else none
def bldA (z : List AV) (parts : List (Nat × Nat × AV)) : Option AV := (fillO z parts).map .agg
def bldS (H : Heap) (e n : Nat) (z : List AV) (len : Nat) (parts : List (Nat × Nat × AV)) : Option (AV × Eff) :=
  (fillO (repeatL z len) parts).map fun cs => (.sl H.sz 0 0 len len false, .new (newCells e false cs))
def mkS (H : Heap) (e n by_ : Nat) (z : List AV) (len cap : AV) : Option (AV × Eff) := match len, cap with
  | .int _ l, .int _ c => bif decide (0 ≤ l) && decide (l ≤ c) && decide (c * by_ ≤ 281474976710656) && decide (c ≤ 9223372036854775807) && !(n == 0) then
      some (.sl H.sz 0 0 l.toNat c.toNat false, .new (newCells e false (repeatL z c.toNat))) else none
  | _, _ => none
def frst (ρ : Addr → Option Value) (H : Heap) (sz n : Nat) : AV → Option (List AV)
  | .sl l v o _ _ _ => ldL ρ H (n * sz) (.ptr l v o)
  | .xs a _ _ => ldL ρ H (n * sz) (.xp a)
  | .nils | .sx _ => bif n == 0 then some [] else none
  | .str s => some (((s.extract 0 n).data.toList).map byteCell)
  | _ => none
def growN (by_ need : Nat) : Bool := decide (need * by_ ≤ 70368744177664) && decide (need ≤ 70368744177664) && true
def apSl (ρ : Addr → Option Value) (lim : Nat) (H : Heap) (e sz by_ n : Nat) (vs : List AV) (l v o len cap : Nat) (m : Bool) : Option (AV × Eff) :=
  bif decide (len + n ≤ cap) then (storeN lim H vs (.ptr l v (o + len * sz))).map fun f => (.sl l v o (len + n) cap m, f) else
  bif !growN by_ (len + n) then none else
  bif m then (match H.get l with
    | .cells v' e' fr _ c => bif Nat.ble lim l && (v' == v) && (o == 0) && Nat.beq e' e && Nat.beq fr.1 0 && Nat.beq fr.2 0 && Nat.ble len cap && Nat.beq c.length (cap * sz) then
        some (.sl l (v + 1) 0 (len + n) (len + n) true, .put l (.cells (v + 1) e fr true (c.take (len * sz) ++ vs))) else none
    | _ => none)
  else (frst ρ H sz len (.sl l v o len cap m)).map fun old => (.sl H.sz 0 0 (len + n) (len + n) true, .new (newCells e true (old ++ vs)))
def apA (ρ : Addr → Option Value) (lim : Nat) (H : Heap) (e sz by_ : Nat) (s x : AV) : Option (AV × Eff) := (lenA x).bind fun n => (frst ρ H sz n x).bind fun vs =>
      bif !(vs.all AV.solid && (vs.length == n * sz)) then none else match s with
      | .nils => bif n == 0 then some (.nils, .nothing) else bif growN by_ n then some (.sl H.sz 0 0 n n true, .new (newCells e true vs)) else none
      | .sl l v o len cap m => apSl ρ lim H e sz by_ n vs l v o len cap m
      | .xs a len cap => bif decide (len + n ≤ cap) || !growN by_ (len + n) then none else
          (frst ρ H sz len (.xs a len cap)).map fun old => (.sl H.sz 0 0 (len + n) (len + n) true, .new (newCells e true (old ++ vs)))
      | _ => none
def lenT (x : AV) : Option AV := match x with
  | .str s => some (.int .i64 s.size)
  | _ => none
def lenS (x : AV) : Option AV := match x with
  | .nils => some (.int .i64 0)
  | .sl _ _ _ n _ _ => some (.int .i64 n)
  | .xs _ n _ => some (.int .i64 n)
  | .sx n => some (.int .i64 n)
  | _ => none
def capS (x : AV) : Option AV := match x with
  | .nils => some (.int .i64 0)
  | .sl _ _ _ _ c false => some (.int .i64 c)
  | .xs _ _ c => some (.int .i64 c)
  | _ => none
def cvI (k : IntKind) (x : AV) : Option AV := match x with
  | .int _ n => some (.int k (wrapK k n))
  | _ => none
def cvT (x : AV) : Option AV := match x with
  | .str s => some (.str s)
  | _ => none
def b2s (ρ : Addr → Option Value) (H : Heap) (x : AV) : Option AV := match x with
  | .nils => some (.str ByteArray.empty)
  | .sl .. | .xs .. => (lenA x).bind fun n => (frst ρ H 1 n x).bind fun cs => (bytesOfA cs).map fun l => .str ⟨l.toArray⟩
  | _ => none
end Go.Ev
