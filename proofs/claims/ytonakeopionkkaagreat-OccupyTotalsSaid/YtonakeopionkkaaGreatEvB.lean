/- EvB: what each operation of the program does to abstract values and own places. -/
import Derived.Test.YtonakeopionkkaaGreatEvA
set_option linter.unusedVariables false
set_option linter.unusedSimpArgs false
namespace Go.Ev
open Go.RowKit

/-- Functions without a Go body that the evaluator knows. -/
inductive XK where
  | load (k : IntKind) | store | cas (k : IntKind) | add (k : IntKind) | same | nozero (ps : Array TypeId) (t : TypeId)

structure Ctx where
  P : Program
  ext : FuncId → Option XK
  ρ : Addr → Option Value
  live : FuncId → Nat → Option (List Nat)
  draw : FuncId → Nat → Option (List (Nat × Bool))
  pur : FuncId → Bool
  strict : Bool

def szA (P : Program) (t : TypeId) : Option Nat := (P.info? t).map (·.size)
def bytesA (P : Program) (t : TypeId) : Option Nat := (P.info? t).map (·.bytes)
def aggA (P : Program) (t : TypeId) : Option Bool := (P.underlying t).map fun | .struct _ | .array _ _ => true | _ => false
def zeroV : Value → Option AV
  | .tuple _ => none
  | v => some (ofV v)
def zeroA (P : Program) (t : TypeId) : Option AV := ((P.info? t).bind (·.zero)).bind zeroV

/-- The cells of a value. -/
def AV.cells : AV → List AV
  | .agg cs => cs
  | v => [v]
/-- It may lie in one cell. -/
def AV.solid : AV → Bool
  | .any | .agg _ | .tup _ => false
  | .ext (.agg _) | .ext (.tuple _) => false
  | _ => true

-- whole numbers
def wrapK (k : IntKind) (n : Int) : Int := match k with
  | .u64 => n % 18446744073709551616
  | .i64 => (n + 9223372036854775808) % 18446744073709551616 - 9223372036854775808
  | .u32 => n % 4294967296
  | .i32 => (n + 2147483648) % 4294967296 - 2147483648
  | .u16 => n % 65536
  | .i16 => (n + 32768) % 65536 - 32768
  | .u8 => n % 256
  | .i8 => (n + 128) % 256 - 128
def intA (op : BinOp) (k : IntKind) (x y : Int) : Option AV := match op with
  | .add => some (.int k (wrapK k (x + y)))
  | .sub => some (.int k (wrapK k (x - y)))
  | .mul => some (.int k (wrapK k (x * y)))
  | .quo => bif y == 0 then none else some (.int k (wrapK k (x.tdiv y)))
  | .rem => bif y == 0 then none else some (.int k (x.tmod y))
  | .and => some (.int k (Go.bits .and k x y))
  | .or => some (.int k (Go.bits .or k x y))
  | .xor => some (.int k (Go.bits .xor k x y))
  | .andNot => some (.int k (Go.bits .andNot k x y))
  | .eql => some (.bool (x == y))
  | .neq => some (.bool (x != y))
  | .lss => some (.bool (decide (x < y)))
  | .leq => some (.bool (decide (x ≤ y)))
  | .gtr => some (.bool (decide (x > y)))
  | .geq => some (.bool (decide (x ≥ y)))
  | _ => none
def shiftA (op : BinOp) (k : IntKind) (x y : Int) : Option AV :=
  bif decide (y < 0) then none else match op with
  | .shl => some (.int k (wrapK k (x * 2 ^ min y.toNat k.bits)))
  | .shr => some (.int k (x.fdiv (2 ^ min y.toNat k.bits)))
  | _ => none
def strA (op : BinOp) (x y : ByteArray) : Option AV :=
  let eq := x.toList == y.toList
  let lt := Op.bytesLess x.toList y.toList
  match op with
  | .add => bif decide (x.size + y.size ≤ 9223372036854775807) then some (.str (x ++ y)) else none
  | .eql => some (.bool eq)
  | .neq => some (.bool !eq)
  | .lss => some (.bool lt)
  | .leq => some (.bool (lt || eq))
  | .gtr => some (.bool !(lt || eq))
  | .geq => some (.bool !lt)
  | _ => none
/-- A part of a struct's or an array's cells. -/
def partA (P : Program) (t : TypeId) (cs : List AV) (off : Nat) : Option AV :=
  (aggA P t).bind fun g => bif g then (szA P t).bind fun n => bif Nat.ble (off + n) cs.length then some (.agg ((cs.drop off).take n)) else none else cs[off]?
/-- Are they equal? Asked of numbers, bools, texts, structs of such, own pointers into one place, and of nil. -/
def eqFs (eq : TypeId → AV → AV → Option Bool) (P : Program) (xs ys : List AV) : List Field → Option Bool
  | [] => some true
  | f :: r => bif f.name != "_" then (partA P f.type xs f.offset).bind fun a => (partA P f.type ys f.offset).bind fun b => (eq f.type a b).bind fun e => bif e then eqFs eq P xs ys r else some false
    else eqFs eq P xs ys r
def eqIn (P : Program) (H : Heap) : Nat → TypeId → AV → AV → Option Bool
  | 0, _, _, _ => none
  | d + 1, t, x, y => match P.underlying t with
    | some .bool => match x, y with
      | .bool a, .bool b => some (a == b)
      | _, _ => none
    | some (.int _) => match x, y with
      | .int k a, .int k' b => bif decide (k = k') then some (a == b) else none
      | _, _ => none
    | some .string => match x, y with
      | .str a, .str b => some (a == b)
      | _, _ => none
    | some (.pointer e) => match x, y with
      | .nilp, .nilp => some true
      | .nilp, .ptr _ _ _ | .ptr _ _ _, .nilp | .nilp, .xp _ | .xp _, .nilp => some false
      | .ptr l v o, .ptr l' v' o' => bif Nat.beq l l' && Nat.beq v v' && Nat.beq (H.ver l) v && (match szA P e with | some n => !(Nat.beq n 0) | none => false) then some (Nat.beq o o') else none
      | _, _ => none
    | some (.slice _) => match x, y with
      | .nils, .nils => some true
      | .nils, .sl .. | .sl .., .nils | .nils, .xs .. | .xs .., .nils | .nils, .sx _ | .sx _, .nils => some false
      | _, _ => none
    | some (.map _ _) => match x, y with
      | .nilm, .nilm => some true
      | .nilm, .mp _ | .mp _, .nilm => some false
      | _, _ => none
    | some (.func _ _ _) => match x, y with
      | .nilf, .nilf => some true
      | .nilf, .fn _ _ _ | .fn _ _ _, .nilf => some false
      | _, _ => none
    | some (.struct fs) => match x, y with
      | .agg xs, .agg ys => bif P.stoodInHeld t then none else eqFs (eqIn P H d) P xs ys fs.toList
      | _, _ => none
    | _ => none
def eqA (P : Program) (H : Heap) (t : TypeId) (x y : AV) : Option Bool := match x with
  | .agg _ => bif P.eqGuardType P.depth t then none else eqIn P H 20 t x y
  | _ => eqIn P H 20 t x y
/-- Of these kinds equality is asked of memory's words. -/
def okEq : AV → Bool
  | .bool _ | .nilp | .ptr _ _ _ | .xp _ | .nils | .sl .. | .sx _ | .xs .. | .nilm | .mp _ | .nilf | .fn _ _ _ | .agg _ => true
  | _ => false
def binA (P : Program) (H : Heap) (op : BinOp) (t : TypeId) (x y : AV) : Option AV := match x, y with
  | .int k a, .int k' b => match op with
    | .shl | .shr => shiftA op k a b
    | _ => bif decide (k = k') then intA op k a b else none
  | .str a, .str b => strA op a b
  | x, y => match op with
    | .eql => bif okEq x then (eqA P H t x y).map .bool else none
    | .neq => bif okEq x then (eqA P H t x y).map fun b => .bool !b else none
    | _ => none
def unA (op : UnOp) : AV → Option AV
  | .int k n => match op with
    | .neg => intA .sub k 0 n
    | .xor => intA .xor k (if k.signed then -1 else k.max) n
    | _ => none
  | .bool b => match op with
    | .not => some (.bool !b)
    | _ => none
  | _ => none
def asInt : AV → Option Int
  | .int _ n => some n
  | _ => none
def asBool : AV → Option Bool
  | .bool b => some b
  | _ => none

def fieldA (P : Program) (t : TypeId) (x : AV) (i : Nat) : Option AV := match x with
  | .agg cs => match P.underlying t with
    | some (.struct fs) => (fs[i]?).bind fun f => partA P f.type cs f.offset
    | _ => none
  | _ => none
/-- An address some cells further on. -/
def addA (n : Nat) : AV → Option AV
  | .ptr l v o => some (.ptr l v (o + n))
  | .xp a => some (.xp (a.add n))
  | _ => none
def fieldAddrA (P : Program) (t : TypeId) (x : AV) (i : Nat) : Option AV := match P.underlying t with
  | some (.struct fs) => (fs[i]?).bind fun f => (szA P f.type).bind fun n => bif n == 0 then none else addA f.offset x
  | _ => none
def elemAtA (P : Program) (e : TypeId) (i : Int) (len : Nat) (base : AV) : Option AV :=
  bif decide (0 ≤ i) && decide (i < len) then (szA P e).bind fun n => addA (i.toNat * n) base else none
def indexAddrA (P : Program) (t : TypeId) (x ix : AV) : Option AV := (asInt ix).bind fun i => match P.underlying t with
  | some (.array len e) => elemAtA P e i len x
  | some (.slice e) => match x with
    | .sl l v o n _ _ => elemAtA P e i n (.ptr l v o)
    | .xs a n _ => elemAtA P e i n (.xp a)
    | _ => none
  | _ => none
def indexA (P : Program) (t : TypeId) (x ix : AV) : Option AV := (asInt ix).bind fun i => match P.underlying t with
  | some (.array len e) => match x with
    | .agg cs => bif decide (0 ≤ i) && decide (i < len) then (szA P e).bind fun n => partA P e cs (i.toNat * n) else none
    | _ => none
  | some .string => match x with
    | .str s => bif decide (0 ≤ i) then (s[i.toNat]?).map fun b => .int .u8 b.toNat else none
    | _ => none
  | _ => none
/-- A bound of a slice: 0 to y. -/
def boundA (x : AV) (y : Nat) : Option Nat := (asInt x).bind fun i => bif decide (0 ≤ i) && decide (i ≤ y) then some i.toNat else none
/-- low, high, max, of len and cap: the bounds. -/
def boundsA (len cap : Nat) (lo hi mx : Option AV) : Option (Nat × Nat × Nat) :=
  (match mx with | some v => boundA v cap | none => some cap).bind fun m =>
  (match hi, mx with | some v, _ => boundA v m | none, none => some len | none, some _ => none).bind fun h =>
  (match lo with | some v => boundA v h | none => some 0).bind fun l => some (l, h, m)
def sliceSl (n l v o len cap : Nat) (m : Bool) (lo hi mx : Option AV) : Option AV :=
  bif !Nat.ble len cap then none else (boundsA len cap lo hi mx).bind fun b => match m, mx with
    | true, none => some (bif b.1 == cap then .sx (b.2.1 - b.1) else .sl l v (o + b.1 * n) (b.2.1 - b.1) (b.2.2 - b.1) true)
    | _, _ => some (.sl l v (bif b.2.2 == b.1 then o else o + b.1 * n) (b.2.1 - b.1) (b.2.2 - b.1) false)
def sliceA (P : Program) (t : TypeId) (x : AV) (lo hi mx : Option AV) : Option AV := match P.underlying t with
  | some .string => match x, mx with
    | .str s, none => (boundsA s.size s.size lo hi none).map fun b => .str (s.extract b.1 b.2.1)
    | _, _ => none
  | some (.slice e) => (szA P e).bind fun n => match x with
    | .nils => (boundsA 0 0 lo hi mx).map fun _ => .nils
    | .sl l v o len cap m => sliceSl n l v o len cap m lo hi mx
    | .xs a len cap => bif !Nat.ble len cap then none else (boundsA len cap lo hi mx).map fun b => .xs (if b.2.2 = b.1 then a else a.add (b.1 * n)) (b.2.1 - b.1) (b.2.2 - b.1)
    | _ => none
  | some (.array len e) => (szA P e).bind fun n => match x with
    | .ptr l v o => (boundsA len len lo hi mx).map fun b => .sl l v (bif b.2.2 == b.1 then o else o + b.1 * n) (b.2.1 - b.1) (b.2.2 - b.1) false
    | _ => none
  | _ => none

/-- Cells are laid into cells from a place on. -/
def layA (cs : List AV) (off : Nat) (vs : List AV) : List AV := cs.take off ++ vs ++ cs.drop (off + vs.length)
def fillA (place : Nat → Option (Nat × Nat)) : List AV → List (Nat × AV) → Option (List AV)
  | cs, [] => some cs
  | cs, (i, v) :: r => (place i).bind fun p => bif (v.cells.length == p.2) && Nat.ble (p.1 + v.cells.length) cs.length && v.cells.all AV.solid then fillA place (layA cs p.1 v.cells) r else none
def buildA (P : Program) (t : TypeId) (parts : List (Nat × AV)) : Option AV := (zeroA P t).bind fun z => match P.underlying t with
  | some (.struct fs) => (fs.toList.mapM fun f => (szA P f.type).map fun n => (f.offset, n)).bind fun ps => (fillA (fun i => ps[i]?) z.cells parts).map .agg
  | some (.array _ e) => (szA P e).bind fun n => (fillA (fun i => some (i * n, n)) z.cells parts).map .agg
  | _ => none
def repeatL (z : List AV) : Nat → List AV
  | 0 => []
  | n + 1 => z ++ repeatL z n

def convA (P : Program) (src dst : TypeId) (x : AV) : Option AV := match P.underlying src, P.underlying dst, x with
  | some _, some (.int k), .int _ n => some (.int k (wrapK k n))
  | some _, some .string, .str s => some (.str s)
  | _, _, _ => none

-- reading
/-- The cells of an own place. -/
def Heap.cellsAt (H : Heap) (l v : Nat) : Option (List AV) := match H.get l with
  | .cells v' _ _ _ c => bif v' == v then some c else none
  | _ => none
def loadN (C : Ctx) (H : Heap) (n : Nat) : AV → Option (List AV)
  | .ptr l v o => (H.cellsAt l v).bind fun c => bif Nat.ble (o + n) c.length then some ((c.drop o).take n) else none
  | .xp a => ((List.range n).mapM fun i => C.ρ (a.add i)).map fun vs => vs.map ofCell
  | _ => none
def loadA (C : Ctx) (H : Heap) (t : TypeId) (x : AV) : Option AV := (aggA C.P t).bind fun g =>
  bif g then (szA C.P t).bind fun n => (loadN C H n x).map .agg else match x with
    | .ptr l v o => (H.cellsAt l v).bind fun c => c[o]?
    | .xp a => (C.ρ a).map ofCell
    | _ => none
def bytesOfA : List AV → Option (List UInt8)
  | [] => some []
  | .int .u8 n :: r => bif decide (0 ≤ n) && decide (n < 256) then (bytesOfA r).map (UInt8.ofNat n.toNat :: ·) else none
  | _ => none
def byteCell (b : UInt8) : AV := .int .u8 b.toNat
/-- The first n elements (of size sz) of a slice or a text, as cells. -/
def firstA (C : Ctx) (H : Heap) (sz n : Nat) : AV → Option (List AV)
  | .sl l v o _ _ _ => loadN C H (n * sz) (.ptr l v o)
  | .xs a _ _ => loadN C H (n * sz) (.xp a)
  | .nils | .sx _ => bif n == 0 then some [] else none
  | .str s => some (((s.extract 0 n).data.toList).map byteCell)
  | _ => none
def lenA : AV → Option Nat
  | .sl _ _ _ n _ _ => some n
  | .xs _ n _ => some n
  | .sx n => some n
  | .nils => some 0
  | .str s => some s.size
  | _ => none
def bytesToStrA (C : Ctx) (H : Heap) (x : AV) : Option AV := match x with
  | .nils => some (.str ByteArray.empty)
  | .sl .. | .xs .. => (lenA x).bind fun n => (firstA C H 1 n x).bind fun cs => (bytesOfA cs).map fun l => .str ⟨l.toArray⟩
  | _ => none
-- maps
def keyChk (P : Program) : Nat → TypeId → AV → Bool
  | 0, _, _ => false
  | n + 1, t, v => match P.underlying t with
    | some (.struct fs) => match v with
      | .agg cs => fs.toList.all fun f => f.name == "_" || (match partA P f.type cs f.offset with | some x => keyChk P n f.type x | none => false)
      | _ => false
    | some (.int _) | some .string | some .bool => true
    | _ => false
def findA (P : Program) (H : Heap) (t : TypeId) (k : AV) : List (AV × AV × Nat) → Nat → Option (Option (Nat × AV))
  | [], _ => some none
  | e :: es, i => (eqIn P H 20 t k e.1).bind fun b => bif b then some (some (i, e.2.1)) else findA P H t k es (i + 1)
/-- The same numbers, bools, texts, cell by cell. -/
def sameCell : AV → AV → Bool
  | .int j a, .int k b => decide (j = k) && a == b
  | .bool a, .bool b => a == b
  | .str a, .str b => a == b
  | _, _ => false
def sameCells : List AV → List AV → Bool
  | [], [] => true
  | x :: xs, y :: ys => sameCell x y && sameCells xs ys
  | _, _ => false
def sameA : AV → AV → Bool
  | .agg xs, .agg ys => sameCells xs ys
  | x, y => sameCell x y
def entriesA (H : Heap) : AV → Option (List (AV × AV × Nat))
  | .nilm => some []
  | .mp l => match H.get l with | .map es _ => some es | _ => none
  | _ => none
def lookupA (C : Ctx) (H : Heap) (t : TypeId) (x k : AV) (ok : Bool) : Option AV := match C.P.underlying t with
  | some (.map kt e) => bif keyChk C.P 20 kt k then (entriesA H x).bind fun es => (findA C.P H kt k es 0).bind fun r => match r with
      | some (_, v) => some (bif ok then .tup [v, .bool true] else v)
      | none => (zeroA C.P e).map fun z => bif ok then .tup [z, .bool false] else z
    else none
  | _ => none

-- writing
inductive Eff where
  | nothing
  | put (l : Nat) (o : AObj)
  | new (o : AObj)
/-- Cells are written from a place on. -/
def storeN (lim : Nat) (H : Heap) (vs : List AV) : AV → Option Eff
  | .ptr l v o => bif Nat.ble lim l then match H.get l with
      | .cells v' e fr g c => bif (v' == v) && Nat.ble (o + vs.length) c.length && vs.all AV.solid && Nat.beq fr.1 0 && Nat.beq fr.2 0 then some (.put l (.cells v' e fr g (layA c o vs))) else none
      | _ => none
    else none
  | _ => none
def storeA (C : Ctx) (lim : Nat) (H : Heap) (t : TypeId) (a x : AV) : Option Eff :=
  (szA C.P t).bind fun n => bif x.cells.length == n then storeN lim H x.cells a else none
def newCells (e : TypeId) (g : Bool) (cs : List AV) : AObj := .cells 0 e (0, 0) g cs
def allocA (C : Ctx) (H : Heap) (e : TypeId) : Option (AV × Eff) := (zeroA C.P e).map fun z => (.ptr H.sz 0 0, .new (newCells e false z.cells))
def boxA (H : Heap) (e : TypeId) (x : AV) : Option (AV × Eff) := bif x.cells.all AV.solid then some (.ptr H.sz 0 0, .new (newCells e false x.cells)) else none
def buildSliceA (C : Ctx) (H : Heap) (t : TypeId) (len : Nat) (parts : List (Nat × AV)) : Option (AV × Eff) := match C.P.underlying t with
  | some (.slice e) => (szA C.P e).bind fun n => bif Nat.ble (len * n) 16777216 && !(n == 0) then
      (zeroA C.P e).bind fun z => bif z.cells.length == n then (fillA (fun i => some (i * n, n)) (repeatL z.cells len) parts).map fun cs => (.sl H.sz 0 0 len len false, .new (newCells e false cs)) else none
    else none
  | _ => none
def makeSliceA (C : Ctx) (H : Heap) (t : TypeId) (len cap : AV) : Option (AV × Eff) := match C.P.underlying t, len, cap with
  | some (.slice e), .int _ n, .int _ c => (szA C.P e).bind fun sz => (bytesA C.P e).bind fun by_ =>
      bif decide (0 ≤ n) && decide (n ≤ c) && decide (c * by_ ≤ 281474976710656) && decide (c ≤ 9223372036854775807) && !(sz == 0) then
        (zeroA C.P e).bind fun z => bif z.cells.length == sz then some (.sl H.sz 0 0 n.toNat c.toNat false, .new (newCells e false (repeatL z.cells c.toNat))) else none
      else none
  | _, _, _ => none
def makeMapA (H : Heap) : AV × Eff := (.mp H.sz, .new (.map [] 0))
def mapPutA (C : Ctx) (lim : Nat) (H : Heap) (t : TypeId) (x k v : AV) : Option Eff := match C.P.underlying t with
  | some (.map kt _) => match x with
    | .mp l => bif Nat.ble lim l && keyChk C.P 20 kt k then match H.get l with
        | .map es c => (findA C.P H kt k es 0).bind fun r => match r with
          | some (i, _) => (es[i]?).bind fun q => bif sameA q.1 k then some (.put l (.map (es.modify i fun e => (k, v, e.2.2)) c)) else none
          | none => some (.put l (.map (es ++ [(k, v, c)]) (c + 1)))
        | _ => none
      else none
    | _ => none
  | _ => none
def mapEntryA (C : Ctx) (lim : Nat) (H : Heap) (t : TypeId) (x k : AV) : Option (AV × Eff) := match C.P.underlying t with
  | some (.map kt e) => match x with
    | .mp l => bif Nat.ble lim l && keyChk C.P 20 kt k then match H.get l with
        | .map es c => (findA C.P H kt k es 0).bind fun r => match r with
          | some (i, v) => (es[i]?).bind fun q => bif sameA q.1 k then some (.tup [v, .int .i64 q.2.2], .put l (.map (es.modify i fun e => (k, e.2)) c)) else none
          | none => (zeroA C.P e).map fun z => (.tup [z, .int .i64 c], .put l (.map (es ++ [(k, z, c)]) (c + 1)))
        | _ => none
      else none
    | _ => none
  | _ => none
def entryStoreA (lim : Nat) (H : Heap) (x s v : AV) : Option Eff := match x, s with
  | .mp l, .int _ born => bif Nat.ble lim l then match H.get l with
      | .map es c => (es.findIdx? (fun e => (e.2.2 : Int) == born)).map fun i => .put l (.map (es.modify i fun e => (e.1, v, e.2.2)) c)
      | _ => none
    else none
  | _, _ => none
def deleteA (C : Ctx) (lim : Nat) (H : Heap) (t : TypeId) (x k : AV) : Option Eff := match C.P.underlying t with
  | some (.map kt _) => match x with
    | .mp l => bif Nat.ble lim l && keyChk C.P 20 kt k then match H.get l with
        | .map es c => (findA C.P H kt k es 0).map fun r => match r with
          | some (i, _) => .put l (.map (es.eraseIdx i) c)
          | none => .put l (.map es c)
        | _ => none
      else none
    | _ => none
  | _ => none
def rangeA (H : Heap) (P : Program) (t : TypeId) (x : AV) : Option (AV × Eff) := match P.underlying t, x with
  | some .string, .str s => some (.ptr H.sz 0 0, .new (.siter s 0))
  | some (.map _ _), .nilm => some (.ptr H.sz 0 0, .new (.iter none 0 [] 0))
  | some (.map _ _), .mp l => match H.get l with
    | .map _ c => some (.ptr H.sz 0 0, .new (.iter (some l) c [] c))
    | _ => none
  | _, _ => none
def overA : AV := .tup [.bool false]
/-- The next one: of a map only where but one can come. -/
def nextA (lim : Nat) (H : Heap) (it : AV) (isString : Bool) : Option (AV × Eff) := match it with
  | .ptr l 0 0 => match H.get l, isString with
    | .siter s pos, true => bif decide (pos < s.size) then
          (bif Nat.ble lim l then some (.tup [.bool true, .int .i64 pos, .int .i32 (Utf8.decode s pos).1], .put l (.siter s (pos + (Utf8.decode s pos).2))) else none)
        else some (overA, .nothing)
    | .iter none _ _ _, false => some (overA, .nothing)
    | .iter (some m) since seen last, false => match H.get m with
      | .map es c =>
        bif !seen.isEmpty && !es.isEmpty && es.all (fun e => decide (e.2.2 ≥ last)) then none else
        match es.filter fun e => !seen.contains e.2.2 with
        | [] => some (overA, .nothing)
        | [e] => bif decide (e.2.2 < since) && Nat.ble lim l then some (.tup [.bool true, e.1, e.2.1], .put l (.iter (some m) since (seen ++ [e.2.2]) c)) else none
        | _ => none
      | _ => none
    | _, _ => none
  | _ => none
def entryA (H : Heap) (it : AV) : Option AV := match it with
  | .ptr l 0 0 => match H.get l with
    | .iter (some m) _ seen stepped => match H.get m, seen.getLast? with
      | .map es c, some stamp => bif c == stepped then (es.find? fun e => e.2.2 == stamp).map fun e => .tup [e.1, e.2.1] else none
      | _, _ => none
    | _ => none
  | _ => none
/-- May it grow to so many elements? Then a zero value is there. -/
def growOK (P : Program) (e : TypeId) (sz by_ need : Nat) : Bool := decide (need * by_ ≤ 70368744177664) && decide (need ≤ 70368744177664) && (match zeroA P e with | some z => z.cells.length == sz | none => false)
/-- append: within what is known to be there; or one place grows; or a new one. -/
def appendSl (C : Ctx) (lim : Nat) (H : Heap) (e : TypeId) (sz by_ n : Nat) (vs : List AV) (l v o len cap : Nat) (m : Bool) : Option (AV × Eff) :=
  bif decide (len + n ≤ cap) then (storeN lim H vs (.ptr l v (o + len * sz))).map fun f => (.sl l v o (len + n) cap m, f) else
  bif !growOK C.P e sz by_ (len + n) then none else
  bif m then (match H.get l with
    | .cells v' e' fr _ c => bif Nat.ble lim l && (v' == v) && (o == 0) && Nat.beq e' e && Nat.beq fr.1 0 && Nat.beq fr.2 0 && Nat.ble len cap && Nat.beq c.length (cap * sz) then
        some (.sl l (v + 1) 0 (len + n) (len + n) true, .put l (.cells (v + 1) e fr true (c.take (len * sz) ++ vs))) else none
    | _ => none)
  else (firstA C H sz len (.sl l v o len cap m)).map fun old => (.sl H.sz 0 0 (len + n) (len + n) true, .new (newCells e true (old ++ vs)))
def appendA (C : Ctx) (lim : Nat) (H : Heap) (t : TypeId) (s x : AV) : Option (AV × Eff) := match C.P.underlying t with
  | some (.slice e) => (szA C.P e).bind fun sz => (bytesA C.P e).bind fun by_ => (lenA x).bind fun n => bif sz == 0 then none else (firstA C H sz n x).bind fun vs =>
      bif !(vs.all AV.solid && (vs.length == n * sz)) then none else match s with
      | .nils => bif n == 0 then some (.nils, .nothing) else bif growOK C.P e sz by_ n then some (.sl H.sz 0 0 n n true, .new (newCells e true vs)) else none
      | .sl l v o len cap m => appendSl C lim H e sz by_ n vs l v o len cap m
      | .xs a len cap => bif decide (len + n ≤ cap) || !growOK C.P e sz by_ (len + n) then none else
          (firstA C H sz len (.xs a len cap)).map fun old => (.sl H.sz 0 0 (len + n) (len + n) true, .new (newCells e true (old ++ vs)))
      | _ => none
  | _ => none
-- memory without a type
def unsafeA (C : Ctx) (H : Heap) (src dst : TypeId) (x : AV) : Option AV := match C.P.underlying src, C.P.underlying dst, x with
  | some (.pointer _), some .unsafePointer, .nilp => some .nilp
  | some .unsafePointer, some (.pointer _), .nilp => some .nilp
  | some (.pointer t), some .unsafePointer, .ptr l v o => (szA C.P t).bind fun n => match H.get l with
    | .cells v' _ _ _ c => bif v' == v && !(n == 0) && Nat.blt o c.length then some (.ptr l v o) else none
    | _ => none
  | some .unsafePointer, some (.pointer u), .ptr l v o => (szA C.P u).bind fun _ => match H.get l with
    | .cells v' e _ false c => bif v' == v && liesAt C.P C.P.depth e (c.length / C.P.cellsOf e) o u 1 then some (.ptr l v o) else none
    | _ => none
  | _, _, _ => none
def sliceDataA : AV → Option AV
  | .nils => some .nilp
  | .sl l v o _ c _ => bif Nat.beq c 0 then none else some (.ptr l v o)
  | _ => none
def isPtrA : AV → Bool
  | .nilp | .ptr .. | .xp _ => true
  | _ => false
def unsafeStringA (C : Ctx) (lim : Nat) (H : Heap) (pt : TypeId) (x n : AV) : Option (AV × Eff) := match n with
  | .int .i64 n => bif n == 0 then (bif isPtrA x then some (.str .empty, .nothing) else none) else match C.P.underlying pt, x with
      | some (.pointer e), .ptr l v o => match H.get l with
        | .cells v' e' fr g c => bif Nat.ble lim l && v' == v && Nat.beq o 0 && Nat.beq e' e && Nat.beq fr.1 0 && Nat.beq fr.2 0 && Nat.beq (C.P.cellsOf e) 1 && decide (0 < n) && decide (n ≤ 9223372036854775807) && Nat.ble n.toNat c.length then
            (bytesOfA (c.take n.toNat)).map fun bs => (.str ⟨bs.toArray⟩, .put l (.cells v' e' (0, n.toNat) g c))
          else none
        | _ => none
      | _, _ => none
  | _ => none
/-- MakeNoZero: bytes that nobody knows. -/
def noZeroA (P : Program) (H : Heap) (t : TypeId) (n : Int) : Option (AV × Eff) := match P.underlying t with
  | some (.slice e) => (szA P e).bind fun sz => bif Nat.beq sz 1 && decide (0 ≤ n) && decide (n ≤ 281474976710656) then
      some (.sl H.sz 0 0 n.toNat n.toNat true, .new (newCells e true (List.replicate n.toNat .any))) else none
  | _ => none
def copyA (C : Ctx) (lim : Nat) (H : Heap) (t : TypeId) (d x : AV) : Option (AV × Eff) := match C.P.underlying t with
  | some (.slice e) => (szA C.P e).bind fun sz => (lenA x).bind fun n => (lenA d).bind fun k => (firstA C H sz (Nat.min n k) x).bind fun vs => match d with
      | .nils => some (.int .i64 0, .nothing)
      | .sl l v o _ _ _ => (storeN lim H vs (.ptr l v o)).map fun f => (.int .i64 (Nat.min n k : Nat), f)
      | _ => none
  | _ => none
def clearA (C : Ctx) (lim : Nat) (H : Heap) (t : TypeId) (x : AV) : Option Eff := match C.P.underlying t, x with
  | some _, .nilm | some _, .nils => some .nothing
  | some (.map _ _), .mp l => bif Nat.ble lim l then match H.get l with
      | .map _ c => some (.put l (.map [] c))
      | _ => none
    else none
  | some (.slice e), .sl l v o n _ _ => bif n == 0 then some .nothing else (zeroA C.P e).bind fun z => bif z.cells.length == 0 then none else storeN lim H (repeatL z.cells n) (.ptr l v o)
  | _, _ => none
def lenBA (C : Ctx) (H : Heap) (t : TypeId) (x : AV) : Option AV := match C.P.underlying t, x with
  | some .string, .str s => some (.int .i64 s.size)
  | some (.slice _), .nils => some (.int .i64 0)
  | some (.slice _), .sl _ _ _ n _ _ => some (.int .i64 n)
  | some (.slice _), .xs _ n _ => some (.int .i64 n)
  | some (.slice _), .sx n => some (.int .i64 n)
  | some (.array n _), _ => some (.int .i64 n)
  | some (.map _ _), .nilm => some (.int .i64 0)
  | some (.map _ _), .mp l => match H.get l with | .map es _ => some (.int .i64 es.length) | _ => none
  | _, _ => none
def capBA (P : Program) (t : TypeId) (x : AV) : Option AV := match P.underlying t, x with
  | some (.slice _), .nils => some (.int .i64 0)
  | some (.slice _), .sl _ _ _ _ c false => some (.int .i64 c)
  | some (.slice _), .xs _ _ c => some (.int .i64 c)
  | some (.array n _), _ => some (.int .i64 n)
  | _, _ => none
def minA : AV → AV → Option AV
  | .int k x, .int _ y => some (.int k (if y < x then y else x))
  | _, _ => none
def maxA : AV → AV → Option AV
  | .int k x, .int _ y => some (.int k (if x < y then y else x))
  | _, _ => none
def foldA (f : AV → AV → Option AV) : AV → List AV → Option AV
  | x, [] => some x
  | x, y :: r => (f x y).bind fun z => foldA f z r
end Go.Ev
