/- EvC: the evaluator: operations, regions, code, calls. -/
import Derived.Test.YtonakeopionkkaaGreatEvB
import Derived.Orders
set_option linter.unusedVariables false
set_option linter.unusedSimpArgs false
namespace Go.Ev
open Go.RowKit

abbrev Slots := List AV
abbrev Res := Option (AV × Heap)

-- what is reckoned is laid out at once (for runs in the kernel); each of these says 'K x'
def forceNat {R : Type} (n : Nat) (K : Nat → R) : R := match n with | 0 => K 0 | m + 1 => K (m + 1)
def forceInt {R : Type} (n : Int) (K : Int → R) : R := match n with | .ofNat m => forceNat m fun m => K (.ofNat m) | .negSucc m => forceNat m fun m => K (.negSucc m)
def forceBool {R : Type} (b : Bool) (K : Bool → R) : R := match b with | true => K true | false => K false
def forceCell {R : Type} (v : AV) (K : AV → R) : R := match v with
  | .int k n => forceInt n fun n => K (.int k n)
  | .bool b => forceBool b fun b => K (.bool b)
  | .ptr l v o => forceNat l fun l => forceNat v fun v => forceNat o fun o => K (.ptr l v o)
  | .sl l v o n c m => forceNat l fun l => forceNat v fun v => forceNat o fun o => forceNat n fun n => forceNat c fun c => forceBool m fun m => K (.sl l v o n c m)
  | .mp l => forceNat l fun l => K (.mp l)
  | .yld l => forceNat l fun l => K (.yld l)
  | v => K v
def forceList {R : Type} : List AV → (List AV → R) → R
  | [], K => K []
  | x :: r, K => forceCell x fun x => forceList r fun r => K (x :: r)
def forceTup {R : Type} : List AV → (List AV → R) → R
  | [], K => K []
  | .agg cs :: r, K => forceList cs fun cs => forceTup r fun r => K (.agg cs :: r)
  | x :: r, K => forceCell x fun x => forceTup r fun r => K (x :: r)
def forceAV {R : Type} (v : AV) (K : AV → R) : R := match v with
  | .agg cs => forceList cs fun cs => K (.agg cs)
  | .tup cs => forceTup cs fun cs => K (.tup cs)
  | v => forceCell v K
def forceEnts {R : Type} : List (AV × AV × Nat) → (List (AV × AV × Nat) → R) → R
  | [], K => K []
  | (k, v, b) :: r, K => forceAV k fun k => forceAV v fun v => forceNat b fun b => forceEnts r fun r => K ((k, v, b) :: r)
def forceNats {R : Type} : List Nat → (List Nat → R) → R
  | [], K => K []
  | x :: r, K => forceNat x fun x => forceNats r fun r => K (x :: r)
def forceObj {R : Type} (o : AObj) (K : AObj → R) : R := match o with
  | .hole => K .hole
  | .cells v e (a, b) g c => forceNat v fun v => forceNat a fun a => forceNat b fun b => forceBool g fun g => forceList c fun c => K (.cells v e (a, b) g c)
  | .map es c => forceEnts es fun es => forceNat c fun c => K (.map es c)
  | .iter l s seen d => forceNat s fun s => forceNats seen fun seen => forceNat d fun d => K (.iter l s seen d)
  | .siter s p => forceNat p fun p => K (.siter s p)
  | .loop ps as bd s st => forceTup s fun s => forceNat st fun st => K (.loop ps as bd s st)
def setTK {R : Type} : Nat → Nat → AObj → Tr → (Tr → R) → R
  | 0, _, _, t, K => K t
  | f + 1, n, o, .leaf, K => match n with
    | 0 => K (.node o .leaf .leaf)
    | n + 1 => match n % 2 with
      | 0 => setTK f (n / 2) o .leaf fun t => K (.node .hole t .leaf)
      | _ => setTK f (n / 2) o .leaf fun t => K (.node .hole .leaf t)
  | f + 1, n, o, .node x l r, K => match n with
    | 0 => K (.node o l r)
    | n + 1 => match n % 2 with
      | 0 => setTK f (n / 2) o l fun t => K (.node x t r)
      | _ => setTK f (n / 2) o r fun t => K (.node x l t)
def setK {R : Type} : Slots → Nat → AV → (Slots → R) → R
  | [], _, _, K => K []
  | _ :: r, 0, v, K => K (v :: r)
  | x :: r, n + 1, v, K => setK r n v fun r => K (x :: r)
def memN (i : Nat) : List Nat → Bool
  | [] => false
  | x :: r => bif Nat.beq x i then true else memN i r
def keepK {R : Type} (L : List Nat) : Nat → Slots → (Slots → R) → R
  | _, [], K => K []
  | i, x :: r, K => keepK L (i + 1) r fun r => K ((bif memN i L then x else .any) :: r)
def keep (L : List Nat) : Nat → Slots → Slots
  | _, [] => []
  | i, x :: r => (bif memN i L then x else .any) :: keep L (i + 1) r

section
variable {R : Type}
theorem forceNat_eq (n : Nat) (K : Nat → R) : forceNat n K = K n := by cases n <;> rfl
theorem forceInt_eq (n : Int) (K : Int → R) : forceInt n K = K n := by cases n <;> simp [forceInt, forceNat_eq]
theorem forceBool_eq (b : Bool) (K : Bool → R) : forceBool b K = K b := by cases b <;> rfl
theorem forceCell_eq (v : AV) (K : AV → R) : forceCell v K = K v := by cases v <;> simp [forceCell, forceInt_eq, forceNat_eq, forceBool_eq]
theorem forceList_eq (l : List AV) : ∀ K : List AV → R, forceList l K = K l := by
  induction l with
  | nil => intro K; rfl
  | cons x r ih => intro K; simp [forceList, forceCell_eq, ih]
theorem forceTup_eq (l : List AV) : ∀ K : List AV → R, forceTup l K = K l := by
  induction l with
  | nil => intro K; rfl
  | cons x r ih => intro K; cases x <;> simp [forceTup, forceCell_eq, forceList_eq, ih]
theorem forceAV_eq (v : AV) (K : AV → R) : forceAV v K = K v := by cases v <;> simp [forceAV, forceCell_eq, forceList_eq, forceTup_eq]
theorem forceEnts_eq (l : List (AV × AV × Nat)) : ∀ K : List (AV × AV × Nat) → R, forceEnts l K = K l := by
  induction l with
  | nil => intro K; rfl
  | cons x r ih => intro K; obtain ⟨a, b, c⟩ := x; simp [forceEnts, forceAV_eq, forceNat_eq, ih]
theorem forceNats_eq (l : List Nat) : ∀ K : List Nat → R, forceNats l K = K l := by
  induction l with
  | nil => intro K; rfl
  | cons x r ih => intro K; simp [forceNats, forceNat_eq, ih]
theorem forceObj_eq (o : AObj) (K : AObj → R) : forceObj o K = K o := by
  cases o with
  | cells v e fr g c => obtain ⟨a, b⟩ := fr; simp [forceObj, forceNat_eq, forceBool_eq, forceList_eq]
  | _ => simp [forceObj, forceNat_eq, forceEnts_eq, forceNats_eq, forceTup_eq]
theorem setTK_eq : ∀ (f n : Nat) (o : AObj) (t : Tr) (K : Tr → R), setTK f n o t K = K (Tr.set f n o t) := by
  intro f
  induction f with
  | zero => intro n o t K; rfl
  | succ f ih =>
    intro n o t K
    cases n with
    | zero => cases t <;> rfl
    | succ n => cases t <;> rcases Nat.mod_two_eq_zero_or_one n with e | e <;> simp [setTK, Tr.set, e, ih]
theorem setK_eq (s : Slots) : ∀ (n : Nat) (v : AV) (K : Slots → R), setK s n v K = K (s.set n v) := by
  induction s with
  | nil => intro n v K; rfl
  | cons x r ih => intro n v K; cases n <;> simp [setK, ih]
theorem keepK_eq (L : List Nat) (s : Slots) : ∀ (i : Nat) (K : Slots → R), keepK L i s K = K (keep L i s) := by
  induction s with
  | nil => intro i K; rfl
  | cons x r ih => intro i K; simp [keepK, keep, ih]
end

def oprA (s : Slots) : Operand → AV
  | .tmp t => s.getD t (.tup [])
  | .const v => ofV v
  | .global g => .xp ⟨g, 0, none⟩
  | .func f => .fn (.func f) [] []

def strA? (b : Bool) (v : AV) (K : AV → Res) : Res := bif b then forceAV v K else K v
theorem strA?_eq (b : Bool) (v : AV) (K : AV → Res) : strA? b v K = K v := by cases b <;> simp [strA?, forceAV_eq]
def applyK (b : Bool) (H : Heap) (f : Eff) (K : Heap → Res) : Res := match f with
  | .nothing => K H
  | .put l o => bif b then (forceObj o fun o => setTK (l + 1) l o H.t fun t => K ⟨H.sz, t⟩) else K (H.put l o)
  | .new o => bif b then (forceObj o fun o => setTK (H.sz + 1) H.sz o H.t fun t => forceNat (H.sz + 1) fun n => K ⟨n, t⟩) else K (H.new o)
def Eff.on (f : Eff) (H : Heap) : Heap := match f with
  | .nothing => H
  | .put l o => H.put l o
  | .new o => H.new o
theorem applyK_eq (b : Bool) (H : Heap) (f : Eff) (K : Heap → Res) : applyK b H f K = K (f.on H) := by
  cases f <;> cases b <;> simp [applyK, Eff.on, forceObj_eq, setTK_eq, forceNat_eq] <;> rfl

def nothing (v : AV) : AV × Eff := (v, .nothing)
def skips (f : Eff) : AV × Eff := (.tup [], f)
def builtinA (C : Ctx) (lim : Nat) (H : Heap) (b : Builtin) (ts : Array TypeId) (args : List AV) : Option (AV × Eff) := match b, ts[0]?, args with
  | .len, some t, [x] => (lenBA C H t x).map nothing
  | .cap, some t, [x] => (capBA C.P t x).map nothing
  | .append, some t, [s, x] => bif (match ts[1]? with | some u => (match C.P.underlying u with | some (.int _) => true | some _ => false | none => true) | none => true) then none else appendA C lim H t s x
  | .copy, some t, [d, x] => copyA C lim H t d x
  | .delete, some t, [m, k] => (deleteA C lim H t m k).map skips
  | .clear, some t, [x] => (clearA C lim H t x).map skips
  | .min, _, x :: r => (foldA minA x r).map nothing
  | .max, _, x :: r => (foldA maxA x r).map nothing
  | .unsafeSliceData, _, [x] => (sliceDataA x).map nothing
  | .unsafeString, some t, [x, n] => bif Nat.beq ts.size 2 then unsafeStringA C lim H t x n else none
  | _, _, _ => none
/-- All operations but calls of functions. -/
def opA (C : Ctx) (lim : Nat) (s : Slots) (H : Heap) (op : Op) : Option (AV × Eff) := match op with
  | .move x | .assign x => some (oprA s x, .nothing)
  | .pick c a b => (asBool (oprA s c)).map fun t => (bif t then oprA s a else oprA s b, .nothing)
  | .alloc e => allocA C H e
  | .box e x => boxA H e (oprA s x)
  | .build t ps => (buildA C.P t (ps.toList.map fun p => (p.1, oprA s p.2))).map nothing
  | .buildSlice t n ps => buildSliceA C H t n (ps.toList.map fun p => (p.1, oprA s p.2))
  | .load t a => (loadA C H t (oprA s a)).map nothing
  | .store t a x => (storeA C lim H t (oprA s a) (oprA s x)).map skips
  | .nilCheck x => match oprA s x with
    | .ptr l v o => some (.ptr l v o, .nothing)
    | .xp a => some (.xp a, .nothing)
    | .fn (.func f) a b => some (.fn (.func f) a b, .nothing)
    | _ => none
  | .binOp op t x y _ => (binA C.P H op t (oprA s x) (oprA s y)).map nothing
  | .unOp op _ x => (unA op (oprA s x)).map nothing
  | .convert src dst x => match C.P.underlying src, C.P.underlying dst with
    | some (.slice e), some .string => (match C.P.underlying e with | some (.int .u8) => bytesToStrA C H (oprA s x) | _ => none).map nothing
    | some (.pointer _), some .unsafePointer | some .unsafePointer, some (.pointer _) => (unsafeA C H src dst (oprA s x)).map nothing
    | _, _ => (convA C.P src dst (oprA s x)).map nothing
  | .makeInterface t x => match C.P.underlying t with
    | some (.interface _) => none
    | some _ => some (.ifc t (oprA s x), .nothing)
    | none => none
  | .makeFunc f a b => some (.fn f (a.toList.map (oprA s)) (b.toList.map (oprA s)), .nothing)
  | .makeMap _ none => some (makeMapA H)
  | .makeSlice t l c => makeSliceA C H t (oprA s l) (oprA s c)
  | .slice t x lo hi mx => (sliceA C.P t (oprA s x) (lo.map (oprA s)) (hi.map (oprA s)) (mx.map (oprA s))).map nothing
  | .fieldAddr t x i => (fieldAddrA C.P t (oprA s x) i).map nothing
  | .field t x i => (fieldA C.P t (oprA s x) i).map nothing
  | .indexAddr t x i => (indexAddrA C.P t (oprA s x) (oprA s i)).map nothing
  | .index t x i => (indexA C.P t (oprA s x) (oprA s i)).map nothing
  | .lookup t x i ok => (lookupA C H t (oprA s x) (oprA s i) ok).map nothing
  | .mapUpdate t m k x | .insert t m k x => (mapPutA C lim H t (oprA s m) (oprA s k) (oprA s x)).map skips
  | .mapEntry t m k => mapEntryA C lim H t (oprA s m) (oprA s k)
  | .entryStore _ m k x => (entryStoreA lim H (oprA s m) (oprA s k) (oprA s x)).map skips
  | .range t x => rangeA H C.P t (oprA s x)
  | .next it b => nextA lim H (oprA s it) b
  | .entry it => (entryA H (oprA s it)).map nothing
  | .extract t i => match oprA s t with
    | .tup vs => (vs[i]?).map nothing
    | _ => none
  | .call ⟨.builtin b, args, ts⟩ => builtinA C lim H b ts (args.toList.map (oprA s))
  | _ => none

def wantV (x : AV) (want : Bool) : Option Bool := match x with
  | .bool b => some (b == want)
  | .tup [] => some false
  | _ => none
/-- Is the operation wanted? Not told where its guard is neither. -/
def wantA (ops : Array Oper) (s : Slots) (o : Oper) : Option Bool := match o.guard with
  | none => some true
  | some (j, want) => match (ops[j]?).bind (·.dst) with
    | none => some false
    | some d => match s[d]? with
      | some x => wantV x want
      | none => some false
def putA (d : Option Tmp) (v : AV) (s : Slots) (K : Slots → Res) : Res := match d with
  | some d => setK s d v K
  | none => K s
def Slots.put (s : Slots) (d : Option Tmp) (v : AV) : Slots := match d with
  | some d => s.set d v
  | none => s
theorem putA_eq (d : Option Tmp) (v : AV) (s : Slots) (K : Slots → Res) : putA d v s K = K (s.put d v) := by
  cases d <;> simp [putA, Slots.put, setK_eq]
def calleeA : AV → List AV → Option (FuncId × List AV)
  | .fn (.func g) first cap, args => some (g, first ++ args ++ cap)
  | _, _ => none

inductive Ex where
  | normal
  | exit (id : Nat)
  | ret

abbrev CallF := Nat → FuncId → List AV → Heap → Res
abbrev YieldF := Nat → Nat → List AV → Heap → Res
def noY : YieldF := fun _ _ _ _ => none
/-- One operation. -/
def evOp (C : Ctx) (call : CallF) (yc : YieldF) (lim : Nat) (o : Oper) (s : Slots) (H : Heap) (K : AV → Heap → Res) : Res := match o.op with
  | .call ⟨.value f, args, _⟩ => match oprA s f with
    | .yld l => (yc lim l (args.toList.map (oprA s)) H).bind fun r => K r.1 r.2
    | fv => (calleeA fv (args.toList.map (oprA s))).bind fun c => (call lim c.1 c.2 H).bind fun r => K r.1 r.2
  | op => (opA C lim s H op).bind fun r => strA? C.strict r.1 fun v => applyK C.strict H r.2 fun H => K v H
def evOps (C : Ctx) (call : CallF) (yc : YieldF) (lim : Nat) (ops : Array Oper) : List Oper → Slots → Heap → (Slots → Heap → Res) → Res
  | [], s, H, K => K s H
  | o :: r, s, H, K => (wantA ops s o).bind fun b =>
      bif b then evOp C call yc lim o s H fun v H => putA o.dst v s fun s => evOps C call yc lim ops r s H K
      else putA o.dst (.tup []) s fun s => evOps C call yc lim ops r s H K

-- regions that draw their order
mutual
/-- No own place from N on is named in it. -/
def AV.under (N : Nat) : AV → Bool
  | .ptr l _ _ => Nat.blt l N
  | .sl l _ _ _ _ _ => Nat.blt l N
  | .mp l => Nat.blt l N
  | .yld l => Nat.blt l N
  | .fn _ a b => AV.unders N a && AV.unders N b
  | .ifc _ v => AV.under N v
  | .agg cs => AV.unders N cs
  | .tup cs => AV.unders N cs
  | _ => true
def AV.unders (N : Nat) : List AV → Bool
  | [] => true
  | x :: r => AV.under N x && AV.unders N r
end
def AObj.under (N : Nat) : AObj → Bool
  | .cells _ _ _ _ c => AV.unders N c
  | _ => false
mutual
/-- The very same value. -/
def AV.eqv : AV → AV → Bool
  | .any, .any => true
  | .int k n, .int k' n' => decide (k = k') && n == n'
  | .bool a, .bool b => a == b
  | .str a, .str b => a == b
  | .nilp, .nilp => true
  | .ptr l v o, .ptr l' v' o' => Nat.beq l l' && Nat.beq v v' && Nat.beq o o'
  | .nils, .nils => true
  | .sl l v o n c m, .sl l' v' o' n' c' m' => Nat.beq l l' && Nat.beq v v' && Nat.beq o o' && Nat.beq n n' && Nat.beq c c' && m == m'
  | .sx n, .sx n' => Nat.beq n n'
  | .xp a, .xp b => decide (a = b)
  | .xs a n c, .xs b n' c' => decide (a = b) && Nat.beq n n' && Nat.beq c c'
  | .nilm, .nilm => true
  | .mp l, .mp l' => Nat.beq l l'
  | .nilf, .nilf => true
  | .fn f a c, .fn g a' c' => decide (f = g) && AV.eqvs a a' && AV.eqvs c c'
  | .nili, .nili => true
  | .ifc t v, .ifc t' v' => Nat.beq t t' && AV.eqv v v'
  | .agg a, .agg b => AV.eqvs a b
  | .tup a, .tup b => AV.eqvs a b
  | _, _ => false
def AV.eqvs : List AV → List AV → Bool
  | [], [] => true
  | x :: r, y :: q => AV.eqv x y && AV.eqvs r q
  | _, _ => false
end
/-- What makes a new place, and looks at none. -/
def isMk : Op → Bool
  | .alloc _ | .buildSlice .. => true
  | _ => false
/-- What looks at no place. -/
def isPure : Op → Bool
  | .move _ | .assign _ | .pick .. | .build .. | .nilCheck _ | .unOp .. | .makeInterface .. | .makeFunc .. | .slice .. | .fieldAddr .. | .field .. | .indexAddr .. | .index .. | .extract .. => true
  | _ => false
/-- What may wait, where nothing else is told. -/
def mayWait : Op → Bool
  | .alloc _ | .buildSlice .. | .load .. | .lookup .. | .entry _ | .binOp .. => true
  | .convert .. => true
  | .call ⟨.builtin .len, _, _⟩ | .call ⟨.builtin .cap, _, _⟩ | .call ⟨.builtin .min, _, _⟩ | .call ⟨.builtin .max, _, _⟩ => true
  | op => isPure op
abbrev DOp := Nat × Bool × Oper
/-- Which operations stand ahead of each one, by bits. -/
def masks (ops : Array Oper) : List Nat := ops.toList.foldl (fun acc o => acc ++ [o.after.toList.foldl (fun m e => bif Region.binds .any e then m ||| 2 ^ e.on ||| acc.getD e.on 0 else m) 0]) []
def freshD (ops : Array Oper) (x y : Oper) : Bool := match y.dst with
  | some d => !(x.looksAt ops).contains d && x.dst != some d
  | none => true
def selfD (ops : Array Oper) (x : Oper) : Bool := match x.dst with
  | some d => !(x.looksAt ops).contains d
  | none => true
def pairD (ops : Array Oper) (ms : List Nat) (x y : DOp) : Bool :=
  !Nat.beq x.1 y.1 && ((ms.getD y.1 0).testBit x.1 || (x.2.1 && x.2.2.apart ops y.2.2)) && (!y.2.1 || freshD ops x.2.2 y.2.2)
def pairsD (ops : Array Oper) (ms : List Nat) : List DOp → Bool
  | [] => true
  | x :: r => r.all (pairD ops ms x) && pairsD ops ms r
def orderD (ops : Array Oper) : Option (List (Nat × Bool)) → List DOp
  | none => ops.toList.zipIdx.map fun (o, i) => (i, mayWait o.op, o)
  | some l => l.filterMap fun (i, b) => (ops[i]?).map fun o => (i, b, o)
def okD (ops : Array Oper) (ms : List Nat) (l : List DOp) : Bool :=
  Nat.beq l.length ops.size && (List.range ops.size).all (fun i => l.any fun x => Nat.beq x.1 i) &&
  l.all (fun x => x.2.2.after.toList.all (fun e => !Region.binds .any e || Nat.blt e.on x.1) && (!x.2.1 || selfD ops x.2.2)) && pairsD ops ms l
def again (C : Ctx) (lim : Nat) (s : Slots) (H : Heap) (x : Nat × Op × AV) : Bool := match opA C lim s H x.2.1 with
  | some (u, .nothing) => AV.eqv u x.2.2
  | _ => false
def evDraw (C : Ctx) (call : CallF) (lim : Nat) (ops : Array Oper) (ms : List Nat) : List DOp → List (Nat × Op × AV) → Slots → Heap → (Slots → Heap → Res) → Res
  | [], _, s, H, K => K s H
  | (j, fl, o) :: r, rs, s, H, K => (wantA ops s o).bind fun b => bif !b then putA o.dst (.tup []) s fun s => evDraw C call lim ops ms r rs s H K
      else bif fl then (opA C lim s H o.op).bind fun q => match q.2 with
        | .nothing => strA? C.strict q.1 fun v => putA o.dst v s fun s => evDraw C call lim ops ms r (bif isPure o.op then rs else (j, o.op, v) :: rs) s H K
        | .new ob => bif isMk o.op && ob.under H.sz then strA? C.strict q.1 fun v => applyK C.strict H (.new ob) fun H => putA o.dst v s fun s =>
            bif rs.all (again C lim s H) then evDraw C call lim ops ms r rs s H K else none
          else none
        | .put _ _ => none
      else evOp C call noY lim o s H fun v H => putA o.dst v s fun s =>
        bif rs.all (fun x => (ms.getD j 0).testBit x.1 || again C lim s H x) then evDraw C call lim ops ms r rs s H K else none
def drawK (C : Ctx) (call : CallF) (lim : Nat) (ops : Array Oper) (ord : Option (List (Nat × Bool))) (s : Slots) (H : Heap) (K : Slots → Heap → Res) : Res :=
  forceNats (masks ops) fun ms => bif okD ops ms (orderD ops ord) then evDraw C call lim ops ms (orderD ops ord) [] s H K else none

def normK (l : Option (List Nat)) (s : Slots) (K : Slots → Res) : Res := match l with
  | none => K s
  | some L => keepK L 0 s K
def norm (l : Option (List Nat)) (s : Slots) : Slots := match l with
  | none => s
  | some L => keep L 0 s
theorem normK_eq (l : Option (List Nat)) (s : Slots) (K : Slots → Res) : normK l s K = K (norm l s) := by
  cases l <;> simp [normK, norm, keepK_eq]
def loopK (L : Option (List Nat)) (body : Slots → Heap → (Ex → Slots → Heap → Res) → Res) : Nat → Slots → Heap → (Ex → Slots → Heap → Res) → Res
  | 0, _, _, _ => none
  | n + 1, s, H, κ => normK L s fun s => body s H fun e s H => match e with
    | .normal => loopK L body n s H κ
    | .exit id => κ (.exit id) s H
    | .ret => κ .ret s H
/-- The first region that is written in it. -/
def firstId : Code → Option Nat
  | .region id _ _ => some id
  | .seq a b | .cond _ a b => match firstId a with
    | some i => some i
    | none => firstId b
  | .block _ b | .loop b => firstId b
  | _ => none
/-- Which slots the code's first region looks at, or what comes behind it; a way's fork is known by the first region in it. -/
def headL (C : Ctx) (f : FuncId) : Code → Option (List Nat)
  | .region id _ _ => C.live f id
  | .seq a _ => headL C f a
  | .block _ b => headL C f b
  | .loop b => headL C f b
  | .cond _ a b => match firstId a with
    | some i => C.live f (1000000 + i)
    | none => match firstId b with
      | some i => C.live f (1000000 + i)
      | none => none
  | _ => none
/-- The loop's end: its record goes; what it tells is done. -/
def loopEnd (b : Bool) (l : Nat) (s : Slots) (H : Heap) (κ : Ex → Slots → Heap → Res) : Res := match H.get l with
  | .loop _ _ _ _ st => applyK b H (.put l .hole) fun H => match st with
    | 0 => κ .normal s H
    | 1 => none
    | 2 => κ .ret s H
    | n + 3 => κ (.exit n) s H
  | _ => none
def hasBody (P : Program) (f : FuncId) : Bool := match P.funcs[f]? with
  | some fn => fn.body.isSome
  | none => false
def ev (C : Ctx) (call : CallF) (yc : YieldF) (rd : Bool) (f : FuncId) (lim n : Nat) : Code → Slots → Heap → (Ex → Slots → Heap → Res) → Res
  | .skip, s, H, κ => κ .normal s H
  | .label _, s, H, κ => κ .normal s H
  | .region id ops draw, s, H, κ =>
      bif draw then (bif rd then none else drawK C call lim ops (C.draw f id) s H fun s H => κ .normal s H) else evOps C call yc lim ops ops.toList s H fun s H => κ .normal s H
  | .seq a b, s, H, κ => ev C call yc rd f lim n a s H fun e s H => match e with
    | .normal => normK (headL C f b) s fun s => ev C call yc rd f lim n b s H κ
    | .exit id => κ (.exit id) s H
    | .ret => κ .ret s H
  | .cond c a b, s, H, κ => (asBool (oprA s c)).bind fun t => bif t then ev C call yc rd f lim n a s H κ else ev C call yc rd f lim n b s H κ
  | .block id b, s, H, κ => ev C call yc rd f lim n b s H fun e s H => match e with
    | .normal => κ .normal s H
    | .exit j => bif Nat.beq j id then κ .normal s H else κ (.exit j) s H
    | .ret => κ .ret s H
  | .loop b, s, H, κ => loopK (headL C f b) (fun s H κ => ev C call yc rd f lim n b s H κ) n s H κ
  | .exit id, s, H, κ => κ (.exit id) s H
  | .ret, s, H, κ => κ .ret s H
  | .rangeFunc x ps as bd, s, H, κ => bif rd || !Nat.ble lim H.sz then none else (calleeA (oprA s x) [.yld H.sz]).bind fun c => bif hasBody C.P c.1 then
      applyK C.strict H (.new (.loop ps as bd s 0)) fun H' => (call lim c.1 c.2 H').bind fun r => loopEnd C.strict H.sz s r.2 κ
    else none
  | _, _, _, _ => none
def setArgs : List Tmp → List AV → Slots → Slots
  | t :: ts, a :: as, s => setArgs ts as (s.set t a)
  | _, _, s => s
def roundEnd (b : Bool) (l : Nat) (e : Ex) (H : Heap) : Res := match H.get l with
  | .loop ps as bd s 1 => match e with
    | .normal => applyK b H (.put l (.loop ps as bd s 0)) fun H => some (.bool true, H)
    | .ret => applyK b H (.put l (.loop ps as bd s 2)) fun H => some (.bool false, H)
    | .exit n => applyK b H (.put l (.loop ps as bd s (n + 3))) fun H => some (.bool false, H)
  | _ => none
/-- A round of a loop over a function. -/
def evYield (C : Ctx) (call : CallF) (yc : YieldF) (k : Nat) : YieldF := fun lim l args H => match H.get l with
  | .loop ps as bd s 0 => bif Nat.ble lim l && Nat.beq args.length ps.size then
      ev C call yc true 0 lim k as (setArgs ps.toList args s) H fun e s H => match e with
        | .normal => match H.get l with
          | .loop ps as bd' s' 0 => applyK C.strict H (.put l (.loop ps as bd' s' 1)) fun H => ev C call yc true 0 lim k bd s H fun e _ H => roundEnd C.strict l e H
          | _ => none
        | _ => none
    else none
  | _ => none

def resA1 (C : Ctx) (s : Slots) (H : Heap) : ResultVar → Option AV
  | .tmp t => some (s.getD t (.tup []))
  | .cell a t => loadA C H t (s.getD a (.tup []))
def resA (C : Ctx) (fn : Func) (s : Slots) (H : Heap) : Option AV :=
  (fn.results.toList.mapM (resA1 C s H)).map fun vs => match vs with
    | [v] => v
    | vs => .tup vs
/-- Functions without a Go body. -/
def externA (P : Program) (lim : Nat) (H : Heap) : XK → List AV → Option (AV × Eff)
  | .load k, [.ptr l v o] => (H.cellsAt l v).bind fun c => match c[o]? with
    | some (.int k' n) => bif decide (k' = k) then some (.int k' n, .nothing) else none
    | _ => none
  | .store, [.ptr l v o, x] => (storeN lim H [x] (.ptr l v o)).map skips
  | .cas k, [.ptr l v o, .int ka a, .int kb b] => (H.cellsAt l v).bind fun c => match c[o]? with
    | some (.int k' n) => bif decide (k' = k) && decide (ka = k) && decide (kb = k) then
        (storeN lim H [.int kb b] (.ptr l v o)).bind fun f => bif n == a then some (.bool true, f) else some (.bool false, .nothing)
      else none
    | _ => none
  | .add k, [.ptr l v o, .int ky y] => (H.cellsAt l v).bind fun c => match c[o]? with
    | some (.int k' n) => bif decide (k' = k) && decide (ky = k) then (storeN lim H [.int k (wrapK k (n + y))] (.ptr l v o)).map fun f => (.int k (wrapK k (n + y)), f) else none
    | _ => none
  | .same, [x] => some (x, .nothing)
  | .nozero _ t, [.int .i64 n] => noZeroA P H t n
  | _, _ => none
def finish (C : Ctx) (fn : Func) : Ex → Slots → Heap → Res
  | .exit _, _, _ => none
  | _, s, H => (resA C fn s H).bind fun v => strA? C.strict v fun v => some (v, H)
def evCY (C : Ctx) : Nat → CallF × YieldF
  | 0 => (fun _ _ _ _ => none, noY)
  | k + 1 => (fun lim f args H => (C.P.funcs[f]?).bind fun fn => bif fn.name == "runtime.NumGoroutine" then none else match fn.body with
    | none => (C.ext f).bind fun x => (externA C.P lim H x args).bind fun r => applyK C.strict H r.2 fun H => some (r.1, H)
    | some c => bif C.pur f then
        ((ev C (evCY C k).1 (evCY C k).2 false f H.sz k c (args ++ List.replicate (fn.ntmps - args.length) (.tup [])) H (finish C fn)).bind fun r => bif AV.under H.sz r.1 then some (r.1, H) else none)
      else ev C (evCY C k).1 (evCY C k).2 false f lim k c (args ++ List.replicate (fn.ntmps - args.length) (.tup [])) H (finish C fn),
    evYield C (evCY C k).1 (evCY C k).2 k)
def evCall (C : Ctx) (k : Nat) : CallF := (evCY C k).1
end Go.Ev
