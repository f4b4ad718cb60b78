/- EvL: the evaluator once more, in a form whose stuck terms read well; it is the same function. -/
import Derived.Test.YtonakeopionkkaaGreatEvC
set_option linter.unusedVariables false
set_option linter.unusedSimpArgs false
namespace Go.Ev
open Go.RowKit

/-- A value, then. -/
def purK (o : Option AV) (K : AV → Res) : Res := o.bind fun v => forceAV v K
/-- A value and what is done to the places, then. -/
def effK (H : Heap) (o : Option (AV × Eff)) (K : AV → Heap → Res) : Res := o.bind fun r => forceAV r.1 fun v => applyK true H r.2 fun H => K v H
theorem purK_eq (o : Option AV) (K : AV → Res) : purK o K = o.bind K := by simp only [purK, forceAV_eq]
theorem effK_eq (H : Heap) (o : Option (AV × Eff)) (K : AV → Heap → Res) : effK H o K = o.bind fun r => K r.1 (r.2.on H) := by simp only [effK, forceAV_eq, applyK_eq]
/-- A call's result, then. -/
def resK (o : Res) (K : AV → Heap → Res) : Res := o.bind fun r => K r.1 r.2
def boolK (o : Option Bool) (K : Bool → Res) : Res := o.bind K
/-- Which way. -/
def condK (x : AV) (a b : Res) : Res := (asBool x).bind fun t => bif t then a else b

def pickA (c x y : AV) : Option AV := (asBool c).map fun t => bif t then x else y
def nilChkA : AV → Option AV
  | .ptr l v o => some (.ptr l v o)
  | .xp a => some (.xp a)
  | .fn (.func f) a b => some (.fn (.func f) a b)
  | _ => none
def convXA (C : Ctx) (H : Heap) (src dst : TypeId) (x : AV) : Option AV := match C.P.underlying src, C.P.underlying dst with
  | some (.slice e), some .string => (match C.P.underlying e with | some (.int .u8) => bytesToStrA C H x | _ => none)
  | some (.pointer _), some .unsafePointer | some .unsafePointer, some (.pointer _) => unsafeA C H src dst x
  | _, _ => convA C.P src dst x
def mkIfcA (C : Ctx) (t : TypeId) (x : AV) : Option AV := match C.P.underlying t with
  | some (.interface _) => none
  | some _ => some (.ifc t x)
  | none => none
def extA (i : Nat) : AV → Option AV
  | .tup vs => vs[i]?
  | _ => none
def foldsA (f : AV → AV → Option AV) : List AV → Option AV
  | x :: r => foldA f x r
  | [] => none
/-- Operations that look, and do nothing. -/
def isRd : Op → Bool
  | .move _ | .assign _ | .pick .. | .build .. | .load .. | .nilCheck _ | .binOp .. | .unOp .. | .convert .. | .makeInterface .. | .makeFunc .. | .slice .. | .fieldAddr .. | .field .. | .indexAddr .. | .index .. | .lookup .. | .entry _ | .extract .. => true
  | .call ⟨.builtin .len, args, ts⟩ => Nat.beq args.size 1 && Nat.blt 0 ts.size
  | .call ⟨.builtin .cap, args, ts⟩ => Nat.beq args.size 1 && Nat.blt 0 ts.size
  | .call ⟨.builtin .min, args, ts⟩ => Nat.blt 0 args.size && Nat.blt 0 ts.size
  | .call ⟨.builtin .max, args, ts⟩ => Nat.blt 0 args.size && Nat.blt 0 ts.size
  | _ => false
def rdA (C : Ctx) (s : Slots) (H : Heap) : Op → Option AV
  | .move x | .assign x => some (oprA s x)
  | .pick c a b => pickA (oprA s c) (oprA s a) (oprA s b)
  | .build t ps => buildA C.P t (ps.toList.map fun p => (p.1, oprA s p.2))
  | .load t a => loadA C H t (oprA s a)
  | .nilCheck x => nilChkA (oprA s x)
  | .binOp op t x y _ => binA C.P H op t (oprA s x) (oprA s y)
  | .unOp op _ x => unA op (oprA s x)
  | .convert src dst x => convXA C H src dst (oprA s x)
  | .makeInterface t x => mkIfcA C t (oprA s x)
  | .makeFunc f a b => some (.fn f (a.toList.map (oprA s)) (b.toList.map (oprA s)))
  | .slice t x lo hi mx => sliceA C.P t (oprA s x) (lo.map (oprA s)) (hi.map (oprA s)) (mx.map (oprA s))
  | .fieldAddr t x i => fieldAddrA C.P t (oprA s x) i
  | .field t x i => fieldA C.P t (oprA s x) i
  | .indexAddr t x i => indexAddrA C.P t (oprA s x) (oprA s i)
  | .index t x i => indexA C.P t (oprA s x) (oprA s i)
  | .lookup t x i ok => lookupA C H t (oprA s x) (oprA s i) ok
  | .entry it => entryA H (oprA s it)
  | .extract t i => extA i (oprA s t)
  | .call ⟨.builtin .len, args, ts⟩ => lenBA C H (ts.getD 0 0) (oprA s (args.getD 0 (.tmp 0)))
  | .call ⟨.builtin .cap, args, ts⟩ => capBA C.P (ts.getD 0 0) (oprA s (args.getD 0 (.tmp 0)))
  | .call ⟨.builtin .min, args, ts⟩ => foldsA minA (args.toList.map (oprA s))
  | .call ⟨.builtin .max, args, ts⟩ => foldsA maxA (args.toList.map (oprA s))
  | _ => none
theorem opA_rd (C : Ctx) (lim : Nat) (s : Slots) (H : Heap) (op : Op) (h : isRd op = true) : opA C lim s H op = (rdA C s H op).map nothing := by
  cases op with
  | move x => rfl
  | assign x => rfl
  | pick c a b => simp only [opA, rdA, pickA, nothing, Option.map_map]; rfl
  | build t ps => rfl
  | load t a => rfl
  | nilCheck x =>
    simp only [opA, rdA, nilChkA]
    split
    · rename_i h; simp [h, nothing]
    · rename_i h; simp [h, nothing]
    · rename_i h; simp [h, nothing]
    · rename_i h1 h2 h3
      split
      · rename_i h; exact absurd h (h1 _ _ _)
      · rename_i h; exact absurd h (h2 _)
      · rename_i h; exact absurd h (h3 _ _ _)
      · rfl
  | binOp op t x y z => rfl
  | unOp op t x => rfl
  | convert src dst x =>
    simp only [opA, rdA, convXA]
    split <;> first | rfl | (rename_i h1 h2; simp [h1, h2]) | skip
    all_goals (split <;> first | rfl | simp_all)
  | makeInterface t x =>
    simp only [opA, rdA, mkIfcA]
    split <;> simp_all [nothing]
  | makeFunc f a b => rfl
  | slice t x lo hi mx => rfl
  | fieldAddr t x i => rfl
  | field t x i => rfl
  | indexAddr t x i => rfl
  | index t x i => rfl
  | lookup t x i ok => rfl
  | entry it => rfl
  | extract t i =>
    simp only [opA, rdA]
    cases oprA s t <;> rfl
  | call c =>
    obtain ⟨f, args, ts⟩ := c
    cases f with
    | builtin b =>
      have two : ∀ {n m : Nat}, (Nat.blt 0 n && Nat.blt 0 m) = true → 0 < n ∧ 0 < m := fun h => by simpa using h
      have one : ∀ {n m : Nat}, (Nat.beq n 1 && Nat.blt 0 m) = true → n = 1 ∧ 0 < m := fun h => by simpa using h
      cases b with
      | len =>
        obtain ⟨h1, h2⟩ := one h
        have e : ts[0]? = some (ts.getD 0 0) := by simp [Array.getD, h2]
        obtain ⟨args⟩ := args
        match args, h1 with
        | [x], _ =>
          show builtinA C lim H .len ts [oprA s x] = (lenBA C H (ts.getD 0 0) (oprA s x)).map nothing
          unfold builtinA
          rw [e]
      | cap =>
        obtain ⟨h1, h2⟩ := one h
        have e : ts[0]? = some (ts.getD 0 0) := by simp [Array.getD, h2]
        obtain ⟨args⟩ := args
        match args, h1 with
        | [x], _ =>
          show builtinA C lim H .cap ts [oprA s x] = (capBA C.P (ts.getD 0 0) (oprA s x)).map nothing
          unfold builtinA
          rw [e]
      | min =>
        obtain ⟨h1, h2⟩ := two h
        have e : ts[0]? = some (ts.getD 0 0) := by simp [Array.getD, h2]
        obtain ⟨args⟩ := args
        match args, h1 with
        | x :: r, _ =>
          show builtinA C lim H .min ts (oprA s x :: r.map (oprA s)) = (foldA minA (oprA s x) (r.map (oprA s))).map nothing
          unfold builtinA
          rw [e]
      | max =>
        obtain ⟨h1, h2⟩ := two h
        have e : ts[0]? = some (ts.getD 0 0) := by simp [Array.getD, h2]
        obtain ⟨args⟩ := args
        match args, h1 with
        | x :: r, _ =>
          show builtinA C lim H .max ts (oprA s x :: r.map (oprA s)) = (foldA maxA (oprA s x) (r.map (oprA s))).map nothing
          unfold builtinA
          rw [e]
      | _ => simp [isRd] at h
    | _ => simp [isRd] at h
  | _ => simp [isRd] at h
/-- What an operation that looks comes to, then; what is but handed on goes as it is. -/
def rdK (C : Ctx) (s : Slots) (H : Heap) (op : Op) (K : AV → Res) : Res := match op with
  | .move x | .assign x => K (oprA s x)
  | .makeFunc f a b => K (.fn f (a.toList.map (oprA s)) (b.toList.map (oprA s)))
  | op => purK (rdA C s H op) K
theorem rdK_eq (C : Ctx) (s : Slots) (H : Heap) (op : Op) (K : AV → Res) : rdK C s H op K = (rdA C s H op).bind K := by
  cases op <;> first | exact purK_eq _ _ | rfl
def opK (C : Ctx) (lim : Nat) (s : Slots) (H : Heap) (op : Op) (K : AV → Heap → Res) : Res :=
  bif isRd op then rdK C s H op fun v => K v H else effK H (opA C lim s H op) K
theorem opK_eq (C : Ctx) (lim : Nat) (s : Slots) (H : Heap) (op : Op) (K : AV → Heap → Res) :
    opK C lim s H op K = (opA C lim s H op).bind fun r => strA? C.strict r.1 fun v => applyK C.strict H r.2 fun H => K v H := by
  simp only [opK, strA?_eq, applyK_eq]
  cases h : isRd op with
  | true =>
    rw [opA_rd C lim s H op h]
    simp only [cond_true, rdK_eq]
    cases rdA C s H op <;> rfl
  | false => simp only [cond_false, effK_eq]
def valK (call : CallF) (yc : YieldF) (lim : Nat) (fv : AV) (args : List AV) (H : Heap) (K : AV → Heap → Res) : Res := match fv with
  | .yld l => resK (yc lim l args H) K
  | .fn (.func g) first cap => resK (call lim g (first ++ args ++ cap) H) K
  | _ => none
def evOpL (C : Ctx) (call : CallF) (yc : YieldF) (lim : Nat) (o : Oper) (s : Slots) (H : Heap) (K : AV → Heap → Res) : Res := match o.op with
  | .call ⟨.value f, args, _⟩ => valK call yc lim (oprA s f) (args.toList.map (oprA s)) H K
  | op => opK C lim s H op K
theorem evOpL_eq (C : Ctx) (call : CallF) (yc : YieldF) (lim : Nat) (o : Oper) (s : Slots) (H : Heap) (K : AV → Heap → Res) : evOpL C call yc lim o s H K = evOp C call yc lim o s H K := by
  obtain ⟨dst, op, ty, at_, after, guard⟩ := o
  cases op with
  | call c =>
    obtain ⟨f, args, ts⟩ := c
    cases f with
    | value f =>
      simp only [evOpL, evOp]
      cases hq : oprA s f with
      | fn g first cap => cases g <;> simp [valK, resK, calleeA]
      | _ => simp [valK, resK, calleeA]
    | _ => exact opK_eq ..
  | _ => exact opK_eq ..
/-- What is guarded: a value; a value and what is done; a call's result. -/
def gPur (w : Option Bool) (o : Option AV) : Option AV := w.bind fun b => bif b then o else some (.tup [])
def gEff (w : Option Bool) (o : Option (AV × Eff)) : Option (AV × Eff) := w.bind fun b => bif b then o else some (.tup [], .nothing)
def gRes (w : Option Bool) (H : Heap) (o : Res) : Res := w.bind fun b => bif b then o else some (.tup [], H)
def valR (call : CallF) (yc : YieldF) (lim : Nat) (fv : AV) (args : List AV) (H : Heap) : Res := match fv with
  | .yld l => yc lim l args H
  | .fn (.func g) first cap => call lim g (first ++ args ++ cap) H
  | _ => none
theorem valK_eq (call : CallF) (yc : YieldF) (lim : Nat) (fv : AV) (args : List AV) (H : Heap) (K : AV → Heap → Res) : valK call yc lim fv args H K = resK (valR call yc lim fv args H) K := by
  unfold valK valR
  split <;> rfl
def evOpG (C : Ctx) (call : CallF) (yc : YieldF) (lim : Nat) (w : Option Bool) (o : Oper) (s : Slots) (H : Heap) (K : AV → Heap → Res) : Res := match o.op with
  | .call ⟨.value f, args, _⟩ => resK (gRes w H (valR call yc lim (oprA s f) (args.toList.map (oprA s)) H)) K
  | op => bif isRd op then purK (gPur w (rdA C s H op)) fun v => K v H else effK H (gEff w (opA C lim s H op)) K
theorem evOpG_eq (C : Ctx) (call : CallF) (yc : YieldF) (lim : Nat) (w : Option Bool) (o : Oper) (s : Slots) (H : Heap) (K : AV → Heap → Res) :
    evOpG C call yc lim w o s H K = w.bind fun b => bif b then evOpL C call yc lim o s H K else K (.tup []) H := by
  obtain ⟨dst, op, ty, at_, after, guard⟩ := o
  have gen : ∀ op, (bif isRd op then purK (gPur w (rdA C s H op)) fun v => K v H else effK H (gEff w (opA C lim s H op)) K) = w.bind fun b => bif b then opK C lim s H op K else K (.tup []) H := by
    intro op
    unfold opK gPur gEff
    simp only [purK_eq, rdK_eq, effK_eq]
    cases isRd op <;> cases w with
    | none => rfl
    | some b => cases b <;> rfl
  cases op with
  | call c =>
    obtain ⟨f, args, ts⟩ := c
    cases f with
    | value f =>
      simp only [evOpG, evOpL, valK_eq]
      unfold gRes resK
      cases w with
      | none => rfl
      | some b => cases b <;> rfl
    | _ => simp only [evOpG, evOpL]; exact gen _
  | _ => simp only [evOpG, evOpL]; exact gen _
def evOpsL (C : Ctx) (call : CallF) (yc : YieldF) (lim : Nat) (ops : Array Oper) : List Oper → Slots → Heap → (Slots → Heap → Res) → Res
  | [], s, H, K => K s H
  | o :: r, s, H, K => match o.guard with
    | none => evOpL C call yc lim o s H fun v H => evOpsL C call yc lim ops r (s.put o.dst v) H K
    | some _ => evOpG C call yc lim (wantA ops s o) o s H fun v H => evOpsL C call yc lim ops r (s.put o.dst v) H K
theorem evOpsL_eq (C : Ctx) (call : CallF) (yc : YieldF) (lim : Nat) (ops : Array Oper) : ∀ (l : List Oper) (s : Slots) (H : Heap) (K : Slots → Heap → Res), evOpsL C call yc lim ops l s H K = evOps C call yc lim ops l s H K
  | [], _, _, _ => rfl
  | o :: r, s, H, K => by
    simp only [evOpsL, evOps]
    split
    · rename_i hg
      simp only [wantA, hg, Option.bind_some, cond_true, evOpL_eq, putA_eq, evOpsL_eq C call yc lim ops r]
    · simp only [evOpG_eq, evOpL_eq, putA_eq, evOpsL_eq C call yc lim ops r]
/-- Is it told again? -/
def agn (o : Option AV) (v : AV) : Bool := match o with
  | some u => AV.eqv u v
  | none => false
def againL (C : Ctx) (lim : Nat) (s : Slots) (H : Heap) (x : Nat × Op × AV) : Bool :=
  bif isRd x.2.1 then agn (rdA C s H x.2.1) x.2.2 else again C lim s H x
theorem againL_eq (C : Ctx) (lim : Nat) (s : Slots) (H : Heap) (x : Nat × Op × AV) : againL C lim s H x = again C lim s H x := by
  unfold againL
  cases h : isRd x.2.1 with
  | false => rfl
  | true =>
    simp only [cond_true, again, opA_rd C lim s H _ h, agn]
    cases rdA C s H x.2.1 <;> rfl
/-- A draw's new place. -/
def mkK (H : Heap) (o : Option (AV × Eff)) (mk : Bool) (K : AV → Heap → Res) : Res := o.bind fun q => match q.2 with
  | .new ob => bif mk && ob.under H.sz then forceAV q.1 fun v => applyK true H (.new ob) fun H => K v H else none
  | _ => none
theorem mkK_eq (H : Heap) (o : Option (AV × Eff)) (mk : Bool) (K : AV → Heap → Res) : mkK H o mk K = o.bind fun q => match q.2 with
  | .new ob => bif mk && ob.under H.sz then K q.1 (H.new ob) else none
  | _ => none := by
  simp only [mkK, forceAV_eq, applyK_eq, Eff.on]
def quietD (l : List DOp) : Bool := l.all fun x => x.2.1 && isRd x.2.2.op
/-- What was told, and whether it was asked for at all. -/
abbrev GRd := Nat × Bool × Op × AV
def flt : List GRd → List (Nat × Op × AV)
  | [] => []
  | (j, b, op, v) :: r => bif b then (j, op, v) :: flt r else flt r
theorem all_flt (p : Nat × Op × AV → Bool) : ∀ rs : List GRd, rs.all (fun x => !x.2.1 || p (x.1, x.2.2.1, x.2.2.2)) = (flt rs).all p
  | [] => rfl
  | (j, true, op, v) :: r => by simp only [List.all_cons, flt, cond_true, all_flt p r, Bool.not_true, Bool.false_or]
  | (j, false, op, v) :: r => by simp only [List.all_cons, flt, cond_false, all_flt p r, Bool.not_false, Bool.true_or, Bool.true_and]
def agnAll (C : Ctx) (lim : Nat) (s : Slots) (H : Heap) (rs : List GRd) : Bool := rs.all fun x => !x.2.1 || againL C lim s H (x.1, x.2.2.1, x.2.2.2)
def agnBut (C : Ctx) (lim m : Nat) (s : Slots) (H : Heap) (rs : List GRd) : Bool := rs.all fun x => !x.2.1 || (m.testBit x.1 || againL C lim s H (x.1, x.2.2.1, x.2.2.2))
def evDrawL (C : Ctx) (call : CallF) (lim : Nat) (ops : Array Oper) (ms : List Nat) : List DOp → List GRd → Slots → Heap → (Slots → Heap → Res) → Res
  | [], _, s, H, K => K s H
  | (j, fl, o) :: r, rs, s, H, K => bif quietD ((j, fl, o) :: r) then (match o.guard with
      | none => rdK C s H o.op fun v => evDrawL C call lim ops ms r rs (s.put o.dst v) H K
      | some _ => purK (gPur (wantA ops s o) (rdA C s H o.op)) fun v => evDrawL C call lim ops ms r rs (s.put o.dst v) H K)
    else bif fl && isRd o.op then (match o.guard with
      | none => rdK C s H o.op fun v => evDrawL C call lim ops ms r (bif isPure o.op then rs else (j, true, o.op, v) :: rs) (s.put o.dst v) H K
      | some _ => boolK (wantA ops s o) fun b => purK (bif b then rdA C s H o.op else some (.tup [])) fun v => evDrawL C call lim ops ms r (bif isPure o.op then rs else (j, b, o.op, v) :: rs) (s.put o.dst v) H K)
    else bif fl then boolK (wantA ops s o) fun b => bif !b then evDrawL C call lim ops ms r rs (s.put o.dst (.tup [])) H K
      else bif isMk o.op then mkK H (opA C lim s H o.op) (isMk o.op) fun v H => bif agnAll C lim (s.put o.dst v) H rs then evDrawL C call lim ops ms r rs (s.put o.dst v) H K else none
        else (opA C lim s H o.op).bind fun q => match q.2 with
        | .nothing => evDrawL C call lim ops ms r (bif isPure o.op then rs else (j, true, o.op, q.1) :: rs) (s.put o.dst q.1) H K
        | _ => none
    else (match o.guard with
      | none => evOpL C call noY lim o s H fun v H => bif agnBut C lim (ms.getD j 0) (s.put o.dst v) H rs then evDrawL C call lim ops ms r rs (s.put o.dst v) H K else none
      | some _ => boolK (wantA ops s o) fun b => evOpG C call noY lim (some b) o s H fun v H => bif !b || agnBut C lim (ms.getD j 0) (s.put o.dst v) H rs then evDrawL C call lim ops ms r rs (s.put o.dst v) H K else none)
theorem isMk_new (C : Ctx) (lim : Nat) (s : Slots) (H : Heap) (op : Op) (h : isMk op = true) (q : AV × Eff) (hq : opA C lim s H op = some q) : ∃ ob, q.2 = .new ob := by
  cases op with
  | alloc e =>
    simp only [opA, allocA, Option.map_eq_some_iff] at hq
    obtain ⟨z, _, rfl⟩ := hq
    exact ⟨_, rfl⟩
  | buildSlice t n ps =>
    simp only [opA, buildSliceA] at hq
    split at hq
    · obtain ⟨n, _, hq⟩ := Option.bind_eq_some_iff.1 hq
      cases hc : (Nat.ble _ 16777216 && !(n == 0)) with
      | false => rw [hc] at hq; cases hq
      | true =>
        rw [hc] at hq
        obtain ⟨z, _, hq⟩ := Option.bind_eq_some_iff.1 hq
        cases hz : (z.cells.length == n) with
        | false => rw [hz] at hq; cases hq
        | true =>
          rw [hz] at hq
          simp only [cond_true, Option.map_eq_some_iff] at hq
          obtain ⟨_, _, rfl⟩ := hq
          exact ⟨_, rfl⟩
    · cases hq
  | _ => simp [isMk] at h
/-- Where nothing is done any more nothing is told again. -/
theorem evDraw_quiet (C : Ctx) (call : CallF) (lim : Nat) (ops : Array Oper) (ms : List Nat) : ∀ (l : List DOp) (rs rs' : List (Nat × Op × AV)) (s : Slots) (H : Heap) (K : Slots → Heap → Res), quietD l = true → evDraw C call lim ops ms l rs s H K = evDraw C call lim ops ms l rs' s H K
  | [], _, _, _, _, _, _ => rfl
  | (j, fl, o) :: r, rs, rs', s, H, K, h => by
    simp only [quietD, List.all_cons, Bool.and_eq_true] at h
    obtain ⟨⟨rfl, hr⟩, hq⟩ := h
    have ih := fun rs rs' s => evDraw_quiet C call lim ops ms r rs rs' s H K hq
    unfold evDraw
    congr 1
    funext b
    cases b with
    | false =>
      simp only [putA_eq, Bool.not_false, cond_true]
      exact ih _ _ _
    | true =>
      simp only [Bool.not_true, cond_false, cond_true, opA_rd C lim s H _ hr, putA_eq, strA?_eq]
      cases rdA C s H o.op with
      | none => rfl
      | some v =>
        simp only [Option.map_some, Option.bind_some, nothing]
        exact ih _ _ _
theorem evDrawL_eq (C : Ctx) (call : CallF) (lim : Nat) (ops : Array Oper) (ms : List Nat) : ∀ (l : List DOp) (rs : List GRd) (s : Slots) (H : Heap) (K : Slots → Heap → Res), evDrawL C call lim ops ms l rs s H K = evDraw C call lim ops ms l (flt rs) s H K
  | [], _, _, _, _ => rfl
  | (j, fl, o) :: r, rs, s, H, K => by
    have ha : againL C lim = again C lim := by funext s H x; exact againL_eq C lim s H x
    have hall : ∀ s H, agnAll C lim s H rs = (flt rs).all (again C lim s H) := fun s H => by unfold agnAll; rw [← all_flt, ha]
    have hbut : ∀ m s H, agnBut C lim m s H rs = (flt rs).all (fun x => m.testBit x.1 || again C lim s H x) := fun m s H => by unfold agnBut; rw [← all_flt, ha]
    have none' : wantA ops s o = none → evDraw C call lim ops ms ((j, fl, o) :: r) (flt rs) s H K = none := by
      intro hb
      unfold evDraw
      rw [hb]
      rfl
    have some' : ∀ b, wantA ops s o = some b → evDraw C call lim ops ms ((j, fl, o) :: r) (flt rs) s H K = (bif !b then evDraw C call lim ops ms r (flt rs) (s.put o.dst (.tup [])) H K else bif fl then (opA C lim s H o.op).bind fun q => match q.2 with
          | .nothing => evDraw C call lim ops ms r (bif isPure o.op then flt rs else (j, o.op, q.1) :: flt rs) (s.put o.dst q.1) H K
          | .new ob => bif isMk o.op && ob.under H.sz then bif (flt rs).all (again C lim (s.put o.dst q.1) (H.new ob)) then evDraw C call lim ops ms r (flt rs) (s.put o.dst q.1) (H.new ob) K else none else none
          | .put _ _ => none
        else evOpL C call noY lim o s H fun v H => bif (flt rs).all (fun x => (ms.getD j 0).testBit x.1 || again C lim (s.put o.dst v) H x) then evDraw C call lim ops ms r (flt rs) (s.put o.dst v) H K else none) := by
      intro b hb
      conv => lhs; unfold evDraw
      rw [hb]
      simp only [Option.bind_some, putA_eq, strA?_eq, applyK_eq, evOpL_eq, Eff.on]
      rfl
    have rds : ∀ b v, isRd o.op = true → rdA C s H o.op = some v → fl = true → (bif fl then (opA C lim s H o.op).bind fun q => match q.2 with
          | .nothing => evDraw C call lim ops ms r (bif isPure o.op then flt rs else (j, o.op, q.1) :: flt rs) (s.put o.dst q.1) H K
          | .new ob => bif isMk o.op && ob.under H.sz then bif (flt rs).all (again C lim (s.put o.dst q.1) (H.new ob)) then evDraw C call lim ops ms r (flt rs) (s.put o.dst q.1) (H.new ob) K else none else none
          | .put _ _ => none
        else b) = evDraw C call lim ops ms r (bif isPure o.op then flt rs else (j, o.op, v) :: flt rs) (s.put o.dst v) H K := by
      intro b v hr hv hf
      rw [hf, opA_rd C lim s H _ hr, hv]
      rfl
    have rdn : ∀ b, isRd o.op = true → rdA C s H o.op = none → fl = true → (bif fl then (opA C lim s H o.op).bind fun q => match q.2 with
          | .nothing => evDraw C call lim ops ms r (bif isPure o.op then flt rs else (j, o.op, q.1) :: flt rs) (s.put o.dst q.1) H K
          | .new ob => bif isMk o.op && ob.under H.sz then bif (flt rs).all (again C lim (s.put o.dst q.1) (H.new ob)) then evDraw C call lim ops ms r (flt rs) (s.put o.dst q.1) (H.new ob) K else none else none
          | .put _ _ => none
        else b) = none := by
      intro b hr hv hf
      rw [hf, opA_rd C lim s H _ hr, hv]
      rfl
    have hnone : o.guard = none → wantA ops s o = some true := fun hg => by simp [wantA, hg]
    unfold evDrawL
    cases hqd : quietD ((j, fl, o) :: r) with
    | true =>
      simp only [cond_true, evDrawL_eq C call lim ops ms r]
      have hq := hqd
      simp only [quietD, List.all_cons, Bool.and_eq_true] at hq
      obtain ⟨⟨hf, hr⟩, hq⟩ := hq
      have ih := fun rs rs' s => evDraw_quiet C call lim ops ms r rs rs' s H K hq
      have old : ∀ b, wantA ops s o = some b → evDraw C call lim ops ms ((j, fl, o) :: r) (flt rs) s H K = (bif b then purK (rdA C s H o.op) fun v => evDraw C call lim ops ms r (flt rs) (s.put o.dst v) H K else evDraw C call lim ops ms r (flt rs) (s.put o.dst (.tup [])) H K) := by
        intro b hb
        rw [some' b hb]
        cases b with
        | false => rfl
        | true =>
          simp only [Bool.not_true, cond_false, cond_true]
          cases hv : rdA C s H o.op with
          | none => rw [rdn _ hr hv hf]; rfl
          | some v => rw [rds _ v hr hv hf, purK_eq]; exact ih _ _ _
      split
      · rename_i hg
        rw [old true (hnone hg), rdK_eq]
        simp only [cond_true, purK_eq]
      · cases hw : wantA ops s o with
        | none => rw [none' hw]; rfl
        | some b =>
          rw [old b hw]
          cases b <;> rfl
    | false =>
      simp only [cond_false]
      cases hfr : (fl && isRd o.op) with
      | true =>
        simp only [Bool.and_eq_true] at hfr
        obtain ⟨hf, hr⟩ := hfr
        simp only [cond_true, evDrawL_eq C call lim ops ms r]
        have fc : ∀ (b : Bool) (v : AV), flt (bif isPure o.op then rs else (j, b, o.op, v) :: rs) = bif isPure o.op then flt rs else bif b then (j, o.op, v) :: flt rs else flt rs := by
          intro b v
          cases isPure o.op <;> rfl
        split
        · rename_i hg
          rw [some' true (hnone hg)]
          simp only [Bool.not_true, cond_false]
          cases hv : rdA C s H o.op with
          | none => rw [rdn _ hr hv hf, rdK_eq, hv]; rfl
          | some v =>
            rw [rds _ v hr hv hf]
            simp only [purK_eq, rdK_eq, hv, Option.bind_some, fc, cond_true]
        · cases hw : wantA ops s o with
          | none => rw [none' hw]; rfl
          | some b =>
            rw [some' b hw]
            cases b with
            | false =>
              simp only [boolK, Option.bind_some, Bool.not_false, cond_true, cond_false, purK_eq, fc]
              cases isPure o.op <;> rfl
            | true =>
              simp only [boolK, Option.bind_some, Bool.not_true, cond_false, cond_true]
              cases hv : rdA C s H o.op with
              | none => rw [rdn _ hr hv hf]; rfl
              | some v =>
                rw [rds _ v hr hv hf]
                simp only [purK_eq, rdK_eq, hv, Option.bind_some, fc, cond_true]
      | false =>
        simp only [cond_false]
        cases hf : fl with
        | true =>
          have hr : isRd o.op = false := by simpa [hf] using hfr
          simp only [cond_true, evDrawL_eq C call lim ops ms r, hall]
          cases hw : wantA ops s o with
          | none => rw [← hf, none' hw]; rfl
          | some b =>
            rw [← hf, some' b hw, hf]
            cases b with
            | false => rfl
            | true =>
              simp only [boolK, Option.bind_some, Bool.not_true, cond_false, cond_true]
              cases hm : isMk o.op with
              | true =>
                simp only [cond_true, mkK_eq, Bool.true_and]
                cases hq : opA C lim s H o.op with
                | none => rfl
                | some q =>
                  obtain ⟨ob, ho⟩ := isMk_new C lim s H _ hm q hq
                  simp only [Option.bind_some, ho]
              | false =>
                simp only [cond_false, Bool.false_and]
                congr 1
                funext q
                cases q.2 with
                | nothing => simp only; cases isPure o.op <;> rfl
                | _ => rfl
        | false =>
          simp only [cond_false, evDrawL_eq C call lim ops ms r, hbut]
          split
          · rename_i hg
            rw [← hf, some' true (hnone hg), hf]
            simp only [Bool.not_true, cond_false]
          · cases hw : wantA ops s o with
            | none => rw [← hf, none' hw]; rfl
            | some b =>
              rw [← hf, some' b hw, hf]
              simp only [boolK, Option.bind_some, evOpG_eq]
              cases b with
              | false => simp only [Bool.not_false, cond_true, cond_false, Bool.true_or]
              | true => simp only [Bool.not_true, cond_true, cond_false, Bool.false_or]
def drawL (C : Ctx) (call : CallF) (lim : Nat) (ops : Array Oper) (ord : Option (List (Nat × Bool))) (s : Slots) (H : Heap) (K : Slots → Heap → Res) : Res :=
  bif okD ops (masks ops) (orderD ops ord) then evDrawL C call lim ops (masks ops) (orderD ops ord) [] s H K else none
theorem drawL_eq (C : Ctx) (call : CallF) (lim : Nat) (ops : Array Oper) (ord : Option (List (Nat × Bool))) (s : Slots) (H : Heap) (K : Slots → Heap → Res) : drawL C call lim ops ord s H K = drawK C call lim ops ord s H K := by
  simp only [drawL, drawK, forceNats_eq, evDrawL_eq]
  rfl
def loopEndL (l : Nat) (s : Slots) (H : Heap) (κ : Ex → Slots → Heap → Res) : Res := loopEnd false l s H κ
def evL (C : Ctx) (call : CallF) (yc : YieldF) (rd : Bool) (f : FuncId) (lim n : Nat) : Code → Slots → Heap → (Ex → Slots → Heap → Res) → Res
  | .skip, s, H, κ => κ .normal s H
  | .label _, s, H, κ => κ .normal s H
  | .region id ops draw, s, H, κ =>
      bif draw then (bif rd then none else drawL C call lim ops (C.draw f id) s H fun s H => κ .normal s H) else evOpsL C call yc lim ops ops.toList s H fun s H => κ .normal s H
  | .seq a b, s, H, κ => evL C call yc rd f lim n a s H fun e s H => match e with
    | .normal => normK (headL C f b) s fun s => evL C call yc rd f lim n b s H κ
    | .exit id => κ (.exit id) s H
    | .ret => κ .ret s H
  | .cond c a b, s, H, κ => condK (oprA s c) (evL C call yc rd f lim n a s H κ) (evL C call yc rd f lim n b s H κ)
  | .block id b, s, H, κ => evL C call yc rd f lim n b s H fun e s H => match e with
    | .normal => κ .normal s H
    | .exit j => bif Nat.beq j id then κ .normal s H else κ (.exit j) s H
    | .ret => κ .ret s H
  | .loop b, s, H, κ => loopK (headL C f b) (fun s H κ => evL C call yc rd f lim n b s H κ) n s H κ
  | .exit id, s, H, κ => κ (.exit id) s H
  | .ret, s, H, κ => κ .ret s H
  | .rangeFunc x ps as bd, s, H, κ => bif rd || !Nat.ble lim H.sz then none else (calleeA (oprA s x) [.yld H.sz]).bind fun c => bif hasBody C.P c.1 then
      (call lim c.1 c.2 (H.new (.loop ps as bd s 0))).bind fun r => loopEndL H.sz s r.2 κ
    else none
  | _, _, _, _ => none
theorem loopEnd_eq (b : Bool) (l : Nat) (s : Slots) (H : Heap) (κ : Ex → Slots → Heap → Res) : loopEndL l s H κ = loopEnd b l s H κ := by
  unfold loopEndL loopEnd
  split <;> simp [applyK_eq]
theorem evL_eq (C : Ctx) (call : CallF) (yc : YieldF) (rd : Bool) (f : FuncId) (lim n : Nat) : ∀ (c : Code) (s : Slots) (H : Heap) (κ : Ex → Slots → Heap → Res), evL C call yc rd f lim n c s H κ = ev C call yc rd f lim n c s H κ := by
  intro c
  induction c with
  | region id ops draw => intro s H κ; simp only [evL, ev, drawL_eq, evOpsL_eq]
  | seq a b iha ihb =>
    intro s H κ
    simp only [evL, ev, iha]
    congr 1
    funext e s H
    cases e <;> simp [ihb]
  | cond c a b iha ihb => intro s H κ; simp only [evL, ev, condK, iha, ihb]
  | block id b ih => intro s H κ; simp only [evL, ev, ih]; rfl
  | loop b ih =>
    intro s H κ
    simp only [evL, ev]
    congr 1
    funext s H κ
    exact ih s H κ
  | rangeFunc x ps as bd iha ihb =>
    intro s H κ
    simp only [evL, ev, applyK_eq, Eff.on, loopEnd_eq C.strict]
  | _ => intro s H κ; rfl
end Go.Ev
