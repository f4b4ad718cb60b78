/- EvQ: the evaluator once more, for runs in the kernel: slots in a tree; it is the same function. -/
import Derived.Test.YtonakeopionkkaaGreatEvL
set_option linter.unusedVariables false
set_option linter.unusedSimpArgs false
namespace Go.Ev
open Go.RowKit
theorem blt_no {i n : Nat} (h : Nat.blt i n = false) : ¬ i < n := fun q => by
  have : Nat.blt i n = true := by simpa using q
  rw [this] at h
  cases h
theorem beq_no {i j : Nat} (h : i ≠ j) : Nat.beq i j = false := by
  cases q : Nat.beq i j with
  | false => rfl
  | true => exact absurd (Nat.eq_of_beq_eq_true q) h
inductive ET where
  | leaf
  | node (v : AV) (l r : ET)
  deriving Inhabited
def ET.get (d : AV) : Nat → Nat → ET → AV
  | 0, _, _ => d
  | _ + 1, _, .leaf => d
  | f + 1, n, .node x l r => match n with
    | 0 => x
    | n + 1 => match n % 2 with
      | 0 => ET.get d f (n / 2) l
      | _ => ET.get d f (n / 2) r
def ET.set (d : AV) : Nat → Nat → AV → ET → ET
  | 0, _, _, t => t
  | f + 1, n, o, .leaf => match n with
    | 0 => .node o .leaf .leaf
    | n + 1 => match n % 2 with
      | 0 => .node d (ET.set d f (n / 2) o .leaf) .leaf
      | _ => .node d .leaf (ET.set d f (n / 2) o .leaf)
  | f + 1, n, o, .node x l r => match n with
    | 0 => .node o l r
    | n + 1 => match n % 2 with
      | 0 => .node x (ET.set d f (n / 2) o l) r
      | _ => .node x l (ET.set d f (n / 2) o r)
def setEK {R : Type} (d : AV) : Nat → Nat → AV → ET → (ET → R) → R
  | 0, _, _, t, K => K t
  | f + 1, n, o, .leaf, K => match n with
    | 0 => K (.node o .leaf .leaf)
    | n + 1 => match n % 2 with
      | 0 => setEK d f (n / 2) o .leaf fun t => K (.node d t .leaf)
      | _ => setEK d f (n / 2) o .leaf fun t => K (.node d .leaf t)
  | f + 1, n, o, .node x l r, K => match n with
    | 0 => K (.node o l r)
    | n + 1 => match n % 2 with
      | 0 => setEK d f (n / 2) o l fun t => K (.node x t r)
      | _ => setEK d f (n / 2) o r fun t => K (.node x l t)
theorem setEK_eq {R : Type} (d : AV) : ∀ (f n : Nat) (o : AV) (t : ET) (K : ET → R), setEK d f n o t K = K (ET.set d f n o t) := by
  intro f
  induction f with
  | zero => intro n o t K; rfl
  | succ f ih =>
    intro n o t K
    cases n with
    | zero => cases t <;> rfl
    | succ n => cases t <;> rcases Nat.mod_two_eq_zero_or_one n with e | e <;> simp [setEK, ET.set, e, ih]
theorem ET.get_leaf (d : AV) (f n : Nat) : ET.get d f n .leaf = d := by cases f <;> rfl
theorem ET.get_set (d : AV) : ∀ (f n m : Nat) (o : AV) (t : ET), n < f → m < f → ET.get d f m (ET.set d f n o t) = if m = n then o else ET.get d f m t := by
  intro f
  induction f with
  | zero => intro n m o t hn hm; omega
  | succ f ih =>
    intro n m o t hn hm
    cases n with
    | zero =>
      cases m with
      | zero => cases t <;> simp [ET.set, ET.get]
      | succ m => cases t <;> rcases Nat.mod_two_eq_zero_or_one m with e | e <;> simp [ET.set, ET.get, ET.get_leaf, e]
    | succ n =>
      cases m with
      | zero => cases t <;> rcases Nat.mod_two_eq_zero_or_one n with e | e <;> simp [ET.set, ET.get, e]
      | succ m =>
        have key : ∀ s : ET, ET.get d f (m / 2) (ET.set d f (n / 2) o s) = if m / 2 = n / 2 then o else ET.get d f (m / 2) s := fun s => ih (n / 2) (m / 2) o s (by omega) (by omega)
        cases t <;> rcases Nat.mod_two_eq_zero_or_one n with e | e <;> rcases Nat.mod_two_eq_zero_or_one m with e' | e' <;>
          simp only [ET.set, ET.get, e, e', key, ET.get_leaf] <;>
          by_cases hm : m / 2 = n / 2 <;> by_cases hn : m + 1 = n + 1 <;> simp [hm, hn] <;> omega
/-- N slots; those that no node holds are d. -/
structure Env where
  n : Nat
  d : AV
  t : ET
def Env.get (e : Env) (i : Nat) : AV := bif Nat.blt i e.n then e.t.get e.d e.n i else .tup []
def Env.put (e : Env) (o : Option Tmp) (v : AV) (K : Env → Res) : Res := match o with
  | none => K e
  | some i => bif Nat.blt i e.n then setEK e.d e.n i v e.t fun t => K ⟨e.n, e.d, t⟩ else K e
structure RE (e : Env) (s : Slots) : Prop where
  n : s.length = e.n
  get : ∀ i, i < e.n → s.getD i (.tup []) = e.t.get e.d e.n i
theorem RE.getD {e : Env} {s : Slots} (h : RE e s) (i : Nat) : s.getD i (.tup []) = e.get i := by
  unfold Env.get
  cases hb : Nat.blt i e.n with
  | true => exact h.get i (by simpa using hb)
  | false =>
    have hno := blt_no hb
    simp only [cond_false]
    rw [List.getD_eq_getElem?_getD, List.getElem?_eq_none (by rw [h.n]; omega)]
    rfl
theorem RE.put {e : Env} {s : Slots} (h : RE e s) (o : Option Tmp) (v : AV) (K : Env → Res) (K' : Slots → Res) (hK : ∀ e s, RE e s → K e = K' s) : e.put o v K = K' (s.put o v) := by
  cases o with
  | none => exact hK e s h
  | some i =>
    show (bif Nat.blt i e.n then setEK e.d e.n i v e.t fun t => K ⟨e.n, e.d, t⟩ else K e) = K' (s.set i v)
    cases hb : Nat.blt i e.n with
    | true =>
      have hi : i < e.n := by simpa using hb
      simp only [cond_true, setEK_eq]
      refine hK _ _ ⟨by simp [h.n], fun j hj => ?_⟩
      show (s.set i v).getD j (.tup []) = ET.get e.d e.n j (ET.set e.d e.n i v e.t)
      have hj : j < e.n := hj
      rw [ET.get_set _ _ _ _ _ _ hi hj]
      have hl : j < s.length := by rw [h.n]; exact hj
      by_cases e' : j = i
      · subst e'; simp [List.getD_eq_getElem?_getD, hl]
      · rw [if_neg e', ← h.get j hj]
        simp [List.getD_eq_getElem?_getD, List.getElem?_set, Ne.symm e']
    | false =>
      have hi := blt_no hb
      simp only [cond_false]
      rw [List.set_eq_of_length_le (by rw [h.n]; exact Nat.le_of_not_lt hi)]
      exact hK e s h
def oprE (e : Env) : Operand → AV
  | .tmp t => e.get t
  | .const v => ofV v
  | .global g => .xp ⟨g, 0, none⟩
  | .func f => .fn (.func f) [] []
theorem RE.opr {e : Env} {s : Slots} (h : RE e s) : oprE e = oprA s := by
  funext o
  cases o with
  | tmp t => exact (h.getD t).symm
  | _ => rfl
/-- An operation, by what its operands are. -/
def opG (C : Ctx) (lim : Nat) (g : Operand → AV) (H : Heap) (op : Op) : Option (AV × Eff) := match op with
  | .move x | .assign x => some (g x, .nothing)
  | .pick c a b => (asBool (g c)).map fun t => (bif t then g a else g b, .nothing)
  | .alloc e => allocA C H e
  | .box e x => boxA H e (g x)
  | .build t ps => (buildA C.P t (ps.toList.map fun p => (p.1, g p.2))).map nothing
  | .buildSlice t n ps => buildSliceA C H t n (ps.toList.map fun p => (p.1, g p.2))
  | .load t a => (loadA C H t (g a)).map nothing
  | .store t a x => (storeA C lim H t (g a) (g x)).map skips
  | .nilCheck x => match g x with
    | .ptr l v o => some (.ptr l v o, .nothing)
    | .xp a => some (.xp a, .nothing)
    | .fn (.func f) a b => some (.fn (.func f) a b, .nothing)
    | _ => none
  | .binOp op t x y _ => (binA C.P H op t (g x) (g y)).map nothing
  | .unOp op _ x => (unA op (g x)).map nothing
  | .convert src dst x => match C.P.underlying src, C.P.underlying dst with
    | some (.slice e), some .string => (match C.P.underlying e with | some (.int .u8) => bytesToStrA C H (g x) | _ => none).map nothing
    | some (.pointer _), some .unsafePointer | some .unsafePointer, some (.pointer _) => (unsafeA C H src dst (g x)).map nothing
    | _, _ => (convA C.P src dst (g x)).map nothing
  | .makeInterface t x => match C.P.underlying t with
    | some (.interface _) => none
    | some _ => some (.ifc t (g x), .nothing)
    | none => none
  | .makeFunc f a b => some (.fn f (a.toList.map g) (b.toList.map g), .nothing)
  | .makeMap _ none => some (makeMapA H)
  | .makeSlice t l c => makeSliceA C H t (g l) (g c)
  | .slice t x lo hi mx => (sliceA C.P t (g x) (lo.map g) (hi.map g) (mx.map g)).map nothing
  | .fieldAddr t x i => (fieldAddrA C.P t (g x) i).map nothing
  | .field t x i => (fieldA C.P t (g x) i).map nothing
  | .indexAddr t x i => (indexAddrA C.P t (g x) (g i)).map nothing
  | .index t x i => (indexA C.P t (g x) (g i)).map nothing
  | .lookup t x i ok => (lookupA C H t (g x) (g i) ok).map nothing
  | .mapUpdate t m k x | .insert t m k x => (mapPutA C lim H t (g m) (g k) (g x)).map skips
  | .mapEntry t m k => mapEntryA C lim H t (g m) (g k)
  | .entryStore _ m k x => (entryStoreA lim H (g m) (g k) (g x)).map skips
  | .range t x => rangeA H C.P t (g x)
  | .next it b => nextA lim H (g it) b
  | .entry it => (entryA H (g it)).map nothing
  | .extract t i => match g t with
    | .tup vs => (vs[i]?).map nothing
    | _ => none
  | .call ⟨.builtin b, args, ts⟩ => builtinA C lim H b ts (args.toList.map g)
  | _ => none
theorem opG_eq (C : Ctx) (lim : Nat) (s : Slots) (H : Heap) (op : Op) : opG C lim (oprA s) H op = opA C lim s H op := by cases op <;> rfl
def wantE (ops : Array Oper) (e : Env) (o : Oper) : Option Bool := match o.guard with
  | none => some true
  | some (j, want) => match (ops[j]?).bind (·.dst) with
    | none => some false
    | some d => bif Nat.blt d e.n then wantV (e.get d) want else some false
theorem RE.want {e : Env} {s : Slots} (h : RE e s) (ops : Array Oper) (o : Oper) : wantE ops e o = wantA ops s o := by
  unfold wantE wantA
  cases hg : o.guard with
  | none => rfl
  | some jw =>
    obtain ⟨j, want⟩ := jw
    simp only
    cases hd : (ops[j]?).bind (·.dst) with
    | none => rfl
    | some d =>
      simp only
      have := h.getD d
      cases hb : Nat.blt d e.n with
      | true =>
        have hd : d < s.length := by rw [h.n]; simpa using hb
        rw [List.getElem?_eq_getElem hd]
        simp only [cond_true]
        rw [← this, List.getD_eq_getElem?_getD, List.getElem?_eq_getElem hd]
        rfl
      | false =>
        have hd := blt_no hb
        rw [List.getElem?_eq_none (by rw [h.n]; exact Nat.le_of_not_lt hd)]
        rfl
def evOpE (C : Ctx) (call : CallF) (yc : YieldF) (lim : Nat) (o : Oper) (e : Env) (H : Heap) (K : AV → Heap → Res) : Res := match o.op with
  | .call ⟨.value f, args, _⟩ => match oprE e f with
    | .yld l => (yc lim l (args.toList.map (oprE e)) H).bind fun r => K r.1 r.2
    | fv => (calleeA fv (args.toList.map (oprE e))).bind fun c => (call lim c.1 c.2 H).bind fun r => K r.1 r.2
  | op => (opG C lim (oprE e) H op).bind fun r => strA? true r.1 fun v => applyK true H r.2 fun H => K v H
theorem evOpE_eq {C : Ctx} {call : CallF} {yc : YieldF} {lim : Nat} {o : Oper} {e : Env} {s : Slots} (h : RE e s) (H : Heap) (K : AV → Heap → Res) : evOpE C call yc lim o e H K = evOp C call yc lim o s H K := by
  obtain ⟨dst, op, ty, at_, after, guard⟩ := o
  have gen : ∀ op, ((opG C lim (oprE e) H op).bind fun r => strA? true r.1 fun v => applyK true H r.2 fun H => K v H) = (opA C lim s H op).bind fun r => strA? C.strict r.1 fun v => applyK C.strict H r.2 fun H => K v H := fun op => by
    simp only [h.opr, opG_eq, strA?_eq, applyK_eq]
  cases op with
  | call c =>
    obtain ⟨f, args, ts⟩ := c
    cases f with
    | value f => simp only [evOpE, evOp, h.opr]; rfl
    | _ => simp only [evOpE, evOp]; exact gen _
  | _ => simp only [evOpE, evOp]; exact gen _
def evOpsE (C : Ctx) (call : CallF) (yc : YieldF) (lim : Nat) (ops : Array Oper) : List Oper → Env → Heap → (Env → Heap → Res) → Res
  | [], e, H, K => K e H
  | o :: r, e, H, K => (wantE ops e o).bind fun b =>
      bif b then evOpE C call yc lim o e H fun v H => e.put o.dst v fun e => evOpsE C call yc lim ops r e H K
      else e.put o.dst (.tup []) fun e => evOpsE C call yc lim ops r e H K
theorem evOpsE_eq {C : Ctx} {call : CallF} {yc : YieldF} {lim : Nat} {ops : Array Oper} : ∀ (l : List Oper) {e : Env} {s : Slots} (h : RE e s) (H : Heap) {K : Env → Heap → Res} {K' : Slots → Heap → Res} (hK : ∀ e s H, RE e s → K e H = K' s H), evOpsE C call yc lim ops l e H K = evOps C call yc lim ops l s H K'
  | [], _, _, h, H, _, _, hK => hK _ _ _ h
  | o :: r, e, s, h, H, K, K', hK => by
    simp only [evOpsE, evOps, h.want, evOpE_eq h, putA_eq]
    congr 1
    funext b
    cases b with
    | true =>
      simp only [cond_true]
      congr 1
      funext v H
      exact h.put o.dst v _ _ fun e s h => evOpsE_eq r h H hK
    | false =>
      simp only [cond_false]
      exact h.put o.dst _ _ _ fun e s h => evOpsE_eq r h H hK
def againE (C : Ctx) (lim : Nat) (e : Env) (H : Heap) (x : Nat × Op × AV) : Bool := match opG C lim (oprE e) H x.2.1 with
  | some (u, .nothing) => AV.eqv u x.2.2
  | _ => false
theorem againE_eq {C : Ctx} {lim : Nat} {e : Env} {s : Slots} (h : RE e s) (H : Heap) : againE C lim e H = again C lim s H := by
  funext x
  unfold againE again
  rw [h.opr, opG_eq]
  rfl
def evDrawE (C : Ctx) (call : CallF) (lim : Nat) (ops : Array Oper) (ms : List Nat) : List DOp → List (Nat × Op × AV) → Env → Heap → (Env → Heap → Res) → Res
  | [], _, e, H, K => K e H
  | (j, fl, o) :: r, rs, e, H, K => (wantE ops e o).bind fun b => bif !b then e.put o.dst (.tup []) fun e => evDrawE C call lim ops ms r rs e H K
      else bif fl then (opG C lim (oprE e) H o.op).bind fun q => match q.2 with
        | .nothing => strA? true q.1 fun v => e.put o.dst v fun e => evDrawE C call lim ops ms r (bif isPure o.op then rs else (j, o.op, v) :: rs) e H K
        | .new ob => bif isMk o.op && ob.under H.sz then strA? true q.1 fun v => applyK true H (.new ob) fun H => e.put o.dst v fun e =>
            bif rs.all (againE C lim e H) then evDrawE C call lim ops ms r rs e H K else none
          else none
        | .put _ _ => none
      else evOpE C call noY lim o e H fun v H => e.put o.dst v fun e =>
        bif rs.all (fun x => (ms.getD j 0).testBit x.1 || againE C lim e H x) then evDrawE C call lim ops ms r rs e H K else none
theorem evDrawE_eq {C : Ctx} {call : CallF} {lim : Nat} {ops : Array Oper} {ms : List Nat} : ∀ (l : List DOp) (rs : List (Nat × Op × AV)) {e : Env} {s : Slots} (h : RE e s) (H : Heap) {K : Env → Heap → Res} {K' : Slots → Heap → Res} (hK : ∀ e s H, RE e s → K e H = K' s H), evDrawE C call lim ops ms l rs e H K = evDraw C call lim ops ms l rs s H K'
  | [], _, _, _, h, H, _, _, hK => hK _ _ _ h
  | (j, fl, o) :: r, rs, e, s, h, H, K, K', hK => by
    simp only [evDrawE, evDraw, h.want, h.opr, opG_eq, putA_eq, strA?_eq, evOpE_eq h]
    congr 1
    funext b
    cases b with
    | false =>
      simp only [Bool.not_false, cond_true]
      exact h.put o.dst _ _ _ fun e s h => evDrawE_eq r rs h H hK
    | true =>
      simp only [Bool.not_true, cond_false]
      cases fl with
      | true =>
        simp only [cond_true]
        congr 1
        funext q
        cases q.2 with
        | nothing => exact h.put o.dst _ _ _ fun e s h => evDrawE_eq r _ h H hK
        | new ob =>
          simp only
          cases (isMk o.op && ob.under H.sz) with
          | false => rfl
          | true =>
            simp only [cond_true, applyK_eq]
            exact h.put o.dst _ _ (fun s' => bif rs.all (again C lim s' _) then evDraw C call lim ops ms r rs s' _ K' else none) fun e s h => by rw [againE_eq h, evDrawE_eq r rs h _ hK]
        | put l o => rfl
      | false =>
        simp only [cond_false]
        congr 1
        funext v H
        exact h.put o.dst _ _ (fun s' => bif rs.all (fun x => (ms.getD j 0).testBit x.1 || again C lim s' H x) then evDraw C call lim ops ms r rs s' H K' else none) fun e s h => by rw [againE_eq h, evDrawE_eq r rs h _ hK]
def drawE (C : Ctx) (call : CallF) (lim : Nat) (ops : Array Oper) (ord : Option (List (Nat × Bool))) (e : Env) (H : Heap) (K : Env → Heap → Res) : Res :=
  forceNats (masks ops) fun ms => bif okD ops ms (orderD ops ord) then evDrawE C call lim ops ms (orderD ops ord) [] e H K else none
def listE (e : Env) : Nat → Nat → List AV
  | _, 0 => []
  | i, n + 1 => e.get i :: listE e (i + 1) n
theorem RE.list {e : Env} {s : Slots} (h : RE e s) : listE e 0 e.n = s := by
  have key : ∀ (n i : Nat), i + n = e.n → listE e i n = s.drop i := by
    intro n
    induction n with
    | zero => intro i hi; simp [listE, List.drop_eq_nil_iff, h.n]; omega
    | succ n ih =>
      intro i hi
      have hl : i < s.length := by rw [h.n]; omega
      rw [listE, ih (i + 1) (by omega), List.drop_eq_getElem_cons hl, ← h.getD i]
      simp [List.getD_eq_getElem?_getD, hl]
  have := key e.n 0 (by omega)
  simpa using this
def fromL (d : AV) (n : Nat) : List AV → Nat → ET → (ET → Res) → Res
  | [], _, t, K => K t
  | v :: r, i, t, K => setEK d n i v t fun t => fromL d n r (i + 1) t K
theorem fromL_eq (d : AV) (n : Nat) : ∀ (vs : List AV) (i : Nat) (t : ET) (K : ET → Res), i + vs.length ≤ n → ∃ t', fromL d n vs i t K = K t' ∧ ∀ j, j < n → t'.get d n j = if i ≤ j ∧ j < i + vs.length then vs.getD (j - i) d else t.get d n j
  | [], i, t, K, _ => ⟨t, rfl, fun j _ => by simp; omega⟩
  | v :: r, i, t, K, hi => by
    simp only [List.length_cons] at hi
    obtain ⟨t', h1, h2⟩ := fromL_eq d n r (i + 1) (ET.set d n i v t) K (by omega)
    refine ⟨t', by simp only [fromL, setEK_eq, h1], fun j hj => ?_⟩
    rw [h2 j hj, ET.get_set d n i j v t (by omega) hj]
    simp only [List.length_cons]
    by_cases e1 : j = i
    · subst e1
      rw [if_neg (by omega), if_pos rfl, if_pos (by omega)]
      simp
    · by_cases e2 : i + 1 ≤ j ∧ j < i + 1 + r.length
      · rw [if_pos e2, if_pos (by omega), show j - i = (j - (i + 1)) + 1 from by omega]; rfl
      · rw [if_neg e2, if_neg e1, if_neg (by omega)]
/-- Slots laid out. -/
def envOf (s : List AV) (n : Nat) (K : Env → Res) : Res := bif Nat.ble s.length n then fromL (.tup []) n s 0 .leaf fun t => K ⟨n, .tup [], t⟩ else none
theorem envOf_eq (s : List AV) (n : Nat) (K : Env → Res) (K' : Slots → Res) (hn : s.length ≤ n) (hK : ∀ e s, RE e s → K e = K' s) : envOf s n K = K' (s ++ List.replicate (n - s.length) (.tup [])) := by
  unfold envOf
  rw [show Nat.ble s.length n = true from by simpa using hn]
  obtain ⟨t, h1, h2⟩ := fromL_eq (.tup []) n s 0 .leaf (fun t => K ⟨n, .tup [], t⟩) (by omega)
  simp only [cond_true, h1]
  refine hK _ _ ⟨by simp; omega, fun j hj => ?_⟩
  have hj : j < n := hj
  rw [h2 j hj, ET.get_leaf]
  simp only [Nat.zero_le, true_and, Nat.zero_add, Nat.sub_zero]
  rw [List.getD_eq_getElem?_getD, List.getElem?_append]
  split
  · rename_i h; simp [List.getD_eq_getElem?_getD, h]
  · rename_i h; rw [List.getElem?_replicate_of_lt (by omega)]; rfl
/-- Only these are kept. -/
def keepE (L : List Nat) (e : Env) (K : Env → Res) : Res := match L with
  | L => go e L .leaf K
where go (e : Env) : List Nat → ET → (Env → Res) → Res
  | [], t, K => K ⟨e.n, .any, t⟩
  | i :: r, t, K => bif Nat.blt i e.n then setEK .any e.n i (e.get i) t fun t => go e r t K else go e r t K
theorem keep_getD (L : List Nat) : ∀ (s : Slots) (k i : Nat), i < s.length → (keep L k s).getD i (.tup []) = bif memN (k + i) L then s.getD i (.tup []) else .any
  | [], _, _, h => by simp at h
  | x :: r, k, 0, _ => by simp [keep]
  | x :: r, k, i + 1, h => by
    have := keep_getD L r (k + 1) i (by simpa using h)
    simp only [keep, List.getD_cons_succ]
    rw [this, show k + 1 + i = k + (i + 1) from by omega]
theorem keep_length (L : List Nat) : ∀ (s : Slots) (k : Nat), (keep L k s).length = s.length
  | [], _ => rfl
  | x :: r, k => by simp [keep, keep_length L r]
theorem keepE_go {e : Env} {s : Slots} (h : RE e s) : ∀ (L : List Nat) (t : ET) (K : Env → Res), ∃ t', keepE.go e L t K = K ⟨e.n, .any, t'⟩ ∧ ∀ j, j < e.n → t'.get .any e.n j = bif memN j L then s.getD j (.tup []) else t.get .any e.n j
  | [], t, K => ⟨t, rfl, fun _ _ => rfl⟩
  | i :: r, t, K => by
    unfold keepE.go
    cases hb : Nat.blt i e.n with
    | true =>
      have hi : i < e.n := by simpa using hb
      simp only [cond_true, setEK_eq]
      obtain ⟨t', h1, h2⟩ := keepE_go h r (ET.set .any e.n i (e.get i) t) K
      refine ⟨t', h1, fun j hj => ?_⟩
      rw [h2 j hj, ET.get_set _ _ _ _ _ _ hi hj]
      simp only [memN]
      by_cases e' : j = i
      · subst e'
        rw [if_pos rfl, show Nat.beq j j = true from by simp]
        rw [h.getD j]
        cases memN j r <;> rfl
      · rw [if_neg e', show Nat.beq i j = false from beq_no (by omega)]
        rfl
    | false =>
      have hi := blt_no hb
      simp only [cond_false]
      obtain ⟨t', h1, h2⟩ := keepE_go h r t K
      refine ⟨t', h1, fun j hj => ?_⟩
      rw [h2 j hj]
      simp only [memN]
      rw [show Nat.beq i j = false from beq_no (by omega)]
      rfl
theorem keepE_eq {e : Env} {s : Slots} (h : RE e s) (L : List Nat) (K : Env → Res) (K' : Slots → Res) (hK : ∀ e s, RE e s → K e = K' s) : keepE L e K = K' (keep L 0 s) := by
  obtain ⟨t', h1, h2⟩ := keepE_go h L .leaf K
  show keepE.go e L .leaf K = _
  rw [h1]
  refine hK _ _ ⟨by rw [keep_length]; exact h.n, fun j hj => ?_⟩
  have hj : j < e.n := hj
  rw [h2 j hj, keep_getD L s 0 j (by rw [h.n]; exact hj), ET.get_leaf, Nat.zero_add]
def normE (L : Option (List Nat)) (e : Env) (K : Env → Res) : Res := match L with
  | none => K e
  | some L => keepE L e K
theorem normE_eq {e : Env} {s : Slots} (h : RE e s) (L : Option (List Nat)) (K : Env → Res) (K' : Slots → Res) (hK : ∀ e s, RE e s → K e = K' s) : normE L e K = normK L s K' := by
  cases L with
  | none => exact hK _ _ h
  | some L => rw [normK, keepK_eq]; exact keepE_eq h L K K' hK
def loopE (L : Option (List Nat)) (body : Env → Heap → (Ex → Env → Heap → Res) → Res) : Nat → Env → Heap → (Ex → Env → Heap → Res) → Res
  | 0, _, _, _ => none
  | n + 1, e, H, κ => normE L e fun e => body e H fun x e H => match x with
    | .normal => loopE L body n e H κ
    | .exit id => κ (.exit id) e H
    | .ret => κ .ret e H
def loopEndE (l : Nat) (e : Env) (H : Heap) (κ : Ex → Env → Heap → Res) : Res := match H.get l with
  | .loop _ _ _ _ st => applyK true H (.put l .hole) fun H => match st with
    | 0 => κ .normal e H
    | 1 => none
    | 2 => κ .ret e H
    | n + 3 => κ (.exit n) e H
  | _ => none
theorem loopEndE_eq (C : Ctx) (l : Nat) (e : Env) (s : Slots) (H : Heap) (h : RE e s) (κ : Ex → Env → Heap → Res) (κ' : Ex → Slots → Heap → Res) (hκ : ∀ x e s H, RE e s → κ x e H = κ' x s H) : loopEndE l e H κ = loopEnd C.strict l s H κ' := by
  unfold loopEndE loopEnd
  cases H.get l with
  | loop ps as bd s' st =>
    simp only [applyK_eq]
    match st with
    | 0 => exact hκ _ _ _ _ h
    | 1 => rfl
    | 2 => exact hκ _ _ _ _ h
    | n + 3 => exact hκ _ _ _ _ h
  | _ => rfl
def evE (C : Ctx) (call : CallF) (yc : YieldF) (rd : Bool) (f : FuncId) (lim n : Nat) : Code → Env → Heap → (Ex → Env → Heap → Res) → Res
  | .skip, s, H, κ => κ .normal s H
  | .label _, s, H, κ => κ .normal s H
  | .region id ops draw, s, H, κ =>
      bif draw then (bif rd then none else drawE C call lim ops (C.draw f id) s H fun s H => κ .normal s H) else evOpsE C call yc lim ops ops.toList s H fun s H => κ .normal s H
  | .seq a b, s, H, κ => evE C call yc rd f lim n a s H fun e s H => match e with
    | .normal => normE (headL C f b) s fun s => evE C call yc rd f lim n b s H κ
    | .exit id => κ (.exit id) s H
    | .ret => κ .ret s H
  | .cond c a b, s, H, κ => (asBool (oprE s c)).bind fun t => bif t then evE C call yc rd f lim n a s H κ else evE C call yc rd f lim n b s H κ
  | .block id b, s, H, κ => evE C call yc rd f lim n b s H fun e s H => match e with
    | .normal => κ .normal s H
    | .exit j => bif Nat.beq j id then κ .normal s H else κ (.exit j) s H
    | .ret => κ .ret s H
  | .loop b, s, H, κ => loopE (headL C f b) (fun s H κ => evE C call yc rd f lim n b s H κ) n s H κ
  | .exit id, s, H, κ => κ (.exit id) s H
  | .ret, s, H, κ => κ .ret s H
  | .rangeFunc x ps as bd, s, H, κ => bif rd || !Nat.ble lim H.sz then none else (calleeA (oprE s x) [.yld H.sz]).bind fun c => bif hasBody C.P c.1 then
      applyK true H (.new (.loop ps as bd (listE s 0 s.n) 0)) fun H' => (call lim c.1 c.2 H').bind fun r => loopEndE H.sz s r.2 κ
    else none
  | _, _, _, _ => none
theorem evE_eq {C : Ctx} {call : CallF} {yc : YieldF} {rd : Bool} {f : FuncId} {lim n : Nat} : ∀ (c : Code) {e : Env} {s : Slots} (h : RE e s) (H : Heap) {κ : Ex → Env → Heap → Res} {κ' : Ex → Slots → Heap → Res} (hκ : ∀ x e s H, RE e s → κ x e H = κ' x s H), evE C call yc rd f lim n c e H κ = ev C call yc rd f lim n c s H κ' := by
  intro c
  induction c with
  | skip => intro e s h H κ κ' hκ; exact hκ _ _ _ _ h
  | label l => intro e s h H κ κ' hκ; exact hκ _ _ _ _ h
  | exit id => intro e s h H κ κ' hκ; exact hκ _ _ _ _ h
  | ret => intro e s h H κ κ' hκ; exact hκ _ _ _ _ h
  | region id ops draw =>
    intro e s h H κ κ' hκ
    simp only [evE, ev, drawE, drawK, forceNats_eq]
    rw [evOpsE_eq ops.toList h H (fun e s H h => hκ .normal e s H h), evDrawE_eq (orderD ops (C.draw f id)) [] h H (fun e s H h => hκ .normal e s H h)]
  | seq a b iha ihb =>
    intro e s h H κ κ' hκ
    refine iha h H fun x e s H h => ?_
    cases x with
    | normal => exact normE_eq h _ _ _ fun e s h => ihb h H hκ
    | exit id => exact hκ _ _ _ _ h
    | ret => exact hκ _ _ _ _ h
  | cond c a b iha ihb =>
    intro e s h H κ κ' hκ
    simp only [evE, ev, h.opr, iha h H hκ, ihb h H hκ]
  | block id b ih =>
    intro e s h H κ κ' hκ
    refine ih h H fun x e s H h => ?_
    cases x with
    | normal => exact hκ _ _ _ _ h
    | exit j =>
      simp only
      rw [hκ .normal e s H h, hκ (.exit j) e s H h]
    | ret => exact hκ _ _ _ _ h
  | loop b ih =>
    intro e s h H κ κ' hκ
    have key : ∀ (m : Nat) {e : Env} {s : Slots} (h : RE e s) (H : Heap), loopE (headL C f b) (fun s H κ => evE C call yc rd f lim n b s H κ) m e H κ = loopK (headL C f b) (fun s H κ => ev C call yc rd f lim n b s H κ) m s H κ' := by
      intro m
      induction m with
      | zero => intro e s h H; rfl
      | succ m ihm =>
        intro e s h H
        refine normE_eq h _ _ _ fun e s h => ih h H fun x e s H h => ?_
        cases x with
        | normal => exact ihm h H
        | exit id => exact hκ _ _ _ _ h
        | ret => exact hκ _ _ _ _ h
    exact key n h H
  | rangeFunc x ps as bd iha ihb =>
    intro e s h H κ κ' hκ
    simp only [evE, ev, h.opr, h.list, applyK_eq]
    congr 1
    congr 1
    funext c
    congr 1
    congr 1
    funext r
    exact loopEndE_eq C _ _ _ _ h _ _ hκ
  | scope b _ => intro e s h H κ κ' hκ; rfl
  | goto l => intro e s h H κ κ' hκ; rfl
  | refuse y => intro e s h H κ κ' hκ; rfl
def resE1 (C : Ctx) (e : Env) (H : Heap) : ResultVar → Option AV
  | .tmp t => some (e.get t)
  | .cell a t => loadA C H t (e.get a)
def finishE (C : Ctx) (fn : Func) : Ex → Env → Heap → Res
  | .exit _, _, _ => none
  | _, e, H => ((fn.results.toList.mapM (resE1 C e H)).map fun vs => match vs with
    | [v] => v
    | vs => .tup vs).bind fun v => strA? true v fun v => some (v, H)
theorem finishE_eq {C : Ctx} {fn : Func} (x : Ex) (e : Env) (s : Slots) (H : Heap) (h : RE e s) : finishE C fn x e H = finish C fn x s H := by
  have : resE1 C e H = resA1 C s H := by
    funext r
    cases r with
    | tmp t => simp only [resE1, resA1]; rw [h.getD t]
    | cell a t => simp only [resE1, resA1]; rw [h.getD a]
  cases x with
  | exit id => rfl
  | normal => simp only [finishE, finish, resA, this, strA?_eq]; rfl
  | ret => simp only [finishE, finish, resA, this, strA?_eq]; rfl
def evYieldE (C : Ctx) (call : CallF) (yc : YieldF) (k : Nat) : YieldF := fun lim l args H => match H.get l with
  | .loop ps as bd s 0 => bif Nat.ble lim l && Nat.beq args.length ps.size then
      (envOf (setArgs ps.toList args s) (setArgs ps.toList args s).length fun e => evE C call yc true 0 lim k as e H fun x e H => match x with
        | .normal => match H.get l with
          | .loop ps as bd' s' 0 => applyK true H (.put l (.loop ps as bd' s' 1)) fun H => evE C call yc true 0 lim k bd e H fun x _ H => roundEnd true l x H
          | _ => none
        | _ => none)
    else none
  | _ => none
theorem roundEnd_b (b b' : Bool) (l : Nat) (e : Ex) (H : Heap) : roundEnd b l e H = roundEnd b' l e H := by
  unfold roundEnd
  split
  · cases e <;> simp only [applyK_eq]
  · rfl
theorem evYieldE_eq (C : Ctx) (call : CallF) (yc : YieldF) (k : Nat) : evYieldE C call yc k = evYield C call yc k := by
  funext lim l args H
  unfold evYieldE evYield
  cases H.get l with
  | loop ps as bd s st =>
    match st with
    | n + 1 => rfl
    | 0 =>
      simp only
      congr 1
      refine (envOf_eq _ _ _ (fun s => ev C call yc true 0 lim k as s H fun e s H => match e with
        | .normal => match H.get l with
          | .loop ps as bd' s' 0 => applyK C.strict H (.put l (.loop ps as bd' s' 1)) fun H => ev C call yc true 0 lim k bd s H fun e _ H => roundEnd C.strict l e H
          | _ => none
        | _ => none) (Nat.le_refl _) fun e s h => evE_eq as h H fun x e s H h => ?_).trans ?_
      · cases x with
        | normal =>
          simp only
          cases H.get l with
          | loop ps as bd' s' st =>
            match st with
            | n + 1 => rfl
            | 0 =>
              simp only [applyK_eq]
              exact evE_eq bd h _ fun x e s H h => roundEnd_b _ _ _ _ _
          | _ => rfl
        | exit id => rfl
        | ret => rfl
      · simp; rfl
  | _ => rfl
def bodyOld (C : Ctx) (call : CallF) (yc : YieldF) (k lim : Nat) (f : FuncId) (args : List AV) (H : Heap) (fn : Func) (c : Code) : Res :=
  bif C.pur f then
    ((ev C call yc false f H.sz k c (args ++ List.replicate (fn.ntmps - args.length) (.tup [])) H (finish C fn)).bind fun r => bif AV.under H.sz r.1 then some (r.1, H) else none)
  else ev C call yc false f lim k c (args ++ List.replicate (fn.ntmps - args.length) (.tup [])) H (finish C fn)
def bodyE (C : Ctx) (call : CallF) (yc : YieldF) (k lim : Nat) (f : FuncId) (args : List AV) (H : Heap) (fn : Func) (c : Code) : Res :=
  bif Nat.ble args.length fn.ntmps then (bif C.pur f then
    ((envOf args fn.ntmps fun e => evE C call yc false f H.sz k c e H (finishE C fn)).bind fun r => bif AV.under H.sz r.1 then some (r.1, H) else none)
  else envOf args fn.ntmps fun e => evE C call yc false f lim k c e H (finishE C fn)) else bodyOld C call yc k lim f args H fn c
theorem bodyE_eq (C : Ctx) (call : CallF) (yc : YieldF) (k lim : Nat) (f : FuncId) (args : List AV) (H : Heap) (fn : Func) (c : Code) : bodyE C call yc k lim f args H fn c = bodyOld C call yc k lim f args H fn c := by
  unfold bodyE
  cases hn : Nat.ble args.length fn.ntmps with
  | false => rfl
  | true =>
    have hl : args.length ≤ fn.ntmps := Nat.le_of_ble_eq_true hn
    have key : ∀ lim, (envOf args fn.ntmps fun e => evE C call yc false f lim k c e H (finishE C fn)) = ev C call yc false f lim k c (args ++ List.replicate (fn.ntmps - args.length) (.tup [])) H (finish C fn) := fun lim =>
      envOf_eq args fn.ntmps _ (fun s => ev C call yc false f lim k c s H (finish C fn)) hl fun e s h => evE_eq c h H finishE_eq
    simp only [cond_true, key, bodyOld]
def slowF (C : Ctx) (call : CallF) (yc : YieldF) (k : Nat) : CallF := fun lim f args H => (C.P.funcs[f]?).bind fun fn => bif fn.name == "runtime.NumGoroutine" then none else match fn.body with
    | none => (C.ext f).bind fun x => (externA C.P lim H x args).bind fun r => applyK true H r.2 fun H => some (r.1, H)
    | some c => bodyE C call yc k lim f args H fn c
def evCE (C : Ctx) : Nat → CallF × YieldF
  | 0 => (fun _ _ _ _ => none, noY)
  | k + 1 => (slowF C (evCE C k).1 (evCE C k).2 k, evYieldE C (evCE C k).1 (evCE C k).2 k)
theorem slowF_eq (C : Ctx) (k : Nat) : slowF C (evCY C k).1 (evCY C k).2 k = (evCY C (k + 1)).1 := by
  funext lim f args H
  show ((C.P.funcs[f]?).bind fun fn => _) = ((C.P.funcs[f]?).bind fun fn => _)
  congr 1
  funext fn
  congr 1
  cases hb : fn.body with
  | none => simp only [applyK_eq]
  | some c =>
    simp only [bodyE_eq]
    rfl
theorem slow_at (C : Ctx) (k f : Nat) : (fun lim args H => slowF C (evCY C k).1 (evCY C k).2 k lim f args H) = fun lim args H => (evCY C (k + 1)).1 lim f args H := by rw [slowF_eq]
theorem evCE_eq (C : Ctx) : ∀ k, evCE C k = evCY C k
  | 0 => rfl
  | k + 1 => by
    have ih := evCE_eq C k
    refine Prod.ext ?_ ?_
    · show slowF C (evCE C k).1 (evCE C k).2 k = _
      rw [ih, slowF_eq]
    · show evYieldE C (evCE C k).1 (evCE C k).2 k = evYield C (evCY C k).1 (evCY C k).2 k
      rw [ih, evYieldE_eq]
def evCallE (C : Ctx) (k : Nat) : CallF := (evCE C k).1
theorem evCallE_eq (C : Ctx) (k : Nat) : evCallE C k = evCall C k := by unfold evCallE evCall; rw [evCE_eq]
/-- Functions that are lifted, in a search tree. -/
abbrev LF := Nat → List AV → Heap → Res
inductive DT where
  | leaf
  | node (key : Nat) (h : LF) (l r : DT)
def DT.find (f : Nat) : DT → Option LF
  | .leaf => none
  | .node key h l r => bif Nat.beq f key then some h else bif Nat.blt f key then l.find f else r.find f
def DT.All (p : Nat → LF → Prop) : DT → Prop
  | .leaf => True
  | .node key h l r => p key h ∧ l.All p ∧ r.All p
theorem DT.find_all {p : Nat → LF → Prop} {f : Nat} {h : LF} : ∀ {t : DT}, t.All p → t.find f = some h → p f h
  | .leaf, _, e => by cases e
  | .node key g l r, ⟨h1, h2, h3⟩, e => by
    unfold DT.find at e
    cases hb : Nat.beq f key with
    | true =>
      rw [hb] at e
      obtain rfl := Option.some.inj e
      rw [Nat.eq_of_beq_eq_true hb]
      exact h1
    | false =>
      rw [hb] at e
      simp only [cond_false] at e
      cases hc : Nat.blt f key with
      | true => rw [hc] at e; exact DT.find_all h2 e
      | false => rw [hc] at e; exact DT.find_all h3 e
def ar0 (L : Nat → Heap → Res) (slow : LF) : LF := fun lim args H => match args with | [] => L lim H | args => slow lim args H
def ar1 (L : Nat → AV → Heap → Res) (slow : LF) : LF := fun lim args H => match args with | [a] => L lim a H | args => slow lim args H
def ar2 (L : Nat → AV → AV → Heap → Res) (slow : LF) : LF := fun lim args H => match args with | [a, b] => L lim a b H | args => slow lim args H
def ar3 (L : Nat → AV → AV → AV → Heap → Res) (slow : LF) : LF := fun lim args H => match args with | [a, b, c] => L lim a b c H | args => slow lim args H
def ar4 (L : Nat → AV → AV → AV → AV → Heap → Res) (slow : LF) : LF := fun lim args H => match args with | [a, b, c, d] => L lim a b c d H | args => slow lim args H
def ar5 (L : Nat → AV → AV → AV → AV → AV → Heap → Res) (slow : LF) : LF := fun lim args H => match args with | [a, b, c, d, e] => L lim a b c d e H | args => slow lim args H
def ar6 (L : Nat → AV → AV → AV → AV → AV → AV → Heap → Res) (slow : LF) : LF := fun lim args H => match args with | [a, b, c, d, e, f] => L lim a b c d e f H | args => slow lim args H
section
variable {F slow : LF}
theorem ar0_eq {L : Nat → Heap → Res} (hs : slow = F) (h : ∀ lim H, F lim [] H = L lim H) : ar0 L slow = F := by
  funext lim args H
  unfold ar0
  split
  · exact (h _ _).symm
  · rw [hs]
theorem ar1_eq {L : Nat → AV → Heap → Res} (hs : slow = F) (h : ∀ lim a H, F lim [a] H = L lim a H) : ar1 L slow = F := by
  funext lim args H
  unfold ar1
  split
  · exact (h _ _ _).symm
  · rw [hs]
theorem ar2_eq {L : Nat → AV → AV → Heap → Res} (hs : slow = F) (h : ∀ lim a b H, F lim [a, b] H = L lim a b H) : ar2 L slow = F := by
  funext lim args H
  unfold ar2
  split
  · exact (h _ _ _ _).symm
  · rw [hs]
theorem ar3_eq {L : Nat → AV → AV → AV → Heap → Res} (hs : slow = F) (h : ∀ lim a b c H, F lim [a, b, c] H = L lim a b c H) : ar3 L slow = F := by
  funext lim args H
  unfold ar3
  split
  · exact (h _ _ _ _ _).symm
  · rw [hs]
theorem ar4_eq {L : Nat → AV → AV → AV → AV → Heap → Res} (hs : slow = F) (h : ∀ lim a b c d H, F lim [a, b, c, d] H = L lim a b c d H) : ar4 L slow = F := by
  funext lim args H
  unfold ar4
  split
  · exact (h _ _ _ _ _ _).symm
  · rw [hs]
theorem ar5_eq {L : Nat → AV → AV → AV → AV → AV → Heap → Res} (hs : slow = F) (h : ∀ lim a b c d e H, F lim [a, b, c, d, e] H = L lim a b c d e H) : ar5 L slow = F := by
  funext lim args H
  unfold ar5
  split
  · exact (h _ _ _ _ _ _ _).symm
  · rw [hs]
theorem ar6_eq {L : Nat → AV → AV → AV → AV → AV → AV → Heap → Res} (hs : slow = F) (h : ∀ lim a b c d e f H, F lim [a, b, c, d, e, f] H = L lim a b c d e f H) : ar6 L slow = F := by
  funext lim args H
  unfold ar6
  split
  · exact (h _ _ _ _ _ _ _ _).symm
  · rw [hs]
end
/-- Calls through the tree; what is not in it goes by the code. -/
def fastY (C : Ctx) (T : CallF → YieldF → Nat → DT) : Nat → CallF × YieldF
  | 0 => (fun _ _ _ _ => none, noY)
  | k + 1 => (fun lim f args H => match (T (fastY C T k).1 (fastY C T k).2 k).find f with
      | some h => h lim args H
      | none => slowF C (fastY C T k).1 (fastY C T k).2 k lim f args H,
    evYieldE C (fastY C T k).1 (fastY C T k).2 k)
theorem fastY_eq (C : Ctx) (T : CallF → YieldF → Nat → DT) (hT : ∀ k, (T (evCY C k).1 (evCY C k).2 k).All fun f h => h = fun lim args H => (evCY C (k + 1)).1 lim f args H) : ∀ k, fastY C T k = evCY C k
  | 0 => rfl
  | k + 1 => by
    have ih := fastY_eq C T hT k
    refine Prod.ext ?_ ?_
    · funext lim f args H
      show (match (T (fastY C T k).1 (fastY C T k).2 k).find f with
        | some h => h lim args H
        | none => slowF C (fastY C T k).1 (fastY C T k).2 k lim f args H) = _
      rw [ih]
      cases h : (T (evCY C k).1 (evCY C k).2 k).find f with
      | none => simp only [slowF_eq]
      | some g =>
        have := DT.find_all (hT k) h
        simp only [this]
    · show evYieldE C (fastY C T k).1 (fastY C T k).2 k = evYield C (evCY C k).1 (evCY C k).2 k
      rw [ih, evYieldE_eq]
end Go.Ev
