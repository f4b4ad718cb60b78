/- EvM: continuations by what they look at; loops as functions of what they carry; a call's body. -/
import Derived.Test.YtonakeopionkkaaGreatEvL
import Derived.Test.YtonakeopionkkaaGreatEvFA
set_option linter.unusedVariables false
set_option linter.unusedSimpArgs false
namespace Go.Ev
open Go.RowKit
abbrev KS := Slots → Heap → Res
def exitK (j : Nat) : List (Nat × Option (List Nat) × KS) → KS
  | [], _, _ => none
  | (i, L, k) :: r, s, H => bif Nat.beq j i then normK L s fun s => k s H else exitK j r s H
/-- What comes behind: at the end; at each exit; at a return. -/
def kk (L : Option (List Nat)) (kn : KS) (X : List (Nat × Option (List Nat) × KS)) (R : List AV → Heap → Res) (rs : List Nat) : Ex → Slots → Heap → Res := fun e s H => match e with
  | .normal => normK L s fun s => kn s H
  | .exit j => exitK j X s H
  | .ret => R (rs.map fun t => s.getD t (.tup [])) H
/-- Rounds of a loop that carries σ. -/
def loopL {σ : Type} (B : σ → Heap → (σ → Heap → Res) → Res) : Nat → σ → Heap → Res
  | 0, _, _ => none
  | n + 1, x, H => B x H fun x H => loopL B n x H
theorem keep_keep (L : List Nat) : ∀ (s : Slots) (i : Nat), keep L i (keep L i s) = keep L i s
  | [], _ => rfl
  | x :: r, i => by
    simp only [keep, keep_keep L r (i + 1)]
    cases memN i L <;> rfl
theorem loopK_keep (L : List Nat) (body : Slots → Heap → (Ex → Slots → Heap → Res) → Res) (n : Nat) (s : Slots) (H : Heap) (κ : Ex → Slots → Heap → Res) : loopK (some L) body n (keep L 0 s) H κ = loopK (some L) body n s H κ := by
  cases n with
  | zero => rfl
  | succ n => simp only [loopK, normK, keepK_eq, keep_keep]
theorem loop_node {σ : Type} {C : Ctx} {call : CallF} {yc : YieldF} {rd : Bool} {f : FuncId} {lim k : Nat} {b : Code} (L : List Nat) (st : σ → Slots) (B : σ → Heap → (σ → Heap → Res) → Res) {N : Option (List Nat)} {kn0 : KS} {X : List (Nat × Option (List Nat) × KS)} {R : List AV → Heap → Res} {rs : List Nat}
    (hL : headL C f b = some L) (hk : ∀ x, keep L 0 (st x) = st x)
    (hb : ∀ x H kn, evL C call yc rd f lim k b (st x) H (kk (some L) kn X R rs) = B x H fun x H => kn (st x) H) (x : σ) (s : Slots) (H : Heap) (hs : keep L 0 s = st x) :
    evL C call yc rd f lim k (.loop b) s H (kk N kn0 X R rs) = loopL B k x H := by
  show loopK (headL C f b) (fun s H κ => evL C call yc rd f lim k b s H κ) k s H (kk N kn0 X R rs) = _
  rw [hL]
  have key : ∀ (n : Nat) (x : σ) (s : Slots) (H : Heap), keep L 0 s = st x → loopK (some L) (fun s H κ => evL C call yc rd f lim k b s H κ) n s H (kk N kn0 X R rs) = loopL B n x H := by
    intro n
    induction n with
    | zero => intro x s H _; rfl
    | succ n ih =>
      intro x s H hs
      simp only [loopK, normK, keepK_eq, hs, loopL]
      have := hb x H (fun s H => loopK (some L) (fun s H κ => evL C call yc rd f lim k b s H κ) n s H (kk N kn0 X R rs))
      refine Eq.trans ?_ (this.trans ?_)
      · congr 1
        funext e s H
        cases e with
        | normal => simp only [kk, normK, keepK_eq]; exact (loopK_keep ..).symm
        | exit id => rfl
        | ret => rfl
      · congr 1
        funext x H
        exact ih x (st x) H (hk x)
  exact key k x s H hs
/-- What a function hands back. -/
def retK : List AV → Heap → Res
  | [v], H => some (v, H)
  | vs, H => some (.tup vs, H)
def retS : ResultVar → Nat × Option TypeId
  | .tmp t => (t, none)
  | .cell a t => (a, some t)
def retOne (C : Ctx) (H : Heap) : Option TypeId → AV → Option AV
  | none, v => some v
  | some t, v => loadA C H t v
def retAll (C : Ctx) (H : Heap) : List (Option TypeId) → List AV → Option (List AV)
  | t :: ts, v :: vs => (retOne C H t v).bind fun x => (retAll C H ts vs).bind fun xs => some (x :: xs)
  | _, _ => some []
/-- .. some results lying in places. -/
def retC (C : Ctx) (ts : List (Option TypeId)) (vs : List AV) (H : Heap) : Res := (retAll C H ts vs).bind fun vs => retK vs H
theorem resA_all (C : Ctx) (s : Slots) (H : Heap) : ∀ l : List ResultVar, l.mapM (resA1 C s H) = retAll C H (l.map fun r => (retS r).2) (l.map fun r => s.getD (retS r).1 (.tup []))
  | [] => rfl
  | .tmp t :: r => by
    rw [List.mapM_cons, resA_all C s H r]
    simp only [List.map_cons, retS, retAll, retOne, resA1]
    cases retAll C H _ _ <;> rfl
  | .cell a t :: r => by
    rw [List.mapM_cons, resA_all C s H r]
    simp only [List.map_cons, retS, retAll, retOne, resA1]
    cases loadA C H t _ with
    | none => rfl
    | some v => cases retAll C H _ _ <;> rfl
theorem finish_C (C : Ctx) (fn : Func) (rs : List Nat) (ts : List (Option TypeId)) (h : fn.results.toList.map retS = rs.zip ts) (hl : rs.length = ts.length) : finish C fn = kk none (fun s H => retC C ts (rs.map fun t => s.getD t (.tup [])) H) [] (retC C ts) rs := by
  have h1 : (fn.results.toList.map fun r => (retS r).2) = ts := by
    have := congrArg (List.map Prod.snd) h
    rw [List.map_map, List.map_snd_zip (by omega)] at this
    exact this
  have h2 : (fn.results.toList.map fun r => (retS r).1) = rs := by
    have := congrArg (List.map Prod.fst) h
    rw [List.map_map, List.map_fst_zip (by omega)] at this
    exact this
  funext e s H
  have hr : (resA C fn s H).bind (fun v => some (v, H)) = retC C ts (rs.map fun t => s.getD t (.tup [])) H := by
    unfold resA retC
    rw [resA_all, h1]
    have : (fn.results.toList.map fun r => s.getD (retS r).1 (.tup [])) = rs.map fun t => s.getD t (.tup []) := by rw [← h2, List.map_map]; rfl
    rw [this]
    cases retAll C H ts _ with
    | none => rfl
    | some vs =>
      match vs with
      | [] => rfl
      | [v] => rfl
      | _ :: _ :: _ => rfl
  cases e with
  | exit id => rfl
  | normal => simp only [finish, strA?_eq, kk, normK, hr]
  | ret => simp only [finish, strA?_eq, kk, hr]
theorem retC_none (C : Ctx) : ∀ (ts : List (Option TypeId)), ts.all Option.isNone = true → ∀ vs H, vs.length = ts.length → retC C ts vs H = retK vs H := by
  intro ts ht vs H hl
  have : ∀ (ts : List (Option TypeId)) (vs : List AV), ts.all Option.isNone = true → vs.length = ts.length → retAll C H ts vs = some vs := by
    intro ts
    induction ts with
    | nil => intro vs _ hl; rw [List.length_eq_zero_iff.1 hl]; rfl
    | cons t ts ih =>
      intro vs ha hl
      cases vs with
      | nil => simp at hl
      | cons v vs =>
        simp only [List.all_cons, Bool.and_eq_true, Option.isNone_iff_eq_none] at ha
        obtain ⟨rfl, ha⟩ := ha
        simp only [retAll, retOne, Option.bind_some, ih vs ha (by simpa using hl)]
  simp only [retC, this ts vs ht hl, Option.bind_some]
theorem finish_tmps (C : Ctx) (fn : Func) (rs : List Nat) (h : fn.results.toList.map retS = rs.zip (List.replicate rs.length none)) : finish C fn = kk none (fun s H => retK (rs.map fun t => s.getD t (.tup [])) H) [] retK rs := by
  rw [finish_C C fn rs (List.replicate rs.length none) h (by simp)]
  have e : ∀ s H, retC C (List.replicate rs.length none) (rs.map fun t => List.getD s t (.tup [])) H = retK (rs.map fun t => List.getD s t (.tup [])) H := fun s H => retC_none C _ (by simp) _ _ (by simp)
  funext x s H
  cases x with
  | exit id => rfl
  | normal => simp only [kk, normK, e]
  | ret => simp only [kk, e]
/-- A call of a function with a body. -/
theorem evCall_body (C : Ctx) (k lim : Nat) (f : FuncId) (args : List AV) (H : Heap) (fn : Func) (c : Code) (rs : List Nat) (hf : C.P.funcs[f]? = some fn) (hn : (fn.name == "runtime.NumGoroutine") = false) (hb : fn.body = some c) (hp : C.pur f = false) (hr : fn.results.toList.map retS = rs.zip (List.replicate rs.length none)) :
    evCall C (k + 1) lim f args H = evL C (evCall C k) (evCY C k).2 false f lim k c (args ++ List.replicate (fn.ntmps - args.length) (.tup [])) H (kk none (fun s H => retK (rs.map fun t => s.getD t (.tup [])) H) [] retK rs) := by
  show (C.P.funcs[f]?).bind _ = _
  rw [hf]
  simp only [Option.bind_some, hn, cond_false, hb, hp, evL_eq, ← finish_tmps C fn rs hr]
  rfl
theorem evCall_cells (C : Ctx) (k lim : Nat) (f : FuncId) (args : List AV) (H : Heap) (fn : Func) (c : Code) (rs : List Nat) (ts : List (Option TypeId)) (hf : C.P.funcs[f]? = some fn) (hn : (fn.name == "runtime.NumGoroutine") = false) (hb : fn.body = some c) (hp : C.pur f = false) (hr : fn.results.toList.map retS = rs.zip ts) (hl : rs.length = ts.length) :
    evCall C (k + 1) lim f args H = evL C (evCall C k) (evCY C k).2 false f lim k c (args ++ List.replicate (fn.ntmps - args.length) (.tup [])) H (kk none (fun s H => retC C ts (rs.map fun t => s.getD t (.tup [])) H) [] (retC C ts) rs) := by
  show (C.P.funcs[f]?).bind _ = _
  rw [hf]
  simp only [Option.bind_some, hn, cond_false, hb, hp, evL_eq, ← finish_C C fn rs ts hr hl]
  rfl
/-- .. that is called for its result alone. -/
def purR (N : Nat) (H : Heap) (o : Res) : Res := o.bind fun r => bif AV.under N r.1 then some (r.1, H) else none
theorem evCall_pure (C : Ctx) (k lim : Nat) (f : FuncId) (args : List AV) (H : Heap) (fn : Func) (c : Code) (rs : List Nat) (ts : List (Option TypeId)) (hf : C.P.funcs[f]? = some fn) (hn : (fn.name == "runtime.NumGoroutine") = false) (hb : fn.body = some c) (hp : C.pur f = true) (hr : fn.results.toList.map retS = rs.zip ts) (hl : rs.length = ts.length) :
    evCall C (k + 1) lim f args H = purR H.sz H (evL C (evCall C k) (evCY C k).2 false f H.sz k c (args ++ List.replicate (fn.ntmps - args.length) (.tup [])) H (kk none (fun s H => retC C ts (rs.map fun t => s.getD t (.tup [])) H) [] (retC C ts) rs)) := by
  show (C.P.funcs[f]?).bind _ = _
  rw [hf]
  simp only [Option.bind_some, hn, cond_false, hb, hp, evL_eq, ← finish_C C fn rs ts hr hl, cond_true]
  rfl
abbrev CodeF := Code → Slots → Heap → (Ex → Slots → Heap → Res) → Res
/-- The evaluator up to the next cut: what stands behind one, and each loop, is J's. -/
def evX (C : Ctx) (call : CallF) (yc : YieldF) (rd : Bool) (f : FuncId) (lim n : Nat) (J : CodeF) : Code → Slots → Heap → (Ex → Slots → Heap → Res) → Res
  | .skip, s, H, κ => κ .normal s H
  | .label _, s, H, κ => κ .normal s H
  | .region id ops draw, s, H, κ =>
      bif draw then (bif rd then none else drawL C call lim ops (C.draw f id) s H fun s H => κ .normal s H) else evOpsL C call yc lim ops ops.toList s H fun s H => κ .normal s H
  | .seq a b, s, H, κ => evX C call yc rd f lim n J a s H fun e s H => match e with
    | .normal => match headL C f b with
      | none => evX C call yc rd f lim n J b s H κ
      | some L => keepK L 0 s fun s => J b s H κ
    | .exit id => κ (.exit id) s H
    | .ret => κ .ret s H
  | .cond c a b, s, H, κ => condK (oprA s c) (evX C call yc rd f lim n J a s H κ) (evX C call yc rd f lim n J b s H κ)
  | .block id b, s, H, κ => evX C call yc rd f lim n J b s H fun e s H => match e with
    | .normal => κ .normal s H
    | .exit j => bif Nat.beq j id then κ .normal s H else κ (.exit j) s H
    | .ret => κ .ret s H
  | .loop b, s, H, κ => J (.loop b) s H κ
  | .exit id, s, H, κ => κ (.exit id) s H
  | .ret, s, H, κ => κ .ret s H
  | .refuse _, _, _, _ => none
  | c, s, H, κ => J c s H κ
theorem evL_X (C : Ctx) (call : CallF) (yc : YieldF) (rd : Bool) (f : FuncId) (lim n : Nat) : ∀ (c : Code) (s : Slots) (H : Heap) (κ : Ex → Slots → Heap → Res), evL C call yc rd f lim n c s H κ = evX C call yc rd f lim n (evL C call yc rd f lim n) c s H κ := by
  intro c
  induction c with
  | seq a b iha ihb =>
    intro s H κ
    show evL C call yc rd f lim n a s H _ = _
    rw [iha]
    show evX C call yc rd f lim n _ a s H _ = evX C call yc rd f lim n _ a s H _
    congr 1
    funext e s H
    cases e with
    | normal =>
      show normK (headL C f b) s _ = (match headL C f b with
        | none => evX C call yc rd f lim n (evL C call yc rd f lim n) b s H κ
        | some L => keepK L 0 s fun s => evL C call yc rd f lim n b s H κ)
      cases headL C f b with
      | none => exact ihb s H κ
      | some L => rfl
    | exit id => rfl
    | ret => rfl
  | cond c a b iha ihb =>
    intro s H κ
    show condK _ _ _ = condK _ _ _
    rw [iha, ihb]
  | block id b ih =>
    intro s H κ
    show evL C call yc rd f lim n b s H _ = _
    rw [ih]
    rfl
  | _ => intro s H κ; rfl
/-- Slots of which but these are known to be looked at. -/
def spF : Nat → Nat → List (Nat × AV) → Slots
  | _, 0, _ => []
  | i, n + 1, [] => .any :: spF (i + 1) n []
  | i, n + 1, (j, v) :: r => bif Nat.beq i j then v :: spF (i + 1) n r else .any :: spF (i + 1) n ((j, v) :: r)
def sp (n : Nat) (l : List (Nat × AV)) : Slots := spF 0 n l
/-- A part of a function's code: 0 the first part, 1 the other. -/
def Code.at : List Nat → Code → Code
  | [], c => c
  | 0 :: r, .seq a _ => Code.at r a
  | _ :: r, .seq _ b => Code.at r b
  | 0 :: r, .cond _ a _ => Code.at r a
  | _ :: r, .cond _ _ b => Code.at r b
  | _ :: r, .block _ b => Code.at r b
  | _ :: r, .loop b => Code.at r b
  | _, c => c
def Code.of (P : Program) (f : FuncId) : Code := ((P.funcs[f]?).bind (·.body)).getD .skip
end Go.Ev
