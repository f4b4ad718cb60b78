/- EvP: laws by which a lifted function is walked through by rewriting. -/
import Derived.Test.YtonakeopionkkaaGreatEvN
import Derived.Laws.Strings
set_option linter.unusedVariables false
set_option linter.unusedSimpArgs false
namespace Go.Ev
open Go.RowKit
-- continuations
theorem purK_some (v : AV) (K : AV → Res) : purK (some v) K = K v := by simp [purK_eq]
theorem purK_none (K : AV → Res) : purK none K = none := by simp [purK_eq]
theorem resK_some (v : AV) (H : Heap) (K : AV → Heap → Res) : resK (some (v, H)) K = K v H := (rfl)
theorem effK_new (H : Heap) (v : AV) (o : AObj) (K : AV → Heap → Res) : effK H (some (v, .new o)) K = K v (H.new o) := by simp [effK_eq, Eff.on]
theorem effK_put (H : Heap) (v : AV) (l : Nat) (o : AObj) (K : AV → Heap → Res) : effK H (some (v, .put l o)) K = K v (H.put l o) := by simp [effK_eq, Eff.on]
theorem effK_nothing (H : Heap) (v : AV) (K : AV → Heap → Res) : effK H (some (v, .nothing)) K = K v H := by simp [effK_eq, Eff.on]
theorem effK_on (H : Heap) (v : AV) (e : Eff) (K : AV → Heap → Res) : effK H (some (v, e)) K = K v (e.on H) := by simp [effK_eq]
theorem on_new (H : Heap) (o : AObj) : (Eff.new o).on H = H.new o := (rfl)
theorem on_put (H : Heap) (l : Nat) (o : AObj) : (Eff.put l o).on H = H.put l o := (rfl)
theorem on_nothing (H : Heap) : Eff.nothing.on H = H := (rfl)
theorem mkK_new (H : Heap) (v : AV) (ob : AObj) (K : AV → Heap → Res) (h : ob.under H.sz = true) : mkK H (some (v, .new ob)) true K = K v (H.new ob) := by simp [mkK_eq, h]
theorem boolK_some (b : Bool) (K : Bool → Res) : boolK (some b) K = K b := (rfl)
theorem condK_bool (b : Bool) (x y : Res) : condK (.bool b) x y = if b = true then x else y := by cases b <;> rfl
theorem condK_true (x y : Res) : condK (.bool true) x y = x := (rfl)
theorem condK_false (x y : Res) : condK (.bool false) x y = y := (rfl)
theorem wantV_bool (b w : Bool) : wantV (.bool b) w = some (b == w) := (rfl)
theorem wantV_skip (w : Bool) : wantV (.tup []) w = some false := (rfl)
theorem wantV_tt : wantV (.bool true) true = some true := (rfl)
theorem wantV_tf : wantV (.bool true) false = some false := (rfl)
theorem wantV_ft : wantV (.bool false) true = some false := (rfl)
theorem wantV_ff : wantV (.bool false) false = some true := (rfl)
theorem gPur_true (o : Option AV) : gPur (some true) o = o := (rfl)
theorem gPur_false (o : Option AV) : gPur (some false) o = some (.tup []) := (rfl)
theorem gEff_true (o : Option (AV × Eff)) : gEff (some true) o = o := (rfl)
theorem gEff_false (o : Option (AV × Eff)) : gEff (some false) o = some (.tup [], .nothing) := (rfl)
theorem gRes_true (H : Heap) (o : Res) : gRes (some true) H o = o := (rfl)
theorem gRes_false (H : Heap) (o : Res) : gRes (some false) H o = some (.tup [], H) := (rfl)
theorem pickA_true (x y : AV) : pickA (.bool true) x y = some x := (rfl)
theorem pickA_false (x y : AV) : pickA (.bool false) x y = some y := (rfl)
theorem pickA_bool (b : Bool) (x y : AV) : pickA (.bool b) x y = some (if b = true then x else y) := by cases b <;> rfl
theorem pickA_or (b c : Bool) : pickA (.bool b) (.bool true) (.bool c) = some (.bool (b || c)) := by cases b <;> rfl
theorem pickA_and (b c : Bool) : pickA (.bool b) (.bool c) (.bool false) = some (.bool (b && c)) := by cases b <;> rfl
theorem extA_0 (a : AV) (r : List AV) : extA 0 (.tup (a :: r)) = some a := (rfl)
theorem extA_1 (a b : AV) (r : List AV) : extA 1 (.tup (a :: b :: r)) = some b := (rfl)
theorem extA_2 (a b c : AV) (r : List AV) : extA 2 (.tup (a :: b :: c :: r)) = some c := (rfl)
theorem retK_one (v : AV) (H : Heap) : retK [v] H = some (v, H) := (rfl)
theorem retK_none (H : Heap) : retK [] H = some (.tup [], H) := (rfl)
theorem retK_two (u v : AV) (r : List AV) (H : Heap) : retK (u :: v :: r) H = some (.tup (u :: v :: r), H) := (rfl)
theorem retC_one (C : Ctx) (t : TypeId) (x v : AV) (H : Heap) (h : loadA C H t x = some v) : retC C [some t] [x] H = some (v, H) := by simp [retC, retAll, retOne, h, retK]
theorem valK_fn (call : CallF) (yc : YieldF) (lim : Nat) (g : FuncId) (a c args : List AV) (H : Heap) (K : AV → Heap → Res) : valK call yc lim (.fn (.func g) a c) args H K = resK (call lim g (a ++ args ++ c) H) K := (rfl)
theorem valR_fn (call : CallF) (yc : YieldF) (lim : Nat) (g : FuncId) (a c args : List AV) (H : Heap) : valR call yc lim (.fn (.func g) a c) args H = call lim g (a ++ args ++ c) H := (rfl)
-- numbers
section
variable (P : Program) (H : Heap) (t : TypeId) (k : IntKind) (a b : Int)
theorem bin_add : binA P H .add t (.int k a) (.int k b) = some (.int k (wrapK k (a + b))) := by simp [binA, intA]
theorem bin_sub : binA P H .sub t (.int k a) (.int k b) = some (.int k (wrapK k (a - b))) := by simp [binA, intA]
theorem bin_mul : binA P H .mul t (.int k a) (.int k b) = some (.int k (wrapK k (a * b))) := by simp [binA, intA]
theorem bin_quo (h : b ≠ 0) : binA P H .quo t (.int k a) (.int k b) = some (.int k (wrapK k (a.tdiv b))) := by
  have : (b == 0) = false := by simp [h]
  simp [binA, intA, this]
theorem bin_rem (h : b ≠ 0) : binA P H .rem t (.int k a) (.int k b) = some (.int k (a.tmod b)) := by
  have : (b == 0) = false := by simp [h]
  simp [binA, intA, this]
theorem bin_and : binA P H .and t (.int k a) (.int k b) = some (.int k (Go.bits .and k a b)) := by simp [binA, intA]
theorem bin_or : binA P H .or t (.int k a) (.int k b) = some (.int k (Go.bits .or k a b)) := by simp [binA, intA]
theorem bin_xor : binA P H .xor t (.int k a) (.int k b) = some (.int k (Go.bits .xor k a b)) := by simp [binA, intA]
theorem bin_andNot : binA P H .andNot t (.int k a) (.int k b) = some (.int k (Go.bits .andNot k a b)) := by simp [binA, intA]
theorem bin_eql : binA P H .eql t (.int k a) (.int k b) = some (.bool (decide (a = b))) := by simp only [binA, intA, decide_true, cond_true]; rfl
theorem bin_neq : binA P H .neq t (.int k a) (.int k b) = some (.bool (decide (a ≠ b))) := by
  simp only [binA, intA, decide_true, cond_true, bne]
  congr 2
  by_cases h : a = b <;> simp [h]
theorem bin_lss : binA P H .lss t (.int k a) (.int k b) = some (.bool (decide (a < b))) := by simp [binA, intA]
theorem bin_leq : binA P H .leq t (.int k a) (.int k b) = some (.bool (decide (a ≤ b))) := by simp [binA, intA]
theorem bin_gtr : binA P H .gtr t (.int k a) (.int k b) = some (.bool (decide (b < a))) := by simp [binA, intA]
theorem bin_geq : binA P H .geq t (.int k a) (.int k b) = some (.bool (decide (b ≤ a))) := by simp [binA, intA]
theorem bin_shl (k' : IntKind) (h : 0 ≤ b) : binA P H .shl t (.int k a) (.int k' b) = some (.int k (wrapK k (a * 2 ^ min b.toNat k.bits))) := by
  have : ¬ b < 0 := by omega
  simp [binA, shiftA, this]
theorem bin_shr (k' : IntKind) (h : 0 ≤ b) : binA P H .shr t (.int k a) (.int k' b) = some (.int k (a.fdiv (2 ^ min b.toNat k.bits))) := by
  have : ¬ b < 0 := by omega
  simp [binA, shiftA, this]
theorem toList_beq (x y : ByteArray) : (x.toList == y.toList) = decide (x = y) := by
  have e : ∀ x : ByteArray, x.toList = x.data.toList := fun x => ByteArray.toList_eq x
  rw [e, e]
  by_cases h : x = y
  · simp [h]
  · have : ¬ x.data = y.data := fun h' => h (ByteArray.ext h')
    simp [h, this]
theorem bin_seql (x y : ByteArray) : binA P H .eql t (.str x) (.str y) = some (.bool (decide (x = y))) := by simp only [binA, strA, toList_beq]
theorem bin_sneq (x y : ByteArray) : binA P H .neq t (.str x) (.str y) = some (.bool (decide (x ≠ y))) := by simp [binA, strA, toList_beq]
theorem bin_scat (x y : ByteArray) (h : x.size + y.size ≤ 9223372036854775807) : binA P H .add t (.str x) (.str y) = some (.str (x ++ y)) := by simp [binA, strA, h]
theorem un_not (c : Bool) : unA .not (.bool c) = some (.bool !c) := (rfl)
theorem un_not_t : unA .not (.bool true) = some (.bool false) := (rfl)
theorem un_not_f : unA .not (.bool false) = some (.bool true) := (rfl)
theorem un_neg : unA .neg (.int k a) = some (.int k (wrapK k (0 - a))) := (rfl)
end
theorem cvI_int (k j : IntKind) (n : Int) : cvI k (.int j n) = some (.int k (wrapK k n)) := (rfl)
theorem cvT_str (s : ByteArray) : cvT (.str s) = some (.str s) := (rfl)
theorem wrap_i64 (n : Int) (h : -9223372036854775808 ≤ n ∧ n < 9223372036854775808) : wrapK .i64 n = n := by
  simp only [wrapK]; omega
theorem wrap_u64 (n : Int) (h : 0 ≤ n ∧ n < 18446744073709551616) : wrapK .u64 n = n := by
  simp only [wrapK]; omega
theorem wrap_u32 (n : Int) (h : 0 ≤ n ∧ n < 4294967296) : wrapK .u32 n = n := by
  simp only [wrapK]; omega
theorem wrap_u8 (n : Int) (h : 0 ≤ n ∧ n < 256) : wrapK .u8 n = n := by
  simp only [wrapK]; omega
theorem wrap_i32 (n : Int) (h : -2147483648 ≤ n ∧ n < 2147483648) : wrapK .i32 n = n := by
  simp only [wrapK]; omega
theorem nilChk_ptr (l v o : Nat) : nilChkA (.ptr l v o) = some (.ptr l v o) := (rfl)
theorem nilChk_xp (a : Addr) : nilChkA (.xp a) = some (.xp a) := (rfl)
theorem addA_ptr (n l v o : Nat) : addA n (.ptr l v o) = some (.ptr l v (o + n)) := (rfl)
theorem lenT_str (s : ByteArray) : lenT (.str s) = some (.int .i64 s.size) := (rfl)
theorem ixT_str (s : ByteArray) (k : IntKind) (i : Int) (h0 : 0 ≤ i) (h1 : i.toNat < s.size) : ixT (.str s) (.int k i) = some (.int .u8 (s[i.toNat]'h1).toNat) := by
  simp [ixT, asInt, h0, h1]
-- places
/-- Nothing that was there has turned, but at S. -/
structure Fr (S : Nat → Prop) (H H' : Heap) : Prop where
  sz : H.sz ≤ H'.sz
  get : ∀ l, l < H.sz → ¬ S l → H'.get l = H.get l
def Nop : Nat → Prop := fun _ => False
theorem Fr.refl (S : Nat → Prop) (H : Heap) : Fr S H H := ⟨Nat.le_refl _, fun _ _ _ => rfl⟩
theorem Fr.trans {S : Nat → Prop} {H H1 H2 : Heap} (a : Fr S H H1) (b : Fr S H1 H2) : Fr S H H2 :=
  ⟨Nat.le_trans a.sz b.sz, fun l hl hs => by rw [b.get l (Nat.lt_of_lt_of_le hl a.sz) hs, a.get l hl hs]⟩
/-- What turned of what came later does not count. -/
theorem Fr.trans' {S S1 : Nat → Prop} {H H1 H2 : Heap} (a : Fr S H H1) (b : Fr S1 H1 H2) (h : ∀ l, l < H.sz → S1 l → S l) : Fr S H H2 :=
  ⟨Nat.le_trans a.sz b.sz, fun l hl hs => by rw [b.get l (Nat.lt_of_lt_of_le hl a.sz) (fun q => hs (h l hl q)), a.get l hl hs]⟩
theorem Fr.mono {S S1 : Nat → Prop} {H H1 : Heap} (b : Fr S1 H H1) (h : ∀ l, l < H.sz → S1 l → S l) : Fr S H H1 :=
  ⟨b.sz, fun l hl hs => b.get l hl fun q => hs (h l hl q)⟩
theorem Fr.new (S : Nat → Prop) (H : Heap) (o : AObj) : Fr S H (H.new o) :=
  ⟨by rw [Heap.sz_new]; omega, fun l hl _ => by rw [Heap.get_new, if_neg (by omega)]⟩
theorem Fr.put {S : Nat → Prop} (H : Heap) (l : Nat) (o : AObj) (h : l < H.sz → S l) : Fr S H (H.put l o) :=
  ⟨Nat.le_refl _, fun m hm hs => by rw [Heap.get_put, if_neg (fun e => hs (by subst e; exact h hm))]⟩
theorem Heap.get_put_same (H : Heap) (l : Nat) (o : AObj) : (H.put l o).get l = o := by rw [Heap.get_put, if_pos rfl]
theorem Heap.get_put_ne (H : Heap) (l m : Nat) (o : AObj) (h : m ≠ l) : (H.put l o).get m = H.get m := by rw [Heap.get_put, if_neg h]
theorem Heap.get_new_same (H : Heap) (o : AObj) : (H.new o).get H.sz = o := by rw [Heap.get_new, if_pos rfl]
theorem Heap.get_new_ne (H : Heap) (m : Nat) (o : AObj) (h : m ≠ H.sz) : (H.new o).get m = H.get m := by rw [Heap.get_new, if_neg h]
section
variable {ρ : Addr → Option Value} {H : Heap} {l v e : Nat} {fr : Nat × Nat} {g : Bool} {c : List AV}
theorem cellsAt_of (h : H.get l = .cells v e fr g c) : H.cellsAt l v = some c := by simp [Heap.cellsAt, h]
theorem ld1_of (o : Nat) (h : H.get l = .cells v e fr g c) : ld1 ρ H (.ptr l v o) = c[o]? := by simp [ld1, cellsAt_of h]
theorem ldN_of (n o : Nat) (h : H.get l = .cells v e fr g c) (hn : o + n ≤ c.length) : ldN ρ H n (.ptr l v o) = some (.agg ((c.drop o).take n)) := by
  have : Nat.ble (o + n) c.length = true := Nat.ble_eq_true_of_le hn
  simp [ldN, ldL, cellsAt_of h, this]
theorem storeN_of (vs : List AV) (o : Nat) (h : H.get l = .cells v e (0, 0) g c) (hn : o + vs.length ≤ c.length) (hs : vs.all AV.solid = true) : storeN 0 H vs (.ptr l v o) = some (.put l (.cells v e (0, 0) g (layA c o vs))) := by
  have : Nat.ble (o + vs.length) c.length = true := Nat.ble_eq_true_of_le hn
  simp only [storeN, h, this, hs, Nat.ble_eq, Nat.zero_le, beq_self_eq_true, Nat.beq_refl, Bool.and_self, cond_true]
  rfl
/-- A store of one cell. -/
theorem stA_one (o : Nat) (x : AV) (h : H.get l = .cells v e (0, 0) g c) (hx : x.cells = [x]) (ho : o < c.length) (hs : x.solid = true) : stA 0 H 1 (.ptr l v o) x = some (.tup [], .put l (.cells v e (0, 0) g (c.set o x))) := by
  have e1 : layA c o [x] = c.set o x := by
    unfold layA
    rw [List.set_eq_take_append_cons_drop, if_pos ho]
    simp
  simp only [stA, hx, List.length_singleton, beq_self_eq_true, cond_true, storeN_of [x] o h ho (by simp [hs]), e1, Option.map_some, skips]
theorem stA_agg (n o : Nat) (cs : List AV) (h : H.get l = .cells v e (0, 0) g c) (hn : cs.length = n) (ho : o + n ≤ c.length) (hs : cs.all AV.solid = true) : stA 0 H n (.ptr l v o) (.agg cs) = some (.tup [], .put l (.cells v e (0, 0) g (layA c o cs))) := by
  subst hn
  simp only [stA, AV.cells, beq_self_eq_true, cond_true, storeN_of cs o h ho hs, Option.map_some, skips]
end
theorem boxA_one (H : Heap) (e : TypeId) (x : AV) (hx : x.cells = [x]) (hs : x.solid = true) : boxA H e x = some (.ptr H.sz 0 0, .new (.cells 0 e (0, 0) false [x])) := by simp [boxA, hx, hs, newCells]
theorem boxA_agg (H : Heap) (e : TypeId) (cs : List AV) (hs : cs.all AV.solid = true) : boxA H e (.agg cs) = some (.ptr H.sz 0 0, .new (.cells 0 e (0, 0) false cs)) := by simp only [boxA, AV.cells, hs, newCells, cond_true]
theorem loopL_succ {σ : Type} (B : σ → Heap → (σ → Heap → Res) → Res) (n : Nat) (x : σ) (H : Heap) : loopL B (n + 1) x H = B x H fun x H => loopL B n x H := (rfl)
/-- A loop of which each round brings the measure down. -/
theorem loopL_wp {σ : Type} {B : σ → Heap → (σ → Heap → Res) → Res} {W : Res → Prop} (Inv : Nat → σ → Heap → Prop)
    (step : ∀ m x H f, Inv m x H → (∀ m' x' H', m' < m → Inv m' x' H' → W (f x' H')) → W (B x H f)) : ∀ (m n : Nat) (x : σ) (H : Heap), Inv m x H → m < n → W (loopL B n x H) := by
  intro m
  induction m using Nat.strongRecOn with
  | ind m ih =>
    intro n x H hI hn
    obtain ⟨n, rfl⟩ : ∃ q, n = q + 1 := ⟨n - 1, by omega⟩
    rw [loopL_succ]
    exact step m x H _ hI fun m' x' H' hm hI' => ih m' hm n x' H' hI' (by omega)
/-- It is one cell, and may lie in one. -/
def scal : AV → Bool
  | .any | .agg _ | .tup _ | .ext _ => false
  | _ => true
theorem scal_cells {x : AV} (h : scal x = true) : x.cells = [x] := by cases x <;> first | rfl | cases h
theorem scal_solid {x : AV} (h : scal x = true) : x.solid = true := by cases x <;> first | rfl | cases h
theorem lay_one (c : List AV) (o : Nat) (x : AV) (h : o < c.length) : layA c o [x] = c.set o x := by
  have : o < c.length := h
  unfold layA
  rw [List.set_eq_take_append_cons_drop, if_pos this]
  simp
theorem fillO_nil (z : List AV) : fillO z [] = some z := (rfl)
theorem fillO_one (z : List AV) (o : Nat) (x : AV) (r : List (Nat × Nat × AV)) (hx : scal x = true) (ho : o < z.length) : fillO z ((o, 1, x) :: r) = fillO (z.set o x) r := by
  have h1 : Nat.ble (o + 1) z.length = true := Nat.ble_eq_true_of_le ho
  simp only [fillO, scal_cells hx, List.length_singleton, beq_self_eq_true, h1, Bool.true_and, List.all_cons, scal_solid hx, List.all_nil, cond_true, Bool.and_self, lay_one z o x ho]
theorem fillO_agg (z : List AV) (o n : Nat) (cs : List AV) (r : List (Nat × Nat × AV)) (hn : cs.length = n) (ho : o + cs.length ≤ z.length) (hs : cs.all AV.solid = true) : fillO z ((o, n, .agg cs) :: r) = fillO (layA z o cs) r := by
  have ho := Nat.ble_eq_true_of_le ho
  have hn : (cs.length == n) = true := by simp [hn]
  simp only [fillO, AV.cells, hn, ho, hs, Bool.and_self, cond_true]
theorem bldA_eq (z : List AV) (p : List (Nat × Nat × AV)) : bldA z p = (fillO z p).map .agg := (rfl)
theorem bldS_eq (H : Heap) (e n : Nat) (z : List AV) (len : Nat) (p : List (Nat × Nat × AV)) : bldS H e n z len p = (fillO (repeatL z len) p).map fun cs => (.sl H.sz 0 0 len len false, .new (.cells 0 e (0, 0) false cs)) := (rfl)
theorem st1 {H : Heap} {l v e : Nat} {g : Bool} {c : List AV} (o : Nat) (x : AV) (h : H.get l = .cells v e (0, 0) g c) (hx : scal x = true) (ho : o < c.length) : stA 0 H 1 (.ptr l v o) x = some (.tup [], .put l (.cells v e (0, 0) g (c.set o x))) :=
  stA_one o x h (scal_cells hx) ho (scal_solid hx)
theorem box1 (H : Heap) (e : TypeId) (x : AV) (hx : scal x = true) : boxA H e x = some (.ptr H.sz 0 0, .new (.cells 0 e (0, 0) false [x])) := boxA_one H e x (scal_cells hx) (scal_solid hx)
theorem wantV_t (b : Bool) : wantV (.bool b) true = some b := by cases b <;> rfl
theorem wantV_f (b : Bool) : wantV (.bool b) false = some (!b) := by cases b <;> rfl
-- a place's object
def ldC (v o : Nat) : AObj → Option AV
  | .cells v' _ _ _ c => bif v' == v then c[o]? else none
  | _ => none
def ldCN (n v o : Nat) : AObj → Option AV
  | .cells v' _ _ _ c => bif v' == v then bif Nat.ble (o + n) c.length then some (.agg ((c.drop o).take n)) else none else none
  | _ => none
def stC (l v o : Nat) (vs : List AV) : AObj → Option (AV × Eff)
  | .cells v' e fr g c => bif (v' == v) && Nat.ble (o + vs.length) c.length && vs.all AV.solid && Nat.beq fr.1 0 && Nat.beq fr.2 0 then some (.tup [], .put l (.cells v' e fr g (layA c o vs))) else none
  | _ => none
theorem ld1_ptr (ρ : Addr → Option Value) (H : Heap) (l v o : Nat) : ld1 ρ H (.ptr l v o) = ldC v o (H.get l) := by
  simp only [ld1, Heap.cellsAt]
  cases H.get l <;> try rfl
  rename_i v' e fr g c
  simp only [ldC]
  cases v' == v <;> rfl
theorem ldN_ptr (ρ : Addr → Option Value) (H : Heap) (n l v o : Nat) : ldN ρ H n (.ptr l v o) = ldCN n v o (H.get l) := by
  simp only [ldN, ldL, Heap.cellsAt]
  cases H.get l <;> try rfl
  rename_i v' e fr g c
  simp only [ldCN]
  cases v' == v with
  | false => rfl
  | true =>
    simp only [cond_true, Option.bind_some]
    cases Nat.ble (o + n) c.length <;> rfl
theorem stA_one_ptr (H : Heap) (l v o : Nat) (x : AV) (hx : scal x = true) : stA 0 H 1 (.ptr l v o) x = stC l v o [x] (H.get l) := by
  simp only [stA, scal_cells hx, List.length_singleton, beq_self_eq_true, cond_true, storeN, Nat.ble_eq_true_of_le (Nat.zero_le l)]
  cases H.get l <;> try rfl
  rename_i v' e fr g c
  simp only [stC, List.length_singleton]
  cases ((v' == v) && Nat.ble (o + 1) c.length && [x].all AV.solid && Nat.beq fr.1 0 && Nat.beq fr.2 0) <;> rfl
theorem stA_agg_ptr (H : Heap) (n l v o : Nat) (cs : List AV) (hn : cs.length = n) : stA 0 H n (.ptr l v o) (.agg cs) = stC l v o cs (H.get l) := by
  subst hn
  simp only [stA, AV.cells, beq_self_eq_true, cond_true, storeN, Nat.ble_eq_true_of_le (Nat.zero_le l)]
  cases H.get l <;> try rfl
  rename_i v' e fr g c
  simp only [stC]
  cases ((v' == v) && Nat.ble (o + cs.length) c.length && cs.all AV.solid && Nat.beq fr.1 0 && Nat.beq fr.2 0) <;> rfl
theorem ldC_cells (v o e : Nat) (fr : Nat × Nat) (g : Bool) (c : List AV) : ldC v o (.cells v e fr g c) = c[o]? := by simp [ldC]
theorem ldCN_cells (n v o e : Nat) (fr : Nat × Nat) (g : Bool) (c : List AV) (h : o + n ≤ c.length) : ldCN n v o (.cells v e fr g c) = some (.agg ((c.drop o).take n)) := by
  have h := Nat.ble_eq_true_of_le h
  simp only [ldCN, beq_self_eq_true, cond_true, h]
theorem stC_one (l v o e : Nat) (g : Bool) (c : List AV) (x : AV) (hx : scal x = true) (h : o < c.length) : stC l v o [x] (.cells v e (0, 0) g c) = some (.tup [], .put l (.cells v e (0, 0) g (c.set o x))) := by
  have h1 : Nat.ble (o + 1) c.length = true := Nat.ble_eq_true_of_le h
  simp only [stC, beq_self_eq_true, List.length_singleton, h1, List.all_cons, scal_solid hx, List.all_nil, Bool.and_self, Nat.beq_refl, cond_true, lay_one c o x h]
theorem stC_many (l v o e : Nat) (g : Bool) (c cs : List AV) (hs : cs.all AV.solid = true) (h : o + cs.length ≤ c.length) : stC l v o cs (.cells v e (0, 0) g c) = some (.tup [], .put l (.cells v e (0, 0) g (layA c o cs))) := by
  have h := Nat.ble_eq_true_of_le h
  simp only [stC, beq_self_eq_true, h, hs, Bool.and_self, Nat.beq_refl, cond_true]
theorem lay_all (c cs : List AV) (h : c.length = cs.length) : layA c 0 cs = cs := by
  simp [layA, h]
theorem newCells_eq (e : TypeId) (g : Bool) (cs : List AV) : newCells e g cs = .cells 0 e (0, 0) g cs := (rfl)
theorem szn (H : Heap) (o : AObj) : (H.new o).sz = H.sz + 1 := (rfl)
theorem szp (H : Heap) (l : Nat) (o : AObj) : (H.put l o).sz = H.sz := (rfl)
theorem get_new_at (H : Heap) (m : Nat) (o : AObj) (h : m = H.sz) : (H.new o).get m = o := by rw [Heap.get_new, if_pos h]
theorem get_put_at (H : Heap) (l m : Nat) (o : AObj) (h : m = l) : (H.put l o).get m = o := by rw [Heap.get_put, if_pos h]
theorem retC_eq (C : Ctx) (ts : List (Option TypeId)) (vs : List AV) (H : Heap) : retC C ts vs H = (retAll C H ts vs).bind fun vs => retK vs H := (rfl)
theorem retAll_nil (C : Ctx) (H : Heap) : retAll C H [] [] = some [] := (rfl)
theorem retAll_none (C : Ctx) (H : Heap) (ts : List (Option TypeId)) (v : AV) (vs : List AV) : retAll C H (none :: ts) (v :: vs) = (retAll C H ts vs).bind fun xs => some (v :: xs) := (rfl)
theorem retAll_some (C : Ctx) (H : Heap) (t : TypeId) (ts : List (Option TypeId)) (v : AV) (vs : List AV) : retAll C H (some t :: ts) (v :: vs) = (loadA C H t v).bind fun x => (retAll C H ts vs).bind fun xs => some (x :: xs) := (rfl)
theorem loopL_fun {σ : Type} (B : σ → Heap → (σ → Heap → Res) → Res) (n : Nat) (x : σ) (H : Heap) : loopL B (n + 1) x H = B x H fun x H => loopL B n x H := (rfl)
theorem scal_int (k : IntKind) (n : Int) : scal (.int k n) = true := (rfl)
theorem sol_int (k : IntKind) (n : Int) : AV.solid (.int k n) = true := (rfl)
theorem scal_bool (b : Bool) : scal (.bool b) = true := (rfl)
theorem sol_bool (b : Bool) : AV.solid (.bool b) = true := (rfl)
theorem scal_str (s : ByteArray) : scal (.str s) = true := (rfl)
theorem sol_str (s : ByteArray) : AV.solid (.str s) = true := (rfl)
theorem scal_nilp  : scal .nilp = true := (rfl)
theorem sol_nilp  : AV.solid .nilp = true := (rfl)
theorem scal_ptr (l v o : Nat) : scal (.ptr l v o) = true := (rfl)
theorem sol_ptr (l v o : Nat) : AV.solid (.ptr l v o) = true := (rfl)
theorem scal_nils  : scal .nils = true := (rfl)
theorem sol_nils  : AV.solid .nils = true := (rfl)
theorem scal_sl (l v o n c : Nat) (m : Bool) : scal (.sl l v o n c m) = true := (rfl)
theorem sol_sl (l v o n c : Nat) (m : Bool) : AV.solid (.sl l v o n c m) = true := (rfl)
theorem scal_sx (n : Nat) : scal (.sx n) = true := (rfl)
theorem sol_sx (n : Nat) : AV.solid (.sx n) = true := (rfl)
theorem scal_xp (a : Addr) : scal (.xp a) = true := (rfl)
theorem sol_xp (a : Addr) : AV.solid (.xp a) = true := (rfl)
theorem scal_xs (a : Addr) (n c : Nat) : scal (.xs a n c) = true := (rfl)
theorem sol_xs (a : Addr) (n c : Nat) : AV.solid (.xs a n c) = true := (rfl)
theorem scal_nilm  : scal .nilm = true := (rfl)
theorem sol_nilm  : AV.solid .nilm = true := (rfl)
theorem scal_mp (l : Nat) : scal (.mp l) = true := (rfl)
theorem sol_mp (l : Nat) : AV.solid (.mp l) = true := (rfl)
theorem scal_nilf  : scal .nilf = true := (rfl)
theorem sol_nilf  : AV.solid .nilf = true := (rfl)
theorem scal_fn (f : Fn) (a c : List AV) : scal (.fn f a c) = true := (rfl)
theorem sol_fn (f : Fn) (a c : List AV) : AV.solid (.fn f a c) = true := (rfl)
theorem scal_nili  : scal .nili = true := (rfl)
theorem sol_nili  : AV.solid .nili = true := (rfl)
theorem scal_ifc (t : TypeId) (v : AV) : scal (.ifc t v) = true := (rfl)
theorem sol_ifc (t : TypeId) (v : AV) : AV.solid (.ifc t v) = true := (rfl)
-- told again
theorem agn_some (u v : AV) : agn (some u) v = AV.eqv u v := (rfl)
theorem eqv_int (k : IntKind) (n : Int) : AV.eqv (.int k n) (.int k n) = true := by simp [AV.eqv]
theorem eqv_bool (b : Bool) : AV.eqv (.bool b) (.bool b) = true := by simp [AV.eqv]
theorem ba_beq (s t : ByteArray) : (s == t) = decide (s = t) := by
  have e : (s == t) = (s.data == t.data) := rfl
  rw [e]
  by_cases h : s = t
  · simp [h]
  · have : ¬ s.data = t.data := fun h' => h (ByteArray.ext h')
    simp [h, this]
theorem eqv_str (s : ByteArray) : AV.eqv (.str s) (.str s) = true := by simp [AV.eqv, ba_beq]
theorem eqv_nilp : AV.eqv .nilp .nilp = true := by simp [AV.eqv]
theorem eqv_ptr (l v o : Nat) : AV.eqv (.ptr l v o) (.ptr l v o) = true := by simp [AV.eqv]
theorem eqv_nils : AV.eqv .nils .nils = true := by simp [AV.eqv]
theorem eqv_sl (l v o n c : Nat) (m : Bool) : AV.eqv (.sl l v o n c m) (.sl l v o n c m) = true := by simp [AV.eqv]
theorem eqv_sx (n : Nat) : AV.eqv (.sx n) (.sx n) = true := by simp [AV.eqv]
theorem eqv_xp (a : Addr) : AV.eqv (.xp a) (.xp a) = true := by simp [AV.eqv]
theorem eqv_xs (a : Addr) (n c : Nat) : AV.eqv (.xs a n c) (.xs a n c) = true := by simp [AV.eqv]
theorem eqv_nilm : AV.eqv .nilm .nilm = true := by simp [AV.eqv]
theorem eqv_mp (l : Nat) : AV.eqv (.mp l) (.mp l) = true := by simp [AV.eqv]
theorem eqv_nilf : AV.eqv .nilf .nilf = true := by simp [AV.eqv]
theorem eqv_nili : AV.eqv .nili .nili = true := by simp [AV.eqv]
theorem eqv_tup0 : AV.eqv (.tup []) (.tup []) = true := by simp [AV.eqv, AV.eqvs]
theorem eqv_agg (a b : List AV) : AV.eqv (.agg a) (.agg b) = AV.eqvs a b := by simp [AV.eqv]
theorem eqv_tup (a b : List AV) : AV.eqv (.tup a) (.tup b) = AV.eqvs a b := by simp [AV.eqv]
theorem eqvs_nil : AV.eqvs [] [] = true := by simp [AV.eqvs]
theorem eqvs_cons (x y : AV) (r q : List AV) : AV.eqvs (x :: r) (y :: q) = (AV.eqv x y && AV.eqvs r q) := by simp [AV.eqvs]
/-- A value that is the very same as itself. -/
theorem eqv_scal {x : AV} (h : scal x = true) (hf : ∀ f a c, x ≠ .fn f a c) (hi : ∀ t v, x ≠ .ifc t v) (hy : ∀ l, x ≠ .yld l) : AV.eqv x x = true := by
  cases x <;> first | (simp [AV.eqv, ba_beq]; done) | (exact absurd rfl (hf _ _ _)) | (exact absurd rfl (hi _ _)) | (exact absurd rfl (hy _)) | cases h
-- numbers that are no less than 0
theorem wrap_nat (a : Nat) (h : a < 9223372036854775808) : wrapK .i64 (a : Int) = (a : Int) := wrap_i64 _ (by omega)
theorem wrap_addN (a b : Nat) (h : a + b < 9223372036854775808) : wrapK .i64 ((a : Int) + (b : Int)) = ((a + b : Nat) : Int) := by rw [wrap_i64 _ (by omega)]; omega
theorem wrap_subN (a b : Nat) (h : b ≤ a) (h2 : a < 9223372036854775808) : wrapK .i64 ((a : Int) - (b : Int)) = ((a - b : Nat) : Int) := by rw [wrap_i64 _ (by omega)]; omega
theorem wrap_mulN (a b : Nat) (h : a * b < 9223372036854775808) : wrapK .i64 ((a : Int) * (b : Int)) = ((a * b : Nat) : Int) := by rw [← Int.natCast_mul, wrap_nat _ h]
theorem wrap_succN (a : Nat) (h : a + 1 < 9223372036854775808) : wrapK .i64 ((a : Int) + 1) = ((a + 1 : Nat) : Int) := wrap_addN a 1 h
theorem wrap_predN (a : Nat) (h : 1 ≤ a) (h2 : a < 9223372036854775808) : wrapK .i64 ((a : Int) - 1) = ((a - 1 : Nat) : Int) := wrap_subN a 1 h h2
-- what comes behind is not looked at before its turn
@[congr] theorem purK_congr {o o' : Option AV} (K : AV → Res) (h : o = o') : purK o K = purK o' K := by rw [h]
@[congr] theorem resK_congr {o o' : Res} (K : AV → Heap → Res) (h : o = o') : resK o K = resK o' K := by rw [h]
@[congr] theorem effK_congr (H : Heap) {o o' : Option (AV × Eff)} (K : AV → Heap → Res) (h : o = o') : effK H o K = effK H o' K := by rw [h]
@[congr] theorem mkK_congr (H : Heap) {o o' : Option (AV × Eff)} (b : Bool) (K : AV → Heap → Res) (h : o = o') : mkK H o b K = mkK H o' b K := by rw [h]
@[congr] theorem boolK_congr {o o' : Option Bool} (K : Bool → Res) (h : o = o') : boolK o K = boolK o' K := by rw [h]
@[congr] theorem condK_congr {x x' : AV} (a b : Res) (h : x = x') : condK x a b = condK x' a b := by rw [h]
@[congr] theorem gPur_congr {w w' : Option Bool} (o : Option AV) (h : w = w') : gPur w o = gPur w' o := by rw [h]
@[congr] theorem gEff_congr {w w' : Option Bool} (o : Option (AV × Eff)) (h : w = w') : gEff w o = gEff w' o := by rw [h]
@[congr] theorem gRes_congr {w w' : Option Bool} (H : Heap) (o : Res) (h : w = w') : gRes w H o = gRes w' H o := by rw [h]
@[congr] theorem valK_congr (call : CallF) (yc : YieldF) (lim : Nat) {f f' : AV} (args : List AV) (H : Heap) (K : AV → Heap → Res) (h : f = f') : valK call yc lim f args H K = valK call yc lim f' args H K := by rw [h]
theorem cond_congr1 {α : Type} {c c' : Bool} (a b : α) (h : c = c') : cond c a b = cond c' a b := by rw [h]
end Go.Ev
