/- Part 7: PrE PrF PrG PrH PrI PrJ PrK PrL PrM PrW PrX. -/
import Derived.Test.YtnkeebchblfbgaaDoorBnF
import Derived.Test.YtnkeebchblfbgaaDoorBnB
import Derived.WalkKit
-- part PrE
/- Steps as they come in; their lines; what may be told: plain laws. -/
set_option linter.unusedVariables false
set_option linter.unusedSimpArgs false
namespace Go.Proofs.YtnkeebchblfbgaaDoor
open Go.Ev Go.RowKit
structure StI where
  kind : Int
  s : Int
  n : Int
  ok : Int
  key : Wd
  val : Wd
  on : Nat
  picks : List Int
deriving DecidableEq
def sti (x : StI) (y : AV) : List AV := [.int .i64 x.kind, .int .i64 x.s, .int .i64 x.n, .int .i64 x.ok, .str (ba x.key), .str (ba x.val), .int .u64 (x.on : Nat), y]
def ofStp (x : Stp) : StI := ⟨x.kind, x.s, x.n, x.op.k, x.op.key, x.op.val, x.op.n, x.picks.map fun n : Nat => (n : Int)⟩
theorem stc_sti (x : Stp) (y : AV) : stc x y = sti (ofStp x) y := rfl
def opWs (x : StI) : List Wd := if x.ok = 2 then [quoteL x.val] else if x.ok = 3 then [decL x.on] else []
def clampK (k : Int) : Nat := (min (max k 0) 4).toNat
def argWs (x : StI) : List Wd :=
  if x.kind = 1 then [itoaL x.s, opsT.getD (clampK x.ok) [], quoteL x.key] ++ opWs x
  else if x.kind = 2 ∨ x.kind = 3 then [itoaL x.s]
  else if x.kind = 4 ∨ x.kind = 5 ∨ x.kind = 6 ∨ x.kind = 7 then [itoaL x.n]
  else if x.kind = 9 then x.picks.map itoaL
  else []
def lineWs (x : StI) : List Wd := (if 0 ≤ x.kind ∧ x.kind < 11 then [stepsT.getD x.kind.toNat []] else []) ++ argWs x
def lineP (x : StI) : Wd := joinW (lineWs x)
def small9 (n : Int) : Prop := 0 ≤ n ∧ n ≤ 999999999
instance (n : Int) : Decidable (small9 n) := by unfold small9; infer_instance
/-- What may be told. -/
def validI (x : StI) : Prop := 1 ≤ x.kind ∧ x.kind ≤ 10 ∧ (x.kind ≠ 9 → x.picks = []) ∧ (3 < x.kind → x.s = 0) ∧ (x.kind < 4 ∨ 7 < x.kind → x.n = 0) ∧
  (x.kind ≠ 1 → x.ok = 0 ∧ x.key = [] ∧ x.val = [] ∧ x.on = 0) ∧ small9 x.s ∧ small9 x.n ∧ x.picks.length ≤ 32 ∧ (∀ n ∈ x.picks, small9 n) ∧
  (x.kind = 1 → 1 ≤ x.ok ∧ x.ok ≤ 4 ∧ (x.ok ≠ 2 → x.val = []) ∧ (x.ok ≠ 3 → x.on = 0))
-- no blanks in words
def noB (w : Wd) : Prop := ∀ b ∈ w, b ≠ 32
theorem noB_dec (u : Nat) : noB (decL u) := fun b hb e => by
  have := List.all_eq_true.1 (fixD_all (ndig u) u) b hb
  subst e; cases this
theorem noB_itoa (n : Int) (h : 0 ≤ n) : noB (itoaL n) := by unfold itoaL; rw [if_pos h]; exact noB_dec _
theorem noB_qb : ∀ c : UInt8, (qb c).all (fun b => b != 32) = true := byte_all (P := fun c => (qb c).all (fun b => b != 32) = true) (by decide +kernel)
theorem noB_quote (s : Wd) : noB (quoteL s) := by
  intro b hb
  have h : b = 61 ∨ b ∈ s.flatMap qb := by
    unfold quoteL at hb
    simpa using hb
  rcases h with rfl | h
  · decide
  · obtain ⟨c, _, hc⟩ := List.mem_flatMap.1 h
    have := List.all_eq_true.1 (noB_qb c) b hc
    simpa using this
theorem noB_steps : ∀ w ∈ stepsT, noB w := by unfold noB; decide
theorem noB_ops : ∀ w ∈ opsT, noB w := by unfold noB; decide
theorem cut_joinT : ∀ (ws : List Wd) (w : Wd), noB w → (∀ a ∈ ws, noB a) → cutB 32 (w ++ joinT ws) = w :: ws
  | [], w, hw, _ => by simp only [joinT, List.flatMap_nil, List.append_nil]; exact cutB_no 32 w hw
  | a :: ws, w, hw, h => by
    have e : joinT (a :: ws) = 32 :: (a ++ joinT ws) := by simp [joinT]
    rw [e, cutB_pre 32 _ w hw, cut_joinT ws a (h a (by simp)) fun b hb => h b (by simp [hb])]
theorem kind_of : ∀ k : Fin 11, kindM (stepsT.getD k.val []) = k.val := by decide
theorem num_itoa (n : Int) (h : small9 n) : numM (itoaL n) m9 = some n.toNat := by
  unfold itoaL
  rw [if_pos h.1]
  exact numM_dec _ _ (by unfold m9; have := h.2; omega)
theorem mapM_itoa : ∀ (l : List Int), (∀ n ∈ l, small9 n) → ((l.map itoaL).mapM fun a => numM a m9) = some (l.map Int.toNat)
  | [], _ => rfl
  | n :: l, h => by
    rw [List.map_cons, List.mapM_cons, num_itoa n (h n (by simp)), mapM_itoa l fun a ha => h a (by simp [ha])]
    rfl
theorem toNat_back (l : List Int) (h : ∀ n ∈ l, small9 n) : (l.map Int.toNat).map (fun n : Nat => (n : Int)) = l := by
  rw [List.map_map]
  conv => rhs; rw [← List.map_id l]
  apply List.map_congr_left
  intro n hn
  have := (h n hn).1
  simp only [Function.comp, id]; omega
theorem numO_cons' (m : Nat) (a : Wd) (r : List Wd) : numO m (some (a :: r)) = (numM a m).map (·, r) := rfl
theorem ok_ops : ∀ k : Fin 5, okM (opsT.getD k.val []) = k.val := by decide
/-- What may be told is read from its line as it was. -/
theorem line_back (x : StI) (h : validI x) (hon : x.on ≤ m64) : ∃ y, stepM (lineP x) = some y ∧ ofStp y = x := by
  obtain ⟨h1, h2, h3, h4, h5, h6, h7, h8, h9, h10, h11⟩ := h
  obtain ⟨kind, s, n, ok, key, val, on, picks⟩ := x
  simp only at h1 h2 h3 h4 h5 h6 h7 h8 h9 h10 h11 hon
  obtain ⟨k, rfl⟩ : ∃ k : Nat, kind = k := ⟨kind.toNat, by omega⟩
  have hk := kind_of ⟨k, by omega⟩
  simp only at hk
  have hwB : noB (stepsT.getD k []) := by
    have hl : k < stepsT.length := by show k < 11; omega
    rw [List.getD_eq_getElem?_getD, List.getElem?_eq_getElem hl]
    exact noB_steps _ (List.getElem_mem hl)
  have hws : lineWs ⟨(k : Int), s, n, ok, key, val, on, picks⟩ = stepsT.getD k [] :: argWs ⟨(k : Int), s, n, ok, key, val, on, picks⟩ := by
    unfold lineWs
    simp only
    rw [if_pos ⟨by omega, by omega⟩]; rfl
  have cut : (∀ a ∈ argWs ⟨(k : Int), s, n, ok, key, val, on, picks⟩, noB a) → cutB 32 (lineP ⟨(k : Int), s, n, ok, key, val, on, picks⟩) = stepsT.getD k [] :: argWs ⟨(k : Int), s, n, ok, key, val, on, picks⟩ := fun hB => by
    unfold lineP
    rw [hws, joinW]
    exact cut_joinT _ _ hwB hB
  by_cases k1 : k = 1
  · subst k1
    obtain ⟨o1, o2, o3, o4⟩ := h11 rfl
    obtain ⟨o, rfl⟩ : ∃ o : Nat, ok = o := ⟨ok.toNat, by omega⟩
    have hcl : clampK (o : Int) = o := by unfold clampK; omega
    have hn0 : n = 0 := h5 (Or.inl (by omega))
    have hpk : picks = [] := h3 (by omega)
    subst hn0; subst hpk
    have hoB : noB (opsT.getD o []) := by
      have hl : o < opsT.length := by show o < 5; omega
      rw [List.getD_eq_getElem?_getD, List.getElem?_eq_getElem hl]
      exact noB_ops _ (List.getElem_mem hl)
    have harg : argWs ⟨((1 : Nat) : Int), s, 0, (o : Int), key, val, on, []⟩ = [itoaL s, opsT.getD o [], quoteL key] ++ opWs ⟨((1 : Nat) : Int), s, 0, (o : Int), key, val, on, []⟩ := by
      unfold argWs
      simp only [hcl]; rfl
    have hB : ∀ a ∈ argWs ⟨((1 : Nat) : Int), s, 0, (o : Int), key, val, on, []⟩, noB a := by
      rw [harg]
      intro a ha
      simp only [List.cons_append, List.nil_append, List.mem_cons] at ha
      rcases ha with rfl | rfl | rfl | ha
      · exact noB_itoa s h7.1
      · exact hoB
      · exact noB_quote key
      · unfold opWs at ha
        simp only at ha
        split at ha
        · simp at ha; subst ha; exact noB_quote val
        · split at ha
          · simp at ha; subst ha; exact noB_dec on
          · simp at ha
    have hst := stepM_ask (cut hB) hk
    rw [harg, List.cons_append, numO_cons', num_itoa s h7] at hst
    simp only [Option.map_some] at hst
    have hok := ok_ops ⟨o, by omega⟩
    simp only at hok
    have hq := unquote_quote key
    have hop : opM ([opsT.getD o [], quoteL key] ++ opWs ⟨((1 : Nat) : Int), s, 0, (o : Int), key, val, on, []⟩) = some ⟨o, key, val, on⟩ := by
      have hc : o = 1 ∨ o = 4 ∨ o = 2 ∨ o = 3 := by omega
      rcases hc with rfl | rfl | rfl | rfl
      · obtain rfl := o3 (by decide)
        obtain rfl := o4 (by decide)
        show opM [wRead, quoteL key] = _
        rw [opM_2, hq]; rfl
      · obtain rfl := o3 (by decide)
        obtain rfl := o4 (by decide)
        show opM [wDel, quoteL key] = _
        rw [opM_2, hq]; rfl
      · obtain rfl := o4 (by decide)
        show opM [wPut, quoteL key, quoteL val] = _
        rw [opM_3, hq, unquote_quote val]; rfl
      · obtain rfl := o3 (by decide)
        show opM [wAdd, quoteL key, decL on] = _
        rw [opM_3, hq, numM_dec on m64 hon]; rfl
    rw [hop] at hst
    refine ⟨_, hst, ?_⟩
    have := h7.1
    show StI.mk _ _ _ _ _ _ _ _ = _
    simp only [List.map_nil, StI.mk.injEq, true_and, and_true]
    omega
  · obtain ⟨g1, g2, g3, g4⟩ := h6 (by omega)
    subst g1; subst g2; subst g3; subst g4
    by_cases k23 : k = 2 ∨ k = 3
    · have hn0 : n = 0 := h5 (Or.inl (by omega))
      have hpk : picks = [] := h3 (by omega)
      subst hn0; subst hpk
      have harg : argWs ⟨(k : Int), s, 0, 0, [], [], 0, []⟩ = [itoaL s] := by
        unfold argWs
        simp only
        rw [if_neg (by omega), if_pos (by omega)]
      have hst := stepM_num (cut (by rw [harg]; intro a ha; simp at ha; subst ha; exact noB_itoa s h7.1)) hk ⟨by omega, by omega⟩
      rw [harg, numO_cons', num_itoa s h7] at hst
      simp only [Option.map_some, if_true] at hst
      rw [if_pos (by omega : k ≤ 3)] at hst
      refine ⟨_, hst, ?_⟩
      have := h7.1
      show StI.mk _ _ _ _ _ _ _ _ = _
      simp only [List.map_nil, StI.mk.injEq, true_and, and_true]
      exact ⟨by omega, rfl, rfl, rfl, rfl, rfl⟩
    · by_cases k47 : k = 4 ∨ k = 5 ∨ k = 6 ∨ k = 7
      · have hs0 : s = 0 := h4 (by omega)
        have hpk : picks = [] := h3 (by omega)
        subst hs0; subst hpk
        have harg : argWs ⟨(k : Int), 0, n, 0, [], [], 0, []⟩ = [itoaL n] := by
          unfold argWs
          simp only
          rw [if_neg (by omega), if_neg (by omega), if_pos (by omega)]
        have hst := stepM_num (cut (by rw [harg]; intro a ha; simp at ha; subst ha; exact noB_itoa n h8.1)) hk ⟨by omega, by omega⟩
        rw [harg, numO_cons', num_itoa n h8] at hst
        simp only [Option.map_some, if_true] at hst
        rw [if_neg (by omega : ¬ k ≤ 3)] at hst
        refine ⟨_, hst, ?_⟩
        have := h8.1
        show StI.mk _ _ _ _ _ _ _ _ = _
        simp only [List.map_nil, StI.mk.injEq, true_and, and_true]
        exact ⟨rfl, by omega, rfl, rfl, rfl, rfl⟩
      · have hs0 : s = 0 := h4 (by omega)
        have hn0 : n = 0 := h5 (Or.inr (by omega))
        subst hs0; subst hn0
        by_cases k9 : k = 9
        · subst k9
          have harg : argWs ⟨((9 : Nat) : Int), 0, 0, 0, [], [], 0, picks⟩ = picks.map itoaL := by
            unfold argWs
            simp only
            rw [if_neg (by omega), if_neg (by omega), if_neg (by omega), if_pos (by omega)]
          have hst := stepM_crash (cut (by
            rw [harg]; intro a ha
            obtain ⟨n, hn, rfl⟩ := List.mem_map.1 ha
            exact noB_itoa n (h10 n hn).1)) hk
          rw [harg, mapM_itoa picks h10, List.length_map, if_pos h9, Option.map_some] at hst
          refine ⟨_, hst, ?_⟩
          show StI.mk _ _ _ _ _ _ _ _ = _
          simp only [toNat_back picks h10]
          rfl
        · have hpk : picks = [] := h3 (by omega)
          subst hpk
          have harg : argWs ⟨(k : Int), 0, 0, 0, [], [], 0, []⟩ = [] := by
            unfold argWs
            simp only
            rw [if_neg (by omega), if_neg (by omega), if_neg (by omega), if_neg (by omega)]
          have hst := stepM_one (cut (by rw [harg]; intro a ha; cases ha)) hk (by omega)
          rw [harg, if_pos rfl] at hst
          exact ⟨_, hst, rfl⟩
theorem numM_le {w : Wd} {m n : Nat} (h : numM w m = some n) : n ≤ m := by
  have := (numM_iff w m n).1 h
  rw [this.2.2.2.2]; exact this.2.2.1
theorem opO_valid {o : RW} {x : OpV} {r : List Wd} (h : opO o = some (x, r)) : 1 ≤ x.k ∧ x.k ≤ 4 ∧ (x.k ≠ 2 → x.val = []) ∧ (x.k ≠ 3 → x.n = 0) := by
  unfold opO at h
  have hlt := okM_lt (hdO o)
  cases ht : txtO (tlO o) with
  | none => rw [ht] at h; cases h
  | some y =>
    rw [ht] at h
    simp only at h
    split at h
    · cases h
    · split at h
      · cases hx : txtO (some y.2) with
        | none => rw [hx] at h; cases h
        | some z =>
          rw [hx] at h
          simp only [Option.map_some, Option.some.injEq, Prod.mk.injEq] at h
          rw [← h.1]
          exact ⟨by show (1 : Nat) ≤ 2; decide, by show (2 : Nat) ≤ 4; decide, fun e => absurd rfl e, fun _ => rfl⟩
      · split at h
        · cases hx : numO m64 (some y.2) with
          | none => rw [hx] at h; cases h
          | some z =>
            rw [hx] at h
            simp only [Option.map_some, Option.some.injEq, Prod.mk.injEq] at h
            rw [← h.1]
            exact ⟨by show (1 : Nat) ≤ 3; decide, by show (3 : Nat) ≤ 4; decide, fun _ => rfl, fun e => absurd rfl e⟩
        · simp only [Option.some.injEq, Prod.mk.injEq] at h
          rw [← h.1]
          exact ⟨by simp only; omega, by simp only; omega, fun _ => rfl, fun _ => rfl⟩
theorem numO_le {m n : Nat} {r q : List Wd} (h : numO m (some r) = some (n, q)) : n ≤ m := by
  cases r with
  | nil => cases h
  | cons a r =>
    rw [numO_cons'] at h
    cases hn : numM a m with
    | none => rw [hn] at h; cases h
    | some z =>
      rw [hn] at h
      simp only [Option.map_some, Option.some.injEq, Prod.mk.injEq] at h
      rw [← h.1]; exact numM_le hn
theorem mapM_le {m : Nat} : ∀ {l : List Wd} {r : List Nat}, (l.mapM fun a => numM a m) = some r → r.length = l.length ∧ ∀ n ∈ r, n ≤ m
  | [], r, h => by simp at h; subst h; simp
  | a :: l, r, h => by
    rw [List.mapM_cons] at h
    cases ha : numM a m with
    | none => rw [ha] at h; cases h
    | some b =>
      cases hl : (l.mapM fun a => numM a m) with
      | none => rw [ha, hl] at h; cases h
      | some q =>
        rw [ha, hl] at h
        simp at h
        subst h
        obtain ⟨h1, h2⟩ := mapM_le hl
        exact ⟨by rw [List.length_cons, List.length_cons, h1], fun n hn => by
          rcases List.mem_cons.1 hn with rfl | hn
          · exact numM_le ha
          · exact h2 n hn⟩
/-- What is read from a line may be told. -/
theorem stepM_valid {line : Wd} {y : Stp} (h : stepM line = some y) : validI (ofStp y) := by
  cases hc : cutB 32 line with
  | nil => exact absurd hc (cutB_ne _ _)
  | cons w r =>
    have s0 : small9 0 := by decide
    have sn : ∀ n : Nat, n ≤ m9 → small9 (n : Int) := fun n hn => ⟨by omega, by unfold m9 at hn; omega⟩
    rcases kind_cases w with ⟨_, hk⟩ | ⟨m, _, hk, hm⟩
    · rw [stepM_no hc hk] at h; cases h
    · by_cases h0 : m = 0
      · rw [stepM_no hc (hk.trans h0)] at h; cases h
      by_cases h9 : m = 9
      · rw [stepM_crash hc (hk.trans h9)] at h
        split at h
        · rename_i h32
          cases hq : (r.mapM fun a => numM a m9) with
          | none => rw [hq] at h; cases h
          | some l =>
            rw [hq] at h
            simp only [Option.map_some, Option.some.injEq] at h
            subst h
            obtain ⟨q1, q2⟩ := mapM_le hq
            refine ⟨by show (1 : Int) ≤ 9; decide, by show (9 : Int) ≤ 10; decide, fun e => absurd rfl e, fun _ => rfl, fun _ => rfl, fun _ => ⟨rfl, rfl, rfl, rfl⟩, s0, s0, by simp only [ofStp, List.length_map]; omega, fun n hn => ?_, fun e => absurd e (by show ¬ (9 : Int) = 1; decide)⟩
            obtain ⟨z, hz, rfl⟩ := List.mem_map.1 hn
            exact sn z (q2 z hz)
        · cases h
      by_cases h8 : m = 8 ∨ m = 10
      · rw [stepM_one hc hk h8] at h
        split at h
        · cases h
          refine ⟨by simp only [ofStp]; omega, by simp only [ofStp]; omega, fun _ => rfl, fun _ => rfl, fun _ => rfl, fun _ => ⟨rfl, rfl, rfl, rfl⟩, s0, s0, by simp [ofStp], by simp [ofStp], fun e => ?_⟩
          simp only [ofStp] at e; omega
        · cases h
      by_cases h1 : m = 1
      · subst h1
        rw [stepM_ask hc hk] at h
        cases hn : numO m9 (some r) with
        | none => rw [hn] at h; cases h
        | some z =>
          obtain ⟨n, q⟩ := z
          rw [hn] at h
          simp only at h
          cases ho : opM q with
          | none => rw [ho] at h; cases h
          | some op =>
            rw [ho] at h
            simp only [Option.map_some, Option.some.injEq] at h
            subst h
            have hop : opO (some q) = some (op, []) := by
              unfold opM at ho
              split at ho
              · rename_i e; rw [e]; simp only [Option.some.injEq] at ho; rw [ho]
              · cases ho
            obtain ⟨v1, v2, v3, v4⟩ := opO_valid hop
            refine ⟨by show (1 : Int) ≤ 1; decide, by show (1 : Int) ≤ 10; decide, fun _ => rfl, fun e => absurd e (by show ¬ (3 : Int) < 1; decide), fun _ => rfl, fun e => absurd rfl e, sn n (numO_le hn), s0, by simp [ofStp], by simp [ofStp], fun _ => ⟨by simp only [ofStp]; omega, by simp only [ofStp]; omega, fun e => v3 fun e2 => e (by simp only [ofStp]; omega), fun e => v4 fun e2 => e (by simp only [ofStp]; omega)⟩⟩
      · rw [stepM_num hc hk ⟨by omega, by omega⟩] at h
        cases hn : numO m9 (some r) with
        | none => rw [hn] at h; cases h
        | some z =>
          obtain ⟨n, q⟩ := z
          have hle := numO_le hn
          rw [hn] at h
          simp only at h
          split at h
          · simp only [Option.some.injEq] at h
            by_cases h3 : m ≤ 3
            · rw [if_pos h3] at h
              subst h
              exact ⟨by simp only [ofStp]; omega, by simp only [ofStp]; omega, fun _ => rfl, fun e => by simp only [ofStp] at e; omega, fun _ => rfl, fun _ => ⟨rfl, rfl, rfl, rfl⟩, sn n hle, s0, by simp [ofStp], by simp [ofStp], fun e => by simp only [ofStp] at e; omega⟩
            · rw [if_neg h3] at h
              subst h
              exact ⟨by simp only [ofStp]; omega, by simp only [ofStp]; omega, fun _ => rfl, fun _ => rfl, fun e => by simp only [ofStp] at e; omega, fun _ => ⟨rfl, rfl, rfl, rfl⟩, s0, sn n hle, by simp [ofStp], by simp [ofStp], fun e => by simp only [ofStp] at e; omega⟩
          · cases h
end Go.Proofs.YtnkeebchblfbgaaDoor

-- part PrF
/- A step's line, the program's. -/
set_option linter.unusedVariables false
set_option linter.unusedSimpArgs false
namespace Go.Proofs.YtnkeebchblfbgaaDoor
attribute [local congr] Go.Ev.cond_congr1
open Go.Ev Go.RowKit
def rng (n : Int) : Prop := -9223372036854775808 ≤ n ∧ n < 9223372036854775808
section
variable {ρ : Addr → Option Value} {k : Nat} {H H0 H' : Heap}
theorem app1 {Q : AV → Heap → Prop} {K : AV → Heap → Res} {x : AV} {done : List Wd} (w : Wd) (hB : GF H' 9 1 x (srow done)) (hF : Fr Nop H0 H') (hY : ∀ t, x.lies t → H0.sz ≤ t) (hl : done.length ≤ 10001) (hK : ∀ x' H'', GF H'' 9 1 x' (srow (done ++ [w])) → Fr Nop H0 H'' → (∀ t, x'.lies t → H0.sz ≤ t) → Ret Q (K x' H'')) :
    Ret Q (effK H' (bldS H' 9 1 [.str (ba [])] 1 [(0, 1, .str (ba w))]) fun y H => effK H (apA ρ 0 H 9 1 16 x y) K) := by
  have bl1 : bldS H' 9 1 [.str (ba [])] 1 [(0, 1, .str (ba w))] = some (.sl H'.sz 0 0 1 1 false, .new (.cells 0 9 (0, 0) false [.str (ba w)])) := rfl
  rw [bl1, effK_new]
  have f2 : Fr Nop H' (H'.new (.cells 0 9 (0, 0) false [.str (ba w)])) := Fr.new Nop H' _
  have hE : Els ρ (H'.new (.cells 0 9 (0, 0) false [.str (ba w)])) 1 (.sl H'.sz 0 0 1 1 false) (srow [w]) := Els.of_cells (els := srow [w]) (e := 9) (fr := (0, 0)) (g := false) (by rw [szn]; omega) (by rw [Heap.get_new_same]; rfl) (srow_one _)
  refine Ret.appF (hB.frame Nop f2 fun _ _ q => q) hE (by simp [srow]) (srow_solid _) (by rw [srow_len, srow_len, List.length_singleton]; omega) (by rw [srow_len, srow_len, List.length_singleton]; omega) ?_
  intro x' H3 G3 f3 hy' sc
  exact hK x' H3 (by rw [srow_app]; exact Or.inr G3) ((hF.trans f2).trans' f3 fun l hl q => absurd (hY l q) (by omega)) fun t q => (hy' t q).elim (hY t) fun z => Nat.le_trans (hF.trans f2).sz z
theorem app3 {Q : AV → Heap → Prop} {K : AV → Heap → Res} {g : Heap → Bool} {x : AV} {done : List Wd} (w1 w2 w3 : Wd) (hB : GF H' 9 1 x (srow done)) (hF : Fr Nop H0 H') (hY : ∀ t, x.lies t → H0.sz ≤ t) (hl : done.length ≤ 10001) (hg : ∀ H'', Fr Nop H0 H'' → g H'' = true) (hK : ∀ x' H'', GF H'' 9 1 x' (srow (done ++ [w1, w2, w3])) → Fr Nop H0 H'' → (∀ t, x'.lies t → H0.sz ≤ t) → Ret Q (K x' H'')) :
    Ret Q (mkK H' (bldS H' 9 1 [.str (ba [])] 3 [(0, 1, .str (ba w1)), (1, 1, .str (ba w2)), (2, 1, .str (ba w3))]) true fun y H => bif g H then effK H (apA ρ 0 H 9 1 16 x y) K else none) := by
  have bl1 : bldS H' 9 1 [.str (ba [])] 3 [(0, 1, .str (ba w1)), (1, 1, .str (ba w2)), (2, 1, .str (ba w3))] = some (.sl H'.sz 0 0 3 3 false, .new (.cells 0 9 (0, 0) false [.str (ba w1), .str (ba w2), .str (ba w3)])) := rfl
  rw [bl1, mkK_new _ _ _ _ rfl]
  have f2 : Fr Nop H' (H'.new (.cells 0 9 (0, 0) false [.str (ba w1), .str (ba w2), .str (ba w3)])) := Fr.new Nop H' _
  rw [hg _ (hF.trans f2), cond_true]
  have hE : Els ρ (H'.new (.cells 0 9 (0, 0) false [.str (ba w1), .str (ba w2), .str (ba w3)])) 1 (.sl H'.sz 0 0 3 3 false) (srow [w1, w2, w3]) := Els.of_cells (els := srow [w1, w2, w3]) (e := 9) (fr := (0, 0)) (g := false) (by rw [szn]; omega) (by rw [Heap.get_new_same]; rfl) (srow_one _)
  refine Ret.appF (hB.frame Nop f2 fun _ _ q => q) hE (by simp [srow]) (srow_solid _) (by rw [srow_len, srow_len]; simp only [List.length_cons, List.length_nil]; omega) (by rw [srow_len, srow_len]; simp only [List.length_cons, List.length_nil]; omega) ?_
  intro x' H3 G3 f3 hy' sc
  exact hK x' H3 (by rw [srow_app]; exact Or.inr G3) ((hF.trans f2).trans' f3 fun l hl q => absurd (hY l q) (by omega)) fun t q => (hy' t q).elim (hY t) fun z => Nat.le_trans (hF.trans f2).sz z
/-- What a line's texts come to. -/
structure okI (x : StI) : Prop where
  kind : rng x.kind
  s : rng x.s
  n : rng x.n
  ok : rng x.ok
  key : x.key.length ≤ 200
  val : x.val.length ≤ 200
  on : x.on < 18446744073709551616
  pk : x.picks.length ≤ 50
  pks : ∀ n ∈ x.picks, rng n
theorem quote_len (s : Wd) : (quoteL s).length ≤ 3 * s.length + 1 := by
  have := fm_len s
  unfold quoteL
  simp only [List.length_cons]; omega
theorem sumL_le {n : Nat} : ∀ (ws : List Wd), (∀ w ∈ ws, w.length ≤ n) → sumL ws ≤ n * ws.length
  | [], _ => by simp [sumL]
  | w :: ws, h => by
    have := sumL_le ws fun a ha => h a (by simp [ha])
    have := h w (by simp)
    rw [sumL, List.length_cons, Nat.mul_succ]; omega
theorem lineWs_len {x : StI} (h : okI x) : (lineWs x).length ≤ 60 ∧ sumL (lineWs x) ≤ 42060 := by
  have hw : ∀ w ∈ lineWs x, w.length ≤ 701 := by
    intro w hw
    unfold lineWs at hw
    rcases List.mem_append.1 hw with hw | hw
    · split at hw
      · rename_i hk
        simp at hw
        subst hw
        have hl : x.kind.toNat < stepsT.length := by show _ < 11; omega
        rw [List.getElem?_eq_getElem hl]
        have : ∀ w ∈ stepsT, w.length ≤ 701 := by decide
        exact this _ (List.getElem_mem hl)
      · cases hw
    · unfold argWs at hw
      split at hw
      · simp only [List.cons_append, List.nil_append, List.mem_cons] at hw
        rcases hw with rfl | rfl | rfl | hw
        · have := itoaL_len x.s h.s; omega
        · have hl : clampK x.ok < opsT.length := by show _ < 5; unfold clampK; omega
          rw [List.getD_eq_getElem?_getD, List.getElem?_eq_getElem hl]
          have : ∀ w ∈ opsT, w.length ≤ 701 := by decide
          exact this _ (List.getElem_mem hl)
        · have := quote_len x.key; have := h.key; omega
        · unfold opWs at hw
          split at hw
          · simp at hw; subst hw; have := quote_len x.val; have := h.val; omega
          · split at hw
            · simp at hw; subst hw; have := nd20 x.on h.on; rw [decL, fixD_len]; omega
            · cases hw
      · split at hw
        · simp at hw; subst hw; have := itoaL_len x.s h.s; omega
        · split at hw
          · simp at hw; subst hw; have := itoaL_len x.n h.n; omega
          · split at hw
            · obtain ⟨n, hn, rfl⟩ := List.mem_map.1 hw
              have := itoaL_len n (h.pks n hn); omega
            · cases hw
  have hn : (lineWs x).length ≤ 60 := by
    unfold lineWs
    rw [List.length_append]
    have h1 : (if 0 ≤ x.kind ∧ x.kind < 11 then [stepsT.getD x.kind.toNat []] else []).length ≤ 1 := by split <;> simp
    have h2 : (argWs x).length ≤ 50 := by
      unfold argWs
      split
      · simp only [List.length_append, List.length_cons, List.length_nil]
        have : (opWs x).length ≤ 1 := by unfold opWs; split; · simp
                                         · split <;> simp
        omega
      · split
        · simp
        · split
          · simp
          · split
            · rw [List.length_map]; exact h.pk
            · simp
    omega
  exact ⟨hn, by have := sumL_le (lineWs x) hw; omega⟩
end
end Go.Proofs.YtnkeebchblfbgaaDoor

-- part PrG
/- A step's line: the walk. -/
set_option linter.unusedVariables false
set_option linter.unusedSimpArgs false
namespace Go.Proofs.YtnkeebchblfbgaaDoor
attribute [local congr] Go.Ev.cond_congr1
open Go.Ev Go.RowKit
section
variable {ρ : Addr → Option Value} {k : Nat} {H H0 H' : Heap}
def LQ2 (H0 : Heap) (ws : List Wd) (v : AV) (H' : Heap) : Prop := v = .str (ba (joinW ws)) ∧ Fr Nop H0 H'
theorem line_end {x : AV} {ws : List Wd} (hB : GF H 9 1 x (srow ws)) (hF : Fr Nop H0 H) (h1 : ws.length ≤ 60) (h2 : sumL ws ≤ 42060) (hk : 10000 ≤ k) : Ret (LQ2 H0 ws) (N31_2 ρ (evCall (cx ρ) k) (evCY (cx ρ) k).2 0 k x H retK) := by
  simp only [N31_2, b32]
  refine Ret.bind (join_spec hB.toEls hB.notSx (by omega) (by omega) (by omega)) ?_
  rintro v H1 ⟨rfl, f⟩
  simp only [retK_one]
  exact .intro ⟨rfl, hF.trans f⟩
theorem clamp_run (n : Int) : ∃ m : Int, foldsA maxA [.int .i64 n, .int .i64 0] = some (.int .i64 m) ∧ foldsA minA [.int .i64 m, .int .i64 4] = some (.int .i64 (clampK n : Nat)) := by
  refine ⟨if n < 0 then 0 else n, rfl, ?_⟩
  show some (AV.int .i64 (if (4 : Int) < (if n < 0 then 0 else n) then 4 else (if n < 0 then 0 else n))) = _
  congr 2
  unfold clampK
  split <;> split <;> omega
theorem ops_at (R : RT ρ) (i : Nat) (hi : i < 5) : ixR 1 5 (.xp ⟨1, 0, none⟩) (.int .i64 (i : Nat)) = some (.xp ⟨1, i, none⟩) ∧ ∀ H, ld1 ρ H (.xp ⟨1, i, none⟩) = some (.str (ba (opsT.getD i []))) := by
  constructor
  · have a1 : decide ((0 : Int) ≤ i) = true := by simp
    have a2 : decide (((i : Nat) : Int) < (5 : Nat)) = true := decide_eq_true (by omega)
    show (bif decide ((0 : Int) ≤ (i : Nat)) && decide (((i : Nat) : Int) < (5 : Nat)) then addA ((i : Int).toNat * 1) (.xp ⟨1, 0, none⟩) else none) = _
    simp only [a1, a2, Bool.and_self, cond_true, Int.toNat_natCast, Nat.mul_one, addA, Addr.add, Nat.zero_add]
    split
    · rename_i q; rw [q]
    · rfl
  · intro H
    have hl : i < opsT.length := hi
    show (ρ ⟨1, i, none⟩).map ofCell = _
    rw [R.ops i opsT[i] (List.getElem?_eq_getElem hl), List.getD_eq_getElem?_getD, List.getElem?_eq_getElem hl]; rfl
theorem steps_at (R : RT ρ) (i : Nat) (hi : i < 11) : ixR 1 11 (.xp ⟨0, 0, none⟩) (.int .i64 (i : Nat)) = some (.xp ⟨0, i, none⟩) ∧ ∀ H, ld1 ρ H (.xp ⟨0, i, none⟩) = some (.str (ba (stepsT.getD i []))) := by
  constructor
  · have a1 : decide ((0 : Int) ≤ i) = true := by simp
    have a2 : decide (((i : Nat) : Int) < (11 : Nat)) = true := decide_eq_true (by omega)
    show (bif decide ((0 : Int) ≤ (i : Nat)) && decide (((i : Nat) : Int) < (11 : Nat)) then addA ((i : Int).toNat * 1) (.xp ⟨0, 0, none⟩) else none) = _
    simp only [a1, a2, Bool.and_self, cond_true, Int.toNat_natCast, Nat.mul_one, addA, Addr.add, Nat.zero_add]
    split
    · rename_i q; rw [q]
    · rfl
  · intro H
    have hl : i < stepsT.length := hi
    show (ρ ⟨0, i, none⟩).map ofCell = _
    rw [R.steps i stepsT[i] (List.getElem?_eq_getElem hl), List.getD_eq_getElem?_getD, List.getElem?_eq_getElem hl]; rfl
theorem line1 (R : RT ρ) {x : StI} {y : AV} {n1 : Nat} {w : AV} {done : List Wd} (h : okI x) (hk : 20000 ≤ k) (hn1 : n1 < H0.sz) (hg : H0.get n1 = .cells 0 43 (0, 0) false (sti x y)) (hy : Els ρ H0 1 y (zrow x.picks)) (hB : GF H 9 1 w (srow done)) (hF : Fr Nop H0 H) (hY : ∀ t, w.lies t → H0.sz ≤ t) (hd : done.length ≤ 1)
    (h1 : (done ++ argWs x).length ≤ 60) (h2 : sumL (done ++ argWs x) ≤ 42060) : Ret (LQ2 H0 (done ++ argWs x)) (N31_1 ρ (evCall (cx ρ) k) (evCY (cx ρ) k).2 0 k (.ptr n1 0 0) w H retK) := by
  have lf : ∀ H', Fr Nop H0 H' → ∀ i v, (sti x y)[i]? = some v → ld1 ρ H' (.ptr n1 0 i) = some v := fun H' f i v hv => by
    have hg' : H'.get n1 = .cells 0 43 (0, 0) false (sti x y) := by rw [f.get n1 hn1 (fun e => e), hg]
    simp only [ld1_ptr, hg', ldC_cells]; exact hv
  have fin : ∀ (w' : AV) (ws : List Wd) (H1 : Heap), ws = done ++ argWs x → GF H1 9 1 w' (srow ws) → Fr Nop H0 H1 → Ret (LQ2 H0 (done ++ argWs x)) (N31_2 ρ (evCall (cx ρ) k) (evCY (cx ρ) k).2 0 k w' H1 retK) := by
    rintro w' ws H1 rfl hB' hF'
    exact line_end hB' hF' h1 h2 (by omega)
  by_cases k1 : x.kind = 1
  · have ha : argWs x = [itoaL x.s, opsT.getD (clampK x.ok) [], quoteL x.key] ++ opWs x := by unfold argWs; rw [if_pos k1]
    have c1 : decide (x.kind = 1) = true := decide_eq_true k1
    obtain ⟨m, m1, m2⟩ := clamp_run x.ok
    have hcl : clampK x.ok < 5 := by unfold clampK; omega
    obtain ⟨o1, o2⟩ := ops_at R (clampK x.ok) hcl
    have ei : ∀ n, AV.eqv (.int .i64 n) (.int .i64 n) = true := eqv_int .i64
    simp only [N31_1, addA_ptr, Nat.zero_add, Nat.reduceAdd, lf H hF 0 _ rfl, lf H hF 1 _ rfl, lf H hF 3 _ rfl, lf H hF 4 _ rfl, bin_eql, c1, m1, m2, o1, o2 H, purK_some, condK_true]
    refine Ret.bind (itoa_spec R.toRD x.s h.s (by omega)) ?_
    rintro v H1 ⟨rfl, f1⟩
    have hF1 := hF.trans f1
    simp only [lf H1 hF1 3 _ rfl, lf H1 hF1 4 _ rfl, o2 H1, agn_some, eqv_str, ei, Bool.and_self, cond_true]
    have hkl := h.key
    refine Ret.bind (qf_spec x.key (by omega) (by omega)) ?_
    rintro v H2 ⟨rfl, f2⟩
    have hF2 := hF1.trans f2
    simp only [lf H2 hF2 3 _ rfl, o2 H2, agn_some, eqv_str, ei, Bool.and_self, cond_true, emp2]
    have hB2 := (hB.frame Nop f1 (fun _ _ e => e)).frame Nop f2 (fun _ _ e => e)
    refine app3 (itoaL x.s) (opsT.getD (clampK x.ok) []) (quoteL x.key) hB2 hF2 hY (by omega) (fun H'' f => by simp only [lf H'' f 1 _ rfl, lf H'' f 3 _ rfl, lf H'' f 4 _ rfl, o2 H'', agn_some, eqv_str, ei, Bool.and_self]) ?_
    intro w3 H3 hB3 hF3 hY3
    have hop : ∀ (w' : AV) (ws : List Wd) (H1 : Heap), ws = opWs x → GF H1 9 1 w' (srow (done ++ [itoaL x.s, opsT.getD (clampK x.ok) [], quoteL x.key] ++ ws)) → Fr Nop H0 H1 → Ret (LQ2 H0 (done ++ argWs x)) (N31_2 ρ (evCall (cx ρ) k) (evCY (cx ρ) k).2 0 k w' H1 retK) := by
      rintro w' ws H1 rfl hB' hF'
      exact fin w' _ H1 (by rw [ha, List.append_assoc]) hB' hF'
    have hvl := h.val
    by_cases q2 : x.ok = 2
    · have d2 : decide (x.ok = 2) = true := decide_eq_true q2
      simp only [N31_3, addA_ptr, Nat.zero_add, Nat.reduceAdd, lf H3 hF3 3 _ rfl, lf H3 hF3 5 _ rfl, bin_eql, d2, purK_some, condK_true]
      refine Ret.bind (qf_spec x.val (by omega) (by omega)) ?_
      rintro v H4 ⟨rfl, f4⟩
      simp only [emp2]
      refine app1 (quoteL x.val) (hB3.frame Nop f4 (fun _ _ e => e)) (hF3.trans f4) hY3 (by rw [List.length_append]; simp only [List.length_cons, List.length_nil]; omega) ?_
      intro w5 H5 hB5 hF5 hY5
      exact hop w5 [quoteL x.val] H5 (by unfold opWs; rw [if_pos q2]) hB5 hF5
    · have d2 : decide (x.ok = 2) = false := decide_eq_false q2
      by_cases q3 : x.ok = 3
      · have d3 : decide (x.ok = 3) = true := decide_eq_true q3
        simp only [N31_3, addA_ptr, Nat.zero_add, Nat.reduceAdd, lf H3 hF3 3 _ rfl, lf H3 hF3 6 _ rfl, bin_eql, d2, d3, purK_some, condK_true, condK_false]
        refine Ret.bind (fu_spec R.toRD x.on h.on (by omega)) ?_
        rintro v H4 ⟨rfl, f4⟩
        simp only [emp2]
        refine app1 (decL x.on) (hB3.frame Nop f4 (fun _ _ e => e)) (hF3.trans f4) hY3 (by rw [List.length_append]; simp only [List.length_cons, List.length_nil]; omega) ?_
        intro w5 H5 hB5 hF5 hY5
        exact hop w5 [decL x.on] H5 (by unfold opWs; rw [if_neg q2, if_pos q3]) hB5 hF5
      · have d3 : decide (x.ok = 3) = false := decide_eq_false q3
        simp only [N31_3, addA_ptr, Nat.zero_add, Nat.reduceAdd, lf H3 hF3 3 _ rfl, bin_eql, d2, d3, purK_some, condK_false]
        exact hop w3 [] H3 (by unfold opWs; rw [if_neg q2, if_neg q3]) (by rw [List.append_nil]; exact hB3) hF3
  have c1 : decide (x.kind = 1) = false := decide_eq_false k1
  by_cases k23 : x.kind = 2 ∨ x.kind = 3
  · have ha : argWs x = [itoaL x.s] := by unfold argWs; rw [if_neg k1, if_pos k23]
    have cc : decide (x.kind = 2) = true ∨ (decide (x.kind = 2) = false ∧ decide (x.kind = 3) = true) := by
      rcases k23 with e | e
      · exact Or.inl (decide_eq_true e)
      · exact Or.inr ⟨decide_eq_false (by omega), decide_eq_true e⟩
    have cont : Ret (LQ2 H0 (done ++ argWs x)) (resK (evCall (cx ρ) k 0 48 [.int .i64 x.s] H) fun x70 H => effK H (bldS H 9 1 [.str (ba [])] 1 [(0, 1, x70)]) fun x71 H => effK H (apA ρ 0 H 9 1 16 w x71) fun x72 H => N31_2 ρ (evCall (cx ρ) k) (evCY (cx ρ) k).2 0 k x72 H retK) := by
      refine Ret.bind (itoa_spec R.toRD x.s h.s (by omega)) ?_
      rintro v H1 ⟨rfl, f1⟩
      refine app1 (itoaL x.s) (hB.frame Nop f1 (fun _ _ e => e)) (hF.trans f1) hY (by omega) ?_
      intro w5 H5 hB5 hF5 hY5
      exact fin w5 _ H5 (by rw [ha]) hB5 hF5
    rcases cc with cc | ⟨cc, cc2⟩
    · simp only [N31_1, N31_8, N31_4, addA_ptr, Nat.zero_add, Nat.reduceAdd, lf H hF 0 _ rfl, lf H hF 1 _ rfl, bin_eql, c1, cc, purK_some, condK_true, condK_false, emp2]
      exact cont
    · simp only [N31_1, N31_8, N31_4, addA_ptr, Nat.zero_add, Nat.reduceAdd, lf H hF 0 _ rfl, lf H hF 1 _ rfl, bin_eql, c1, cc, cc2, purK_some, condK_true, condK_false, emp2]
      exact cont
  have c2 : decide (x.kind = 2) = false := decide_eq_false (by omega)
  have c3 : decide (x.kind = 3) = false := decide_eq_false (by omega)
  by_cases k47 : x.kind = 4 ∨ x.kind = 5 ∨ x.kind = 6 ∨ x.kind = 7
  · have ha : argWs x = [itoaL x.n] := by unfold argWs; rw [if_neg k1, if_neg k23, if_pos k47]
    have cont : Ret (LQ2 H0 (done ++ argWs x)) (resK (evCall (cx ρ) k 0 48 [.int .i64 x.n] H) fun x70 H => effK H (bldS H 9 1 [.str (ba [])] 1 [(0, 1, x70)]) fun x71 H => effK H (apA ρ 0 H 9 1 16 w x71) fun x72 H => N31_2 ρ (evCall (cx ρ) k) (evCY (cx ρ) k).2 0 k x72 H retK) := by
      refine Ret.bind (itoa_spec R.toRD x.n h.n (by omega)) ?_
      rintro v H1 ⟨rfl, f1⟩
      refine app1 (itoaL x.n) (hB.frame Nop f1 (fun _ _ e => e)) (hF.trans f1) hY (by omega) ?_
      intro w5 H5 hB5 hF5 hY5
      exact fin w5 _ H5 (by rw [ha]) hB5 hF5
    rcases k47 with e | e | e | e
    all_goals
      have hkd := lf H hF 0 _ rfl
      rw [e] at hkd
      simp only [N31_1, N31_8, N31_4, N31_5, addA_ptr, Nat.zero_add, Nat.reduceAdd, hkd, lf H hF 2 _ rfl, bin_eql, Int.reduceEq, decide_true, decide_false, purK_some, condK_true, condK_false, emp2]
      exact cont
  have c4 : decide (x.kind = 4) = false := decide_eq_false (by omega)
  have c5 : decide (x.kind = 5) = false := decide_eq_false (by omega)
  have c6 : decide (x.kind = 6) = false := decide_eq_false (by omega)
  have c7 : decide (x.kind = 7) = false := decide_eq_false (by omega)
  by_cases k9 : x.kind = 9
  · have ha : argWs x = x.picks.map itoaL := by unfold argWs; rw [if_neg k1, if_neg k23, if_neg k47, if_pos k9]
    have c9 : decide (x.kind = 9) = true := decide_eq_true k9
    have e0 := hy.lenS
    rw [zrow_len] at e0
    have hpk := h.pk
    simp only [N31_1, N31_8, N31_4, N31_5, addA_ptr, Nat.zero_add, Nat.reduceAdd, lf H hF 0 _ rfl, lf H hF 7 _ rfl, bin_eql, c1, c2, c3, c4, c5, c6, c7, c9, purK_some, condK_true, condK_false, e0, N31_6, N31_7]
    refine Ret.loop (fun m (z : AV × AV) H' => ∃ (i : Nat), z.2 = .int .i64 i ∧ m = x.picks.length - i ∧ i ≤ x.picks.length ∧ GF H' 9 1 z.1 (srow (done ++ (x.picks.take i).map itoaL)) ∧ Fr Nop H0 H' ∧ (∀ t, z.1.lies t → H0.sz ≤ t)) ?_ x.picks.length _ _ H
      ⟨0, rfl, rfl, by omega, by simpa using hB, hF, hY⟩ (by omega)
    rintro m ⟨z, z2⟩ H' kn ⟨i, hz, rfl, hi, hB', hF', hY'⟩ next
    simp only at hz hB' hY'
    subst hz
    by_cases hlt : i < x.picks.length
    · have d1 : decide (((i : Nat) : Int) < (x.picks.length : Nat)) = true := decide_eq_true (by omega)
      have hyH := hy.frame0 hF'
      have e5 := hyH.ix .i64 (i : Int) (by omega) (by rw [zrow_len]; omega)
      have e6 := hyH.ld1 i 0 (by rw [zrow_len]; exact hlt) (by omega)
      have e7 : (zrow x.picks)[i]'(by rw [zrow_len]; exact hlt) = [.int .i64 x.picks[i]] := by simp [zrow]
      rw [e7] at e6
      simp only [Int.toNat_natCast] at e5
      have e8 : ([.int .i64 x.picks[i]] : List AV)[0]? = some (.int .i64 x.picks[i]) := rfl
      rw [e8] at e6
      simp only [N31_7b, bin_lss, d1, e5, e6, purK_some, condK_true]
      refine Ret.bind (itoa_spec R.toRD x.picks[i] (h.pks _ (List.getElem_mem hlt)) (by omega)) ?_
      rintro v H1 ⟨rfl, f1⟩
      simp only [emp2]
      refine app1 (itoaL x.picks[i]) (hB'.frame Nop f1 (fun _ _ e => e)) (hF'.trans f1) hY' (by rw [List.length_append, List.length_map, List.length_take]; omega) ?_
      intro w5 H5 hB5 hF5 hY5
      have hi1 := wrap_succN i (by omega)
      simp only [bin_add, hi1, purK_some]
      clear hi1
      refine next (x.picks.length - (i + 1)) _ H5 (by omega) ⟨i + 1, rfl, rfl, by omega, ?_, hF5, hY5⟩
      rw [List.take_add_one, List.getElem?_eq_getElem hlt, List.map_append, ← List.append_assoc]
      exact hB5
    · have d1 : decide (((i : Nat) : Int) < (x.picks.length : Nat)) = false := decide_eq_false (by omega)
      rw [List.take_of_length_le (by omega)] at hB'
      simp only [N31_7b, bin_lss, d1, purK_some, condK_false]
      exact fin z _ H' (by rw [ha]) hB' hF'
  · have c9 : decide (x.kind = 9) = false := decide_eq_false k9
    have ha : argWs x = [] := by unfold argWs; rw [if_neg k1, if_neg k23, if_neg k47, if_neg k9]
    simp only [N31_1, N31_8, N31_4, N31_5, addA_ptr, Nat.zero_add, Nat.reduceAdd, lf H hF 0 _ rfl, bin_eql, c1, c2, c3, c4, c5, c6, c7, c9, purK_some, condK_false]
    exact fin w done H (by rw [ha, List.append_nil]) hB hF
theorem line_spec (R : RT ρ) {x : StI} {y : AV} (hy : Els ρ H 1 y (zrow x.picks)) (h : okI x) (hk : 30000 ≤ k) : Ret (fun v H' => v = .str (ba (lineP x)) ∧ Fr Nop H H') (evCall (cx ρ) k 0 31 [.agg (sti x y)] H) := by
  obtain ⟨k, rfl⟩ : ∃ q, k = q + 1 := ⟨k - 1, by omega⟩
  rw [E31]
  have hsol : (sti x y).all AV.solid = true := by simp only [sti, List.all_cons, List.all_nil, sol_int, sol_str, Els_solid hy, Bool.and_self]
  have hbx : boxA H 43 (.agg (sti x y)) = some (.ptr H.sz 0 0, .new (newCells 43 false (sti x y))) := boxA_agg _ _ _ hsol
  simp only [L31, hbx]
  refine (St.start Nop H).newP fun n1 H1 s1 hz f1 => ?_
  have hn1 := s1.lt' 0 rfl
  have hg : H1.get n1 = .cells 0 43 (0, 0) false (sti x y) := s1.at 0 rfl
  have hy1 := hy.frame0 f1
  have bl : bldS H1 9 1 [.str (ba [])] 0 [] = some (.sl H1.sz 0 0 0 0 false, .new (.cells 0 9 (0, 0) false [])) := rfl
  simp only [emp2, bl]
  refine (St.start Nop H1).newS fun p H2 s2 hz2 f2 => ?_
  have F0 : GF H2 9 1 (.sl p 0 0 0 0 false) (srow []) := Or.inl ⟨rfl, rfl, rfl, rfl, s2.lt' 0 rfl, srow_one _, (0, 0), false, s2.at 0 rfl⟩
  have hY0 : ∀ t, AV.lies (.sl p 0 0 0 0 false) t → H1.sz ≤ t := fun t (e : p = t) => by omega
  have lf : ∀ H', Fr Nop H1 H' → ∀ i v, (sti x y)[i]? = some v → ld1 ρ H' (.ptr n1 0 i) = some v := fun H' f i v hv => by
    have hg' : H'.get n1 = .cells 0 43 (0, 0) false (sti x y) := by rw [f.get n1 hn1 (fun e => e), hg]
    simp only [ld1_ptr, hg', ldC_cells]; exact hv
  obtain ⟨b1, b2⟩ := lineWs_len h
  have out : ∀ v H', LQ2 H1 (lineWs x) v H' → v = .str (ba (lineP x)) ∧ Fr Nop H H' := fun v H' hq => ⟨hq.1, f1.trans hq.2⟩
  by_cases hkd : 0 ≤ x.kind ∧ x.kind < 11
  · obtain ⟨kd, hkn⟩ : ∃ kd : Nat, x.kind = kd := ⟨x.kind.toNat, by omega⟩
    have hlw : lineWs x = [stepsT.getD kd []] ++ argWs x := by
      unfold lineWs
      rw [if_pos hkd, hkn]; rfl
    rw [hlw] at b1 b2 out
    have d1 : decide (x.kind ≥ 0) = true := decide_eq_true hkd.1
    have d2 : decide (x.kind < 11) = true := decide_eq_true hkd.2
    obtain ⟨o1, o2⟩ := steps_at R kd (by omega)
    rw [← hkn] at o1
    simp only [addA_ptr, Nat.zero_add, lf H2 f2 0 _ rfl, bin_geq, bin_lss, d1, d2, wantV_tt, gPur_true, pickA_true, o1, o2 H2, purK_some, condK_true]
    refine app1 (stepsT.getD kd []) F0 f2 hY0 (by simp) ?_
    intro w3 H3 hB3 hF3 hY3
    exact (line1 R h (by omega) hn1 hg hy1 hB3 hF3 hY3 (by simp) b1 b2).mono out
  · have hlw : lineWs x = [] ++ argWs x := by unfold lineWs; rw [if_neg hkd]
    rw [hlw] at b1 b2 out
    have dd : decide (x.kind ≥ 0) = false ∨ (decide (x.kind ≥ 0) = true ∧ decide (x.kind < 11) = false) := by
      by_cases q : 0 ≤ x.kind
      · exact Or.inr ⟨decide_eq_true q, decide_eq_false (by omega)⟩
      · exact Or.inl (decide_eq_false q)
    rcases dd with d1 | ⟨d1, d2⟩
    · simp only [addA_ptr, Nat.zero_add, lf H2 f2 0 _ rfl, bin_geq, d1, wantV_ft, gPur_false, pickA_false, purK_some, condK_false]
      exact (line1 R h (by omega) hn1 hg hy1 F0 f2 hY0 (by simp) b1 b2).mono out
    · simp only [addA_ptr, Nat.zero_add, lf H2 f2 0 _ rfl, bin_geq, bin_lss, d1, d2, wantV_tt, gPur_true, pickA_true, purK_some, condK_false]
      exact (line1 R h (by omega) hn1 hg hy1 F0 f2 hY0 (by simp) b1 b2).mono out
end
end Go.Proofs.YtnkeebchblfbgaaDoor

-- part PrH
/- Print: same steps, texts of all. -/
set_option linter.unusedVariables false
set_option linter.unusedSimpArgs false
namespace Go.Proofs.YtnkeebchblfbgaaDoor
attribute [local congr] Go.Ev.cond_congr1
open Go.Ev Go.RowKit
section
variable {ρ : Addr → Option Value} {k : Nat} {H H0 H' : Heap}
theorem at_zrow {y : AV} {l : List Int} (hE : Els ρ H 1 y (zrow l)) (i : Nat) (hi : i < l.length) : ixS 1 y (.int .i64 (i : Nat)) = some (elp 1 y i 0) ∧ ld1 ρ H (elp 1 y i 0) = some (.int .i64 l[i]) := by
  have e5 := hE.ix .i64 (i : Int) (by omega) (by rw [zrow_len]; omega)
  have e6 := hE.ld1 i 0 (by rw [zrow_len]; exact hi) (by omega)
  have e7 : (zrow l)[i]'(by rw [zrow_len]; exact hi) = [.int .i64 l[i]] := by simp [zrow]
  rw [e7] at e6
  exact ⟨e5, e6⟩
theorem peq_spec {x y : AV} {l m : List Int} (hx : Els ρ H 1 x (zrow l)) (hy : Els ρ H 1 y (zrow m)) (hl : l.length ≤ 10000) (hm : m.length ≤ 10000) (hk : 10010 ≤ k) : Ret (fun v H' => v = .bool (decide (l = m)) ∧ H' = H) (evCall (cx ρ) k 0 51 [x, y] H) := by
  obtain ⟨k, rfl⟩ : ∃ q, k = q + 1 := ⟨k - 1, by omega⟩
  have ex := hx.lenS
  have ey := hy.lenS
  rw [zrow_len] at ex ey
  rw [E51]
  by_cases hlen : l.length = m.length
  · have c0 : decide ((l.length : Int) ≠ m.length) = false := by rw [hlen]; simp
    simp only [L51, ex, ey, bin_neq, c0, purK_some, condK_false, N51_2, N51_3]
    refine Ret.loop (fun q (z : AV) H' => ∃ i : Nat, z = .int .i64 i ∧ q = l.length - i ∧ i ≤ l.length ∧ l.take i = m.take i ∧ H' = H) ?_ l.length _ _ H
      ⟨0, rfl, rfl, by omega, rfl, rfl⟩ (by omega)
    rintro q z H' kn ⟨i, rfl, rfl, hi, ht, rfl⟩ next
    by_cases hlt : i < l.length
    · have c1 : decide (((i : Nat) : Int) < (l.length : Nat)) = true := decide_eq_true (by omega)
      have hltm : i < m.length := by omega
      obtain ⟨x1, x2⟩ := at_zrow hx i hlt
      obtain ⟨y1, y2⟩ := at_zrow hy i hltm
      by_cases he : l[i] = m[i]
      · have c2 : decide (l[i] ≠ m[i]) = false := decide_eq_false fun e => e he
        have hi1 := wrap_succN i (by omega)
        simp only [N51_3b, bin_lss, c1, x1, x2, y1, y2, bin_neq, c2, bin_add, hi1, purK_some, condK_true, condK_false]
        clear hi1
        exact next (l.length - (i + 1)) _ _ (by omega) ⟨i + 1, rfl, rfl, by omega, by rw [List.take_add_one, List.take_add_one, ht, List.getElem?_eq_getElem hlt, List.getElem?_eq_getElem hltm, he], rfl⟩
      · have c2 : decide (l[i] ≠ m[i]) = true := decide_eq_true he
        simp only [N51_3b, bin_lss, c1, x1, x2, y1, y2, bin_neq, c2, purK_some, condK_true, retK_one]
        refine .intro ⟨?_, rfl⟩
        rw [decide_eq_false]
        rintro rfl
        exact he rfl
    · have c1 : decide (((i : Nat) : Int) < (l.length : Nat)) = false := decide_eq_false (by omega)
      simp only [N51_3b, N51_1, bin_lss, c1, purK_some, condK_false, retK_one]
      refine .intro ⟨?_, rfl⟩
      rw [List.take_of_length_le (by omega), List.take_of_length_le (by omega)] at ht
      rw [decide_eq_true ht]
  · have c0 : decide ((l.length : Int) ≠ m.length) = true := decide_eq_true (by omega)
    simp only [L51, ex, ey, bin_neq, c0, purK_some, condK_true, retK_one]
    refine .intro ⟨?_, rfl⟩
    rw [decide_eq_false]
    rintro rfl
    exact hlen rfl
theorem op_eq (H : Heap) (a d a' d' : Int) (b c b' c' : ByteArray) : binA Tryd.prog H .eql 40 (.agg [.int .i64 a, .str b, .str c, .int .u64 d]) (.agg [.int .i64 a', .str b', .str c', .int .u64 d']) = some (.bool (decide (a = a' ∧ b = b' ∧ c = c' ∧ d = d'))) := by
  have h : binA Tryd.prog H .eql 40 (.agg [.int .i64 a, .str b, .str c, .int .u64 d]) (.agg [.int .i64 a', .str b', .str c', .int .u64 d']) = (bif a == a' then (bif b == b' then (bif c == c' then (bif d == d' then some true else some false) else some false) else some false) else some false).map fun e => .bool e := by kernel_rfl
  rw [h]
  have ne : ∀ {p q : Int}, p ≠ q → (p == q) = false := fun h => beq_eq_false_iff_ne.2 h
  have nb : ∀ {p q : ByteArray}, p ≠ q → (p == q) = false := fun {p q} h => by
    cases hb : (p == q) with
    | false => rfl
    | true =>
      exact absurd (ByteArray.ext (eq_of_beq (show (p.data == q.data) = true from hb))) h
  have bs : ∀ p : ByteArray, (p == p) = true := fun p => show (p.data == p.data) = true from beq_self_eq_true _
  by_cases h1 : a = a'
  · subst h1
    by_cases h2 : b = b'
    · subst h2
      by_cases h3 : c = c'
      · subst h3
        by_cases h4 : d = d'
        · subst h4; simp only [beq_self_eq_true, bs, cond_true, and_self, decide_true, Option.map_some]
        · simp only [beq_self_eq_true, bs, ne h4, cond_true, cond_false, true_and, h4, decide_false, Option.map_some]
      · simp only [beq_self_eq_true, bs, nb h3, cond_true, cond_false, true_and, false_and, h3, decide_false, Option.map_some]
    · simp only [beq_self_eq_true, nb h2, cond_true, cond_false, true_and, false_and, h2, decide_false, Option.map_some]
  · simp only [ne h1, cond_false, false_and, h1, decide_false, Option.map_some]
theorem sti_ext (x z : StI) : x = z ↔ (x.kind = z.kind ∧ x.s = z.s ∧ x.n = z.n ∧ (x.ok = z.ok ∧ ba x.key = ba z.key ∧ ba x.val = ba z.val ∧ (x.on : Int) = (z.on : Int)) ∧ x.picks = z.picks) := by
  constructor
  · rintro rfl; exact ⟨rfl, rfl, rfl, ⟨rfl, rfl, rfl, rfl⟩, rfl⟩
  · obtain ⟨a, b, c, d, e, f, g, h⟩ := x
    obtain ⟨a', b', c', d', e', f', g', h'⟩ := z
    simp only [ba_inj]
    rintro ⟨rfl, rfl, rfl, ⟨rfl, rfl, rfl, h4⟩, rfl⟩
    have : g = g' := by omega
    rw [this]
theorem sam_spec {x z : StI} {y1 y2 : AV} (h1 : Els ρ H 1 y1 (zrow x.picks)) (h2 : Els ρ H 1 y2 (zrow z.picks)) (l1 : x.picks.length ≤ 10000) (l2 : z.picks.length ≤ 10000) (hk : 20000 ≤ k) : Ret (fun v H' => v = .bool (decide (x = z)) ∧ Fr Nop H H') (evCall (cx ρ) k 0 32 [.agg (sti x y1), .agg (sti z y2)] H) := by
  obtain ⟨k, rfl⟩ : ∃ q, k = q + 1 := ⟨k - 1, by omega⟩
  have sol1 : (sti x y1).all AV.solid = true := by simp only [sti, List.all_cons, List.all_nil, sol_int, sol_str, Els_solid h1, Bool.and_self]
  have sol2 : (sti z y2).all AV.solid = true := by simp only [sti, List.all_cons, List.all_nil, sol_int, sol_str, Els_solid h2, Bool.and_self]
  have b1 := boxA_agg H 43 (sti x y1) sol1
  rw [E32]
  simp only [L32, b1]
  refine (St.start Nop H).newP fun n1 H1 s1 hz f1 => ?_
  have b2 := boxA_agg H1 43 (sti z y2) sol2
  simp only [b2]
  refine s1.newP fun n2 H2 s2 hz2 f2 => ?_
  have lx : ∀ i v, (sti x y1)[i]? = some v → ld1 ρ H2 (.ptr n1 0 i) = some v := fun i v hv => by
    have h := s2.at 0 rfl
    simp only [ld1_ptr, h, ldC_cells]; exact hv
  have lz : ∀ i v, (sti z y2)[i]? = some v → ld1 ρ H2 (.ptr n2 0 i) = some v := fun i v hv => by
    have h := s2.at 1 rfl
    simp only [ld1_ptr, h, ldC_cells]; exact hv
  have nx : ldN ρ H2 4 (.ptr n1 0 3) = some (.agg [.int .i64 x.ok, .str (ba x.key), .str (ba x.val), .int .u64 (x.on : Nat)]) := by
    rw [ldN_of 4 3 (s2.at 0 rfl) (by simp [sti])]; rfl
  have nz : ldN ρ H2 4 (.ptr n2 0 3) = some (.agg [.int .i64 z.ok, .str (ba z.key), .str (ba z.val), .int .u64 (z.on : Nat)]) := by
    rw [ldN_of 4 3 (s2.at 1 rfl) (by simp [sti])]; rfl
  have fin : ∀ b : Bool, b = decide (x = z) → Ret (fun v H' => v = .bool (decide (x = z)) ∧ Fr Nop H H') (some (.bool b, H2)) := fun b hb => .intro ⟨by rw [hb], f1.trans f2⟩
  by_cases e1 : x.kind = z.kind
  · have d1 : decide (x.kind = z.kind) = true := decide_eq_true e1
    by_cases e2 : x.s = z.s
    · have d2 : decide (x.s = z.s) = true := decide_eq_true e2
      by_cases e3 : x.n = z.n
      · have d3 : decide (x.n = z.n) = true := decide_eq_true e3
        by_cases e4 : (x.ok = z.ok ∧ ba x.key = ba z.key ∧ ba x.val = ba z.val ∧ (x.on : Int) = (z.on : Int))
        · have d4 : decide (x.ok = z.ok ∧ ba x.key = ba z.key ∧ ba x.val = ba z.val ∧ (x.on : Int) = (z.on : Int)) = true := decide_eq_true e4
          simp only [addA_ptr, Nat.zero_add, lx 0 _ rfl, lz 0 _ rfl, bin_eql, d1, lx 1 _ rfl, lz 1 _ rfl, d2, lx 2 _ rfl, lz 2 _ rfl, d3, nx, nz, op_eq, d4, lx 7 _ rfl, lz 7 _ rfl, wantV_tt, gPur_true, gRes_true, pickA_true, purK_some]
          refine Ret.bind (peq_spec ((h1.frame0 f1).frame0 f2) ((h2.frame0 f1).frame0 f2) l1 l2 (by omega)) ?_
          rintro v H3 ⟨rfl, rfl⟩
          simp only [retK_one]
          refine fin _ ?_
          by_cases e5 : x.picks = z.picks
          · rw [decide_eq_true e5, decide_eq_true ((sti_ext x z).2 ⟨e1, e2, e3, e4, e5⟩)]
          · rw [decide_eq_false e5, decide_eq_false fun e => e5 ((sti_ext x z).1 e).2.2.2.2]
        · have d4 : decide (x.ok = z.ok ∧ ba x.key = ba z.key ∧ ba x.val = ba z.val ∧ (x.on : Int) = (z.on : Int)) = false := decide_eq_false e4
          simp only [addA_ptr, Nat.zero_add, lx 0 _ rfl, lz 0 _ rfl, bin_eql, d1, lx 1 _ rfl, lz 1 _ rfl, d2, lx 2 _ rfl, lz 2 _ rfl, d3, nx, nz, op_eq, d4, wantV_tt, wantV_ft, gPur_true, gPur_false, gRes_false, pickA_true, pickA_false, purK_some, resK_some, retK_one]
          exact fin _ (decide_eq_false fun e => e4 ((sti_ext x z).1 e).2.2.2.1).symm
      · have d3 : decide (x.n = z.n) = false := decide_eq_false e3
        simp only [addA_ptr, Nat.zero_add, lx 0 _ rfl, lz 0 _ rfl, bin_eql, d1, lx 1 _ rfl, lz 1 _ rfl, d2, lx 2 _ rfl, lz 2 _ rfl, d3, wantV_tt, wantV_ft, gPur_true, gPur_false, gRes_false, pickA_true, pickA_false, purK_some, resK_some, retK_one]
        exact fin _ (decide_eq_false fun e => e3 ((sti_ext x z).1 e).2.2.1).symm
    · have d2 : decide (x.s = z.s) = false := decide_eq_false e2
      simp only [addA_ptr, Nat.zero_add, lx 0 _ rfl, lz 0 _ rfl, bin_eql, d1, lx 1 _ rfl, lz 1 _ rfl, d2, wantV_tt, wantV_ft, gPur_true, gPur_false, gRes_false, pickA_true, pickA_false, purK_some, resK_some, retK_one]
      exact fin _ (decide_eq_false fun e => e2 ((sti_ext x z).1 e).2.1).symm
  · have d1 : decide (x.kind = z.kind) = false := decide_eq_false e1
    simp only [addA_ptr, Nat.zero_add, lx 0 _ rfl, lz 0 _ rfl, bin_eql, d1, wantV_ft, gPur_false, gRes_false, pickA_false, purK_some, resK_some, retK_one]
    exact fin _ (decide_eq_false fun e => e1 ((sti_ext x z).1 e).1).symm
end
end Go.Proofs.YtnkeebchblfbgaaDoor

-- part PrI
/- Print: the walk. -/
set_option linter.unusedVariables false
set_option linter.unusedSimpArgs false
namespace Go.Proofs.YtnkeebchblfbgaaDoor
attribute [local congr] Go.Ev.cond_congr1
open Go.Ev Go.RowKit
def told (x : StI) : Prop := ∃ y, stepM (lineP x) = some y ∧ ofStp y = x
theorem told_iff (x : StI) (hon : x.on ≤ m64) : told x ↔ validI x := ⟨fun ⟨y, h, e⟩ => e ▸ stepM_valid h, fun h => line_back x h hon⟩
def textP (xs : List StI) : Wd := xs.flatMap fun x => lineP x ++ [10]
theorem textP_snoc (a : List StI) (x : StI) : textP (a ++ [x]) = textP a ++ (lineP x ++ [10]) := by simp [textP]
theorem joinW_len (ws : List Wd) : (joinW ws).length ≤ sumL ws + ws.length := by
  cases ws with
  | nil => simp [joinW]
  | cons w r => simp only [joinW, List.length_append, joinT_len, sumL, List.length_cons]; omega
theorem lineP_len {x : StI} (h : okI x) : (lineP x).length ≤ 1320 := by
  have h0 := lineWs_len h
  have hj := joinW_len (lineWs x)
  have hhd : sumL (if 0 ≤ x.kind ∧ x.kind < 11 then [stepsT.getD x.kind.toNat []] else []) ≤ 8 := by
    split
    · have hl : x.kind.toNat < stepsT.length := by show _ < 11; omega
      have : ∀ w ∈ stepsT, w.length ≤ 8 := by decide
      have := this _ (List.getElem_mem hl)
      rw [List.getD_eq_getElem?_getD, List.getElem?_eq_getElem hl]
      simp only [sumL, Option.getD_some]; omega
    · simp [sumL]
  have hs := itoaL_len x.s h.s
  have hn := itoaL_len x.n h.n
  have hk := quote_len x.key
  have hv := quote_len x.val
  have hkl := h.key
  have hvl := h.val
  have harg : sumL (argWs x) ≤ 1250 := by
    unfold argWs
    split
    · have h1 : sumL (opWs x) ≤ 601 := by
        unfold opWs
        split
        · simp only [sumL]; omega
        · split
          · have := nd20 x.on h.on
            simp only [sumL, decL, fixD_len]; omega
          · simp [sumL]
      have h2 : (opsT.getD (clampK x.ok) []).length ≤ 4 := by
        have hl : clampK x.ok < opsT.length := by show _ < 5; unfold clampK; omega
        have : ∀ w ∈ opsT, w.length ≤ 4 := by decide
        have := this _ (List.getElem_mem hl)
        rw [List.getD_eq_getElem?_getD, List.getElem?_eq_getElem hl]
        exact this
      rw [sumL_app]
      simp only [sumL]; omega
    · split
      · simp only [sumL]; omega
      · split
        · simp only [sumL]; omega
        · split
          · have := sumL_le (n := 21) (x.picks.map itoaL) fun w hw => by
              obtain ⟨n, hn, rfl⟩ := List.mem_map.1 hw
              exact itoaL_len n (h.pks n hn)
            rw [List.length_map] at this
            have := h.pk
            omega
          · simp [sumL]
  have : sumL (lineWs x) ≤ 1258 := by unfold lineWs; rw [sumL_app]; omega
  unfold lineP
  omega
theorem textP_len : ∀ {xs : List StI}, (∀ x ∈ xs, okI x) → (textP xs).length ≤ 1321 * xs.length
  | [], _ => by simp [textP]
  | x :: xs, h => by
    have h1 := lineP_len (h x (by simp))
    have h2 := textP_len (xs := xs) fun y hy => h y (by simp [hy])
    simp only [textP, List.flatMap_cons, List.length_append, List.length_cons, List.length_nil] at h2 ⊢
    omega
/-- Rows that read as steps. -/
def RIs (ρ : Addr → Option Value) (H : Heap) : List (List AV) → List StI → Prop
  | [], [] => True
  | r :: rs, x :: xs => (∃ y, r = sti x y ∧ Els ρ H 1 y (zrow x.picks)) ∧ RIs ρ H rs xs
  | _, _ => False
section
variable {ρ : Addr → Option Value} {k : Nat} {H H0 H' : Heap}
theorem RIs.len : ∀ {rows : List (List AV)} {xs : List StI}, RIs ρ H rows xs → rows.length = xs.length
  | [], [], _ => rfl
  | r :: rs, x :: xs, ⟨h1, h2⟩ => by rw [List.length_cons, List.length_cons, RIs.len h2]
  | [], _ :: _, h => h.elim
  | _ :: _, [], h => h.elim
theorem RIs.get : ∀ {rows : List (List AV)} {xs : List StI} (h : RIs ρ H rows xs) (i : Nat) (hi : i < xs.length), ∃ y, rows[i]? = some (sti xs[i] y) ∧ Els ρ H 1 y (zrow xs[i].picks)
  | r :: rs, x :: xs, ⟨⟨y, h1, h2⟩, h4⟩, 0, _ => ⟨y, by rw [h1]; rfl, h2⟩
  | r :: rs, x :: xs, ⟨_, h4⟩, i + 1, hi => by
    obtain ⟨y, h1, h2⟩ := RIs.get h4 i (by simpa using hi)
    exact ⟨y, by simpa using h1, by simpa using h2⟩
  | [], _ :: _, h, _, _ => h.elim
  | _ :: _, [], h, _, hi => by simp at hi
  | [], [], _, _, hi => by simp at hi
theorem blen_spec {l : Nat} {y : AV} {a : Wd} (h : Bu H l y a) : evCall (cx ρ) (k + 1) 0 33 [.ptr l 0 0] H = some (.int .i64 a.length, H) := by
  have e := (h.row.toEls (ρ := ρ)).lenS
  rw [brow_len] at e
  obtain ⟨p, hg⟩ : ∃ p, H.get l = .cells 0 54 (0, 0) false [p, y] := h.top.elim (fun h => ⟨_, h⟩) (fun h => ⟨_, h⟩)
  have l1 : ldC 0 1 (.cells 0 54 (0, 0) false [p, y]) = some y := by rw [ldC_cells]; rfl
  rw [E33]
  simp only [L33, ld1_ptr, hg, l1, e, Nat.zero_add, purK_some, retK_one, nilChk_ptr, addA_ptr]
theorem Bu.frame0 {l : Nat} {y : AV} {a : Wd} (h : Bu H l y a) (f : Fr Nop H H') : Bu H' l y a :=
  ⟨by rw [f.get l h.lt fun e => e]; exact h.top, h.row.frame Nop f fun _ _ e => e, Nat.lt_of_lt_of_le h.lt f.sz, h.ne⟩
def PrQ (H : Heap) (xs : List StI) (v : AV) (H' : Heap) : Prop := Fr Nop H H' ∧ (((∀ x ∈ xs, told x) ∧ v = .tup [.str (ba (textP xs)), .int .i64 0]) ∨ (¬ (∀ x ∈ xs, told x) ∧ v = .tup [.str (ba []), .int .i64 1]))
theorem sti_solid' {x : StI} {y : AV} (h : AV.solid y = true) : (sti x y).all AV.solid = true := by
  simp only [sti, List.all_cons, List.all_nil, sol_int, sol_str, h, Bool.and_self]
theorem print_spec (R : RT ρ) {x : AV} {rows : List (List AV)} {xs : List StI} (hE : Els ρ H 8 x rows) (hP : RIs ρ H rows xs) (ho : ∀ s ∈ xs, okI s) (hl : xs.length ≤ 60) (hk : 100000 ≤ k) : Ret (PrQ H xs) (evCall (cx ρ) k 0 15 [x] H) := by
  obtain ⟨k, rfl⟩ : ∃ q, k = q + 1 := ⟨k - 1, by omega⟩
  have ex := hE.lenS
  rw [hP.len] at ex
  rw [E15]
  simp only [L15, ex]
  refine (St.start Nop H).newP fun l H1 s1 hz f1 => ?_
  have b0 : Bu H1 l .nils [] := ⟨Or.inl (s1.at 0 rfl), Grow.nils .., s1.lt' 0 rfl, fun q => q⟩
  simp only [purK_some, N15_2, N15_3]
  refine Ret.loop (fun m (z : AV) H' => ∃ (i : Nat) (y : AV), z = .int .i64 i ∧ m = xs.length - i ∧ i ≤ xs.length ∧ (∀ s ∈ xs.take i, told s) ∧ Bu H' l y (textP (xs.take i)) ∧ (i = 0 → y = .nils) ∧ Fr Nop H H' ∧ ∀ t, y.lies t → H.sz ≤ t) ?_ xs.length _ _ H1
    ⟨0, .nils, rfl, rfl, by omega, by simp, b0, fun _ => rfl, f1, fun t q => q.elim⟩ (by omega)
  rintro m z H' kn ⟨i, y, rfl, rfl, hi, hT, hB, hY0, hF, hY⟩ next
  have htl : (textP (xs.take i)).length ≤ 100000 := by
    have := textP_len (xs := xs.take i) fun s hs => ho s (List.mem_of_mem_take hs)
    rw [List.length_take] at this
    omega
  by_cases hlt : i < xs.length
  · have c1 : decide (((i : Nat) : Int) < (xs.length : Nat)) = true := decide_eq_true (by omega)
    obtain ⟨yp, g1, q1⟩ := hP.get i hlt
    obtain ⟨hri, ge⟩ := List.getElem?_eq_some_iff.1 g1
    have i1 := hE.ix .i64 (i : Int) (by omega) (by omega)
    have i2 := (hE.frame0 hF).ldN i hri
    rw [ge] at i2
    have i1 : ixS 8 x (.int .i64 (i : Nat)) = some (elp 8 x i 0) := i1
    have hok := ho xs[i] (List.getElem_mem hlt)
    have htk : xs.take (i + 1) = xs.take i ++ [xs[i]] := by rw [List.take_add_one, List.getElem?_eq_getElem hlt]; rfl
    have hmem : xs[i] ∈ xs := List.getElem_mem hlt
    generalize xs[i] = s at *
    have q1 := q1.frame0 hF
    have bad : ∀ H2, Fr Nop H H2 → ¬ told s → Ret (PrQ H xs) (some (.tup [.str (ba []), .int .i64 1], H2)) := fun H2 f hn => .intro ⟨f, Or.inr ⟨fun h => hn (h s hmem), rfl⟩⟩
    simp only [N15_3b, bin_lss, c1, i1, i2, purK_some, condK_true, emp2]
    refine (St.start Nop H').newP fun n6 H2 s2 hz2 f2 => ?_
    have s2 : St Nop H' [(n6, z8)] H2 := s2
    refine s2.stN 0 rfl rfl (sti_solid' (Els_solid q1)) (by simp [z8L]) fun H3 s3 _ f3 => ?_
    have s3 : St Nop H' [(n6, oe8 (sti s yp))] H3 := by
      have := s3
      rwa [lay_all z8L (sti s yp) rfl] at this
    have e1 : ldN ρ H3 8 (.ptr n6 0 0) = some (.agg (sti s yp)) := by rw [ldN_of 8 0 (s3.at 0 rfl) (by simp [sti])]; rfl
    simp only [e1, purK_some]
    refine Ret.bind (line_spec R (q1.frame0 s3.fr) hok (by omega)) ?_
    rintro v H4 ⟨rfl, f4⟩
    have s4 := s3.frame0 f4
    have hll := lineP_len hok
    refine Ret.bind (step_spec R (lineP s) (by omega) (by omega)) ?_
    rintro v H5 ⟨f5, hc⟩
    have s5 := s4.frame0 f5
    rcases hc with ⟨w, yw, hw, rfl, hEw, hyw⟩ | ⟨hw, c, rfl, hcl, hcs⟩
    · simp only [extA_0, extA_1, purK_some]
      refine s5.newP fun n8 H6 s6 hz6 f6 => ?_
      refine s6.stN 1 rfl rfl (stc_solid (Els_solid hEw)) (by simp []) fun H7 s7 _ f7 => ?_
      have e1 : ldN ρ H7 8 (.ptr n6 0 0) = some (.agg (sti s yp)) := by rw [ldN_of 8 0 (s7.at 0 rfl) (by simp [sti])]; rfl
      have e2 : ldN ρ H7 8 (.ptr n8 0 0) = some (.agg (sti (ofStp w) yw)) := by
        rw [ldN_of 8 0 (s7.at 1 rfl) (by simp [stc, layA])]; rfl
      simp only [un_not, Bool.not_true, wantV_ff, gPur_true, gRes_true, e1, e2, purK_some]
      have f57 : Fr Nop H5 H7 := by
        refine f6.trans' f7 fun t ht e => ?_
        omega
      have hval := stepM_valid hw
      refine Ret.bind (sam_spec (q1.frame0 s7.fr) ((hEw.frame0 f57) |> (fun h => by rw [← zrow_nat] at h; exact h)) (by have := hok.pk; omega) (by have := hval.2.2.2.2.2.2.2.2.1; omega) (by omega)) ?_
      rintro v H8 ⟨rfl, f8⟩
      have hF8 : Fr Nop H H8 := hF.trans (s7.fr.trans f8)
      by_cases he : s = ofStp w
      · simp only [decide_eq_true he, Bool.not_true, pickA_false, un_not, purK_some, condK_false, N15_5, N15_4, b10, bin_scatB _ _ _ (lineP s) [10] (by simp only [List.length_cons, List.length_nil]; omega)]
        have hB8 := hB.frame0 (s7.fr.trans f8)
        refine Ret.bind (ws_spec hB8 (lineP s ++ [10]) (by omega) (by omega) (by simp only [List.length_append, List.length_singleton]; omega)) ?_
        rintro v H9 ⟨rfl, y9, b9, f9, o9⟩
        simp only [bin_add, wrap_succN i (by omega : i + 1 < 9223372036854775808), purK_some]
        refine next (xs.length - (i + 1)) _ H9 (by omega) ⟨i + 1, y9, rfl, rfl, by omega, ?_, by rw [htk, textP_snoc]; exact b9, fun e => by omega, hF8.trans' f9 fun t ht e => e.elim (fun e => by omega) fun e => absurd (hY t e) (by omega), fun t ht => (o9 t ht).elim (hY t) fun e => Nat.le_trans hF8.sz e⟩
        rw [htk]
        intro a ha
        rcases List.mem_append.1 ha with ha | ha
        · exact hT a ha
        · simp at ha; subst ha; exact ⟨w, hw, he.symm⟩
      · simp only [decide_eq_false he, Bool.not_false, pickA_false, un_not, purK_some, condK_true, retK_two]
        refine bad H8 hF8 fun ⟨w', hw', e⟩ => ?_
        rw [hw] at hw'
        cases hw'
        exact he e.symm
    · simp only [extA_0, extA_1, purK_some]
      refine s5.newP fun n8 H6 s6 hz6 f6 => ?_
      refine s6.stN 1 rfl hcl hcs (by simp []) fun H7 s7 _ f7 => ?_
      simp only [un_not, Bool.not_false, wantV_tf, gPur_false, gRes_false, pickA_true, purK_some, resK_some, condK_true, retK_two]
      refine bad H7 (hF.trans s7.fr) fun ⟨w', hw', e⟩ => ?_
      rw [hw] at hw'; cases hw'
  · have c1 : decide (((i : Nat) : Int) < (xs.length : Nat)) = false := decide_eq_false (by omega)
    obtain rfl : i = xs.length := by omega
    rw [List.take_length] at hB hT htl
    obtain ⟨k, rfl⟩ : ∃ q, k = q + 1 := ⟨k - 1, by omega⟩
    have c2 : decide (((textP xs).length : Int) > 100000) = false := decide_eq_false (by omega)
    simp only [N15_3b, N15_1, bin_lss, c1, blen_spec hB, bin_gtr, c2, purK_some, resK_some, condK_false]
    by_cases h0 : xs = []
    · subst h0
      obtain rfl := hY0 rfl
      refine Ret.bind (str0F hB (by omega)) ?_
      rintro v H9 ⟨rfl, rfl⟩
      simp only [retK_two]
      exact .intro ⟨hF, Or.inl ⟨hT, rfl⟩⟩
    · have hne : textP xs ≠ [] := by
        cases xs with
        | nil => exact absurd rfl h0
        | cons a r => simp [textP]
      refine Ret.bind (str_spec hB hne (by omega) (by omega)) ?_
      rintro v H9 ⟨rfl, f9⟩
      simp only [retK_two]
      exact .intro ⟨hF.trans' f9 fun t ht e => absurd (hY t e) (by omega), Or.inl ⟨hT, rfl⟩⟩
end
end Go.Proofs.YtnkeebchblfbgaaDoor

-- part PrJ
/- The reference's Quote, Digits, Small: with frames. -/
set_option linter.unusedVariables false
set_option linter.unusedSimpArgs false
namespace Go.Proofs.YtnkeebchblfbgaaDoor
attribute [local congr] Go.Ev.cond_congr1
open Go.Ev Go.RowKit
section
variable {ρ : Addr → Option Value} {k : Nat} {H H0 H' : Heap}
theorem rqf_spec (s : List UInt8) (hs : s.length ≤ 10000) (hk : s.length + 20 ≤ k) : Ret (fun v H' => v = .str (ba (quoteL s)) ∧ Fr Nop H H') (evCall (cx ρ) k 0 13 [.str (ba s)] H) := by
  obtain ⟨k, rfl⟩ : ∃ q, k = q + 1 := ⟨k - 1, by omega⟩
  rw [E13]
  have bl : bldS H 5 1 [.int .u8 0] 1 [(0, 1, .int .u8 61)] = some (.sl H.sz 0 0 1 1 false, .new (.cells 0 5 (0, 0) false [.int .u8 61])) := rfl
  simp only [L13, N13_2, N13_3, bl]
  rw [effK_new]
  have F0 : GF (H.new (.cells 0 5 (0, 0) false [.int .u8 61])) 5 1 (.sl H.sz 0 0 1 1 false) (brow [61]) := Or.inl ⟨rfl, rfl, rfl, rfl, by rw [szn]; omega, brow_one _, (0, 0), false, Heap.get_new_same ..⟩
  have FH : Fr Nop H (H.new (.cells 0 5 (0, 0) false [.int .u8 61])) := Fr.new ..
  generalize hH1 : H.new (.cells 0 5 (0, 0) false [.int .u8 61]) = H1 at F0 FH ⊢
  refine Ret.loop (fun m (x : AV × AV) H' => ∃ i : Nat, x.2 = .int .i64 i ∧ m = s.length - i ∧ i ≤ s.length ∧ GF H' 5 1 x.1 (brow (61 :: (s.take i).flatMap qb)) ∧ Fr Nop H H' ∧ ∀ t, x.1.lies t → H.sz ≤ t) ?_ s.length k _ H1 ⟨0, rfl, by omega, by omega, by simpa using F0, FH, fun t ht => by have : H.sz = t := ht; omega⟩ (by omega)
  rintro m ⟨x, xi⟩ H' kn ⟨i, hx, hm, hi, hB, hF, hY⟩ next
  simp only at hx hB hY
  subst hx
  have hl := fm_len (s.take i)
  rw [List.length_take] at hl
  have hl2 : (61 :: (s.take i).flatMap qb).length ≤ 30001 := by rw [List.length_cons]; omega
  by_cases h : i < s.length
  · have h' : (i : Int) < s.length := by omega
    have hp := rplain_spec (ρ := ρ) (H := H') (k := k) s[i] (by omega)
    have e : ∀ x' H'', GF H'' 5 1 x' (brow ((61 :: (s.take i).flatMap qb) ++ qb s[i])) → Fr Nop H H'' → (∀ t, x'.lies t → H.sz ≤ t) → Ret (fun v H' => v = .str (ba (quoteL s)) ∧ Fr Nop H H') (N13_4 ρ (evCall (cx ρ) k) (evCY (cx ρ) k).2 0 k (.str (ba s)) x' (.int .i64 i) H'' (fun x3 x4 H => kn (x3, x4) H)) := by
      intro x' H'' hB' hF' hY'
      simp only [N13_4, wrap_succN i (by omega : i + 1 < 9223372036854775808), purK_some, bin_add]
      exact next (m - 1) _ H'' (by omega) ⟨i + 1, rfl, by omega, by omega, by rw [fm_step s i h]; exact hB', hF', hY'⟩
    have app : ∀ (cs : List UInt8) (x0 : List AV) (n : Nat) (H1 : Heap) (K : AV → Heap → Res), cs ≠ [] → cs.length ≤ 3 → x0 = cs.map byteCell → H1.get n = .cells 0 5 (0, 0) false x0 → n < H1.sz → Fr Nop H' H1 → (∀ x' H'', GF H'' 5 1 x' (brow ((61 :: (s.take i).flatMap qb) ++ cs)) → Fr Nop H H'' → (∀ t, x'.lies t → H.sz ≤ t) → Ret (fun v H' => v = .str (ba (quoteL s)) ∧ Fr Nop H H') (K x' H'')) →
        Ret (fun v H' => v = .str (ba (quoteL s)) ∧ Fr Nop H H') (effK H1 (apA ρ 0 H1 5 1 1 x (.sl n 0 0 cs.length cs.length false)) K) := by
      rintro cs x0 n H1 K hne hc rfl hg hn f2 hK
      have hE : Els ρ H1 1 (.sl n 0 0 cs.length cs.length false) (brow cs) := by
        have := Els.of_cells (ρ := ρ) (H := H1) (sz := 1) (l := n) (v := 0) (m := false) (els := brow cs) (e := 5) (fr := (0, 0)) (g := false) hn (by rw [hg, brow_flat]) (brow_one _)
        rwa [brow_len] at this
      refine Ret.appF (hB.frame Nop f2 fun _ _ q => q) hE (by simpa [brow] using hne) (brow_solid _) (by rw [brow_len, brow_len]; omega) (by rw [brow_len, brow_len]; omega) ?_
      intro x' H3 G3 f3 hy' sc
      exact hK x' H3 (by rw [brow_app]; exact Or.inr G3) ((hF.trans f2).trans' f3 fun l hl q => absurd (hY l q) (by omega)) fun t q => (hy' t q).elim (hY t) fun z => Nat.le_trans (hF.trans f2).sz z
    cases hpl : plainB s[i] with
    | true =>
      rw [hpl] at hp
      have bl1 : bldS H' 5 1 [.int .u8 0] 1 [(0, 1, .int .u8 s[i].toNat)] = some (.sl H'.sz 0 0 1 1 false, .new (.cells 0 5 (0, 0) false [.int .u8 s[i].toNat])) := rfl
      simp only [N13_3b, h', ixT_ba _ _ _ h, hp, bl1, effK_new, purK_some, resK_some, condK_true, bin_lss, lenT_str, Bool.and_true, decide_true, ba_size]
      refine app [s[i]] _ _ _ _ (by simp) (by simp) rfl (Heap.get_new_same ..) (by rw [szn]; omega) (Fr.new Nop H' _) fun x' H3 G3 => e x' H3 ?_
      have : qb s[i] = [s[i]] := by unfold qb; rw [if_pos hpl]
      rw [this]; exact G3
    | false =>
      rw [hpl] at hp
      have hlt := s[i].toNat_lt
      have d1 := digit_spec (ρ := ρ) (H := H') (k := k) (s[i].toNat / 16) (by omega) (by omega)
      have d2 := digit_spec (ρ := ρ) (H := H') (k := k) (s[i].toNat % 16) (by omega) (by omega)
      have w1 : ∀ H' : Heap, binA Tryd.prog H' .quo 5 (.int .u8 s[i].toNat) (.int .u8 16) = some (.int .u8 ((s[i].toNat / 16 : Nat) : Int)) := by
        intro H'
        rw [bin_quo _ _ _ _ _ _ (by decide)]
        exact congrArg (fun z => some (AV.int .u8 z)) (wk8 (s[i].toNat / 16) (by omega))
      have w2 : ∀ H' : Heap, binA Tryd.prog H' .rem 5 (.int .u8 s[i].toNat) (.int .u8 16) = some (.int .u8 ((s[i].toNat % 16 : Nat) : Int)) := by
        intro H'
        rw [bin_rem _ _ _ _ _ _ (by decide)]; rfl
      have bl3 : bldS H' 5 1 [.int .u8 0] 3 [(0, 1, .int .u8 37), (1, 1, byteCell (dig (s[i].toNat / 16))), (2, 1, byteCell (dig (s[i].toNat % 16)))] = some (.sl H'.sz 0 0 3 3 false, .new (.cells 0 5 (0, 0) false [.int .u8 37, byteCell (dig (s[i].toNat / 16)), byteCell (dig (s[i].toNat % 16))])) := rfl
      have ey : ∀ n, AV.eqv (.int .u8 n) (.int .u8 n) = true := eqv_int .u8
      simp only [N13_3b, h', ixT_ba _ _ _ h, hp, w1, w2, d1, d2, bl3, agn_some, ey, purK_some, resK_some, condK_true, condK_false, cond_true, bin_lss, lenT_str, Bool.and_true, decide_true, ba_size]
      refine (St.start Nop H').mkS rfl fun n H1 s1 hz f1 => ?_
      refine app [37, dig (s[i].toNat / 16), dig (s[i].toNat % 16)] _ _ _ _ (by simp) (by simp) rfl (s1.at 0 rfl) (s1.lt' 0 rfl) f1 fun x' H3 G3 => e x' H3 ?_
      have : qb s[i] = [37, dig (s[i].toNat / 16), dig (s[i].toNat % 16)] := by unfold qb; rw [if_neg (by simp [hpl])]
      rw [this]; exact G3
  · have h' : ¬ (i : Int) < s.length := by omega
    obtain rfl : i = s.length := by omega
    rw [List.take_length] at hB
    have hb := b2s_brow (ρ := ρ) hB.toEls hB.notSx
    simp only [N13_3b, N13_1, h', hb, purK_some, condK_false, retK_one, bin_lss, lenT_str, Bool.and_true, decide_false, ba_size]
    exact .intro ⟨rfl, hF⟩
theorem decL_step (m : Nat) : decL m = (if m < 10 then [] else decL (m / 10)) ++ [dg m] := by
  unfold decL
  rw [ndig]
  split
  · rfl
  · rw [fixD]
theorem digits_spec (n : Nat) (hn : n < 18446744073709551616) (hk : 30 ≤ k) : Ret (fun v H' => v = .str (ba (decL n)) ∧ Fr Nop H H') (evCall (cx ρ) k 0 35 [.int .u64 n] H) := by
  obtain ⟨k, rfl⟩ : ∃ q, k = q + 1 := ⟨k - 1, by omega⟩
  rw [E35]
  simp only [L35, N35_1, N35_2]
  have h20 := nd20 n hn
  refine Ret.loop (fun q (x : AV × AV) H' => ∃ (m : Nat) (s : Wd), x.1 = .int .u64 m ∧ x.2 = .str (ba s) ∧ q = ndig m ∧ m < 18446744073709551616 ∧ decL n = decL m ++ s ∧ Fr Nop H H') ?_ (ndig n) _ _ H
    ⟨n, [], rfl, rfl, rfl, hn, by simp, Fr.refl ..⟩ (by omega)
  rintro q ⟨x0, x3⟩ H' kn ⟨m, s, hx, hx3, rfl, hm, hd, hF⟩ next
  simp only at hx hx3
  subst hx; subst hx3
  have hdl : s.length ≤ 20 := by
    have : (decL n).length = ndig n := fixD_len _ _
    rw [hd, List.length_append] at this; omega
  have h0 : (48 : Int) + ((m % 10 : Nat) : Int) = ((dg m).toNat : Int) := by rw [dg_nat]; omega
  have hd8 := (dg m).toNat_lt
  have w8 : wrapK .u8 ((m % 10 : Nat) : Int) = ((m % 10 : Nat) : Int) := wk8 (m % 10) (by omega)
  have w9 : wrapK .u8 (48 + ((m % 10 : Nat) : Int)) = ((dg m).toNat : Int) := by rw [h0]; exact wk8 _ hd8
  have r1 : binA Tryd.prog H' .rem 38 (.int .u64 m) (.int .u64 10) = some (.int .u64 ((m % 10 : Nat) : Int)) := remN m 10 (by decide)
  have q1 : ∀ H', binA Tryd.prog H' .quo 38 (.int .u64 m) (.int .u64 10) = some (.int .u64 ((m / 10 : Nat) : Int)) := fun H' => quoN m 10 (by decide) (w64 _ (by omega))
  have bl : bldS H' 5 1 [.int .u8 0] 1 [(0, 1, .int .u8 (dg m).toNat)] = some (.sl H'.sz 0 0 1 1 false, .new (.cells 0 5 (0, 0) false [.int .u8 (dg m).toNat])) := rfl
  simp only [N35_2b, r1, cvI_int, w8, bin_add, w9, bl, purK_some]
  clear w8 w9 r1
  rw [effK_new]
  have hE : Els ρ (H'.new (.cells 0 5 (0, 0) false [.int .u8 (dg m).toNat])) 1 (.sl H'.sz 0 0 1 1 false) (brow [dg m]) := Els.of_cells (els := brow [dg m]) (e := 5) (fr := (0, 0)) (g := false) (by rw [szn]; omega) (by rw [Heap.get_new_same]; rfl) (brow_one _)
  have hb := b2s_brow (ρ := ρ) hE (by intro m h; cases h)
  have f2 : Fr Nop H (H'.new (.cells 0 5 (0, 0) false [.int .u8 (dg m).toNat])) := hF.trans (Fr.new ..)
  simp only [hb, q1, bin_scatB _ _ _ [dg m] s (by simp only [List.length_cons, List.length_nil]; omega), bin_eql, purK_some]
  have hst := decL_step m
  have hcat : ([dg m] ++ s) = dg m :: s := rfl
  by_cases h10 : m < 10
  · have c1 : decide (((m / 10 : Nat) : Int) = 0) = true := decide_eq_true (by omega)
    rw [if_pos h10] at hst
    simp only [c1, condK_true, retK_one]
    refine .intro ⟨?_, f2⟩
    rw [hd, hst]; rfl
  · have c1 : decide (((m / 10 : Nat) : Int) = 0) = false := decide_eq_false (by omega)
    rw [if_neg h10] at hst
    simp only [c1, condK_false]
    refine next (ndig (m / 10)) _ _ ?_ ⟨m / 10, [dg m] ++ s, rfl, rfl, rfl, by omega, ?_, f2⟩
    · conv => rhs; rw [ndig]
      rw [dif_neg h10]; omega
    · rw [hd, hst, List.append_assoc]
theorem small_spec (n : Int) : evCall (cx ρ) (k + 1) 0 34 [.int .i64 n] H = some (.bool (decide (small9 n)), H) := by
  rw [E34]
  by_cases h1 : 0 ≤ n
  · have c1 : decide ((0 : Int) ≤ n) = true := decide_eq_true h1
    have e : decide (n ≤ 999999999) = decide (small9 n) := by
      unfold small9; simp only [h1, true_and]
    simp only [L34, bin_geq, bin_leq, c1, wantV_tt, gPur_true, pickA_true, purK_some, retK_one, e]
  · have c1 : decide ((0 : Int) ≤ n) = false := decide_eq_false h1
    have e : decide (small9 n) = false := decide_eq_false fun h => h1 h.1
    simp only [L34, bin_geq, c1, wantV_ft, gPur_false, pickA_false, purK_some, retK_one, e]
end
end Go.Proofs.YtnkeebchblfbgaaDoor

-- part PrK
/- The reference's Line. -/
set_option linter.unusedVariables false
set_option linter.unusedSimpArgs false
namespace Go.Proofs.YtnkeebchblfbgaaDoor
attribute [local congr] Go.Ev.cond_congr1
open Go.Ev Go.RowKit
/-- What Line tells. -/
def RL (H0 : Heap) (x : StI) (v : AV) (H' : Heap) : Prop := Fr Nop H0 H' ∧ ((validI x ∧ v = .tup [.str (ba (lineP x)), .bool true]) ∨ (¬ validI x ∧ v = .tup [.str (ba []), .bool false]))
def opT (ok : Int) (key val : Wd) (on : Nat) : Wd := 32 :: opsT.getD ok.toNat [] ++ (32 :: quoteL key) ++ (if ok = 2 then 32 :: quoteL val else []) ++ (if ok = 3 then 32 :: decL on else [])
def tailP (x : StI) : Wd := (if x.kind ≤ 3 then 32 :: itoaL x.s else []) ++ (if 4 ≤ x.kind ∧ x.kind ≤ 7 then 32 :: itoaL x.n else []) ++ joinT (x.picks.map itoaL) ++ (if x.kind = 1 then opT x.ok x.key x.val x.on else [])
theorem lineP_tail (x : StI) (h : validI x) : lineP x = stepsT.getD x.kind.toNat [] ++ tailP x := by
  obtain ⟨h1, h2, h3, h4, h5, h6, h7, h8, h9, h10, h11⟩ := h
  have hws : lineWs x = stepsT.getD x.kind.toNat [] :: argWs x := by
    unfold lineWs
    rw [if_pos ⟨by omega, by omega⟩]; rfl
  unfold lineP
  rw [hws, joinW]
  congr 1
  unfold argWs tailP
  have jn : joinT [] = [] := rfl
  have j1 : ∀ w, joinT [w] = 32 :: w := fun w => by simp [joinT]
  by_cases k1 : x.kind = 1
  · obtain ⟨o1, o2, o3, o4⟩ := h11 k1
    have hcl : clampK x.ok = x.ok.toNat := by unfold clampK; omega
    rw [if_pos k1, if_pos (by omega), if_neg (by omega), h3 (by omega), List.map_nil, jn, if_pos k1, hcl]
    unfold opWs opT
    split <;> split <;> simp_all [joinT]
  · rw [if_neg k1, if_neg k1]
    by_cases k23 : x.kind = 2 ∨ x.kind = 3
    · rw [if_pos k23, if_pos (by omega), if_neg (by omega), h3 (by omega), List.map_nil, jn, j1]; simp
    · rw [if_neg k23]
      by_cases k47 : x.kind = 4 ∨ x.kind = 5 ∨ x.kind = 6 ∨ x.kind = 7
      · rw [if_pos k47, if_neg (by omega), if_pos (by omega), h3 (by omega), List.map_nil, jn, j1]; simp
      · rw [if_neg k47, if_neg (show ¬ x.kind ≤ 3 by omega), if_neg (show ¬ (4 ≤ x.kind ∧ x.kind ≤ 7) by omega)]
        by_cases k9 : x.kind = 9
        · rw [if_pos k9]; simp
        · rw [if_neg k9, h3 k9, List.map_nil, jn]; rfl
section
variable {ρ : Addr → Option Value} {k : Nat} {H H0 H' : Heap} {Q : AV → Heap → Prop}
theorem rl6 {s : Wd} {ok : Int} {key val : Wd} {on : Nat} {n7 : Nat} (lo : ∀ H', Fr Nop H H' → ∀ i v, ([.int .i64 ok, .str (ba key), .str (ba val), .int .u64 (on : Nat)] : List AV)[i]? = some v → ld1 ρ H' (.ptr n7 0 i) = some v) (hs : s.length ≤ 100000) (hon : on < 18446744073709551616) (hk : 100 ≤ k)
    (good : ∀ H', Fr Nop H H' → Q (.tup [.str (ba (s ++ (if ok = 3 then 32 :: decL on else []))), .bool true]) H') : Ret Q (N16_6 ρ (evCall (cx ρ) k) (evCY (cx ρ) k).2 0 k (.str (ba s)) (.ptr n7 0 0) H retK) := by
  have fr := Fr.refl Nop H
  by_cases h3 : ok = 3
  · have c : decide (ok = 3) = true := decide_eq_true h3
    rw [if_pos h3] at good
    simp only [N16_6, addA_ptr, Nat.zero_add, lo H fr 0 _ rfl, lo H fr 3 _ rfl, bin_eql, c, b32, bin_scatB _ _ _ s [32] (by simp only [List.length_cons, List.length_nil]; omega), purK_some, condK_true]
    refine Ret.bind (digits_spec on hon (by omega)) ?_
    rintro v H1 ⟨rfl, f1⟩
    have hd : (decL on).length ≤ 20 := by have := nd20 on hon; rw [decL, fixD_len]; exact this
    simp only [bin_scatB _ _ _ (s ++ [32]) (decL on) (by simp only [List.length_append, List.length_cons, List.length_nil]; omega), purK_some, N16_7, retK_two]
    refine .intro ?_
    have := good H1 f1
    rwa [show s ++ 32 :: decL on = s ++ [32] ++ decL on by simp] at this
  · have c : decide (ok = 3) = false := decide_eq_false h3
    rw [if_neg h3, List.append_nil] at good
    simp only [N16_6, addA_ptr, Nat.zero_add, lo H fr 0 _ rfl, bin_eql, c, purK_some, condK_false, N16_7, retK_two]
    exact .intro (good H fr)
theorem rl5 {s : Wd} {ok : Int} {key val : Wd} {on : Nat} {n7 : Nat} (lo : ∀ H', Fr Nop H H' → ∀ i v, ([.int .i64 ok, .str (ba key), .str (ba val), .int .u64 (on : Nat)] : List AV)[i]? = some v → ld1 ρ H' (.ptr n7 0 i) = some v) (hs : s.length ≤ 10000) (hon : on < 18446744073709551616) (hkl : key.length ≤ 200) (hvl : val.length ≤ 200) (h1 : 1 ≤ ok) (h4 : ok ≤ 4) (hk : 1000 ≤ k)
    (good : ∀ H', Fr Nop H H' → Q (.tup [.str (ba (s ++ opT ok key val on)), .bool true]) H') : Ret Q (N16_5 ρ (evCall (cx ρ) k) (evCY (cx ρ) k).2 0 k (.str (ba s)) (.ptr n7 0 0) H retK) := by
  obtain ⟨w, hw, hwn, hwl⟩ : ∃ w, [wRead, wPut, wAdd, wDel][ok.toNat - 1]? = some w ∧ opsT.getD ok.toNat [] = w ∧ w.length ≤ 4 := by
    have : ok = 1 ∨ ok = 2 ∨ ok = 3 ∨ ok = 4 := by omega
    rcases this with rfl | rfl | rfl | rfl
    · exact ⟨_, rfl, rfl, by decide⟩
    · exact ⟨_, rfl, rfl, by decide⟩
    · exact ⟨_, rfl, rfl, by decide⟩
    · exact ⟨_, rfl, rfl, by decide⟩
  have bl : bldS H 9 1 [.str (ba [])] 4 [(0, 1, (.str (ByteArray.mk #[114, 101, 97, 100]))), (1, 1, (.str (ByteArray.mk #[112, 117, 116]))), (2, 1, (.str (ByteArray.mk #[97, 100, 100]))), (3, 1, (.str (ByteArray.mk #[100, 101, 108])))] = some (.sl H.sz 0 0 4 4 false, .new (.cells 0 9 (0, 0) false [.str (ba wRead), .str (ba wPut), .str (ba wAdd), .str (ba wDel)])) := rfl
  simp only [N16_5, emp2, bl]
  refine (St.start Nop H).newS fun n H1 s1 hz f1 => ?_
  have hE : Els ρ H1 1 (.sl n 0 0 4 4 false) (srow [wRead, wPut, wAdd, wDel]) := Els.of_cells (els := srow [wRead, wPut, wAdd, wDel]) (s1.lt' 0 rfl) (s1.at 0 rfl) (srow_one _)
  have e1 : wrapK .i64 (ok - 1) = ((ok.toNat - 1 : Nat) : Int) := by
    rw [show ok - 1 = ((ok.toNat - 1 : Nat) : Int) by omega]
    exact wrap_nat _ (by omega)
  obtain ⟨x1, x2⟩ := at_srow hE (ok.toNat - 1) w hw
  have ql := quote_len key
  have qv := quote_len val
  have ei : ∀ n, AV.eqv (.int .i64 n) (.int .i64 n) = true := eqv_int .i64
  have l1 : ∀ H, binA Tryd.prog H .add 9 (.str (ba s)) (.str (ba [32])) = some (.str (ba (s ++ [32]))) := fun H => bin_scatB _ _ _ s [32] (by simp only [List.length_cons, List.length_nil]; omega)
  have l2 : ∀ H, binA Tryd.prog H .add 9 (.str (ba (s ++ [32]))) (.str (ba w)) = some (.str (ba (s ++ [32] ++ w))) := fun H => bin_scatB _ _ _ _ _ (by simp only [List.length_append, List.length_cons, List.length_nil]; omega)
  have l3 : ∀ H, binA Tryd.prog H .add 9 (.str (ba (s ++ [32] ++ w))) (.str (ba [32])) = some (.str (ba (s ++ [32] ++ w ++ [32]))) := fun H => bin_scatB _ _ _ _ _ (by simp only [List.length_append, List.length_cons, List.length_nil]; omega)
  have l4 : ∀ H, binA Tryd.prog H .add 9 (.str (ba (s ++ [32] ++ w ++ [32]))) (.str (ba (quoteL key))) = some (.str (ba (s ++ [32] ++ w ++ [32] ++ quoteL key))) := fun H => bin_scatB _ _ _ _ _ (by simp only [List.length_append, List.length_cons, List.length_nil]; omega)
  simp only [b32, l1, addA_ptr, Nat.zero_add, lo H1 f1 0 _ rfl, bin_sub, e1, x1, x2, l2, l3, lo H1 f1 1 _ rfl, purK_some]
  refine Ret.bind (rqf_spec key (by omega) (by omega)) ?_
  rintro v H2 ⟨rfl, f2⟩
  have f12 := f1.trans f2
  obtain ⟨_, x2'⟩ := at_srow (hE.frame0 f2) (ok.toNat - 1) w hw
  simp only [l4, x2', lo H2 f12 0 _ rfl, agn_some, eqv_str, ei, Bool.and_self, cond_true, bin_eql, purK_some]
  clear e1
  have lo2 : ∀ H', Fr Nop H2 H' → ∀ i v, ([.int .i64 ok, .str (ba key), .str (ba val), .int .u64 (on : Nat)] : List AV)[i]? = some v → ld1 ρ H' (.ptr n7 0 i) = some v := fun H' f => lo H' (f12.trans f)
  have hop : opT ok key val on = 32 :: w ++ (32 :: quoteL key) ++ (if ok = 2 then 32 :: quoteL val else []) ++ (if ok = 3 then 32 :: decL on else []) := by unfold opT; rw [hwn]
  rw [hop] at good
  by_cases h2 : ok = 2
  · have c : decide (ok = 2) = true := decide_eq_true h2
    have l5 : ∀ H, binA Tryd.prog H .add 9 (.str (ba (s ++ [32] ++ w ++ [32] ++ quoteL key))) (.str (ba [32])) = some (.str (ba (s ++ [32] ++ w ++ [32] ++ quoteL key ++ [32]))) := fun H => bin_scatB _ _ _ _ _ (by simp only [List.length_append, List.length_cons, List.length_nil]; omega)
    have l6 : ∀ H, binA Tryd.prog H .add 9 (.str (ba (s ++ [32] ++ w ++ [32] ++ quoteL key ++ [32]))) (.str (ba (quoteL val))) = some (.str (ba (s ++ [32] ++ w ++ [32] ++ quoteL key ++ [32] ++ quoteL val))) := fun H => bin_scatB _ _ _ _ _ (by simp only [List.length_append, List.length_cons, List.length_nil]; omega)
    simp only [c, condK_true, l5, lo2 H2 (Fr.refl ..) 2 _ rfl, purK_some]
    refine Ret.bind (rqf_spec val (by omega) (by omega)) ?_
    rintro v H3 ⟨rfl, f3⟩
    simp only [l6, purK_some]
    refine rl6 (fun H' f => lo2 H' (f3.trans f)) (by simp only [List.length_append, List.length_cons, List.length_nil]; omega) hon (by omega) fun H' f => ?_
    have := good H' ((f12.trans f3).trans f)
    rw [if_pos h2] at this
    simpa using this
  · have c : decide (ok = 2) = false := decide_eq_false h2
    simp only [c, condK_false]
    refine rl6 lo2 (by simp only [List.length_append, List.length_cons, List.length_nil]; omega) hon (by omega) fun H' f => ?_
    have := good H' (f12.trans f)
    rw [if_neg h2] at this
    simpa using this
-- operations
theorem rl4 {x : StI} {y : AV} {s : Wd} {n1 : Nat} (lf : ∀ H', Fr Nop H H' → ∀ i v, (sti x y)[i]? = some v → ld1 ρ H' (.ptr n1 0 i) = some v) (ln : ldN ρ H 4 (.ptr n1 0 3) = some (.agg [.int .i64 x.ok, .str (ba x.key), .str (ba x.val), .int .u64 (x.on : Nat)])) (h : okI x) (hs : s.length ≤ 10000) (hk : 2000 ≤ k)
    (good : ∀ H', Fr Nop H H' → (x.kind = 1 → 1 ≤ x.ok ∧ x.ok ≤ 4 ∧ (x.ok ≠ 2 → x.val = []) ∧ (x.ok ≠ 3 → x.on = 0)) → x.kind ≤ 1 ∨ 1 < x.kind → Q (.tup [.str (ba (s ++ (if x.kind ≤ 1 then opT x.ok x.key x.val x.on else []))), .bool true]) H')
    (bad : ∀ H', Fr Nop H H' → x.kind ≤ 1 → ¬ (1 ≤ x.ok ∧ x.ok ≤ 4 ∧ (x.ok ≠ 2 → x.val = []) ∧ (x.ok ≠ 3 → x.on = 0)) → Q (.tup [.str (ba []), .bool false]) H') : Ret Q (N16_4 ρ (evCall (cx ρ) k) (evCY (cx ρ) k).2 0 k (.ptr n1 0 0) (.str (ba s)) H retK) := by
  have fr := Fr.refl Nop H
  by_cases h1 : 1 < x.kind
  · have c : decide (x.kind > 1) = true := decide_eq_true h1
    simp only [N16_4, addA_ptr, Nat.zero_add, lf H fr 0 _ rfl, bin_gtr, c, purK_some, condK_true, retK_two]
    have := good H fr (fun e => by omega) (Or.inr h1)
    rw [if_neg (by omega), List.append_nil] at this
    exact .intro this
  · have c : decide (x.kind > 1) = false := decide_eq_false h1
    have cs : ([.int .i64 x.ok, .str (ba x.key), .str (ba x.val), .int .u64 (x.on : Nat)] : List AV).all AV.solid = true := by simp only [List.all_cons, List.all_nil, sol_int, sol_str, Bool.and_self]
    simp only [N16_4, addA_ptr, Nat.zero_add, lf H fr 0 _ rfl, ln, bin_gtr, c, purK_some, condK_false]
    refine (St.start Nop H).newP fun n7 H1 s1 hz f1 => ?_
    refine s1.stN 0 rfl rfl cs (by simp []) fun H2 s2 _ f2 => ?_
    have lo : ∀ H', Fr Nop H2 H' → ∀ i v, ([.int .i64 x.ok, .str (ba x.key), .str (ba x.val), .int .u64 (x.on : Nat)] : List AV)[i]? = some v → ld1 ρ H' (.ptr n7 0 i) = some v := fun H' f i v hv => by
      have hg := (s2.frame0 f).at 0 rfl
      simp only [ld1_ptr, hg, ldC_cells]
      exact hv
    have f12 : Fr Nop H H2 := s2.fr
    have fr2 := Fr.refl Nop H2
    have l0 := lo H2 fr2 0 _ rfl
    have l2 := lo H2 fr2 2 _ rfl
    have l3 := lo H2 fr2 3 _ rfl
    by_cases g1 : x.ok < 1
    · have c1 : decide (x.ok < 1) = true := decide_eq_true g1
      simp only [addA_ptr, Nat.zero_add, l0, bin_lss, c1, wantV_tf, wantV_skip, gPur_false, pickA_true, purK_some, N16_8, emp1, condK_true, retK_two]
      exact .intro (bad H2 f12 (by omega) fun e => by omega)
    have c1 : decide (x.ok < 1) = false := decide_eq_false g1
    by_cases g2 : x.ok > 4
    · have c2 : decide (x.ok > 4) = true := decide_eq_true g2
      simp only [addA_ptr, Nat.zero_add, l0, bin_lss, bin_gtr, c1, c2, wantV_tf, wantV_ff, wantV_skip, gPur_true, gPur_false, pickA_true, pickA_false, purK_some, N16_8, emp1, condK_true, retK_two]
      exact .intro (bad H2 f12 (by omega) fun e => by omega)
    have c2 : decide (x.ok > 4) = false := decide_eq_false g2
    by_cases g3 : x.ok ≠ 2 ∧ x.val ≠ []
    · have c3 : decide (x.ok ≠ 2) = true := decide_eq_true g3.1
      have c4 : decide (x.val ≠ []) = true := decide_eq_true g3.2
      simp only [addA_ptr, Nat.zero_add, l0, l2, bin_lss, bin_gtr, bin_neq, bin_sneB, emp1, c1, c2, c3, c4, wantV_tt, wantV_tf, wantV_ff, wantV_skip, gPur_true, gPur_false, pickA_true, pickA_false, purK_some, N16_8, condK_true, retK_two]
      exact .intro (bad H2 f12 (by omega) fun e => g3.2 (e.2.2.1 g3.1))
    have e3 : x.ok ≠ 2 → x.val = [] := fun e => Classical.byContradiction fun e2 => g3 ⟨e, e2⟩
    by_cases g4 : x.ok ≠ 3 ∧ x.on ≠ 0
    · have d3 : decide (x.ok ≠ 3) = true := decide_eq_true g4.1
      have d4 : decide ((x.on : Int) ≠ 0) = true := decide_eq_true (by omega)
      by_cases k2 : x.ok = 2
      · have c3 : decide (x.ok ≠ 2) = false := decide_eq_false fun e => e k2
        simp only [addA_ptr, Nat.zero_add, l0, l3, bin_lss, bin_gtr, bin_neq, emp1, c1, c2, c3, d3, d4, wantV_tt, wantV_ff, wantV_ft, gPur_true, gPur_false, pickA_true, pickA_false, purK_some, N16_8, condK_true, retK_two]
        exact .intro (bad H2 f12 (by omega) fun e => g4.2 (e.2.2.2 g4.1))
      · have c3 : decide (x.ok ≠ 2) = true := decide_eq_true k2
        have c4 : decide (x.val ≠ []) = false := decide_eq_false fun e => e (e3 k2)
        simp only [addA_ptr, Nat.zero_add, l0, l2, l3, bin_lss, bin_gtr, bin_neq, bin_sneB, emp1, c1, c2, c3, c4, d3, d4, wantV_tt, wantV_ff, gPur_true, pickA_true, pickA_false, purK_some, N16_8, condK_true, retK_two]
        exact .intro (bad H2 f12 (by omega) fun e => g4.2 (e.2.2.2 g4.1))
    have e4 : x.ok ≠ 3 → x.on = 0 := fun e => Classical.byContradiction fun e2 => g4 ⟨e, e2⟩
    have fin : Ret Q (N16_8 ρ (evCall (cx ρ) k) (evCY (cx ρ) k).2 0 k (.str (ba s)) (.ptr n7 0 0) (.bool false) H2 (fun x5_1 x7_2 H => N16_5 ρ (evCall (cx ρ) k) (evCY (cx ρ) k).2 0 k x5_1 x7_2 H retK) retK) := by
      simp only [N16_8, condK_false]
      refine rl5 lo hs h.on h.key h.val (by omega) (by omega) (by omega) fun H' f => ?_
      have := good H' (f12.trans f) (fun _ => ⟨by omega, by omega, e3, e4⟩) (Or.inl (by omega))
      rwa [if_pos (by omega)] at this
    have d4 : x.ok ≠ 3 → decide ((x.on : Int) ≠ 0) = false := fun e => decide_eq_false fun e2 => e2 (by have := e4 e; omega)
    by_cases k2 : x.ok = 2
    · have c3 : decide (x.ok ≠ 2) = false := decide_eq_false fun e => e k2
      have d3 : decide (x.ok ≠ 3) = true := decide_eq_true (by omega)
      have d4 := d4 (by omega)
      simp only [addA_ptr, Nat.zero_add, l0, l3, bin_lss, bin_gtr, bin_neq, c1, c2, c3, d3, d4, wantV_tt, wantV_ff, wantV_ft, gPur_true, gPur_false, pickA_true, pickA_false, purK_some]
      exact fin
    · have c3 : decide (x.ok ≠ 2) = true := decide_eq_true k2
      have c4 : decide (x.val ≠ []) = false := decide_eq_false fun e => e (e3 k2)
      by_cases k3 : x.ok = 3
      · have d3 : decide (x.ok ≠ 3) = false := decide_eq_false fun e => e k3
        simp only [addA_ptr, Nat.zero_add, l0, l2, bin_lss, bin_gtr, bin_neq, bin_sneB, emp1, c1, c2, c3, c4, d3, wantV_tt, wantV_ff, wantV_ft, gPur_true, gPur_false, pickA_true, pickA_false, purK_some]
        exact fin
      · have d3 : decide (x.ok ≠ 3) = true := decide_eq_true k3
        have d4 := d4 k3
        simp only [addA_ptr, Nat.zero_add, l0, l2, l3, bin_lss, bin_gtr, bin_neq, bin_sneB, emp1, c1, c2, c3, c4, d3, d4, wantV_tt, wantV_ff, gPur_true, pickA_true, pickA_false, purK_some]
        exact fin
end
end Go.Proofs.YtnkeebchblfbgaaDoor

-- part PrL
/- The reference's Line, whole. -/
set_option linter.unusedVariables false
set_option linter.unusedSimpArgs false
namespace Go.Proofs.YtnkeebchblfbgaaDoor
attribute [local congr] Go.Ev.cond_congr1
open Go.Ev Go.RowKit
section
variable {ρ : Addr → Option Value} {k : Nat} {H H0 H' : Heap} {Q : AV → Heap → Prop}
theorem itoa_small {n : Int} (h : small9 n) : wrapK .u64 n = (n.toNat : Int) ∧ itoaL n = decL n.toNat ∧ n.toNat < 18446744073709551616 ∧ (decL n.toNat).length ≤ 20 := by
  obtain ⟨h1, h2⟩ := h
  have hl : n.toNat < 18446744073709551616 := by omega
  refine ⟨?_, ?_, hl, ?_⟩
  · have := w64 n.toNat hl
    rwa [show ((n.toNat : Nat) : Int) = n by omega] at this ⊢
  · unfold itoaL; rw [if_pos h1]
  · have := nd20 n.toNat hl
    rw [decL, fixD_len]; exact this
theorem rl10 {l : List Int} {y : AV} {s : Wd} {n1 : Nat} {k0 : AV → AV → Heap → Res} (hl : ∀ H', Fr Nop H H' → ld1 ρ H' (.ptr n1 0 7) = some y) (hy : Els ρ H 1 y (zrow l)) (hn : l.length ≤ 50) (hs : s.length ≤ 5000) (hk : 2000 ≤ k)
    (good : ∀ H', Fr Nop H H' → (∀ n ∈ l, small9 n) → (joinT (l.map itoaL)).length ≤ 1100 → Ret Q (k0 (.ptr n1 0 0) (.str (ba (s ++ joinT (l.map itoaL)))) H'))
    (bad : ∀ H', Fr Nop H H' → ¬ (∀ n ∈ l, small9 n) → Q (.tup [.str (ba []), .bool false]) H') : Ret Q (N16_10 ρ (evCall (cx ρ) k) (evCY (cx ρ) k).2 0 k (.ptr n1 0 0) (.str (ba s)) (.int .i64 0) H k0 retK) := by
  simp only [N16_10]
  refine Ret.loop (fun q (z : AV × AV) H' => ∃ i : Nat, z.1 = .str (ba (s ++ joinT ((l.take i).map itoaL))) ∧ z.2 = .int .i64 i ∧ q = l.length - i ∧ i ≤ l.length ∧ (∀ n ∈ l.take i, small9 n) ∧ (joinT ((l.take i).map itoaL)).length ≤ 22 * i ∧ Fr Nop H H') ?_ l.length _ _ H
    ⟨0, by simp [joinT], rfl, rfl, by omega, by simp, by simp [joinT], Fr.refl ..⟩ (by omega)
  rintro q ⟨z5, z6⟩ H' kn ⟨i, hz5, hz6, rfl, hi, ht, hjl, hF⟩ next
  simp only at hz5 hz6
  subst hz5; subst hz6
  have e0 := (hy.frame0 hF).lenS
  rw [zrow_len] at e0
  by_cases hlt : i < l.length
  · have c1 : decide (((i : Nat) : Int) < (l.length : Nat)) = true := decide_eq_true (by omega)
    obtain ⟨x1, x2⟩ := at_zrow (hy.frame0 hF) i hlt
    have htk : l.take (i + 1) = l.take i ++ [l[i]] := by rw [List.take_add_one, List.getElem?_eq_getElem hlt]; rfl
    have hmem : l[i] ∈ l := List.getElem_mem hlt
    have hx2 : ∀ H2, Fr Nop H' H2 → ld1 ρ H2 (elp 1 y i 0) = some (.int .i64 l[i]) := fun H2 f => (at_zrow ((hy.frame0 hF).frame0 f) i hlt).2
    obtain ⟨k, rfl⟩ : ∃ q, k = q + 1 := ⟨k - 1, by omega⟩
    generalize l[i] = n at *
    by_cases hsm : small9 n
    · have c2 : decide (small9 n) = true := decide_eq_true hsm
      obtain ⟨w1, w2, w3, w4⟩ := itoa_small hsm
      simp only [N16_10b, addA_ptr, Nat.zero_add, hl H' hF, e0, bin_lss, c1, x1, x2, small_spec, c2, un_not, Bool.not_true, b32, bin_scatB _ _ _ (s ++ joinT ((l.take i).map itoaL)) [32] (by simp only [List.length_append, List.length_cons, List.length_nil]; omega), cvI_int, w1, purK_some, resK_some, condK_true, condK_false]
      clear w1
      refine Ret.bind (digits_spec n.toNat w3 (by omega)) ?_
      rintro v H2 ⟨rfl, f2⟩
      simp only [bin_scatB _ _ _ (s ++ joinT ((l.take i).map itoaL) ++ [32]) (decL n.toNat) (by simp only [List.length_append, List.length_cons, List.length_nil]; omega), N16_11, bin_add, wrap_succN i (by omega : i + 1 < 9223372036854775808), purK_some]
      refine next (l.length - (i + 1)) _ H2 (by omega) ⟨i + 1, ?_, rfl, rfl, by omega, ?_, ?_, hF.trans f2⟩
      · simp only
        rw [htk, List.map_append, List.map_cons, List.map_nil, joinT_snoc, w2]
        simp
      · rw [htk]
        intro a ha
        rcases List.mem_append.1 ha with ha | ha
        · exact ht a ha
        · simp at ha; subst ha; exact hsm
      · rw [htk, List.map_append, List.map_cons, List.map_nil, joinT_snoc, w2, List.length_append, List.length_cons]
        omega
    · have c2 : decide (small9 n) = false := decide_eq_false hsm
      simp only [N16_10b, addA_ptr, Nat.zero_add, hl H' hF, e0, bin_lss, c1, x1, x2, small_spec, c2, un_not, Bool.not_false, emp1, purK_some, resK_some, condK_true, retK_two]
      exact .intro (bad H' hF fun h => hsm (h n hmem))
  · have c1 : decide (((i : Nat) : Int) < (l.length : Nat)) = false := decide_eq_false (by omega)
    obtain rfl : i = l.length := by omega
    rw [List.take_length] at ht hjl
    simp only [N16_10b, addA_ptr, Nat.zero_add, hl H' hF, e0, bin_lss, c1, purK_some, condK_false]
    rw [List.take_length]
    exact good H' hF ht (by omega)
theorem op_ne2 (H : Heap) (a d a' d' : Int) (b c b' c' : ByteArray) : binA Tryd.prog H .neq 40 (.agg [.int .i64 a, .str b, .str c, .int .u64 d]) (.agg [.int .i64 a', .str b', .str c', .int .u64 d']) = some (.bool (!decide (a = a' ∧ b = b' ∧ c = c' ∧ d = d'))) := by
  have h : binA Tryd.prog H .neq 40 (.agg [.int .i64 a, .str b, .str c, .int .u64 d]) (.agg [.int .i64 a', .str b', .str c', .int .u64 d']) = (binA Tryd.prog H .eql 40 (.agg [.int .i64 a, .str b, .str c, .int .u64 d]) (.agg [.int .i64 a', .str b', .str c', .int .u64 d'])).bind fun v => match v with | .bool q => some (.bool !q) | _ => none := by
    have h1 : binA Tryd.prog H .eql 40 (.agg [.int .i64 a, .str b, .str c, .int .u64 d]) (.agg [.int .i64 a', .str b', .str c', .int .u64 d']) = (bif a == a' then (bif b == b' then (bif c == c' then (bif d == d' then some true else some false) else some false) else some false) else some false).map fun e => .bool e := by kernel_rfl
    have h2 : binA Tryd.prog H .neq 40 (.agg [.int .i64 a, .str b, .str c, .int .u64 d]) (.agg [.int .i64 a', .str b', .str c', .int .u64 d']) = (bif a == a' then (bif b == b' then (bif c == c' then (bif d == d' then some true else some false) else some false) else some false) else some false).map fun e => .bool !e := by kernel_rfl
    rw [h1, h2]
    cases (bif a == a' then (bif b == b' then (bif c == c' then (bif d == d' then some true else some false) else some false) else some false) else some false) <;> rfl
  rw [h, op_eq]; rfl
-- the part ahead of the operation
theorem rl1 {x : StI} {y : AV} {n1 n9 : Nat} (lf : ∀ H', Fr Nop H H' → ∀ i v, (sti x y)[i]? = some v → ld1 ρ H' (.ptr n1 0 i) = some v) (ln : ∀ H', Fr Nop H H' → ldN ρ H' 4 (.ptr n1 0 3) = some (.agg [.int .i64 x.ok, .str (ba x.key), .str (ba x.val), .int .u64 (x.on : Nat)])) (hW : Els ρ H 1 (.sl n9 0 0 10 10 false) (srow stepsW)) (hy : Els ρ H 1 y (zrow x.picks)) (h : okI x) (hk : 3000 ≤ k)
    (g1 : 1 ≤ x.kind ∧ x.kind ≤ 10) (g2 : small9 x.s) (g3 : small9 x.n)
    (good : ∀ H', Fr Nop H H' → x.picks.length ≤ 32 → (∀ n ∈ x.picks, small9 n) → (x.kind = 1 → 1 ≤ x.ok ∧ x.ok ≤ 4 ∧ (x.ok ≠ 2 → x.val = []) ∧ (x.ok ≠ 3 → x.on = 0)) → Q (.tup [.str (ba (stepsT.getD x.kind.toNat [] ++ tailP x)), .bool true]) H')
    (bad : ∀ H', Fr Nop H H' → ¬ (x.picks.length ≤ 32 ∧ (∀ n ∈ x.picks, small9 n) ∧ (x.kind = 1 → 1 ≤ x.ok ∧ x.ok ≤ 4 ∧ (x.ok ≠ 2 → x.val = []) ∧ (x.ok ≠ 3 → x.on = 0))) → Q (.tup [.str (ba []), .bool false]) H') : Ret Q (N16_1 ρ (evCall (cx ρ) k) (evCY (cx ρ) k).2 0 k (.ptr n1 0 0) (.sl n9 0 0 10 10 false) H retK) := by
  have fr := Fr.refl Nop H
  -- behind the numbers
  have s3 : ∀ (s : Wd) (H1 : Heap), Fr Nop H H1 → s.length ≤ 100 → s = stepsT.getD x.kind.toNat [] ++ (if x.kind ≤ 3 then 32 :: itoaL x.s else []) ++ (if 4 ≤ x.kind ∧ x.kind ≤ 7 then 32 :: itoaL x.n else []) → Ret Q (N16_3 ρ (evCall (cx ρ) k) (evCY (cx ρ) k).2 0 k (.ptr n1 0 0) (.str (ba s)) H1 retK) := by
    intro s H1 f1 hsl hs
    have e0 := (hy.frame0 f1).lenS
    rw [zrow_len] at e0
    by_cases h32 : x.picks.length ≤ 32
    · have c : decide ((x.picks.length : Int) > 32) = false := decide_eq_false (by omega)
      simp only [N16_3, addA_ptr, Nat.zero_add, lf H1 f1 7 _ rfl, e0, bin_gtr, c, purK_some, condK_false, N16_9]
      refine rl10 (fun H' f => lf H' (f1.trans f) 7 _ rfl) (hy.frame0 f1) (by omega) (by omega) (by omega) (fun H2 f2 hsm hjl => ?_) fun H2 f2 hn => bad H2 (f1.trans f2) fun e => hn e.2.1
      have f12 := f1.trans f2
      refine rl4 (fun H' f => lf H' (f12.trans f)) (ln H2 f12) h (by rw [List.length_append]; omega) (by omega) (fun H3 f3 hop _ => ?_) fun H3 f3 hk1 hn => bad H3 (f12.trans f3) fun e => hn (e.2.2 (by omega))
      have := good H3 (f12.trans f3) h32 hsm hop
      have ht : stepsT.getD x.kind.toNat [] ++ tailP x = s ++ joinT (x.picks.map itoaL) ++ (if x.kind ≤ 1 then opT x.ok x.key x.val x.on else []) := by
        rw [hs]; unfold tailP
        by_cases k1 : x.kind = 1
        · rw [if_pos k1, if_pos (show x.kind ≤ 1 by omega)]; simp
        · rw [if_neg k1, if_neg (show ¬ x.kind ≤ 1 by omega)]; simp
      rwa [ht] at this
    · have c : decide ((x.picks.length : Int) > 32) = true := decide_eq_true (by omega)
      simp only [N16_3, addA_ptr, Nat.zero_add, lf H1 f1 7 _ rfl, e0, bin_gtr, c, emp1, purK_some, condK_true, retK_two]
      exact .intro (bad H1 f1 fun e => h32 e.1)
  have hwl : (stepsT.getD x.kind.toNat []).length ≤ 8 := by
    have hl : x.kind.toNat < stepsT.length := by show _ < 11; omega
    have : ∀ w ∈ stepsT, w.length ≤ 8 := by decide
    have := this _ (List.getElem_mem hl)
    rw [List.getD_eq_getElem?_getD, List.getElem?_eq_getElem hl]
    exact this
  have hwi : stepsW[x.kind.toNat - 1]? = some (stepsT.getD x.kind.toNat []) := by
    obtain ⟨m, hm⟩ : ∃ m, x.kind.toNat = m + 1 := ⟨x.kind.toNat - 1, by omega⟩
    have hl : m < stepsW.length := by show m < 10; omega
    rw [hm, Nat.add_sub_cancel, List.getD_eq_getElem?_getD]
    show stepsW[m]? = some ((([] :: stepsW : List Wd)[m + 1]?).getD [])
    rw [List.getElem?_cons_succ, List.getElem?_eq_getElem hl]; rfl
  -- behind the first number
  have s2 : ∀ (s : Wd) (H1 : Heap), Fr Nop H H1 → s.length ≤ 40 → s = stepsT.getD x.kind.toNat [] ++ (if x.kind ≤ 3 then 32 :: itoaL x.s else []) → Ret Q (N16_2 ρ (evCall (cx ρ) k) (evCY (cx ρ) k).2 0 k (.ptr n1 0 0) (.str (ba s)) H1 retK) := by
    intro s H1 f1 hsl hs
    by_cases k4 : 4 ≤ x.kind ∧ x.kind ≤ 7
    · have c1 : decide ((4 : Int) ≤ x.kind) = true := decide_eq_true k4.1
      have c2 : decide (x.kind ≤ (7 : Int)) = true := decide_eq_true k4.2
      obtain ⟨w1, w2, w3, w4⟩ := itoa_small g3
      simp only [N16_2, addA_ptr, Nat.zero_add, lf H1 f1 0 _ rfl, lf H1 f1 2 _ rfl, bin_geq, bin_leq, c1, c2, wantV_tt, gPur_true, pickA_true, N16_12, b32, bin_scatB _ _ _ s [32] (by simp only [List.length_cons, List.length_nil]; omega), cvI_int, w1, purK_some, condK_true]
      clear w1
      refine Ret.bind (digits_spec x.n.toNat w3 (by omega)) ?_
      rintro v H2 ⟨rfl, f2⟩
      simp only [bin_scatB _ _ _ (s ++ [32]) (decL x.n.toNat) (by simp only [List.length_append, List.length_cons, List.length_nil]; omega), purK_some]
      refine s3 _ H2 (f1.trans f2) (by simp only [List.length_append, List.length_cons, List.length_nil]; omega) ?_
      rw [if_pos k4, hs, w2]; simp
    · have fin : Ret Q (N16_12 ρ (evCall (cx ρ) k) (evCY (cx ρ) k).2 0 k (.ptr n1 0 0) (.str (ba s)) (.bool false) H1 (fun x1_1 x5_1 H => N16_3 ρ (evCall (cx ρ) k) (evCY (cx ρ) k).2 0 k x1_1 x5_1 H retK)) := by
        simp only [N16_12, condK_false]
        exact s3 _ H1 f1 (by omega) (by rw [if_neg k4, List.append_nil]; exact hs)
      by_cases k5 : 4 ≤ x.kind
      · have c1 : decide ((4 : Int) ≤ x.kind) = true := decide_eq_true k5
        have c2 : decide (x.kind ≤ (7 : Int)) = false := decide_eq_false fun e => k4 ⟨k5, e⟩
        simp only [N16_2, addA_ptr, Nat.zero_add, lf H1 f1 0 _ rfl, bin_geq, bin_leq, c1, c2, wantV_tt, gPur_true, pickA_true, purK_some]
        exact fin
      · have c1 : decide ((4 : Int) ≤ x.kind) = false := decide_eq_false k5
        simp only [N16_2, addA_ptr, Nat.zero_add, lf H1 f1 0 _ rfl, bin_geq, c1, wantV_ft, gPur_false, pickA_false, purK_some]
        exact fin
  have e1 : wrapK .i64 (x.kind - 1) = ((x.kind.toNat - 1 : Nat) : Int) := by
    rw [show x.kind - 1 = ((x.kind.toNat - 1 : Nat) : Int) by omega]
    exact wrap_nat _ (by omega)
  obtain ⟨x1, x2⟩ := at_srow hW (x.kind.toNat - 1) _ hwi
  generalize hwd : stepsT.getD x.kind.toNat [] = wd at *
  by_cases k3 : x.kind ≤ 3
  · have c1 : decide (x.kind ≤ (3 : Int)) = true := decide_eq_true k3
    obtain ⟨w1, w2, w3, w4⟩ := itoa_small g2
    simp only [N16_1, addA_ptr, Nat.zero_add, lf H fr 0 _ rfl, lf H fr 1 _ rfl, bin_sub, e1, x1, x2, bin_leq, c1, b32, bin_scatB _ _ _ wd [32] (by simp only [List.length_cons, List.length_nil]; omega), cvI_int, w1, purK_some, condK_true]
    clear w1 e1
    refine Ret.bind (digits_spec x.s.toNat w3 (by omega)) ?_
    rintro v H2 ⟨rfl, f2⟩
    simp only [bin_scatB _ _ _ (wd ++ [32]) (decL x.s.toNat) (by simp only [List.length_append, List.length_cons, List.length_nil]; omega), purK_some]
    refine s2 _ H2 f2 (by simp only [List.length_append, List.length_cons, List.length_nil]; omega) ?_
    rw [if_pos k3, w2]; simp
  · have c1 : decide (x.kind ≤ (3 : Int)) = false := decide_eq_false k3
    simp only [N16_1, addA_ptr, Nat.zero_add, lf H fr 0 _ rfl, bin_sub, e1, x1, x2, bin_leq, c1, purK_some, condK_false]
    clear e1
    refine s2 _ H fr (by omega) ?_
    rw [if_neg k3, List.append_nil]
end
end Go.Proofs.YtnkeebchblfbgaaDoor

-- part PrM
/- The reference's Line: what may not be told. -/
set_option linter.unusedVariables false
set_option linter.unusedSimpArgs false
namespace Go.Proofs.YtnkeebchblfbgaaDoor
attribute [local congr] Go.Ev.cond_congr1
open Go.Ev Go.RowKit
section
variable {ρ : Addr → Option Value} {k : Nat} {H H0 H' : Heap} {Q : AV → Heap → Prop}
theorem rline_spec {x : StI} {y : AV} (hy : Els ρ H 1 y (zrow x.picks)) (h : okI x) (hk : 10000 ≤ k) : Ret (RL H x) (evCall (cx ρ) k 0 16 [.agg (sti x y)] H) := by
  obtain ⟨k, rfl⟩ : ∃ q, k = q + 2 := ⟨k - 2, by omega⟩
  rw [E16]
  have hsol : (sti x y).all AV.solid = true := sti_solid' (Els_solid hy)
  have hbx := boxA_agg H 43 (sti x y) hsol
  simp only [L16, hbx, emp2]
  refine (St.start Nop H).newP fun n1 H1 s1 hz f1 => ?_
  have bl : ∀ H : Heap, bldS H 9 1 [.str (ba [])] 10 [(0, 1, (.str (ByteArray.mk #[97, 115, 107]))), (1, 1, (.str (ByteArray.mk #[109, 111, 118, 101]))), (2, 1, (.str (ByteArray.mk #[114, 101, 115, 117, 109, 101]))), (3, 1, (.str (ByteArray.mk #[100, 111]))), (4, 1, (.str (ByteArray.mk #[114, 101, 97, 100, 111, 110, 108, 121]))), (5, 1, (.str (ByteArray.mk #[104, 101, 97, 100]))), (6, 1, (.str (ByteArray.mk #[102, 108, 117, 115, 104]))), (7, 1, (.str (ByteArray.mk #[115, 97, 118, 101]))), (8, 1, (.str (ByteArray.mk #[99, 114, 97, 115, 104]))), (9, 1, (.str (ByteArray.mk #[115, 116, 97, 114, 116])))] = some (.sl H.sz 0 0 10 10 false, .new (.cells 0 9 (0, 0) false (srow stepsW).flatten)) := fun _ => rfl
  simp only [bl]
  refine s1.newS fun n9 H2 s2 hz2 f2 => ?_
  have hW : Els ρ H2 1 (.sl n9 0 0 10 10 false) (srow stepsW) := Els.of_cells (els := srow stepsW) (s2.lt' 1 rfl) (s2.at 1 rfl) (srow_one _)
  have f12 : Fr Nop H H2 := s2.fr
  have lf : ∀ H', Fr Nop H2 H' → ∀ i v, (sti x y)[i]? = some v → ld1 ρ H' (.ptr n1 0 i) = some v := fun H' f i v hv => by
    have hg := (s2.frame0 f).at 0 rfl
    simp only [ld1_ptr, hg, ldC_cells]
    exact hv
  have ln : ∀ H', Fr Nop H2 H' → ldN ρ H' 4 (.ptr n1 0 3) = some (.agg [.int .i64 x.ok, .str (ba x.key), .str (ba x.val), .int .u64 (x.on : Nat)]) := fun H' f => by
    rw [ldN_of 4 3 ((s2.frame0 f).at 0 rfl) (by simp [sti])]; rfl
  have fr := Fr.refl Nop H2
  have l0 := lf H2 fr 0 _ rfl
  have l1 := lf H2 fr 1 _ rfl
  have l2 := lf H2 fr 2 _ rfl
  have l7 := lf H2 fr 7 _ rfl
  have l3 := ln H2 fr
  have e0 := (hy.frame0 f12).lenS
  rw [zrow_len] at e0
  have hz4 : bldA [.int .i64 0, .str (ba []), .str (ba []), .int .u64 0] [] = some (.agg [.int .i64 0, .str (ba []), .str (ba []), .int .u64 0]) := rfl
  have sm : ∀ (n : Int) (H : Heap), evCall (cx ρ) (k + 1) 0 34 [.int .i64 n] H = some (.bool (decide (small9 n)), H) := fun n H => small_spec n
  have bad : ¬ validI x → Ret (RL H x) (N16_13 ρ (evCall (cx ρ) (k + 1)) (evCY (cx ρ) (k + 1)).2 0 (k + 1) (.ptr n1 0 0) (.sl n9 0 0 10 10 false) (.bool true) H2 (fun x1_1 x4 H => N16_1 ρ (evCall (cx ρ) (k + 1)) (evCY (cx ρ) (k + 1)).2 0 (k + 1) x1_1 x4 H retK) retK) := fun hn => by
    simp only [N16_13, emp1, condK_true, retK_two]
    exact .intro ⟨f12, Or.inr ⟨hn, rfl⟩⟩
  by_cases g1 : x.kind < 1
  · have c1 : decide (x.kind < 1) = true := decide_eq_true g1
    simp only [addA_ptr, Nat.zero_add, l0, bin_lss, c1, wantV_tf, wantV_skip, gPur_false, gRes_false, pickA_true, purK_some, resK_some]
    exact bad fun v => by have := v.1; omega
  have c1 : decide (x.kind < 1) = false := decide_eq_false g1
  simp only [addA_ptr, Nat.zero_add, l0, bin_lss, c1, wantV_ff, gPur_true, purK_some]
  by_cases g2 : x.kind > 10
  · have c2 : decide (x.kind > 10) = true := decide_eq_true g2
    simp only [bin_gtr, c2, wantV_tf, wantV_skip, gPur_false, gRes_false, pickA_true, pickA_false, purK_some, resK_some]
    exact bad fun v => by have := v.2.1; omega
  have c2 : decide (x.kind > 10) = false := decide_eq_false g2
  simp only [bin_gtr, c2, wantV_ff, gPur_true, pickA_false, purK_some]
  have G3 : ∀ K : AV → Res, (purK (ld1 ρ H2 (.ptr n1 0 0)) fun x20 => purK (binA Tryd.prog H2 .neq 3 x20 (.int .i64 9)) fun x21 => purK (gPur (wantV x21 true) (some (.ptr n1 0 7))) fun x23 => purK (gPur (wantV x21 true) (ld1 ρ H2 x23)) fun x24 => purK (gPur (wantV x21 true) (lenS x24)) fun x25 => purK (gPur (wantV x21 true) (binA Tryd.prog H2 .gtr 3 x25 (.int .i64 0))) fun x26 => purK (pickA x21 x26 (.bool false)) K) = K (.bool (decide (x.kind ≠ 9 ∧ x.picks ≠ []))) := fun K => by
    by_cases h9 : x.kind = 9
    · have c3 : decide (x.kind ≠ 9) = false := decide_eq_false fun e => e h9
      have c5 : decide (x.kind ≠ 9 ∧ x.picks ≠ []) = false := decide_eq_false fun e => e.1 h9
      simp only [l0, bin_neq, c3, c5, wantV_ft, gPur_false, pickA_false, purK_some]
    · have c3 : decide (x.kind ≠ 9) = true := decide_eq_true h9
      have c5 : decide ((x.picks.length : Int) > 0) = decide (x.kind ≠ 9 ∧ x.picks ≠ []) := by
        rw [decide_eq_decide]
        constructor
        · intro h; exact ⟨h9, fun e => by rw [e] at h; simp at h⟩
        · intro h; have := List.length_pos_iff.2 h.2; omega
      simp only [l0, bin_neq, bin_gtr, c3, c5, l7, e0, wantV_tt, gPur_true, pickA_true, purK_some]
  rw [G3]
  clear G3
  by_cases g3 : x.kind ≠ 9 ∧ x.picks ≠ []
  · rw [decide_eq_true g3]
    simp only [wantV_tf, wantV_skip, gPur_false, gRes_false, pickA_true, purK_some, resK_some]
    exact bad fun v => g3.2 (v.2.2.1 g3.1)
  rw [decide_eq_false g3]
  simp only [wantV_ff, gPur_true, pickA_false, purK_some]
  have G4 : ∀ K : AV → Res, (purK (ld1 ρ H2 (.ptr n1 0 0)) fun x20 => purK (binA Tryd.prog H2 .gtr 3 x20 (.int .i64 3)) fun x21 => purK (gPur (wantV x21 true) (some (.ptr n1 0 1))) fun x23 => purK (gPur (wantV x21 true) (ld1 ρ H2 x23)) fun x24 => purK (gPur (wantV x21 true) (binA Tryd.prog H2 .neq 3 x24 (.int .i64 0))) fun x26 => purK (pickA x21 x26 (.bool false)) K) = K (.bool (decide (3 < x.kind ∧ x.s ≠ 0))) := fun K => by
    by_cases h9 : x.kind > 3
    · have c3 : decide (x.kind > 3) = true := decide_eq_true h9
      have c5 : decide (x.s ≠ 0) = decide (3 < x.kind ∧ x.s ≠ 0) := by
        rw [decide_eq_decide]
        exact ⟨fun h => ⟨h9, h⟩, fun h => h.2⟩
      simp only [l0, l1, bin_neq, bin_gtr, c3, c5, wantV_tt, gPur_true, pickA_true, purK_some]
    · have c3 : decide (x.kind > 3) = false := decide_eq_false h9
      have c5 : decide (3 < x.kind ∧ x.s ≠ 0) = false := decide_eq_false fun e => h9 e.1
      simp only [l0, bin_gtr, c3, c5, wantV_ft, gPur_false, pickA_false, purK_some]
  rw [G4]
  clear G4
  by_cases g4 : 3 < x.kind ∧ x.s ≠ 0
  · rw [decide_eq_true g4]
    simp only [wantV_tf, wantV_skip, gPur_false, gRes_false, pickA_true, purK_some, resK_some]
    exact bad fun v => g4.2 (v.2.2.2.1 g4.1)
  rw [decide_eq_false g4]
  simp only [wantV_ff, gPur_true, pickA_false, purK_some]
  have G5 : ∀ K : AV → Res, (purK (ld1 ρ H2 (.ptr n1 0 0)) fun x41 => purK (binA Tryd.prog H2 .lss 3 x41 (.int .i64 4)) fun x43 => purK (gPur (wantV x43 false) (some (.ptr n1 0 0))) fun x44 => purK (gPur (wantV x43 false) (ld1 ρ H2 x44)) fun x45 => purK (gPur (wantV x43 false) (binA Tryd.prog H2 .gtr 3 x45 (.int .i64 7))) fun x46 => purK (pickA x43 (.bool true) x46) fun x48 => purK (gPur (wantV x48 true) (some (.ptr n1 0 2))) fun x49 => purK (gPur (wantV x48 true) (ld1 ρ H2 x49)) fun x50 => purK (gPur (wantV x48 true) (binA Tryd.prog H2 .neq 3 x50 (.int .i64 0))) fun x51 => purK (pickA x48 x51 (.bool false)) K) = K (.bool (decide ((x.kind < 4 ∨ 7 < x.kind) ∧ x.n ≠ 0))) := fun K => by
    have c5 : (x.kind < 4 ∨ 7 < x.kind) → decide (x.n ≠ 0) = decide ((x.kind < 4 ∨ 7 < x.kind) ∧ x.n ≠ 0) := fun h9 => by
      rw [decide_eq_decide]
      exact ⟨fun h => ⟨h9, h⟩, fun h => h.2⟩
    by_cases h4 : x.kind < 4
    · have c3 : decide (x.kind < 4) = true := decide_eq_true h4
      have c5 := c5 (Or.inl h4)
      simp only [l0, l2, bin_lss, bin_neq, c3, c5, wantV_tt, wantV_tf, gPur_true, gPur_false, pickA_true, purK_some]
    · have c3 : decide (x.kind < 4) = false := decide_eq_false h4
      by_cases h7 : x.kind > 7
      · have c4 : decide (x.kind > 7) = true := decide_eq_true h7
        have c5 := c5 (Or.inr h7)
        simp only [l0, l2, bin_lss, bin_neq, bin_gtr, c3, c4, c5, wantV_tt, wantV_ff, gPur_true, pickA_true, pickA_false, purK_some]
      · have c4 : decide (x.kind > 7) = false := decide_eq_false h7
        have c6 : decide ((x.kind < 4 ∨ 7 < x.kind) ∧ x.n ≠ 0) = false := decide_eq_false fun e => e.1.elim h4 h7
        simp only [l0, bin_lss, bin_gtr, c3, c4, c6, wantV_ff, wantV_ft, gPur_true, gPur_false, pickA_false, purK_some]
  rw [G5]
  clear G5
  by_cases g5 : (x.kind < 4 ∨ 7 < x.kind) ∧ x.n ≠ 0
  · rw [decide_eq_true g5]
    simp only [wantV_tf, wantV_skip, gPur_false, gRes_false, pickA_true, purK_some, resK_some]
    exact bad fun v => g5.2 (v.2.2.2.2.1 g5.1)
  rw [decide_eq_false g5]
  simp only [wantV_ff, gPur_true, pickA_false, purK_some]
  have G6 : ∀ K : AV → Res, (purK (ld1 ρ H2 (.ptr n1 0 0)) fun x56 => purK (binA Tryd.prog H2 .neq 3 x56 (.int .i64 1)) fun x58 => purK (gPur (wantV x58 true) (some (.ptr n1 0 3))) fun x59 => purK (gPur (wantV x58 true) (ldN ρ H2 4 x59)) fun x60 => purK (gPur (wantV x58 true) (bldA [.int .i64 0, .str (ba []), .str (ba []), .int .u64 0] [])) fun x61 => purK (gPur (wantV x58 true) (binA Tryd.prog H2 .neq 40 x60 x61)) fun x62 => purK (pickA x58 x62 (.bool false)) K) = K (.bool (decide (x.kind ≠ 1 ∧ ¬ (x.ok = 0 ∧ x.key = [] ∧ x.val = [] ∧ x.on = 0)))) := fun K => by
    by_cases h9 : x.kind = 1
    · have c3 : decide (x.kind ≠ 1) = false := decide_eq_false fun e => e h9
      have c5 : decide (x.kind ≠ 1 ∧ ¬ (x.ok = 0 ∧ x.key = [] ∧ x.val = [] ∧ x.on = 0)) = false := decide_eq_false fun e => e.1 h9
      simp only [l0, bin_neq, c3, c5, wantV_ft, gPur_false, pickA_false, purK_some]
    · have c3 : decide (x.kind ≠ 1) = true := decide_eq_true h9
      have c5 : (!decide (x.ok = 0 ∧ ba x.key = ba [] ∧ ba x.val = ba [] ∧ (x.on : Int) = 0)) = decide (x.kind ≠ 1 ∧ ¬ (x.ok = 0 ∧ x.key = [] ∧ x.val = [] ∧ x.on = 0)) := by
        rw [← decide_not, decide_eq_decide, ba_inj, ba_inj]
        have : ((x.on : Int) = 0) = (x.on = 0) := by apply propext; omega
        rw [this]
        exact ⟨fun h => ⟨h9, h⟩, fun h => h.2⟩
      simp only [l0, l3, hz4, op_ne2, bin_neq, c3, c5, wantV_tt, gPur_true, pickA_true, purK_some]
  rw [G6]
  clear G6
  by_cases g6 : x.kind ≠ 1 ∧ ¬ (x.ok = 0 ∧ x.key = [] ∧ x.val = [] ∧ x.on = 0)
  · rw [decide_eq_true g6]
    simp only [wantV_tf, gPur_false, gRes_false, pickA_true, purK_some, resK_some]
    exact bad fun v => g6.2 (v.2.2.2.2.2.1 g6.1)
  rw [decide_eq_false g6]
  simp only [wantV_ff, gPur_true, gRes_true, pickA_false, purK_some, l1, sm, resK_some, un_not]
  by_cases g7 : small9 x.s
  · have c7 : decide (small9 x.s) = true := decide_eq_true g7
    simp only [c7, Bool.not_true, wantV_ff, gPur_true, gRes_true, pickA_false, purK_some, l2, sm, resK_some, un_not]
    by_cases g8 : small9 x.n
    · have c8 : decide (small9 x.n) = true := decide_eq_true g8
      simp only [c8, Bool.not_true, N16_13, condK_false]
      have e3 : x.kind ≠ 9 → x.picks = [] := fun e => Classical.byContradiction fun e2 => g3 ⟨e, e2⟩
      have e4 : 3 < x.kind → x.s = 0 := fun e => Classical.byContradiction fun e2 => g4 ⟨e, e2⟩
      have e5 : x.kind < 4 ∨ 7 < x.kind → x.n = 0 := fun e => Classical.byContradiction fun e2 => g5 ⟨e, e2⟩
      have e6 : x.kind ≠ 1 → x.ok = 0 ∧ x.key = [] ∧ x.val = [] ∧ x.on = 0 := fun e => Classical.byContradiction fun e2 => g6 ⟨e, e2⟩
      refine rl1 lf ln hW (hy.frame0 f12) h (by omega) ⟨by omega, by omega⟩ g7 g8 (fun H' f h32 hsm hop => ⟨f12.trans f, Or.inl ?_⟩) fun H' f hn => ⟨f12.trans f, Or.inr ⟨fun v => hn ?_, rfl⟩⟩
      · have v : validI x := ⟨by omega, by omega, e3, e4, e5, e6, g7, g8, h32, hsm, hop⟩
        exact ⟨v, by rw [lineP_tail x v]⟩
      · exact ⟨v.2.2.2.2.2.2.2.2.1, v.2.2.2.2.2.2.2.2.2.1, v.2.2.2.2.2.2.2.2.2.2⟩
    · have c8 : decide (small9 x.n) = false := decide_eq_false g8
      simp only [c8, Bool.not_false]
      exact bad fun v => g8 v.2.2.2.2.2.2.2.1
  · have c7 : decide (small9 x.s) = false := decide_eq_false g7
    simp only [c7, Bool.not_false, wantV_tf, gPur_false, gRes_false, pickA_true, purK_some, resK_some]
    exact bad fun v => g7 v.2.2.2.2.2.2.1
end
end Go.Proofs.YtnkeebchblfbgaaDoor

-- part PrW
/- The text of steps is read as these steps; far; the law. -/
set_option linter.unusedVariables false
set_option linter.unusedSimpArgs false
namespace Go.Proofs.YtnkeebchblfbgaaDoor
attribute [local congr] Go.Ev.cond_congr1
open Go.Ev Go.RowKit
theorem ten_qb : ∀ c : UInt8, (qb c).all (fun b => b != 10) = true := byte_all (P := fun c => (qb c).all (fun b => b != 10) = true) (by decide +kernel)
theorem ten_quote (s : Wd) : (10 : UInt8) ∉ quoteL s := by
  intro hb
  have h : (10 : UInt8) ∈ s.flatMap qb := by
    unfold quoteL at hb
    simpa using hb
  obtain ⟨c, _, hc⟩ := List.mem_flatMap.1 h
  have := List.all_eq_true.1 (ten_qb c) 10 hc
  cases this
theorem ten_dec (u : Nat) : (10 : UInt8) ∉ decL u := fun hb => by
  have := List.all_eq_true.1 (fixD_all (ndig u) u) 10 hb
  cases this
theorem ten_itoa {n : Int} (h : small9 n) : (10 : UInt8) ∉ itoaL n := by unfold itoaL; rw [if_pos h.1]; exact ten_dec _
theorem ten_joinT : ∀ (ws : List Wd), (∀ w ∈ ws, (10 : UInt8) ∉ w) → (10 : UInt8) ∉ joinT ws
  | [], _, h => by cases h
  | w :: ws, hw, h => by
    have e : joinT (w :: ws) = 32 :: (w ++ joinT ws) := by simp [joinT]
    rw [e] at h
    rcases List.mem_cons.1 h with h | h
    · cases h
    · rcases List.mem_append.1 h with h | h
      · exact hw w (by simp) h
      · exact ten_joinT ws (fun a ha => hw a (by simp [ha])) h
theorem ten_line {x : StI} (v : validI x) : (10 : UInt8) ∉ lineP x := by
  rw [lineP_tail x v]
  obtain ⟨h1, h2, h3, h4, h5, h6, h7, h8, h9, h10, h11⟩ := v
  have hs : (10 : UInt8) ∉ stepsT.getD x.kind.toNat [] := by
    have hl : x.kind.toNat < stepsT.length := by show _ < 11; omega
    have : ∀ w ∈ stepsT, (10 : UInt8) ∉ w := by decide
    rw [List.getD_eq_getElem?_getD, List.getElem?_eq_getElem hl]
    exact this _ (List.getElem_mem hl)
  have hop : x.kind = 1 → (10 : UInt8) ∉ opT x.ok x.key x.val x.on := fun k1 => by
    obtain ⟨o1, o2, _, _⟩ := h11 k1
    have ho : (10 : UInt8) ∉ opsT.getD x.ok.toNat [] := by
      have hl : x.ok.toNat < opsT.length := by show _ < 5; omega
      have : ∀ w ∈ opsT, (10 : UInt8) ∉ w := by decide
      rw [List.getD_eq_getElem?_getD, List.getElem?_eq_getElem hl]
      exact this _ (List.getElem_mem hl)
    have hk := ten_quote x.key
    have hv := ten_quote x.val
    have hd := ten_dec x.on
    unfold opT
    intro h
    simp only [List.mem_append, List.mem_cons] at h
    rcases h with ((h | h) | h) | h
    · rcases h with h | h
      · cases h
      · exact ho h
    · rcases h with h | h
      · cases h
      · exact hk h
    · split at h
      · rcases List.mem_cons.1 h with h | h
        · cases h
        · exact hv h
      · cases h
    · split at h
      · rcases List.mem_cons.1 h with h | h
        · cases h
        · exact hd h
      · cases h
  unfold tailP
  intro h
  simp only [List.mem_append] at h
  rcases h with h | ((h | h) | h) | h
  · exact hs h
  · split at h
    · rcases List.mem_cons.1 h with h | h
      · cases h
      · exact ten_itoa h7 h
    · cases h
  · split at h
    · rcases List.mem_cons.1 h with h | h
      · cases h
      · exact ten_itoa h8 h
    · cases h
  · refine ten_joinT _ (fun w hw => ?_) h
    obtain ⟨n, hn, rfl⟩ := List.mem_map.1 hw
    exact ten_itoa (h10 n hn)
  · split at h
    · exact hop (by assumption) h
    · cases h
theorem head_line {x : StI} (v : validI x) : ¬ (lineP x = [] ∨ (lineP x).head? = some 35) := by
  rw [lineP_tail x v]
  have hs : ∀ k : Fin 10, ∃ c w, stepsT.getD (k.val + 1) [] = c :: w ∧ c ≠ 35 := by
    intro k
    have : ∀ k : Fin 10, (stepsT.getD (k.val + 1) []).head?.all (fun c => c != 35) = true ∧ (stepsT.getD (k.val + 1) []) ≠ [] := by decide
    obtain ⟨q1, q2⟩ := this k
    cases hw : stepsT.getD (k.val + 1) [] with
    | nil => exact absurd hw q2
    | cons c w => rw [hw] at q1; exact ⟨c, w, rfl, by simpa using q1⟩
  obtain ⟨c, w, hw, hc⟩ := hs ⟨x.kind.toNat - 1, by have := v.1; have := v.2.1; omega⟩
  have : x.kind.toNat - 1 + 1 = x.kind.toNat := by have := v.1; omega
  simp only [this] at hw
  rw [hw]
  simp [hc]
theorem go_text : ∀ (xs : List StI) (n : Nat) (acc : List Stp), (∀ x ∈ xs, told x) → ∃ ys, ys.map ofStp = xs ∧ goP n (cutB 10 (textP xs)) acc = .steps (acc ++ ys) ∧ ∀ l ∈ cutB 10 (textP xs), l = [] ∨ ∃ x ∈ xs, l = lineP x
  | [], n, acc, _ => ⟨[], rfl, by rw [List.append_nil]; rfl, fun l hl => by
      have : cutB 10 (textP []) = [[]] := rfl
      rw [this] at hl
      exact Or.inl (by simpa using hl)⟩
  | x :: xs, n, acc, h => by
    obtain ⟨y, hy, he⟩ := h x (by simp)
    have v : validI x := he ▸ stepM_valid hy
    obtain ⟨ys, h1, h2, h3⟩ := go_text xs (n + 1) (acc ++ [y]) fun z hz => h z (by simp [hz])
    have ht : textP (x :: xs) = lineP x ++ 10 :: textP xs := by simp [textP]
    have hc : cutB 10 (textP (x :: xs)) = lineP x :: cutB 10 (textP xs) := by
      rw [ht, cutB_pre 10 _ _ fun b hb e => ten_line v (e ▸ hb)]
    refine ⟨y :: ys, by rw [List.map_cons, h1, he], ?_, fun l hl => ?_⟩
    · rw [hc]
      cases hr : cutB 10 (textP xs) with
      | nil => exact absurd hr (cutB_ne _ _)
      | cons a r =>
        rw [goP, if_neg (head_line v), hy]
        simp only
        rw [← hr, h2]
        simp
    · rw [hc] at hl
      rcases List.mem_cons.1 hl with rfl | hl
      · exact Or.inr ⟨x, by simp, rfl⟩
      · rcases h3 l hl with h | ⟨z, hz, rfl⟩
        · exact Or.inl h
        · exact Or.inr ⟨z, by simp [hz], rfl⟩
section
variable {ρ : Addr → Option Value} {k : Nat} {H H0 H' : Heap} {N N' : Nat → Prop}
theorem rps_of : ∀ {rows : List (List AV)} {ys : List Stp}, RIs ρ H rows (ys.map ofStp) → RPs ρ H Nop rows ys
  | [], [], _ => trivial
  | r :: rs, x :: xs, ⟨⟨y, h1, h2⟩, h4⟩ => ⟨⟨y, h1.trans (stc_sti x y).symm, (by
      have : (ofStp x).picks = x.picks.map fun n : Nat => (n : Int) := rfl
      rw [this, zrow_nat] at h2; exact h2), fun t _ e => e⟩, rps_of h4⟩
  | [], _ :: _, h => h.elim
  | _ :: _, [], h => h.elim
/-- What is known of a step in its row. -/
theorem at_sti {x : AV} {rows : List (List AV)} {i : Nat} {s : StI} {y : AV} (hE : Els ρ H 8 x rows) (h : rows[i]? = some (sti s y)) :
    ixS 8 x (.int .i64 (i : Nat)) = some (elp 8 x i 0) ∧ (∀ off, off ≤ 7 → addA off (elp 8 x i 0) = some (elp 8 x i off)) ∧ (∀ off v, off < 8 → (sti s y)[off]? = some v → ld1 ρ H (elp 8 x i off) = some v) ∧ ldN ρ H 8 (elp 8 x i 0) = some (.agg (sti s y)) ∧ ∀ off m, off + m ≤ 7 → addA m (elp 8 x i off) = some (elp 8 x i (off + m)) := by
  obtain ⟨hi, e⟩ := List.getElem?_eq_some_iff.1 h
  refine ⟨hE.ix .i64 (i : Int) (by omega) (by omega), fun off ho => ?_, fun off v ho hv => ?_, ?_, fun off m ho => ?_⟩
  · have := elp_add hE i 0 off hi
    rwa [Nat.zero_add] at this
  · rw [hE.ld1 i off hi ho, e, hv]
  · have := hE.ldN i hi
    rwa [e] at this
  · exact elp_add hE i off m hi
def awT : Wd := [97, 115, 107, 32, 48, 32, 97, 100, 100, 32, 61, 107, 32, 53, 10]
theorem awM : parseM awT = .steps [⟨1, 0, 0, ⟨3, [107], [], 5⟩, []⟩] := by kernel_rfl
theorem awU : unquoteL [61, 37, 52, 49] = none := by kernel_rfl
theorem awake_ret (R : RT ρ) (hk : 100000 ≤ k) : ∃ H, evCall (cx ρ) k 0 6 [] Heap.nil = some (.bool true, H) := by
  obtain ⟨k, rfl⟩ : ∃ q, k = q + 1 := ⟨k - 1, by omega⟩
  have : Ret (fun v _ => v = .bool true) (evCall (cx ρ) (k + 1) 0 6 [] Heap.nil) := by
    have b1 : ByteArray.mk #[97, 115, 107, 32, 48, 32, 97, 100, 100, 32, 61, 107, 32, 53, 10] = ba awT := rfl
    have b2 : ByteArray.mk #[61, 37, 52, 49] = ba [61, 37, 52, 49] := rfl
    rw [E6]
    simp only [L6, b1, b2]
    refine Ret.bind (parse_spec R awT (by show 15 ≤ 5000; decide) (by omega)) ?_
    rintro v H1 ⟨_, hc⟩
    rw [awM] at hc
    obtain ⟨y, rows, rfl, hE, hP⟩ := hc
    simp only [extA_0, extA_1, extA_2, purK_some]
    refine Ret.bind (uq_spec [61, 37, 52, 49] (by show 4 ≤ 10000; decide) (by show 4 + 20 ≤ k; omega)) ?_
    rintro v H2 ⟨rfl, f2⟩
    rw [awU]
    have e0 := (hE.frame0 f2).lenS
    rw [hP.len] at e0
    obtain ⟨z, g, _⟩ := hP.get 0 (by show 0 < 1; decide)
    obtain ⟨x1, xa, xl, xn⟩ := at_stc (hE.frame0 f2) g
    have a6 : addA 3 (elp 8 y 0 3) = some (elp 8 y 0 6) := elp_add (hE.frame0 f2) 0 3 3 (List.getElem?_eq_some_iff.1 g).1
    have x1 : ixS 8 y (.int .i64 0) = some (elp 8 y 0 0) := x1
    have l6 := xl 6 _ (by decide) rfl
    have t1 : decide ((([⟨1, 0, 0, ⟨3, [107], [], 5⟩, []⟩] : List Stp).length : Int) = 1) = true := rfl
    have t2 : decide ((0 : Int) = 0) = true := rfl
    have t3 : decide ((((5 : Nat) : Int)) = 5) = true := rfl
    have t4 : decide ((4 : Int) = 4) = true := rfl
    simp only [uqV, extA_0, extA_1, purK_some, e0, bin_eql, t1, wantV_tt, gPur_true, pickA_true, x1, xa 3 (by decide), a6, l6, t3, decide_true, List.getElem_cons_zero, retK_one]
    exact .intro rfl
  obtain ⟨v, H, h, rfl⟩ := this
  exact ⟨H, h⟩
structure nearI (x : StI) : Prop where
  key : x.key.length ≤ 200
  val : x.val.length ≤ 200
  pk : x.picks.length ≤ 50
theorem far_spec {x : AV} {rows : List (List AV)} {xs : List StI} (hE : Els ρ H 8 x rows) (hP : RIs ρ H rows xs) (hk : 1000 ≤ k) : Ret (fun v H' => H' = H ∧ (v = .bool true ∨ v = .bool false ∧ xs.length ≤ 60 ∧ ∀ s ∈ xs, nearI s)) (evCall (cx ρ) k 0 14 [x] H) := by
  obtain ⟨k, rfl⟩ : ∃ q, k = q + 1 := ⟨k - 1, by omega⟩
  have ex := hE.lenS
  rw [hP.len] at ex
  rw [E14]
  by_cases h60 : xs.length ≤ 60
  · have c0 : decide ((xs.length : Int) > 60) = false := decide_eq_false (by omega)
    simp only [L14, ex, bin_gtr, c0, purK_some, condK_false, N14_2, N14_3]
    refine Ret.loop (fun m (z : AV) H' => ∃ i : Nat, z = .int .i64 i ∧ m = xs.length - i ∧ i ≤ xs.length ∧ H' = H ∧ ∀ s ∈ xs.take i, nearI s) ?_ xs.length _ _ H
      ⟨0, rfl, rfl, by omega, rfl, by simp⟩ (by omega)
    rintro m z H' kn ⟨i, rfl, rfl, hi, rfl, hN⟩ next
    by_cases hlt : i < xs.length
    · have c1 : decide (((i : Nat) : Int) < (xs.length : Nat)) = true := decide_eq_true (by omega)
      obtain ⟨yp, g1, q1⟩ := hP.get i hlt
      obtain ⟨x1, xa, xl, xn, xb⟩ := at_sti hE g1
      have htk : xs.take (i + 1) = xs.take i ++ [xs[i]] := by rw [List.take_add_one, List.getElem?_eq_getElem hlt]; rfl
      have ep := q1.lenS
      rw [zrow_len] at ep
      generalize xs[i] = s at *
      have a3 := xa 3 (by decide)
      have a31 : addA 1 (elp 8 x i 3) = some (elp 8 x i 4) := xb 3 1 (by decide)
      have a32 : addA 2 (elp 8 x i 3) = some (elp 8 x i 5) := xb 3 2 (by decide)
      have a7 := xa 7 (by decide)
      have l4 := xl 4 _ (by decide) rfl
      have l5 := xl 5 _ (by decide) rfl
      have l7 := xl 7 _ (by decide) rfl
      have far : Ret (fun v H'' => H'' = H' ∧ (v = .bool true ∨ v = .bool false ∧ xs.length ≤ 60 ∧ ∀ s ∈ xs, nearI s)) (N14_5 ρ (evCall (cx ρ) k) (evCY (cx ρ) k).2 0 k x (.int .i64 i) (.bool true) H' (fun x3_1 H => N14_4 ρ (evCall (cx ρ) k) (evCY (cx ρ) k).2 0 k x x3_1 H kn) retK) := by
        simp only [N14_5, condK_true, retK_one]
        exact .intro ⟨rfl, Or.inl rfl⟩
      by_cases g1 : s.key.length > 200
      · have d1 : decide ((s.key.length : Int) > 200) = true := decide_eq_true (by omega)
        simp only [N14_3b, ex, bin_lss, c1, x1, a3, a31, l4, lenT_ba, bin_gtr, d1, wantV_tf, gPur_false, pickA_true, purK_some, condK_true]
        exact far
      have d1 : decide ((s.key.length : Int) > 200) = false := decide_eq_false (by omega)
      by_cases g2 : s.val.length > 200
      · have d2 : decide ((s.val.length : Int) > 200) = true := decide_eq_true (by omega)
        simp only [N14_3b, ex, bin_lss, c1, x1, a3, a31, a32, l4, l5, lenT_ba, bin_gtr, d1, d2, wantV_tf, wantV_ff, gPur_true, gPur_false, pickA_true, pickA_false, purK_some, condK_true]
        exact far
      have d2 : decide ((s.val.length : Int) > 200) = false := decide_eq_false (by omega)
      by_cases g3 : s.picks.length > 50
      · have d3 : decide ((s.picks.length : Int) > 50) = true := decide_eq_true (by omega)
        simp only [N14_3b, ex, bin_lss, c1, x1, a3, a31, a32, a7, l4, l5, l7, ep, lenT_ba, bin_gtr, d1, d2, d3, wantV_ff, gPur_true, pickA_false, purK_some, condK_true]
        exact far
      have d3 : decide ((s.picks.length : Int) > 50) = false := decide_eq_false (by omega)
      simp only [N14_3b, ex, bin_lss, c1, x1, a3, a31, a32, a7, l4, l5, l7, ep, lenT_ba, bin_gtr, d1, d2, d3, wantV_ff, gPur_true, pickA_false, purK_some, condK_true, N14_5, N14_4, condK_false, bin_add, wrap_succN i (by omega : i + 1 < 9223372036854775808)]
      refine next (xs.length - (i + 1)) _ _ (by omega) ⟨i + 1, rfl, rfl, by omega, rfl, ?_⟩
      rw [htk]
      intro a ha
      rcases List.mem_append.1 ha with ha | ha
      · exact hN a ha
      · simp at ha; subst ha; exact ⟨by omega, by omega, by omega⟩
    · have c1 : decide (((i : Nat) : Int) < (xs.length : Nat)) = false := decide_eq_false (by omega)
      obtain rfl : i = xs.length := by omega
      rw [List.take_length] at hN
      simp only [N14_3b, N14_1, ex, bin_lss, c1, purK_some, condK_false, retK_one]
      exact .intro ⟨rfl, Or.inr ⟨rfl, h60, hN⟩⟩
  · have c0 : decide ((xs.length : Int) > 60) = true := decide_eq_true (by omega)
    simp only [L14, ex, bin_gtr, c0, purK_some, condK_true, retK_one]
    exact .intro ⟨rfl, Or.inl rfl⟩
structure rngI (x : StI) : Prop where
  kind : rng x.kind
  s : rng x.s
  n : rng x.n
  ok : rng x.ok
  on : x.on < 18446744073709551616
  pks : ∀ n ∈ x.picks, rng n
theorem prints_ret (R : RT ρ) {x : AV} {rows : List (List AV)} {xs : List StI} (hE : ∀ H, Els ρ H 8 x rows) (hP : ∀ H, RIs ρ H rows xs) (hr : ∀ s ∈ xs, rngI s) (hK : 200000 ≤ k) (hA : ∃ H, evCall (cx ρ) k 0 6 [] Heap.nil = some (.bool true, H)) : Ret (fun v H' => v = .bool true) (evCall (cx ρ) (k + 1) 0 5 [x] Heap.nil) := by
  obtain ⟨H0, hA⟩ := hA
  rw [E5]
  simp only [L5, hA, resK_some, un_not, Bool.not_true, condK_false, purK_some]
  refine Ret.bind (far_spec (hE H0) (hP H0) (by omega)) ?_
  rintro v H1 ⟨rfl, rfl | ⟨rfl, h60, hN⟩⟩
  · simp only [condK_true, retK_one]
    exact .intro rfl
  simp only [condK_false]
  have hok : ∀ s ∈ xs, okI s := fun s hs => ⟨(hr s hs).kind, (hr s hs).s, (hr s hs).n, (hr s hs).ok, (hN s hs).key, (hN s hs).val, (hr s hs).on, (hN s hs).pk, (hr s hs).pks⟩
  have htv : ∀ s ∈ xs, (told s ↔ validI s) := fun s hs => told_iff s (by have := (hr s hs).on; unfold m64; omega)
  refine Ret.bind (print_spec R (hE H1) (hP H1) hok h60 (by omega)) ?_
  rintro v H2 ⟨_, hv⟩
  obtain ⟨t, e, rfl, hte⟩ : ∃ (t : Wd) (e : Int), v = .tup [.str (ba t), .int .i64 e] ∧ (((∀ s ∈ xs, told s) ∧ t = textP xs ∧ e = 0) ∨ (¬ (∀ s ∈ xs, told s) ∧ t = [] ∧ e = 1)) := by
    rcases hv with ⟨h1, h2⟩ | ⟨h1, h2⟩
    · exact ⟨_, _, h2, Or.inl ⟨h1, rfl, rfl⟩⟩
    · exact ⟨_, _, h2, Or.inr ⟨h1, rfl, rfl⟩⟩
  simp only [extA_0, extA_1, purK_some, N5_2, N5_3, emp1]
  refine Ret.loop (fun m (z : AV × AV) H' => ∃ i : Nat, z.1 = .str (ba (textP (xs.take i))) ∧ z.2 = .int .i64 i ∧ m = xs.length - i ∧ i ≤ xs.length ∧ ∀ s ∈ xs.take i, told s) ?_ xs.length _ _ H2
    ⟨0, rfl, rfl, rfl, by omega, by simp⟩ (by omega)
  rintro m ⟨z5, z6⟩ H' kn ⟨i, hz5, hz6, rfl, hi, hT⟩ next
  simp only at hz5 hz6
  subst hz5; subst hz6
  have ex := (hE H').lenS
  rw [(hP H').len] at ex
  have htl : (textP (xs.take i)).length ≤ 100000 := by
    have := textP_len (xs := xs.take i) fun s hs => hok s (List.mem_of_mem_take hs)
    rw [List.length_take] at this
    omega
  by_cases hlt : i < xs.length
  · have c1 : decide (((i : Nat) : Int) < (xs.length : Nat)) = true := decide_eq_true (by omega)
    obtain ⟨yp, g1, q1⟩ := (hP H').get i hlt
    obtain ⟨x1, xa, xl, xn, xb⟩ := at_sti (hE H') g1
    have htk : xs.take (i + 1) = xs.take i ++ [xs[i]] := by rw [List.take_add_one, List.getElem?_eq_getElem hlt]; rfl
    have hmem : xs[i] ∈ xs := List.getElem_mem hlt
    generalize xs[i] = s at *
    have hsl := lineP_len (hok s hmem)
    simp only [N5_3b, ex, bin_lss, c1, x1, xn, purK_some, condK_true]
    refine Ret.bind (rline_spec q1 (hok s hmem) (by omega)) ?_
    rintro v H3 ⟨_, hv⟩
    rcases hv with ⟨hv1, rfl⟩ | ⟨hv1, rfl⟩
    · simp only [extA_0, extA_1, un_not, Bool.not_true, condK_false, purK_some, N5_4, b10, bin_scatB _ _ _ (textP (xs.take i)) (lineP s) (by omega), bin_scatB _ _ _ (textP (xs.take i) ++ lineP s) [10] (by simp only [List.length_append, List.length_cons, List.length_nil]; omega), bin_add, wrap_succN i (by omega : i + 1 < 9223372036854775808)]
      refine next (xs.length - (i + 1)) _ _ (by omega) ⟨i + 1, ?_, rfl, rfl, by omega, ?_⟩
      · simp only
        rw [htk, textP_snoc, List.append_assoc]
      · rw [htk]
        intro a ha
        rcases List.mem_append.1 ha with ha | ha
        · exact hT a ha
        · simp at ha; subst ha; exact (htv _ hmem).2 hv1
    · rcases hte with ⟨h1, _, _⟩ | ⟨_, rfl, rfl⟩
      · exact absurd ((htv _ hmem).1 (h1 s hmem)) hv1
      have ce : decide (([] : Wd) = []) = true := rfl
      have ce1 : decide ((1 : Int) = 1) = true := rfl
      simp only [extA_0, extA_1, un_not, Bool.not_false, condK_true, purK_some, emp1, bin_seqB, retK_one]
      exact .intro rfl
  · have c1 : decide (((i : Nat) : Int) < (xs.length : Nat)) = false := decide_eq_false (by omega)
    obtain rfl : i = xs.length := by omega
    rw [List.take_length] at hT htl
    rw [List.take_length]
    obtain ⟨rfl, rfl⟩ : t = textP xs ∧ e = 0 := hte.elim (fun h => h.2) fun h => absurd hT h.1
    obtain ⟨ys, hy1, hy2, hy3⟩ := go_text xs 1 [] hT
    have hpm : parseM (textP xs) = .steps ys := by unfold parseM; rw [hy2]; rfl
    simp only [N5_3b, N5_1, ex, bin_lss, c1, purK_some, condK_false]
    refine Ret.bind (parse_specL R (textP xs) htl (fun l hl => ?_) (by omega) (by omega)) ?_
    · rcases hy3 l hl with rfl | ⟨z, hz, rfl⟩
      · simp
      · have := lineP_len (hok z hz); omega
    rintro v H3 ⟨_, hc⟩
    rw [hpm] at hc
    obtain ⟨y2, r2, rfl, e2, p2⟩ := hc
    have ce : decide (textP xs = textP xs) = true := by simp
    have ce1 : decide ((0 : Int) = 0) = true := rfl
    simp only [extA_0, extA_1, extA_2, purK_some, bin_seqB, decide_true, bin_eql, wantV_tt, gPur_true, gRes_true, pickA_true]
    have hyl : ys.length = xs.length := by rw [← hy1, List.length_map]
    refine Ret.bind (same_spec (xs := ys) (hE H3) e2 (rps_of (by rw [hy1]; exact hP H3)) p2 (by omega) (fun s hs => ?_) (by omega)) ?_
    · have hm : ofStp s ∈ xs := hy1 ▸ List.mem_map_of_mem hs
      have := (hN _ hm).pk
      have e : (ofStp s).picks.length = s.picks.length := List.length_map ..
      omega
    rintro v H4 ⟨rfl, rfl⟩
    simp only [pickA_true, wantV_tt, gPur_true, bin_eql, decide_true, purK_some, retK_one]
    exact .intro rfl
end
end Go.Proofs.YtnkeebchblfbgaaDoor

-- part PrX
/- ScriptPrints: the call, whatever the slice holds. -/
set_option linter.unusedVariables false
set_option linter.unusedSimpArgs false
namespace Go.Proofs.YtnkeebchblfbgaaDoor
open Go.Ev Go.RowKit Go.ChangeShapes Go.WideShapes
theorem rt_cell {W : World} {a b : Addr} (h : Reads (cx (ρS a b)) W) : RT (fun x => W.cell? x) :=
  have g : ∀ x v, ρS a b x = some v → W.cell? x = some v := fun x v e => (h x v e).2
  { pow := fun t ht => g _ _ ((rt_of a b).pow t ht)
    e6 := by obtain ⟨t, x, q⟩ := (rt_of a b).e6; exact ⟨t, x, g _ _ q⟩
    e7 := by obtain ⟨t, x, q⟩ := (rt_of a b).e7; exact ⟨t, x, g _ _ q⟩
    steps := fun i w q => g _ _ ((rt_of a b).steps i w q)
    ops := fun i w q => g _ _ ((rt_of a b).ops i w q) }
def vals8 (kd s n ok : Int) (key val : ByteArray) (on : Int) (p : Option Addr) (m c : Nat) : List Value := [.int .i64 kd, .int .i64 s, .int .i64 n, .int .i64 ok, .string key, .string val, .int .u64 on, .slice p m c]
theorem rng_of {n : Int} (h : (Lit.int .i64 n).wf = true) : rng n := by
  unfold rng
  simp [Lit.wf, IntKind.min, IntKind.max, IntKind.bits, IntKind.signed] at h
  omega
theorem u64_of {n : Int} (h : (Lit.int .u64 n).wf = true) : 0 ≤ n ∧ n < 18446744073709551616 := by
  simp [Lit.wf, IntKind.min, IntKind.max, IntKind.bits, IntKind.signed] at h
  omega
structure RawP where
  st : StI
  p : Option Addr
  m : Nat
  c : Nat
def RawP.vals (d : RawP) : List Value := vals8 d.st.kind d.st.s d.st.n d.st.ok (ba d.st.key) (ba d.st.val) (d.st.on : Nat) d.p d.m d.c
theorem cells_vals (d : RawP) (h0 : d.p = none → d.m = 0 ∧ d.c = 0) : d.vals.map ofCell = sti d.st (argSl d.p d.m d.c) := by
  obtain ⟨st, p, m, c⟩ := d
  cases p with
  | none =>
    obtain ⟨rfl, rfl⟩ := h0 rfl
    rfl
  | some a => rfl
theorem ris_of {W : World} : ∀ (ds : List RawP) (H : Heap), (∀ d ∈ ds, ∀ H, Els (fun a => W.cell? a) H 1 (argSl d.p d.m d.c) (zrow d.st.picks)) → RIs (fun a => W.cell? a) H (ds.map fun d => sti d.st (argSl d.p d.m d.c)) (ds.map RawP.st)
  | [], _, _ => trivial
  | d :: ds, H, h => ⟨⟨_, rfl, h d (by simp) H⟩, ris_of ds H fun e he => h e (by simp [he])⟩
theorem walkP {Hh : Type} {enc : TypeId × Value → Hh} {W : World} {base : Nat} {spare : Nat → Bool} {held : Bool} {p : Option Addr} {n c : Nat} {dd : DataW Hh} {ps : List MemPlace} (hL : laidMet Tryd.prog Rows.scriptPrintsRow.laid W) (h : DataW.Trod enc Tryd.prog W base spare held 23 (.slice p n c) dd ps) :
    Calls Tryd.prog 5 #[.slice p n c] W fun e w' => e = .returned (.bool true) ∧ Below W.heap.size W w' := by
  obtain ⟨els, hl, hc, hnc, hf, hE, hR⟩ := open_slice_trod (ks := [.int .i64, .int .i64, .int .i64, .int .i64, .str, .str, .int .u64, .sl]) 20 Tryd.underlying23 (by kernel_rfl) (by kernel_rfl) h
  obtain ⟨ds, rfl, hds⟩ := exists_map (f := RawP.vals) (Q := fun d => (d.p = none → d.m = 0 ∧ d.c = 0) ∧ rngI d.st ∧ ∀ H, Els (fun a => W.cell? a) H 1 (argSl d.p d.m d.c) (zrow d.st.picks)) els fun r hr => by
    obtain ⟨hfit, fuel, x, hx⟩ := hf r hr
    obtain ⟨_, _, rfl, ⟨kd, rfl, w1⟩, _, _, rfl, ⟨s, rfl, w2⟩, _, _, rfl, ⟨n, rfl, w3⟩, _, _, rfl, ⟨ok, rfl, w4⟩, _, _, rfl, ⟨key, rfl, _⟩, _, _, rfl, ⟨val, rfl, _⟩, _, _, rfl, ⟨on, rfl, w5⟩, _, _, rfl, ⟨q, m, c, rfl⟩, rfl⟩ := hfit
    obtain ⟨dd2, ps2, h2⟩ := field_slice (i := 4) (p := q) (n := m) (c := c) Tryd.underlying43 rfl (by kernel_rfl) rfl hx
    obtain ⟨es, _, _, _, hfe, hEe, hRe⟩ := open_slice (ks := [.int .i64]) 20 Tryd.underlying41 (by kernel_rfl) (by kernel_rfl) h2
    obtain ⟨l, rfl, hlq⟩ := exists_map (f := fun n : Int => [Value.int .i64 n]) (Q := fun n => rng n) es fun r hr => by
      obtain ⟨_, _, rfl, ⟨z, rfl, wz⟩, rfl⟩ := hfe r hr
      exact ⟨z, rfl, rng_of wz⟩
    have hu := u64_of w5
    refine ⟨⟨⟨kd, s, n, ok, bs key, bs val, on.toNat, l⟩, q, m, c⟩, ?_, ?_, ⟨rng_of w1, rng_of w2, rng_of w3, rng_of w4, by simp only; omega, hlq⟩, fun H => ?_⟩
    · simp only [RawP.vals, vals8, ba_bs]
      rw [show ((on.toNat : Nat) : Int) = on by omega]
    · intro e
      simp only at e
      subst e
      have := hRe ⟨fun _ => none, fun _ => 0⟩ Heap.nil
      have : Value.slice none m c = .slice none 0 0 := this
      injection this with _ h1 h2
      exact ⟨h1, h2⟩
    · have := hEe H
      rw [List.map_map] at this
      exact this
  have hx0 : ∀ Hp, Els (fun a => W.cell? a) Hp 8 (argSl p n c) (ds.map fun d => sti d.st (argSl d.p d.m d.c)) := fun Hp => by
    have := hE Hp
    rw [List.map_map] at this
    have e : ds.map ((fun r => List.map ofCell r) ∘ RawP.vals) = ds.map fun d => sti d.st (argSl d.p d.m d.c) := List.map_congr_left fun d hd => cells_vals d (hds d hd).1
    rw [e] at this
    exact this
  obtain ⟨a, b, hr⟩ := reads_S hL
  have R := rt_cell hr
  obtain ⟨v, H1, hrun, rfl⟩ := prints_ret R hx0 (fun H => ris_of ds H fun d hd => (hds d hd).2.2) (fun s hs => by
    obtain ⟨d, hd, rfl⟩ := List.mem_map.1 hs
    exact (hds d hd).2.1) (k := 200000) (by omega) (awake_ret R (by omega))
  exact calls_of_run_reads (C := cx fun a => W.cell? a) (vs := [.slice p n c]) (reads_cell _ _ rfl) (by kernel_rfl) (cx_ext _) Tryd.func5 rfl hrun ⟨_, _, rfl, hR _ _, rfl⟩
end Go.Proofs.YtnkeebchblfbgaaDoor
