/- Part 7: SoB SoC SxW SwG SxH SwL SoE SoD. -/
import Derived.Test.YtnkeebchblfbgaaDoorBnF
import Derived.Test.YtnkeebchblfbgaaDoorBnC
import Derived.OpenShut
import Derived.ChangeArms
import Derived.Test.YtnkeebchblfbgaaDoorRows
import Derived.Handed
import Derived.LaidLaws
import Derived.Deep.DeepLaidRun
import Derived.Stop.LaidErr
import Derived.WalkKit
-- part SoB
/- Parse, the reference's. -/
set_option linter.unusedVariables false
set_option linter.unusedSimpArgs false
namespace Go.Proofs.YtnkeebchblfbgaaDoor
attribute [local congr] Go.Ev.cond_congr1
open Go.Ev Go.RowKit
section
variable {ρ : Addr → Option Value} {k : Nat} {H H0 H' : Heap} {N N' : Nat → Prop}
theorem goP_one (n : Nat) (l : Wd) (acc : List Stp) : goP n [l] acc = if l = [] then .steps acc else .bad n := by rw [goP]
theorem goP_two (n : Nat) (l a : Wd) (r : List Wd) (acc : List Stp) : goP n (l :: a :: r) acc = if l = [] ∨ l.head? = some 35 then goP (n + 1) (a :: r) acc else match stepM l with
    | none => .bad n
    | some x => goP (n + 1) (a :: r) (acc ++ [x]) := by rw [goP]; rfl
/-- What the reference's Parse tells. -/
def RPP (ρ : Addr → Option Value) (H : Heap) (text : Wd) (v : AV) (H' : Heap) : Prop := Fr Nop H H' ∧ match parseM text with
  | .steps xs => ∃ y rows, v = .tup [y, .int .i64 0, .int .i64 0] ∧ Els ρ H' 8 y rows ∧ RPs ρ H' Nop rows xs
  | .bad m => v = .tup [.nils, .int .i64 (m : Nat), .int .i64 4]
theorem rparse_spec (text : Wd) (hl : text.length ≤ 5000) (hk : 60000 ≤ k) : Ret (RPP ρ H text) (evCall (cx ρ) k 0 8 [.str (ba text)] H) := by
  obtain ⟨k, rfl⟩ : ∃ q, k = q + 1 := ⟨k - 1, by omega⟩
  rw [E8]
  have c0 : decide ((text.length : Int) > 100000) = false := decide_eq_false (by omega)
  simp only [L8, lenT_ba, bin_gtr, c0, purK_some, condK_false]
  refine Ret.bind (rc_spec text 10 (by omega) (by omega)) ?_
  rintro ls H1 ⟨hE, f1, hlz, hlsx⟩
  have hbl0 : bldS H1 43 8 z8L 0 [] = some (.sl H1.sz 0 0 0 0 false, .new (.cells 0 43 (0, 0) false [])) := rfl
  simp only [z8L] at hbl0
  simp only [emp2, hbl0]
  refine (St.start Nop H1).newS fun p H2 s2 hz2 f2 => ?_
  have F0 : GF H2 43 8 (.sl p 0 0 0 0 false) [] := Or.inl ⟨rfl, rfl, rfl, rfl, s2.lt' 0 rfl, by simp, (0, 0), false, s2.at 0 rfl⟩
  have hE2 := hE.frame0 f2
  have hlen := cutB_len 10 text
  have hwl : ∀ a ∈ cutB 10 text, a.length ≤ 5000 := fun a ha => Nat.le_trans (cutB_word 10 text a ha) hl
  have hls : ∀ t, ls.lies t → t < p := fun t ht => Nat.lt_of_lt_of_le (hE.lies_lt t ht) hz2
  generalize hcl : cutB 10 text = lines at hE2 hlen hwl
  have hpm : parseM text = goP 1 lines [] := by unfold parseM; rw [hcl]
  simp only [N8_2, N8_3]
  refine Ret.loop (fun m (x : AV × AV) H' => ∃ (i : Nat) (acc : List Stp) (rows : List (List AV)), x.2 = .int .i64 i ∧ m = lines.length - i ∧ i ≤ lines.length ∧ goP (i + 1) (lines.drop i) acc = parseM text ∧ GF H' 43 8 x.1 rows ∧ RPs ρ H' x.1.lies rows acc ∧
    rows.length ≤ i ∧ (∀ t, x.1.lies t → p ≤ t) ∧ Fr Nop H H' ∧ Els ρ H' 1 ls (srow lines) ∧ p < H'.sz) ?_ lines.length _ _ H2
    ⟨0, [], [], rfl, rfl, by omega, hpm.symm, F0, trivial, by simp, fun t (q : p = t) => by omega, f1.trans f2, hE2, s2.lt' 0 rfl⟩ (by omega)
  rintro m ⟨y, x7⟩ H' kn ⟨i, acc, rows, hx7, rfl, hi, hgo, hG, hP, hb1, hY, hF, hE', hps⟩ next
  simp only at hx7 hG hP hY
  subst hx7
  have e0 := hE'.lenS
  rw [srow_len] at e0
  have hi1 := wrap_succN i (by omega)
  have hk8 : ∀ (call : CallF) (yc : YieldF) (x5 y' : AV) (n : Nat) (H2 : Heap) (kk : AV → AV → Heap → Res), n < 100000 → N8_4 ρ call yc 0 k x5 y' (.int .i64 n) H2 kk = kk y' (.int .i64 ((n + 1 : Nat) : Int)) H2 := fun call yc x0 y' n H2 kk hn => by
    simp only [N8_4, bin_add, wrap_succN n (by omega), purK_some]
  by_cases hge : lines.length ≤ i
  · have c1 : decide (((i : Nat) : Int) < (lines.length : Nat)) = false := decide_eq_false (by clear hi1; omega)
    simp only [N8_3b, N8_1, e0, bin_lss, c1, purK_some, condK_false, retK_two]
    rw [List.drop_eq_nil_of_le (by clear hi1; omega), goP] at hgo
    refine .intro ⟨hF, ?_⟩
    rw [← hgo]
    exact ⟨y, rows, rfl, hG.toEls, hP.mono fun t _ e => e.elim⟩
  have hlt : i < lines.length := by clear hi1; omega
  have c1 : decide (((i : Nat) : Int) < (lines.length : Nat)) = true := decide_eq_true (by clear hi1; omega)
  have hli : lines[i]? = some lines[i] := List.getElem?_eq_getElem hlt
  obtain ⟨x1, x2⟩ := at_srow hE' i lines[i] hli
  have hll : lines[i].length ≤ 5000 := hwl _ (List.getElem_mem hlt)
  have hdrop := List.drop_eq_getElem_cons hlt
  generalize hline : lines[i] = line at *
  -- the last one?
  have hlast : ∃ la : Bool, decide (((i : Nat) : Int) = ((lines.length - 1 : Nat) : Int)) = la ∧ (la = true → lines.drop (i + 1) = []) ∧ (la = false → ∃ a r, lines.drop (i + 1) = a :: r) := by
    by_cases h : i = lines.length - 1
    · refine ⟨true, decide_eq_true (by clear hi1; omega), fun _ => List.drop_eq_nil_of_le (by clear hi1; omega), fun e => by cases e⟩
    · refine ⟨false, decide_eq_false (by clear hi1; omega), (fun e => by cases e), fun _ => ?_⟩
      have : i + 1 < lines.length := by clear hi1; omega
      exact ⟨_, _, List.drop_eq_getElem_cons this⟩
  obtain ⟨la, hla, hla1, hla0⟩ := hlast
  have e26 : ∀ H, binA Tryd.prog H .sub 3 (.int .i64 (lines.length : Nat)) (.int .i64 1) = some (.int .i64 ((lines.length - 1 : Nat) : Int)) := fun H => by rw [bin_sub, wrap_predN lines.length (by clear hi1; omega) (by clear hi1; omega)]
  have skip : (line = [] ∨ la = false ∧ line.head? = some 35) → Ret (RPP ρ H text) (kn (y, .int .i64 ((i + 1 : Nat) : Int)) H') := fun hsk => by
    refine next (lines.length - (i + 1)) _ H' (by clear hi1; omega) ⟨i + 1, acc, rows, rfl, rfl, by clear hi1; omega, ?_, hG, hP, by clear hi1; omega, hY, hF, hE', hps⟩
    rw [← hgo, hdrop]
    cases hla' : la with
    | true =>
      rw [hla1 hla', goP_one, if_pos (by rcases hsk with h | ⟨h, _⟩; exact h; rw [h] at hla'; cases hla'), goP]
    | false =>
      obtain ⟨a, r, har⟩ := hla0 hla'
      rw [har, goP_two, if_pos (by rcases hsk with h | ⟨_, h⟩; exact Or.inl h; exact Or.inr h)]
  have stp : ¬ (line = [] ∨ la = false ∧ line.head? = some 35) → Ret (RPP ρ H text) (N8_5 ρ (evCall (cx ρ) k) (evCY (cx ρ) k).2 0 k ls y (.int .i64 (i : Nat)) (.bool la) H' (fun x6 x7 H => N8_4 ρ (evCall (cx ρ) k) (evCY (cx ρ) k).2 0 k ls x6 x7 H fun x6 x7 H => kn (x6, x7) H) retK) := by
    intro hns
    have hne : line ≠ [] := fun e => hns (Or.inl e)
    have hgo2 : parseM text = if la then .bad (i + 1) else match stepM line with
        | none => .bad (i + 1)
        | some x => goP (i + 1 + 1) (lines.drop (i + 1)) (acc ++ [x]) := by
      rw [← hgo, hdrop]
      cases hla' : la with
      | true => rw [hla1 hla', goP_one, if_neg hne]; rfl
      | false =>
        obtain ⟨a, r, har⟩ := hla0 hla'
        rw [har, goP_two, if_neg (fun h => hns (h.elim Or.inl fun h => Or.inr ⟨hla', h⟩))]; rfl
    simp only [N8_5, x1, x2, purK_some]
    refine Ret.bind (rstep_spec line (by clear hi1; omega) (by clear hi1; omega)) ?_
    rintro v H2 ⟨f2, hc⟩
    rcases hc with ⟨x, z, hx, rfl, hEz, hzl⟩ | ⟨hx, c, rfl, hcl, hcs⟩
    · simp only [extA_0, extA_1, purK_some, emp2]
      refine (St.start Nop H2).newP fun n10 H3 s3 hz3 f3 => ?_
      have s3 : St Nop H2 [(n10, z8)] H3 := s3
      refine s3.stN 0 rfl rfl (stc_solid (Els_solid hEz)) (by simp [z8L]) fun H4 s4 _ f4 => ?_
      have s4 : St Nop H2 [(n10, oe8 (stc x z))] H4 := by
        have := s4
        rwa [lay_all z8L (stc x z) rfl] at this
      have e1 : ldN ρ H4 8 (.ptr n10 0 0) = some (.agg (stc x z)) := by rw [ldN_of 8 0 (s4.at 0 rfl) (by simp [stc])]; rfl
      cases la with
      | true =>
        simp only [un_not, Bool.not_true, wantV_ff, gPur_true, pickA_false, purK_some, condK_true, bin_add, hi1, retK_two]
        refine .intro ⟨hF.trans (f2.trans s4.fr), ?_⟩
        rw [hgo2]; rfl
      | false =>
        simp only [un_not, Bool.not_true, wantV_ff, gPur_true, pickA_false, purK_some, condK_false, e1]
        have hbl := bld8 H4 (stc x z) rfl (stc_solid (Els_solid hEz))
        simp only [z8L] at hbl
        simp only [hbl]
        have f24 : Fr Nop H' H4 := f2.trans s4.fr
        have hG4 := hG.frame Nop f24 (fun _ _ e => e)
        have hP4 : RPs ρ H4 y.lies rows acc := hP.frame f24 fun t e => e.elim
        have hE4 := hEz.frame Nop s4.fr (fun _ _ e => e)
        have hEl4 := hE'.frame Nop f24 (fun _ _ e => e)
        refine (St.start Nop H4).newS fun n11 H5 s5 hz5 f5 => ?_
        have hG5 := hG4.frame Nop f5 (fun _ _ e => e)
        have hEl5 := hEl4.frame Nop f5 (fun _ _ e => e)
        have hE11 : Els ρ H5 8 (.sl n11 0 0 1 1 false) [stc x z] := Els.of_cells (els := [stc x z]) (s5.lt' 0 rfl) (s5.at 0 rfl) (by simp [stc])
        refine Ret.appF hG5 hE11 (by simp) (by intro r hr; simp at hr; subst hr; exact stc_solid (Els_solid hEz)) (by simp only [List.length_singleton]; clear hi1; omega) (by simp only [List.length_singleton]; clear hi1; omega) ?_
        intro y' H6 G6 f6 hy' sc6
        have hyl : ∀ t, y.lies t → t < H'.sz := fun t ht => hG.toEls (ρ := ρ) |>.lies_lt t ht
        have hzn : ∀ t, z.lies t → ¬ y.lies t := fun t ht e => by have := hzl t ht; have := hyl t e; clear hi1; omega
        have hP5 : RPs ρ H5 y.lies (rows ++ [stc x z]) (acc ++ [x]) := (hP4.frame f5 fun t e => e.elim).app ⟨z, rfl, hE4.frame Nop f5 (fun _ _ e => e), hzn⟩
        rw [hk8 _ _ _ _ i _ _ (by clear hi1; omega)]
        refine next (lines.length - (i + 1)) _ H6 (by clear hi1; omega) ⟨i + 1, acc ++ [x], rows ++ [stc x z], rfl, rfl, by clear hi1; omega, ?_, Or.inr G6, ?_, by rw [List.length_append, List.length_singleton]; clear hi1; omega, fun t ht => (hy' t ht).elim (hY t) fun e => ?_, ?_, ?_, ?_⟩
        · rw [hgo2, hx]; rfl
        · have : RPs ρ H6 (fun t => y.lies t ∨ y'.lies t) (rows ++ [stc x z]) (acc ++ [x]) := by
            have h7 : RPs ρ H5 (fun t => y.lies t ∨ y'.lies t) (rows ++ [stc x z]) (acc ++ [x]) := hP5.mono fun t ht e => e.elim id fun e => (hy' t e).elim id fun e2 => by clear hi1; omega
            exact h7.frame f6 fun t e => Or.inl e
          exact this.mono fun t _ e => Or.inr e
        · have := f24.sz; have := f5.sz; clear hi1; omega
        · exact ((hF.trans f24).trans f5).trans' f6 fun l hl e => by have := hY l e; have := f1.sz; clear hi1; omega
        · exact hEl5.frame _ f6 fun t ht e => by have := hY t e; have := hls t ht; clear hi1; omega
        · have := f24.sz; have := f5.sz; have := f6.sz; clear hi1; omega
    · simp only [extA_0, extA_1, purK_some, emp2]
      refine (St.start Nop H2).newP fun n10 H3 s3 hz3 f3 => ?_
      have s3 : St Nop H2 [(n10, z8)] H3 := s3
      refine s3.stN 0 rfl hcl hcs (by simp [z8L]) fun H4 s4 _ f4 => ?_
      simp only [un_not, Bool.not_false, wantV_tf, gPur_false, pickA_true, purK_some, condK_true, bin_add, hi1, retK_two]
      refine .intro ⟨hF.trans (f2.trans s4.fr), ?_⟩
      rw [hgo2, hx]; cases la <;> rfl
  by_cases hle : line = []
  · have c2 : decide (line = []) = true := decide_eq_true hle
    simp only [N8_3b, e0, bin_lss, c1, e26, bin_eql, hla, x1, x2, emp1, bin_seqB, c2, wantV_tf, gPur_false, pickA_true, purK_some, condK_true, hk8 _ _ _ _ i _ _ (show i < 100000 by clear hi1; omega)]
    exact skip (Or.inl hle)
  · have c2 : decide (line = []) = false := decide_eq_false hle
    have hl0 : 0 < line.length := List.length_pos_iff.2 hle
    have e3 : ixT (.str (ba line)) (.int .i64 0) = some (.int .u8 line[0].toNat) := ixT_ba line .i64 0 hl0
    have hhd : line.head? = some line[0] := by rw [List.head?_eq_getElem?, List.getElem?_eq_getElem hl0]
    cases la with
    | true =>
      simp only [N8_3b, e0, bin_lss, c1, e26, bin_eql, hla, x1, x2, emp1, bin_seqB, c2, wantV_ff, wantV_ft, un_not, Bool.not_true, gPur_true, gPur_false, pickA_false, purK_some, condK_false]
      exact stp fun h => h.elim hle fun h => by cases h.1
    | false =>
      by_cases h35 : line[0] = 35
      · have c3 : decide ((line[0].toNat : Int) = 35) = true := by rw [h35]; rfl
        simp only [N8_3b, e0, bin_lss, c1, e26, bin_eql, hla, x1, x2, emp1, bin_seqB, c2, e3, c3, wantV_ff, wantV_tt, un_not, Bool.not_false, gPur_true, pickA_true, pickA_false, purK_some, condK_true, hk8 _ _ _ _ i _ _ (show i < 100000 by clear hi1; omega)]
        exact skip (Or.inr ⟨rfl, by rw [hhd, h35]⟩)
      · have c3 : decide ((line[0].toNat : Int) = 35) = false := decide_eq_false fun e => h35 (UInt8.toNat_inj.1 (by have e35 : (35 : UInt8).toNat = 35 := rfl; clear hi1; omega))
        simp only [N8_3b, e0, bin_lss, c1, e26, bin_eql, hla, x1, x2, emp1, bin_seqB, c2, e3, c3, wantV_ff, wantV_tt, un_not, Bool.not_false, gPur_true, pickA_true, pickA_false, purK_some, condK_false]
        exact stp fun h => h.elim hle fun h => by
          rw [hhd] at h
          exact h35 (Option.some.inj h.2)
end
end Go.Proofs.YtnkeebchblfbgaaDoor

-- part SoC
/- Same steps are told the same. -/
set_option linter.unusedVariables false
set_option linter.unusedSimpArgs false
namespace Go.Proofs.YtnkeebchblfbgaaDoor
attribute [local congr] Go.Ev.cond_congr1
open Go.Ev Go.RowKit
section
variable {ρ : Addr → Option Value} {k : Nat} {H H0 H' : Heap} {N N' : Nat → Prop}
theorem at_irow {y : AV} {l : List Nat} (hE : Els ρ H 1 y (irow l)) (i : Nat) (hi : i < l.length) : ixS 1 y (.int .i64 (i : Nat)) = some (elp 1 y i 0) ∧ ld1 ρ H (elp 1 y i 0) = some (.int .i64 (l[i] : Nat)) := by
  have e5 := hE.ix .i64 (i : Int) (by omega) (by rw [irow_len]; omega)
  have e6 := hE.ld1 i 0 (by rw [irow_len]; exact hi) (by omega)
  have e7 : (irow l)[i]'(by rw [irow_len]; exact hi) = [.int .i64 (l[i] : Nat)] := by simp [irow]
  rw [e7] at e6
  exact ⟨e5, e6⟩
theorem ints_spec {x y : AV} {l : List Nat} (hx : Els ρ H 1 x (irow l)) (hy : Els ρ H 1 y (irow l)) (hl : l.length ≤ 10000) (hk : l.length + 5 ≤ k) : Ret (fun v H' => v = .bool true ∧ H' = H) (evCall (cx ρ) k 0 21 [x, y] H) := by
  obtain ⟨k, rfl⟩ : ∃ q, k = q + 1 := ⟨k - 1, by omega⟩
  have ex := hx.lenS
  have ey := hy.lenS
  rw [irow_len] at ex ey
  have c0 : decide ((l.length : Int) ≠ l.length) = false := by simp
  rw [E21]
  simp only [L21, ex, ey, bin_neq, c0, purK_some, condK_false, N21_2, N21_3]
  refine Ret.loop (fun m (x : AV) H' => ∃ i : Nat, x = .int .i64 i ∧ m = l.length - i ∧ i ≤ l.length ∧ H' = H) ?_ l.length _ _ H
    ⟨0, rfl, rfl, by omega, rfl⟩ (by omega)
  rintro m z H' kn ⟨i, rfl, rfl, hi, rfl⟩ next
  have hi1 := wrap_succN i (by omega)
  by_cases hlt : i < l.length
  · have c1 : decide (((i : Nat) : Int) < (l.length : Nat)) = true := decide_eq_true (by clear hi1; omega)
    obtain ⟨x1, x2⟩ := at_irow hx i hlt
    obtain ⟨y1, y2⟩ := at_irow hy i hlt
    have c2 : decide (((l[i] : Nat) : Int) ≠ (l[i] : Nat)) = false := by simp
    simp only [N21_3b, ex, bin_lss, c1, x1, x2, y1, y2, bin_neq, c2, bin_add, hi1, purK_some, condK_true, condK_false]
    exact next (l.length - (i + 1)) _ _ (by clear hi1; omega) ⟨i + 1, rfl, rfl, by clear hi1; omega, rfl⟩
  · have c1 : decide (((i : Nat) : Int) < (l.length : Nat)) = false := decide_eq_false (by clear hi1; omega)
    simp only [N21_3b, N21_1, ex, bin_lss, c1, purK_some, condK_false, retK_one]
    exact .intro ⟨rfl, rfl⟩
theorem op_ne (H : Heap) (a d : Int) (b c : ByteArray) : binA Tryd.prog H .neq 40 (.agg [.int .i64 a, .str b, .str c, .int .u64 d]) (.agg [.int .i64 a, .str b, .str c, .int .u64 d]) = some (.bool false) := by
  have h : binA Tryd.prog H .neq 40 (.agg [.int .i64 a, .str b, .str c, .int .u64 d]) (.agg [.int .i64 a, .str b, .str c, .int .u64 d]) = (bif a == a then (bif b == b then (bif c == c then (bif d == d then some true else some false) else some false) else some false) else some false).map fun e => .bool !e := by kernel_rfl
  rw [h]
  have hb : (b == b) = true := by simp [ba_beq]
  have hc : (c == c) = true := by simp [ba_beq]
  simp [hb, hc]
theorem RPs.get : ∀ {rows : List (List AV)} {xs : List Stp} (h : RPs ρ H N rows xs) (i : Nat) (hi : i < xs.length), ∃ y, rows[i]? = some (stc xs[i] y) ∧ Els ρ H 1 y (irow xs[i].picks)
  | r :: rs, x :: xs, ⟨⟨y, h1, h2, _⟩, h4⟩, 0, _ => ⟨y, by rw [h1]; rfl, h2⟩
  | r :: rs, x :: xs, ⟨_, h4⟩, i + 1, hi => by
    obtain ⟨y, h1, h2⟩ := RPs.get h4 i (by simpa using hi)
    exact ⟨y, by simpa using h1, by simpa using h2⟩
  | [], _ :: _, h, _, _ => h.elim
  | _ :: _, [], h, _, hi => by simp at hi
  | [], [], _, _, hi => by simp at hi
/-- What is known of a step in its row. -/
theorem at_stc {x : AV} {rows : List (List AV)} {i : Nat} {s : Stp} {y : AV} (hE : Els ρ H 8 x rows) (h : rows[i]? = some (stc s y)) :
    ixS 8 x (.int .i64 (i : Nat)) = some (elp 8 x i 0) ∧ (∀ off, off ≤ 7 → addA off (elp 8 x i 0) = some (elp 8 x i off)) ∧ (∀ off v, off < 8 → (stc s y)[off]? = some v → ld1 ρ H (elp 8 x i off) = some v) ∧ ldN ρ H 4 (elp 8 x i 3) = some (.agg (opc s.op)) := by
  obtain ⟨hi, e⟩ := List.getElem?_eq_some_iff.1 h
  refine ⟨hE.ix .i64 (i : Int) (by omega) (by omega), fun off ho => ?_, fun off v ho hv => ?_, ?_⟩
  · have := elp_add hE i 0 off hi
    rwa [Nat.zero_add] at this
  · rw [hE.ld1 i off hi ho, e, hv]
  · have := hE.ldSub i 3 4 hi (by omega)
    rw [e] at this
    exact this
theorem same_step (call : CallF) (yc : YieldF) (x0 x1 : AV) (i : Nat) (hi : i + 1 < 9223372036854775808) (kn : AV → Heap → Res) (R : List AV → Heap → Res) : N9_5 ρ call yc 0 k x0 x1 (.int .i64 i) (.bool false) H (fun x5 H => N9_4 ρ call yc 0 k x0 x1 x5 H kn) R = kn (.int .i64 ((i + 1 : Nat) : Int)) H := by
  simp only [N9_5, N9_4, condK_false, bin_add, wrap_succN i hi, purK_some]
theorem same_spec {x y : AV} {r1 r2 : List (List AV)} {xs : List Stp} (hx : Els ρ H 8 x r1) (hy : Els ρ H 8 y r2) (p1 : RPs ρ H N r1 xs) (p2 : RPs ρ H N' r2 xs) (hl : xs.length ≤ 10000) (hp : ∀ s ∈ xs, s.picks.length ≤ 10000) (hk : 20000 ≤ k) : Ret (fun v H' => v = .bool true ∧ H' = H) (evCall (cx ρ) k 0 9 [x, y] H) := by
  obtain ⟨k, rfl⟩ : ∃ q, k = q + 1 := ⟨k - 1, by omega⟩
  have ex := hx.lenS
  have ey := hy.lenS
  rw [p1.len] at ex
  rw [p2.len] at ey
  have c0 : decide ((xs.length : Int) ≠ xs.length) = false := by simp
  rw [E9]
  simp only [L9, ex, ey, bin_neq, c0, purK_some, condK_false, N9_2, N9_3]
  refine Ret.loop (fun m (x : AV) H' => ∃ i : Nat, x = .int .i64 i ∧ m = xs.length - i ∧ i ≤ xs.length ∧ H' = H) ?_ xs.length _ _ H
    ⟨0, rfl, rfl, by omega, rfl⟩ (by omega)
  rintro m z H' kn ⟨i, rfl, rfl, hi, rfl⟩ next
  have hi1 := wrap_succN i (by omega)
  by_cases hlt : i < xs.length
  · have c1 : decide (((i : Nat) : Int) < (xs.length : Nat)) = true := decide_eq_true (by clear hi1; omega)
    obtain ⟨z1, g1, q1⟩ := p1.get i hlt
    obtain ⟨z2, g2, q2⟩ := p2.get i hlt
    obtain ⟨x1, xa, xl, xn⟩ := at_stc hx g1
    obtain ⟨y1, ya, yl, yn⟩ := at_stc hy g2
    have hps := hp xs[i] (List.getElem_mem hlt)
    have hI := ints_spec (k := k) q1 q2 hps (by clear hi1; omega)
    generalize xs[i] = s at *
    have n1 : ∀ n : Int, decide (n ≠ n) = false := fun n => by simp
    have ei : ∀ n, AV.eqv (.int .i64 n) (.int .i64 n) = true := eqv_int .i64
    have eb : ∀ b, AV.eqv (.bool b) (.bool b) = true := eqv_bool
    have on := op_ne H' s.op.k s.op.n (ba s.op.key) (ba s.op.val)
    simp only [opc] at xn yn
    simp only [N9_3b, ex, bin_lss, c1, x1, y1, xa 0 (by decide), ya 0 (by decide), xl 0 _ (by decide) rfl, yl 0 _ (by decide) rfl, bin_neq, n1, wantV_ff, boolK_some, cond_true, purK_some, condK_true]
    simp only [x1, y1, xa 1 (by decide), ya 1 (by decide), xl 1 _ (by decide) rfl, yl 1 _ (by decide) rfl, bin_neq, n1, wantV_ff, boolK_some, cond_true, purK_some, pickA_false]
    simp only [x1, y1, xa 2 (by decide), ya 2 (by decide), xl 2 _ (by decide) rfl, yl 2 _ (by decide) rfl, bin_neq, n1, wantV_ff, boolK_some, cond_true, purK_some, pickA_false]
    simp only [x1, y1, xa 3 (by decide), ya 3 (by decide), xn, yn, on, wantV_ff, boolK_some, cond_true, purK_some, pickA_false]
    simp only [xa 7 (by decide), ya 7 (by decide), xl 7 _ (by decide) rfl, yl 7 _ (by decide) rfl, purK_some, gRes_true]
    refine Ret.bind hI ?_
    rintro v H1 ⟨rfl, rfl⟩
    clear x1 xa xl xn y1 ya yl yn on hI hi1 ei eb n1 c1
    simp only [Bool.not_true, Bool.or_true, Bool.and_self]
    rw [cond_true, gPur_true]
    have hu : unA .not (.bool true) = some (.bool false) := rfl
    rw [hu, purK_some]
    rw [same_step _ _ _ _ _ (by omega)]
    exact next (xs.length - (i + 1)) _ _ (by omega) ⟨i + 1, rfl, rfl, by omega, rfl⟩
  · have c1 : decide (((i : Nat) : Int) < (xs.length : Nat)) = false := decide_eq_false (by clear hi1; omega)
    simp only [N9_3b, N9_1, ex, bin_lss, c1, purK_some, condK_false, retK_one]
    exact .intro ⟨rfl, rfl⟩
end
end Go.Proofs.YtnkeebchblfbgaaDoor

-- part SxW
/- Awake: run in the kernel, over the two tables of words. -/
set_option linter.unusedVariables false
set_option linter.unusedSimpArgs false
namespace Go.Proofs.YtnkeebchblfbgaaDoor
open Go.Ev Go.RowKit
def stepsL : List Value := [.string ⟨#[]⟩, .string ⟨#[97, 115, 107]⟩, .string ⟨#[109, 111, 118, 101]⟩, .string ⟨#[114, 101, 115, 117, 109, 101]⟩, .string ⟨#[100, 111]⟩, .string ⟨#[114, 101, 97, 100, 111, 110, 108, 121]⟩, .string ⟨#[104, 101, 97, 100]⟩, .string ⟨#[102, 108, 117, 115, 104]⟩, .string ⟨#[115, 97, 118, 101]⟩, .string ⟨#[99, 114, 97, 115, 104]⟩, .string ⟨#[115, 116, 97, 114, 116]⟩]
def opsL : List Value := [.string ⟨#[]⟩, .string ⟨#[114, 101, 97, 100]⟩, .string ⟨#[112, 117, 116]⟩, .string ⟨#[97, 100, 100]⟩, .string ⟨#[100, 101, 108]⟩]
/-- The two tables, where they lie. -/
def ρW (a : Addr) : Option Value := match a.spot with
  | none => bif Nat.beq a.block 0 then stepsL[a.off]? else bif Nat.beq a.block 1 then opsL[a.off]? else none
  | some _ => none
def finT : Res → Bool
  | some (.bool true, _) => true
  | _ => false
theorem of_finT {r : Res} (h : finT r = true) : ∃ H, r = some (.bool true, H) := by
  rcases r with _ | ⟨v, H⟩
  · cases h
  · cases v with
    | bool b => cases b with
      | true => exact ⟨H, rfl⟩
      | false => cases h
    | _ => cases h
set_option maxRecDepth 1000000 in
theorem awake_fin : finT (fast ρW 20000 0 6 [] Heap.nil) = true := by kernel_rfl
theorem awake_run : ∃ H, evCall (cx ρW) 20000 0 6 [] Heap.nil = some (.bool true, H) := by
  have h := awake_fin
  rw [fast_eq] at h
  exact of_finT h
end Go.Proofs.YtnkeebchblfbgaaDoor

-- part SwG
/- What is laid in memory: rows of texts. -/
set_option linter.unusedVariables false
namespace Go.Ev
open Go.RowKit Go.ChangeShapes Go.WideShapes
theorem texts_of {P : Program} {w : World} {spare : Nat → Bool} {t e : TypeId} {n fuel : Nat} {cs : List Value} {ls : List (List UInt8)} {p : List MemPlace} (ht : P.underlying t = some (.array n e)) (he : P.underlying e = some .string) (hc : P.cellsOf e = 1) (hct : P.cellsOf t = n)
    (h : DataW.trod (fun _ => ()) P w 0 spare false fuel t cs = some (.agg (ls.map fun l => .lit (.string l)), p)) : cs = ls.map fun l => .string (ba l) := by
  obtain ⟨xs, m, rfl, hx, hlen, hxn, hall⟩ := DataW.trod_array ht h
  have h1 : ls.map (fun l => (DataW.lit (.string l) : DataW Unit)) = xs.map (·.1) := by
    have := (Prod.mk.inj hx).1
    simpa using this
  have hl : ls.length = xs.length := by simpa using congrArg List.length h1
  apply List.ext_getElem
  · rw [List.length_map]; omega
  · intro i hi1 hi2
    have hi : i < n := by omega
    have ha := hall i hi
    rw [hc, Nat.mul_one, List.drop_eq_getElem_cons hi1, List.take_succ_cons, List.take_zero, List.getElem?_eq_getElem (by omega)] at ha
    obtain ⟨s, e1, e2, _⟩ := DataW.trod_string he ha
    have e3 : (ls.map (fun l => (DataW.lit (.string l) : DataW Unit)))[i]? = (xs.map (·.1))[i]? := by rw [h1]
    rw [List.getElem?_map, List.getElem?_map, List.getElem?_eq_getElem (by omega), List.getElem?_eq_getElem (by omega)] at e3
    simp only [Option.map_some, Option.some.injEq] at e3
    rw [e2] at e3
    simp only [DataW.lit.injEq, Lit.string.injEq] at e3
    rw [List.getElem_map, e3]
    simp only [List.cons.injEq, and_true] at e1
    rw [e1]
    exact congrArg Value.string (ba_bs s).symm
end Go.Ev

-- part SxH
/- What the laid variables read as: the two tables of words. -/
set_option linter.unusedVariables false
namespace Go.Proofs.YtnkeebchblfbgaaDoor
open Go.Ev Go.RowKit
theorem gt0 : (Tryd.prog.globals[0]?).map (·.type) = some 77 := by kernel_rfl
theorem gt1 : (Tryd.prog.globals[1]?).map (·.type) = some 86 := by kernel_rfl
theorem gn0 : Tryd.prog.globalNamed "haycroft/script.steps" = some 0 := by kernel_rfl
theorem gn1 : Tryd.prog.globalNamed "haycroft/script.ops" = some 1 := by kernel_rfl
theorem ut77 : Tryd.prog.underlying 77 = some (.array 11 9) := by kernel_rfl
theorem ut86 : Tryd.prog.underlying 86 = some (.array 5 9) := by kernel_rfl
theorem ut9 : Tryd.prog.underlying 9 = some .string := by kernel_rfl
theorem ct9 : Tryd.prog.cellsOf 9 = 1 := by kernel_rfl
theorem ct77 : Tryd.prog.cellsOf 77 = 11 := by kernel_rfl
theorem ct86 : Tryd.prog.cellsOf 86 = 5 := by kernel_rfl
theorem laid_cells {W : World} (h : laidMet Tryd.prog Rows.scriptWordsRow.laid W) : (∃ cs, W.var? Tryd.prog "haycroft/script.steps" = some cs ∧ cs.toList = stepsL) ∧ (∃ cs, W.var? Tryd.prog "haycroft/script.ops" = some cs ∧ cs.toList = opsL) := by
  obtain ⟨ps, ⟨_, _, _, _, _, _, _, _, _, _, ⟨_, _, _, _, _, _, _, _, _, _, ⟨_, _, _, _, _, _, _, _, _, _, ⟨_, _, _, _, _, _, _, _, _, _, ⟨_, _, _, _, _, _, _, _, _, _, ⟨_, _, _, _, _, _, _, _, _, _, ⟨g1, t1, cs1, f1, p1, q1, hg1, ht1, hv1, hd1, ⟨g0, t0, cs0, f0, p0, q0, hg0, ht0, hv0, hd0, _, _⟩, _⟩, _⟩, _⟩, _⟩, _⟩, _⟩, _⟩, _⟩ := h
  obtain rfl := Option.some.inj (gn0.symm.trans hg0)
  obtain rfl := Option.some.inj (gn1.symm.trans hg1)
  obtain rfl := Option.some.inj (gt0.symm.trans ht0)
  obtain rfl := Option.some.inj (gt1.symm.trans ht1)
  refine ⟨⟨cs0, hv0, ?_⟩, ⟨cs1, hv1, ?_⟩⟩
  · exact texts_of (ls := [[], [97, 115, 107], [109, 111, 118, 101], [114, 101, 115, 117, 109, 101], [100, 111], [114, 101, 97, 100, 111, 110, 108, 121], [104, 101, 97, 100], [102, 108, 117, 115, 104], [115, 97, 118, 101], [99, 114, 97, 115, 104], [115, 116, 97, 114, 116]]) ut77 ut9 ct9 ct77 hd0
  · exact texts_of (ls := [[], [114, 101, 97, 100], [112, 117, 116], [97, 100, 100], [100, 101, 108]]) ut86 ut9 ct9 ct86 hd1
end Go.Proofs.YtnkeebchblfbgaaDoor

-- part SwL
/- One world in which the laid variables read as listed. -/
set_option linter.unusedVariables false
namespace Go.Proofs.YtnkeebchblfbgaaDoor
open Go
noncomputable def lit1 : DataW Unit → Value
  | .lit (.int k n) => .int k n
  | .lit (.string s) => .string ⟨s.toArray⟩
  | _ => .bool false
noncomputable def cells1 : DataW Unit → List Value
  | .agg ds => ds.map lit1
  | _ => []
noncomputable def cells2 : DataW Unit → List Value
  | .agg ds => ds.flatMap cells1
  | _ => []
noncomputable def layAt (n : String) (cs : List Value) (h : Array Obj) : Array Obj := match Tryd.prog.globalNamed n with
  | some g => h.modify g fun
    | .cells _ t frozen => .cells cs.toArray t frozen
    | o => o
  | none => h
/-- So many blocks has the settled world. -/
noncomputable def low : Nat := (World.holding Tryd.prog default ⟨#[], #[], []⟩).heap.size
abbrev txtRange : ByteArray := { data := #[118, 97, 108, 117, 101, 32, 111, 117, 116, 32, 111, 102, 32, 114, 97, 110, 103, 101] }
abbrev txtSyntax : ByteArray := { data := #[105, 110, 118, 97, 108, 105, 100, 32, 115, 121, 110, 116, 97, 120] }
noncomputable def laidWorld (os : Os) : World :=
  let w0 := World.holding Tryd.prog os ⟨#[.cells #[.string txtRange] 131, .cells #[.string txtSyntax] 131], #[], []⟩
  { w0 with heap := (layAt "math/bits.deBruijn32tab" (cells1 Rows.laid_math_bits_deBruijn32tab) (layAt "math/bits.deBruijn64tab" (cells1 Rows.laid_math_bits_deBruijn64tab) (layAt "internal/strconv.uint64pow10" (cells1 Rows.laid_internal_strconv_uint64pow10) (layAt "unicode/utf8.acceptRanges" (cells2 Rows.laid_unicode_utf8_acceptRanges) (layAt "strconv.ErrRange" [.iface 129 (.pointer (some ⟨low, 0, none⟩))] (layAt "strconv.ErrSyntax" [.iface 129 (.pointer (some ⟨low + 1, 0, none⟩))] (layAt "haycroft/script.ops" (cells1 Rows.laid_haycroft_script_ops) (layAt "haycroft/script.steps" (cells1 Rows.laid_haycroft_script_steps) (layAt "unicode/utf8.first" (cells1 Rows.laid_unicode_utf8_first) w0.heap))))))))) }
set_option maxRecDepth 1000000 in
theorem laid_met (os : Os) (args : Array Value) : laidMet Tryd.prog Rows.scriptWordsRow.laid ((laidWorld os).forCall (fun _ _ => 0) ⟨#[], args, []⟩).memory :=
  laidMet_of_run3 8 (by kernel_rfl) (by kernel_rfl) (by kernel_rfl)
end Go.Proofs.YtnkeebchblfbgaaDoor

-- part SoE
/- What the laid variables read as: tables of words, of numbers, two errors. -/
set_option linter.unusedVariables false
set_option linter.unusedSimpArgs false
namespace Go.Proofs.YtnkeebchblfbgaaDoor
open Go.Ev Go.RowKit Go.ChangeShapes Go.WideShapes
theorem nums_of {P : Program} {w : World} {spare : Nat → Bool} {t e : TypeId} {n fuel : Nat} {kk : IntKind} {cs : List Value} {ls : List Int} {p : List MemPlace} (ht : P.underlying t = some (.array n e)) (he : P.underlying e = some (.int kk)) (hc : P.cellsOf e = 1) (hct : P.cellsOf t = n)
    (h : DataW.trod (fun _ => ()) P w 0 spare false fuel t cs = some (.agg (ls.map fun l => .lit (.int kk l)), p)) : cs = ls.map fun l => .int kk l := by
  obtain ⟨xs, m, rfl, hx, hlen, hxn, hall⟩ := DataW.trod_array ht h
  have h1 : ls.map (fun l => (DataW.lit (.int kk l) : DataW Unit)) = xs.map (·.1) := by
    have := (Prod.mk.inj hx).1
    simpa using this
  have hl : ls.length = xs.length := by simpa using congrArg List.length h1
  apply List.ext_getElem
  · rw [List.length_map]; omega
  · intro i hi1 hi2
    have hi : i < n := by omega
    have ha := hall i hi
    rw [hc, Nat.mul_one, List.drop_eq_getElem_cons hi1, List.take_succ_cons, List.take_zero, List.getElem?_eq_getElem (by omega)] at ha
    obtain ⟨s, e1, e2, _⟩ := DataW.trod_int he ha
    have e3 : (ls.map (fun l => (DataW.lit (.int kk l) : DataW Unit)))[i]? = (xs.map (·.1))[i]? := by rw [h1]
    rw [List.getElem?_map, List.getElem?_map, List.getElem?_eq_getElem (by omega), List.getElem?_eq_getElem (by omega)] at e3
    simp only [Option.map_some, Option.some.injEq] at e3
    rw [e2] at e3
    simp only [DataW.lit.injEq, Lit.int.injEq, true_and] at e3
    rw [List.getElem_map, e3]
    simp only [List.cons.injEq, and_true] at e1
    exact e1
def powL : List Value := (List.range 20).map fun t => .int .u64 ((10 ^ t : Nat) : Int)
theorem gt3 : (Tryd.prog.globals[3]?).map (·.type) = some 111 := by kernel_rfl
theorem gn3 : Tryd.prog.globalNamed "internal/strconv.uint64pow10" = some 3 := by kernel_rfl
theorem gt6 : (Tryd.prog.globals[6]?).map (·.type) = some 56 := by kernel_rfl
theorem gn6 : Tryd.prog.globalNamed "strconv.ErrSyntax" = some 6 := by kernel_rfl
theorem gt7 : (Tryd.prog.globals[7]?).map (·.type) = some 56 := by kernel_rfl
theorem gn7 : Tryd.prog.globalNamed "strconv.ErrRange" = some 7 := by kernel_rfl
theorem ut111 : Tryd.prog.underlying 111 = some (.array 20 38) := by kernel_rfl
theorem ut38 : Tryd.prog.underlying 38 = some (.int .u64) := by kernel_rfl
theorem ct38 : Tryd.prog.cellsOf 38 = 1 := by kernel_rfl
theorem ct111 : Tryd.prog.cellsOf 111 = 20 := by kernel_rfl
theorem ct131 : Tryd.prog.cellsOf 131 = 1 := by kernel_rfl
theorem star : "*" ++ "errors.errorString" = "*errors.errorString" := by decide
theorem row129 (u : TypeId) (h : Tryd.prog.typeName? 3 u = some "*errors.errorString") : u = 129 :=
  typeName_ptr_named (nm := "errors.errorString") (by rw [star]; kernel_rfl) (by kernel_rfl) (by decide) u (by rw [star]; exact h)
abbrev laidL := Rows.scriptWordsRow.laid
theorem pow_cells {W : World} (h : laidMet Tryd.prog laidL W) : ∃ cs, W.var? Tryd.prog "internal/strconv.uint64pow10" = some cs ∧ cs.toList = powL := by
  obtain ⟨ps, ⟨g1, t1, cs1, f1, p1, q1, hg1, ht1, hv1, hd1, _⟩, _⟩ := h.tail.tail
  obtain rfl := Option.some.inj (gn3.symm.trans hg1)
  obtain rfl := Option.some.inj (gt3.symm.trans ht1)
  refine ⟨cs1, hv1, ?_⟩
  have := nums_of (ls := (List.range 20).map fun t => ((10 ^ t : Nat) : Int)) ut111 ut38 ct38 ct111 hd1
  rw [this, powL, List.map_map]; rfl
theorem err_cells {W : World} (h : laidMet Tryd.prog laidL W) : (∃ a, W.var? Tryd.prog "strconv.ErrSyntax" = some #[.iface 129 (.pointer (some a))]) ∧ ∃ a, W.var? Tryd.prog "strconv.ErrRange" = some #[.iface 129 (.pointer (some a))] := by
  obtain ⟨a0, s0, hv0, _⟩ := laid_sentinel h.tail.tail.tail.tail gn7 gt7 Tryd.underlying56 row129 Tryd.underlying129 Tryd.underlying131 rfl rfl Tryd.underlying9 ct131 ct9
  obtain ⟨a1, s1, hv1, _⟩ := laid_sentinel h.tail.tail.tail.tail.tail gn6 gt6 Tryd.underlying56 row129 Tryd.underlying129 Tryd.underlying131 rfl rfl Tryd.underlying9 ct131 ct9
  exact ⟨⟨a1, hv1⟩, ⟨a0, hv0⟩⟩
/-- What these variables hold, where the two errors lie at a and b. -/
def ρS (a b : Addr) (x : Addr) : Option Value := match x.spot with
  | none => bif Nat.beq x.block 0 then stepsL[x.off]? else bif Nat.beq x.block 1 then opsL[x.off]? else bif Nat.beq x.block 3 then powL[x.off]? else
      bif Nat.beq x.block 6 then ([.iface 129 (.pointer (some a))] : List Value)[x.off]? else bif Nat.beq x.block 7 then ([.iface 129 (.pointer (some b))] : List Value)[x.off]? else none
  | some _ => none
theorem rt_of (a b : Addr) : RT (ρS a b) where
  pow := fun t ht => by
    show powL[t]? = _
    rw [powL, List.getElem?_map, List.getElem?_range (by omega)]; rfl
  e6 := ⟨129, a, rfl⟩
  e7 := ⟨129, b, rfl⟩
  steps := fun i w h => by
    show stepsL[i]? = _
    have e : stepsL = stepsT.map fun w => .string (ba w) := rfl
    rw [e, List.getElem?_map, h]; rfl
  ops := fun i w h => by
    show opsL[i]? = _
    have e : opsL = opsT.map fun w => .string (ba w) := rfl
    rw [e, List.getElem?_map, h]; rfl
theorem cell_row' {W : World} {n : String} {g : Nat} {cs : Array Value} {l : List Value} {a : Addr} {v : Value} (hg : Tryd.prog.globalNamed n = some g) (hv : W.var? Tryd.prog n = some cs) (hl : cs.toList = l) (hs : a.spot = none) (hb : a.block = g) (h : l[a.off]? = some v) : a.block < W.heap.size ∧ W.cell? a = some v := by
  obtain ⟨b, o, s⟩ := a
  simp only at hs hb h
  subst hs; subst hb; subst hl
  constructor
  · simp only [World.var?, hg, Option.bind_some] at hv
    rcases Nat.lt_or_ge b W.heap.size with q | q
    · exact q
    · rw [Array.getElem?_eq_none q] at hv; cases hv
  · rw [World.var?_cell hg hv o]
    simpa using h
theorem reads_S {W : World} (h : laidMet Tryd.prog laidL W) : ∃ a b, Reads (cx (ρS a b)) W := by
  obtain ⟨⟨c0, v0, l0⟩, ⟨c1, v1, l1⟩⟩ := laid_cells h
  obtain ⟨c3, v3, l3⟩ := pow_cells h
  obtain ⟨⟨a, v6⟩, ⟨b, v7⟩⟩ := err_cells h
  refine ⟨a, b, ?_⟩
  intro x v e
  have e' : ρS a b x = some v := e
  unfold ρS at e'
  split at e'
  · rename_i hs
    cases h0 : Nat.beq x.block 0 with
    | true => rw [h0] at e'; exact cell_row' gn0 v0 l0 hs (Nat.eq_of_beq_eq_true h0) e'
    | false =>
      rw [h0] at e'
      cases h1 : Nat.beq x.block 1 with
      | true => rw [h1] at e'; exact cell_row' gn1 v1 l1 hs (Nat.eq_of_beq_eq_true h1) e'
      | false =>
        rw [h1] at e'
        cases h3 : Nat.beq x.block 3 with
        | true => rw [h3] at e'; exact cell_row' gn3 v3 l3 hs (Nat.eq_of_beq_eq_true h3) e'
        | false =>
          rw [h3] at e'
          cases h6 : Nat.beq x.block 6 with
          | true => rw [h6] at e'; exact cell_row' gn6 v6 rfl hs (Nat.eq_of_beq_eq_true h6) e'
          | false =>
            rw [h6] at e'
            cases h7 : Nat.beq x.block 7 with
            | true => rw [h7] at e'; exact cell_row' gn7 v7 rfl hs (Nat.eq_of_beq_eq_true h7) e'
            | false => rw [h7] at e'; cases e'
  · cases e'
end Go.Proofs.YtnkeebchblfbgaaDoor

-- part SoD
/- ScriptParses: the law, walked. -/
set_option linter.unusedVariables false
set_option linter.unusedSimpArgs false
namespace Go.Proofs.YtnkeebchblfbgaaDoor
attribute [local congr] Go.Ev.cond_congr1
open Go.Ev Go.RowKit
theorem mapM_len {α β : Type} {f : α → Option β} : ∀ {l : List α} {r : List β}, l.mapM f = some r → r.length = l.length
  | [], r, h => by simp at h; subst h; rfl
  | a :: l, r, h => by
    rw [List.mapM_cons] at h
    cases ha : f a with
    | none => rw [ha] at h; cases h
    | some b =>
      cases hl : l.mapM f with
      | none => rw [ha, hl] at h; cases h
      | some q =>
        rw [ha, hl] at h
        simp at h
        subst h
        rw [List.length_cons, List.length_cons, mapM_len hl]
theorem stepM_picks {line : Wd} {x : Stp} (h : stepM line = some x) : x.picks.length ≤ 32 := by
  cases hc : cutB 32 line with
  | nil => exact absurd hc (cutB_ne _ _)
  | cons w r =>
    rcases kind_cases w with ⟨_, hk⟩ | ⟨m, _, hk, hm⟩
    · rw [stepM_no hc hk] at h; cases h
    · by_cases h0 : m = 0
      · rw [stepM_no hc (hk.trans h0)] at h; cases h
      by_cases h9 : m = 9
      · rw [stepM_crash hc (hk.trans h9)] at h
        split at h
        · rename_i h32
          cases hq : (r.mapM fun a => numM a m9) with
          | none => rw [hq] at h; cases h
          | some l =>
            rw [hq] at h
            simp only [Option.map_some, Option.some.injEq] at h
            subst h
            show l.length ≤ 32
            rw [mapM_len hq]; exact h32
        · cases h
      by_cases h8 : m = 8 ∨ m = 10
      · rw [stepM_one hc hk h8] at h
        split at h
        · cases h; exact Nat.zero_le _
        · cases h
      by_cases h1 : m = 1
      · rw [stepM_ask hc (hk.trans h1)] at h
        cases hn : numO m9 (some r) with
        | none => rw [hn] at h; cases h
        | some y =>
          rw [hn] at h
          simp only at h
          cases ho : opM y.2 with
          | none => rw [ho] at h; cases h
          | some z =>
            rw [ho] at h
            simp only [Option.map_some, Option.some.injEq] at h
            subst h; exact Nat.zero_le _
      · rw [stepM_num hc hk ⟨by omega, by omega⟩] at h
        cases hn : numO m9 (some r) with
        | none => rw [hn] at h; cases h
        | some y =>
          rw [hn] at h
          simp only at h
          split at h
          · simp only [Option.some.injEq] at h
            subst h
            split <;> exact Nat.zero_le _
          · cases h
theorem goP_bound : ∀ (ls : List Wd) (n : Nat) (acc xs : List Stp), goP n ls acc = .steps xs → (∀ s ∈ acc, s.picks.length ≤ 32) → xs.length ≤ acc.length + ls.length ∧ ∀ s ∈ xs, s.picks.length ≤ 32
  | [], n, acc, xs, h, ha => by rw [goP] at h; cases h; exact ⟨by simp, ha⟩
  | [l], n, acc, xs, h, ha => by
    rw [goP_one] at h
    split at h
    · cases h; exact ⟨by simp, ha⟩
    · cases h
  | l :: a :: r, n, acc, xs, h, ha => by
    rw [goP_two] at h
    split at h
    · obtain ⟨h1, h2⟩ := goP_bound (a :: r) (n + 1) acc xs h ha
      exact ⟨by simp only [List.length_cons] at h1 ⊢; omega, h2⟩
    · cases hs : stepM l with
      | none => rw [hs] at h; cases h
      | some x =>
        rw [hs] at h
        simp only at h
        obtain ⟨h1, h2⟩ := goP_bound (a :: r) (n + 1) (acc ++ [x]) xs h (fun s hs' => by
          rcases List.mem_append.1 hs' with q | q
          · exact ha s q
          · simp at q; subst q; exact stepM_picks hs)
        exact ⟨by simp only [List.length_cons, List.length_append, List.length_nil] at h1 ⊢; omega, h2⟩
theorem parseM_bound {text : Wd} {xs : List Stp} (h : parseM text = .steps xs) : xs.length ≤ text.length + 1 ∧ ∀ s ∈ xs, s.picks.length ≤ 32 := by
  obtain ⟨h1, h2⟩ := goP_bound _ _ _ _ h (by simp)
  have := cutB_len 10 text
  exact ⟨by simp only [List.length_nil] at h1; omega, h2⟩
set_option maxRecDepth 1000000 in
theorem awake_finS (a b : Addr) : finT (fast (ρS a b) 100000 0 6 [] Heap.nil) = true := by kernel_rfl
theorem awake_runS (a b : Addr) : ∃ H, evCall (cx (ρS a b)) 100000 0 6 [] Heap.nil = some (.bool true, H) := by
  have h := awake_finS a b
  rw [fast_eq] at h
  exact of_finT h
section
variable {ρ : Addr → Option Value} {K : Nat} {H : Heap}
theorem law_ret (R : RT ρ) (text : Wd) (hK : 60000 ≤ K) (hA : ∃ H, evCall (cx ρ) K 0 6 [] Heap.nil = some (.bool true, H)) : Ret (fun v H' => v = .bool true) (evCall (cx ρ) (K + 1) 0 3 [.str (ba text)] Heap.nil) := by
  obtain ⟨H0, hA⟩ := hA
  rw [E3]
  have fin : ∀ (y1 y2 : AV) (r1 r2 : List (List AV)) (xs : List Stp) (n e : Int) (H1 : Heap), Els ρ H1 8 y1 r1 → Els ρ H1 8 y2 r2 → RPs ρ H1 Nop r1 xs → RPs ρ H1 Nop r2 xs → xs.length ≤ 10000 → (∀ s ∈ xs, s.picks.length ≤ 10000) → Ret (fun v H' => v = .bool true) (N3_1 ρ (evCall (cx ρ) K) (evCY (cx ρ) K).2 0 K y1 (.int .i64 n) (.int .i64 e) y2 (.int .i64 n) (.int .i64 e) H1 retK) := by
    intro y1 y2 r1 r2 xs n e H1 e1 e2 p1 p2 hl hp
    have c1 : ∀ n : Int, decide (n = n) = true := fun n => by simp
    simp only [N3_1]
    refine Ret.bind (same_spec e1 e2 p1 p2 hl hp (by omega)) ?_
    rintro v H2 ⟨rfl, rfl⟩
    simp only [wantV_tt, gPur_true, bin_eql, decide_true, pickA_true, purK_some, retK_one]
    exact ⟨_, _, rfl, rfl⟩
  by_cases hl : text.length > 5000
  · have c1 : decide ((text.length : Int) > 5000) = true := decide_eq_true (by omega)
    by_cases hl2 : text.length ≤ 100000
    · have c2 : decide ((text.length : Int) ≤ 100000) = true := decide_eq_true (by omega)
      simp only [L3, hA, resK_some, un_not, Bool.not_true, condK_false, lenT_ba, bin_gtr, bin_leq, c1, c2, wantV_tt, gPur_true, pickA_true, purK_some, condK_true, retK_one]
      exact .intro rfl
    · have c2 : decide ((text.length : Int) ≤ 100000) = false := decide_eq_false (by omega)
      have c3 : decide ((text.length : Int) > 100000) = true := decide_eq_true (by omega)
      obtain ⟨k, rfl⟩ : ∃ q, K = q + 1 := ⟨K - 1, by omega⟩
      have p1 : evCall (cx ρ) (k + 1) 0 7 [.str (ba text)] H0 = some (.tup [.nils, .int .i64 0, .int .i64 5], H0) := by
        rw [E7]
        simp only [L7, lenT_ba, bin_gtr, c3, purK_some, condK_true, retK_two]
      have p2 : evCall (cx ρ) (k + 1) 0 8 [.str (ba text)] H0 = some (.tup [.nils, .int .i64 0, .int .i64 5], H0) := by
        rw [E8]
        simp only [L8, lenT_ba, bin_gtr, c3, purK_some, condK_true, retK_two]
      simp only [L3, hA, resK_some, un_not, Bool.not_true, condK_false, lenT_ba, bin_gtr, bin_leq, c1, c2, wantV_tt, gPur_true, pickA_true, purK_some, p1, p2, extA_0, extA_1, extA_2]
      exact fin .nils .nils [] [] [] 0 5 H0 rfl rfl trivial trivial (by simp) (by simp)
  · have c1 : decide ((text.length : Int) > 5000) = false := decide_eq_false (by omega)
    simp only [L3, hA, resK_some, un_not, Bool.not_true, condK_false, lenT_ba, bin_gtr, c1, wantV_ft, gPur_false, pickA_false, purK_some]
    refine Ret.bind (parse_spec R text (by omega) (by omega)) ?_
    rintro v1 H1 ⟨f1, h1⟩
    have second : ∀ (y1 : AV) (n e : Int), v1 = .tup [y1, .int .i64 n, .int .i64 e] → (∀ v2 H2, RPP ρ H1 text v2 H2 → ∃ y2, v2 = .tup [y2, .int .i64 n, .int .i64 e] ∧ ∃ r1 r2 xs, Els ρ H2 8 y1 r1 ∧ Els ρ H2 8 y2 r2 ∧ RPs ρ H2 Nop r1 xs ∧ RPs ρ H2 Nop r2 xs ∧ xs.length ≤ 10000 ∧ ∀ s ∈ xs, s.picks.length ≤ 10000) → Ret (fun v H' => v = .bool true) (purK (extA 0 v1) fun x22 => purK (extA 1 v1) fun x23 => purK (extA 2 v1) fun x24 => resK (evCall (cx ρ) K 0 8 [.str (ba text)] H1) fun x27 H => purK (extA 0 x27) fun x28 => purK (extA 1 x27) fun x29 => purK (extA 2 x27) fun x30 => N3_1 ρ (evCall (cx ρ) K) (evCY (cx ρ) K).2 0 K x22 x23 x24 x28 x29 x30 H retK) := by
      rintro y1 n e rfl hq
      simp only [extA_0, extA_1, extA_2, purK_some]
      refine Ret.bind (rparse_spec text (by omega) (by omega)) ?_
      intro v2 H2 h2
      obtain ⟨y2, rfl, r1, r2, xs, a1, a2, a3, a4, a5, a6⟩ := hq v2 H2 h2
      simp only [extA_0, extA_1, extA_2, purK_some]
      exact fin y1 y2 r1 r2 xs n e H2 a1 a2 a3 a4 a5 a6
    cases hp : parseM text with
    | steps xs =>
      rw [hp] at h1
      obtain ⟨y1, r1, rfl, e1, p1⟩ := h1
      obtain ⟨b1, b2⟩ := parseM_bound hp
      refine second y1 0 0 rfl fun v2 H2 h2 => ?_
      obtain ⟨f2, h2⟩ := h2
      rw [hp] at h2
      obtain ⟨y2, r2, rfl, e2, p2⟩ := h2
      exact ⟨y2, rfl, r1, r2, xs, e1.frame0 f2, e2, p1.frame f2 (fun t e => e), p2, by omega, fun s hs => Nat.le_trans (b2 s hs) (by omega)⟩
    | bad m =>
      rw [hp] at h1
      refine second .nils m 4 h1 fun v2 H2 h2 => ?_
      obtain ⟨f2, h2⟩ := h2
      rw [hp] at h2
      exact ⟨.nils, h2, [], [], [], rfl, rfl, trivial, trivial, by simp, by simp⟩
end
theorem walkP (s : ByteArray) (W : World) (h : laidMet Tryd.prog Rows.scriptParsesRow.laid W) : Calls Tryd.prog 3 #[.string s] W fun e w' => e = .returned (.bool true) ∧ Below W.heap.size W w' := by
  obtain ⟨a, b, hr⟩ := reads_S h
  obtain ⟨r, H1, hrun, rfl⟩ := law_ret (rt_of a b) (bs s) (K := 100000) (by omega) (awake_runS a b)
  simp only [ba_bs] at hrun
  exact calls_of_run_reads (C := cx (ρS a b)) (vs := [.string s]) hr (by kernel_rfl) (cx_ext _) Tryd.func3 rfl hrun ⟨_, _, rfl, rfl, rfl⟩
end Go.Proofs.YtnkeebchblfbgaaDoor
