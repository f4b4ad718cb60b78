/- Part 6: Ext FB RecA HisA HyA HyBi HyB HyC HyD HyE HyF HyG HyH HyI HyS HyT HyU HyV HyW HyX. -/
import Derived.Test.YtkmohjddojpdjabBnB
import Derived.Test.YtkmohjddojpdjabBnE
import Derived.KernelRfl
import Derived.Test.YtkmohjddojpdjabBnC
import Derived.Sort.AssemblyPlain
import Derived.Sort.Walk0
-- part Ext
/- The functions without a Go body are the ones that the evaluator knows. -/
namespace Go.Proofs.Ytkmohjddojpdjab
open Go.Ev Go.RowKit
set_option maxRecDepth 1000000 in
theorem cx_ext (ρ : Addr → Option Value) : ExtOK (cx ρ) := by
  intro f k h
  exact absurd h (by simp [cx, xk])
end Go.Proofs.Ytkmohjddojpdjab

-- part FB
/- field.Bytes: the bytes of words. -/
set_option linter.unusedVariables false
set_option linter.unusedSimpArgs false
namespace Go.Proofs.Ytkmohjddojpdjab
attribute [local congr] Go.Ev.cond_congr1
open Go.Ev Go.RowKit
section
variable {ρ : Addr → Option Value} {k : Nat} {H : Heap}
/-- The bytes of words, the first n. -/
theorem bytes_spec {x : AV} (ws : List Int) (hx : Els ρ H 1 x (urow ws)) (hw : ∀ w ∈ ws,U64 w) (hlen : ws.length < 100000) (n : Nat) (hn : n ≤ 8 * ws.length) (hk : 8 * ws.length + 10 ≤ k) :
    Ret (fun v H' => Fr Nop H H' ∧ ((¬ (ws.length = (n + 7) / 8) ∨ ((wbytes ws).drop n).any (· ≠ 0) = true) ∧ v = .tup [.str (ba []),.int .i64 4] ∨ (ws.length = (n + 7) / 8 ∧ ((wbytes ws).drop n).any (· ≠ 0) = false) ∧ v = .tup [.str (ba ((wbytes ws).take n)),.int .i64 0])) (evCall (cx ρ) k 0 53 [x,.int .i64 n] H) := by
  obtain ⟨k,rfl⟩ : ∃ q,k = q + 1 := ⟨k - 1,by omega⟩
  have lx := hx.lenS
  rw [urow_len] at lx
  obtain ⟨N,hN⟩ : ∃ N,N = 8 * ws.length := ⟨_,rfl⟩
  have c0 : ¬ (n : Int) < 0 := by omega
  have c1 : ¬ (N : Int) < (n : Int) := by omega
  have mk : ∀ H : Heap,mkS H 5 1 1 [.int .u8 0] (.int .i64 N) (.int .i64 N) = some (.sl H.sz 0 0 N N false,.new (.cells 0 5 (0,0) false (repeatL [.int .u8 0] N))) := fun H => by
    have a1 : decide ((0 : Int) ≤ N) = true := by simp
    have a2 : decide ((N : Int) ≤ N) = true := by simp
    have a3 : decide ((N : Int) * (1 : Nat) ≤ 281474976710656) = true := by simp; omega
    have a4 : decide ((N : Int) ≤ 9223372036854775807) = true := by simp; omega
    simp only [mkS,a1,a2,a3,a4,Bool.and_self,Int.toNat_natCast]
    rfl
  have rep0 : repeatL [AV.int .u8 0] N = (List.range N).map fun j => if j < 0 then byteCell (wbyte ws j) else .int .u8 0 := by
    apply List.ext_getElem
    · rw [repeatL_one]; simp
    · intro i h1 h2
      simp [repeatL_one]
  rw [E53]
  simp only [L53,c0,c1,lx,q_N ws.length (by omega),← hN,mk,purK_some,condK_false,retK_two,bin_mul,bin_lss,bin_gtr,decide_false,emp1]
  refine (St.start Nop H).newS fun b H1 s1 hz1 f1 => ?_
  rw [rep0] at s1
  simp only [lenS,N53_5,N53_6,purK_some]
  refine Ret.loop (fun m y H' => ∃ i : Nat,y = .int .i64 i ∧ m = N - i ∧ i ≤ N ∧ St Nop H [(b,.cells 0 5 (0,0) false ((List.range N).map fun j => if j < i then byteCell (wbyte ws j) else .int .u8 0))] H' ∧ Fr (fun t => t = b) H1 H') ?_ N k _ H1 ⟨0,rfl,rfl,by omega,s1,Fr.refl ..⟩ (by omega)
  rintro m y H' kn ⟨i,rfl,hm,hi,s,fr⟩ next
  by_cases h : i < N
  · have h' : (i : Int) < N := by omega
    have n8 : (8 : Int) ≠ 0 := by decide
    have hq : i / 8 < ws.length := by omega
    have hX := (hx.frame0 f1).frame _ fr fun t ht e => by have := hx.lies_lt t ht; omega
    have e1 := hX.ix .i64 ((i / 8 : Nat) : Int) (by omega) (by rw [urow_len]; omega)
    rw [Int.toNat_natCast] at e1
    have e2 := hX.ld1 (i / 8) 0 (by rw [urow_len]; exact hq) (by decide)
    have e3 : (urow ws)[i / 8]'(by rw [urow_len]; exact hq) = [.int .u64 ws[i / 8]] := by simp [urow]
    rw [e3,List.getElem?_cons_zero] at e2
    have hwr := hw _ (List.getElem_mem hq)
    have hm8 : i % 8 < 8 := Nat.mod_lt _ (by omega)
    have q4 : (0 : Int) ≤ ((i % 8 : Nat) : Int) * 8 := by omega
    have q5 := byte_val ws[i / 8] hwr (i % 8) hm8
    have q6 : (UInt8.ofNat (ws[i / 8].toNat / 256 ^ (i % 8) % 256)) = wbyte ws i := by simp [wbyte,List.getD,hq]
    rw [q6] at q5
    have e4 : ixS 1 (.sl b 0 0 N N false) (.int .i64 i) = some (.ptr b 0 i) := by
      have a1 : decide ((0 : Int) ≤ i) = true := by simp
      have a2 : decide ((i : Int) < N) = true := by simpa using h
      simp [ixS,Ev.asInt,elAt,h,addA]
    simp only [N53_6b,h',bin_quo _ _ _ _ _ _ n8,bin_rem _ _ _ _ _ _ n8,q_div i (by omega),q_mod,q_mul (i % 8) hm8,e1,e2,bin_shr _ _ _ _ _ _ _ q4,q5,e4,purK_some,condK_true,bin_add,bin_mul,bin_lss,cvI_int,decide_true]
    clear q5
    refine s.st 0 rfl rfl (by simpa using h) fun H2 s2 z2 f2 => ?_
    simp only [wrap_succN i (by omega : i + 1 < 9223372036854775808)]
    refine next (m - 1) _ H2 (by omega) ⟨i + 1,rfl,by omega,by omega,?_,fr.trans f2⟩
    rw [range_set] at s2
    have : (fun j => if j = i then AV.int .u8 (wbyte ws i).toNat else if j < i then byteCell (wbyte ws j) else .int .u8 0) = fun j => if j < i + 1 then byteCell (wbyte ws j) else .int .u8 0 := by
      funext j
      by_cases h1 : j = i
      · subst h1; simp [byteCell]
      · by_cases h2 : j < i
        · have : j < i + 1 := by omega
          simp [h1,h2,this]
        · have : ¬ j < i + 1 := by omega
          simp [h1,h2,this]
    rw [this] at s2
    exact s2
  · obtain rfl : i = N := by omega
    have h' : ¬ ((i : Nat) : Int) < (i : Nat) := by omega
    have hcells : ((List.range i).map fun j => if j < i then byteCell (wbyte ws j) else .int .u8 0) = (wbytes ws).map byteCell := by
      unfold wbytes
      rw [← hN,List.map_map]
      apply List.map_congr_left
      intro j hj
      rw [List.mem_range] at hj
      simp [hj]
    rw [hcells] at s
    have hbl : (wbytes ws).length = i := by rw [wbytes_len,hN]
    have hE : Els ρ H' 1 (.sl b 0 0 i i false) (brow (wbytes ws)) := by
      have := Els.of_cells (ρ := ρ) (H := H') (l := b) (v := 0) (e := 5) (fr := (0,0)) (g := false) (m := false) (els := brow (wbytes ws)) (sz := 1) (s.lt' 0 rfl) (by rw [s.at 0 rfl,brow_flat]) (brow_one _)
      rwa [brow_len,hbl] at this
    have n8 : (8 : Int) ≠ 0 := by decide
    simp only [N53_6b,N53_1,h',lx,q_up n (by omega),q_div (n + 7) (by omega),bin_quo _ _ _ _ _ _ n8,purK_some,condK_false,retK_two,bin_add,bin_sub,bin_neq,bin_lss,decide_false,emp1]
    by_cases hq : ws.length = (n + 7) / 8
    · have hq' : ¬ ((ws.length : Nat) : Int) ≠ (((n + 7) / 8 : Nat) : Int) := by omega
      obtain ⟨y,ey,hy,_⟩ := hE.cut (lo := n) (hi := i) (by omega) (by rw [brow_len,hbl]; exact Nat.le_refl _) (some (.int .i64 n)) none (Or.inr ⟨_,rfl⟩) (Or.inl ⟨rfl,by rw [brow_len,hbl]⟩) (fun n => by simp)
      obtain ⟨z,ez,hz,_⟩ := hE.cut (lo := 0) (hi := n) (by omega) (by rw [brow_len,hbl]; omega) none (some (.int .i64 n)) (Or.inl ⟨rfl,rfl⟩) (Or.inr ⟨_,rfl⟩) (fun n => by simp)
      have hy' : Els ρ H' 1 y (brow ((wbytes ws).drop n)) := by
        have : ((brow (wbytes ws)).drop n).take (i - n) = brow ((wbytes ws).drop n) := by
          rw [List.take_of_length_le (by rw [List.length_drop,brow_len,hbl]; exact Nat.le_refl _)]
          unfold brow; rw [List.map_drop]
        rwa [this] at hy
      have hz' : Els ρ H' 1 z (brow ((wbytes ws).take n)) := by
        have : ((brow (wbytes ws)).drop 0).take (n - 0) = brow ((wbytes ws).take n) := by
          rw [List.drop_zero,Nat.sub_zero]; unfold brow; rw [List.map_take]
        rwa [this] at hz
      have ly := hy'.lenS
      rw [brow_len] at ly
      obtain ⟨R,hR⟩ : ∃ R,R = (wbytes ws).drop n := ⟨_,rfl⟩
      rw [← hR] at hy' ly
      have hRl : R.length < 1000000 := by rw [hR,List.length_drop,hbl]; omega
      have hns : ∀ m,z ≠ .sx m := slS_notSx ez
      have ez' := b2s_brow hz' hns
      simp only [hq',ey,ly,N53_3,N53_4,purK_some,condK_false,decide_false]
      refine Ret.loop (fun m y H'' => ∃ j : Nat,y = .int .i64 j ∧ m = R.length - j ∧ j ≤ R.length ∧ H'' = H' ∧ (R.take j).any (· ≠ 0) = false) ?_ R.length k _ H' ⟨0,rfl,rfl,by omega,rfl,by simp⟩ (by rw [hR,List.length_drop,hbl]; omega)
      rintro m2 y2 H'' kn2 ⟨j,rfl,hm2,hj,rfl,hall⟩ next2
      by_cases h2 : j < R.length
      · have h2' : (j : Int) < R.length := by omega
        have e1 := hy'.ix .i64 j (by omega) (by rw [brow_len]; omega)
        rw [Int.toNat_natCast] at e1
        have e2 := hy'.ld1 j 0 (by rw [brow_len]; exact h2) (by decide)
        have e3 : (brow R)[j]'(by rw [brow_len]; exact h2) = [byteCell R[j]] := by simp [brow]
        rw [e3,List.getElem?_cons_zero] at e2
        unfold byteCell at e2
        have ht : (R.take (j + 1)).any (· ≠ 0) = ((R.take j).any (· ≠ 0) || decide (R[j] ≠ 0)) := by
          rw [List.take_succ_eq_append_getElem h2,List.any_append]; simp
        simp only [N53_4b,h2',e1,e2,purK_some,condK_true,retK_two,bin_add,bin_neq,bin_lss,decide_true,emp1]
        refine Ret.condD (fun hb => ?_) (fun hb => ?_)
        · refine .intro ⟨s.fr,Or.inl ⟨Or.inr ?_,rfl⟩⟩
          rw [← hR,List.any_eq_true]
          exact ⟨R[j],List.getElem_mem h2,by simp; intro e; rw [e] at hb; exact hb rfl⟩
        · simp only [wrap_succN j (by omega : j + 1 < 9223372036854775808)]
          refine next2 (m2 - 1) _ H'' (by omega) ⟨j + 1,rfl,by omega,by omega,rfl,?_⟩
          rw [ht,hall]
          simp only [Bool.false_or,decide_eq_false_iff_not,ne_eq,Classical.not_not]
          apply UInt8.toNat_inj.1
          have : ¬ ((R[j].toNat : Int) ≠ 0) := hb
          show R[j].toNat = 0
          omega
      · obtain rfl : j = R.length := by omega
        have h2' : ¬ ((R.length : Nat) : Int) < (R.length : Nat) := by omega
        rw [List.take_length] at hall
        simp only [N53_4b,N53_2,h2',ez,ez',purK_some,condK_false,retK_two,bin_add,bin_lss,decide_false,emp1]
        exact .intro ⟨s.fr,Or.inr ⟨⟨hq,by rw [← hR]; exact hall⟩,rfl⟩⟩
    · have hq' : ((ws.length : Nat) : Int) ≠ (((n + 7) / 8 : Nat) : Int) := by omega
      simp only [hq',ne_eq,not_false_eq_true,condK_true,decide_true]
      exact .intro ⟨s.fr,Or.inl ⟨Or.inl hq,rfl⟩⟩
end
end Go.Proofs.Ytkmohjddojpdjab

-- part RecA
/- A value's number, a number's value: the program's and the reference's. -/
set_option linter.unusedVariables false
set_option linter.unusedSimpArgs false
namespace Go.Proofs.Ytkmohjddojpdjab
attribute [local congr] Go.Ev.cond_congr1
open Go.Ev Go.RowKit
/-- A value's number. -/
def numV (v : List UInt8) : Nat := if v.length = 8 then numB v else 0
theorem numV_lt (v : List UInt8) : numV v < 18446744073709551616 := by
  unfold numV; split
  · rename_i h
    have := numB_lt v
    rw [h] at this
    have h8 : 256 ^ 8 = 18446744073709551616 := by decide
    omega
  · omega
def addV (v : List UInt8) (n : Int) : List UInt8 := w8 (wrapK .u64 ((numV v : Int) + n))
section
variable {ρ : Addr → Option Value} {k : Nat} {H : Heap}
theorem words8_spec (v : List UInt8) (hv : v.length = 8) (hk : 20 ≤ k) : Ret (fun r H' => ∃ n,r = .sl n 0 0 1 1 false ∧ H'.get n = .cells 0 22 (0,0) false [.int .u64 (numB v)] ∧ n < H'.sz ∧ Fr Nop H H') (evCall (cx ρ) k 0 54 [.str (ba v)] H) := by
  obtain ⟨k,rfl⟩ : ∃ q,k = q + 1 := ⟨k - 1,by omega⟩
  have n8 : (8 : Int) ≠ 0 := by decide
  have mk : ∀ H : Heap,mkS H 22 1 8 [.int .u64 0] (.int .i64 1) (.int .i64 1) = some (.sl H.sz 0 0 1 1 false,.new (.cells 0 22 (0,0) false [.int .u64 0])) := fun H => rfl
  have l8 : ((8 : Nat) : Int) = 8 := rfl
  have w1 : wrapK .i64 (16 : Int) = 16 := by decide
  have w2 : wrapK .i64 (15 : Int) = 15 := by decide
  have w3 : wrapK .i64 ((15 : Int).tdiv 8) = 1 := by decide
  rw [E54]
  simp only [L54,hv,l8,w1,w2,bin_quo _ _ _ _ _ _ n8,w3,mk,purK_some,bin_add,bin_sub,lenT_str,Int.reduceAdd,Int.reduceSub,ba_size]
  clear w1 w2 w3
  refine (St.start Nop H).newS fun n H1 s1 hz1 f1 => ?_
  simp only [N54_2,N54_3]
  refine Ret.loop (fun m (y : AV) H' => ∃ i : Nat,y = .int .i64 i ∧ m = 8 - i ∧ i ≤ 8 ∧ St Nop H [(n,.cells 0 22 (0,0) false [.int .u64 (numB (v.take i))])] H') ?_ 8 k _ H1 ⟨0,rfl,rfl,by omega,s1⟩ (by omega)
  rintro m y H' kn ⟨i,rfl,hm,hi,s⟩ next
  by_cases h : i < 8
  · have h' : (i : Int) < 8 := by omega
    have hiv : i < v.length := by omega
    have e1 := ixT_ba v .i64 i hiv
    have z8 : i / 8 = 0 := by omega
    have m8 : i % 8 = i := by omega
    have ixz : ixS 1 (.sl n 0 0 1 1 false) (.int .i64 ((0 : Nat) : Int)) = some (.ptr n 0 0) := rfl
    have lz : ldC 0 0 (.cells 0 22 (0,0) false [.int .u64 (numB (v.take i))]) = some (.int .u64 (numB (v.take i))) := by rw [ldC_cells]; rfl
    have hb := v[i].toNat_lt
    have q0 : (0 : Int) ≤ ((i : Nat) : Int) * 8 := by omega
    have hn : numB (v.take i) < 256 ^ i := by
      have := numB_lt (v.take i)
      rwa [List.length_take,Nat.min_eq_left (by omega)] at this
    have hsn : numB (v.take (i + 1)) = numB (v.take i) + 256 ^ i * v[i].toNat := by
      rw [List.take_succ_eq_append_getElem hiv,numB_snoc,List.length_take,Nat.min_eq_left (by omega)]
    simp only [N54_3b,h',bin_quo _ _ _ _ _ _ n8,bin_rem _ _ _ _ _ _ n8,q_div i (by omega),q_mod,z8,m8,q_mul i h,ixz,ld1_ptr,s.at 0 rfl,lz,e1,wrap_u64 (v[i].toNat : Int) (by omega),bin_shl _ _ _ _ _ _ _ q0,shl_val v[i].toNat i h hb,bin_or,or_add _ i _ h hn hb,← hsn,purK_some,condK_true,bin_add,bin_mul,bin_lss,cvI_int,decide_true]
    refine s.st 0 rfl rfl (show 0 < 1 by decide) fun H2 s2 z2 f2 => ?_
    simp only [wrap_succN i (by omega : i + 1 < 9223372036854775808)]
    exact next (m - 1) _ H2 (by omega) ⟨i + 1,rfl,by omega,by omega,s2⟩
  · obtain rfl : i = 8 := by omega
    have h' : ¬ ((8 : Nat) : Int) < 8 := by omega
    rw [List.take_of_length_le (by omega)] at s
    simp only [N54_3b,N54_1,h',purK_some,condK_false,retK_one,bin_add,bin_lss,decide_false]
    exact .intro ⟨n,rfl,s.at 0 rfl,s.lt' 0 rfl,s.fr⟩
theorem num_spec (v : List UInt8) (hk : 30 ≤ k) : Ret (fun r H' => r = .int .u64 (numV v) ∧ Fr Nop H H') (evCall (cx ρ) k 0 51 [.str (ba v)] H) := by
  obtain ⟨k,rfl⟩ : ∃ q,k = q + 1 := ⟨k - 1,by omega⟩
  rw [E51]
  unfold numV
  by_cases h : v.length = 8
  · have h' : ¬ (v.length : Int) ≠ 8 := by omega
    simp only [L51,h',purK_some,condK_false,retK_one,bin_neq,lenT_str,decide_false,ba_size]
    refine Ret.bind (words8_spec v h (by omega)) ?_
    rintro r H1 ⟨n,rfl,g,hn,f1⟩
    have ixz : ixS 1 (.sl n 0 0 1 1 false) (.int .i64 0) = some (.ptr n 0 0) := rfl
    have lz : ldC 0 0 (.cells 0 22 (0,0) false [.int .u64 (numB v)]) = some (.int .u64 (numB v)) := by rw [ldC_cells]; rfl
    simp only [ixz,ld1_ptr,g,lz,purK_some]
    exact .intro ⟨by rw [if_pos h],f1⟩
  · have h' : (v.length : Int) ≠ 8 := by omega
    simp only [L51,h',ne_eq,not_false_eq_true,purK_some,condK_true,retK_one,bin_neq,lenT_str,decide_true,ba_size]
    exact .intro ⟨by rw [if_neg h]; rfl,Fr.refl ..⟩
theorem val_spec (n : Int) (hn : U64 n) (hk : 40 ≤ k) : Ret (fun v H' => v = .str (ba (w8 n)) ∧ Fr Nop H H') (evCall (cx ρ) k 0 50 [.int .u64 n] H) := by
  obtain ⟨k,rfl⟩ : ∃ q,k = q + 1 := ⟨k - 1,by omega⟩
  have bl : ∀ H : Heap,bldS H 22 1 [.int .u64 0] 1 [(0,1,.int .u64 n)] = some (.sl H.sz 0 0 1 1 false,.new (.cells 0 22 (0,0) false [.int .u64 n])) := fun H => rfl
  rw [E50]
  simp only [L50,bl]
  refine (St.start Nop H).newS fun b H1 s1 hz1 f1 => ?_
  have hE : Els ρ H1 1 (.sl b 0 0 1 1 false) (urow [n]) := Els.of_cells (els := urow [n]) (e := 22) (fr := (0,0)) (g := false) (s1.lt' 0 rfl) (by rw [s1.at 0 rfl]; rfl) (by intro r hr; simp [urow] at hr; subst hr; rfl)
  refine Ret.bind (bytes_spec (k := k) [n] hE (by simpa using hn) (show 1 < 100000 by decide) 8 (show 8 ≤ 8 * 1 by decide) (by simp; omega)) ?_
  rintro v H2 ⟨f2,(⟨h,rfl⟩ | ⟨h,rfl⟩)⟩
  · exfalso
    rcases h with h | h
    · exact h (show 1 = (8 + 7) / 8 by decide)
    · rw [List.drop_of_length_le (by rw [wbytes_len]; exact (show 8 * 1 ≤ 8 by decide))] at h
      simp at h
  · have : (wbytes [n]).take 8 = w8 n := List.take_of_length_le (by rw [wbytes_len]; exact (show 8 * 1 ≤ 8 by decide))
    simp only [this,purK_some,extA_0,extA_1,retK_one]
    exact .intro ⟨rfl,f1.trans f2⟩
theorem adds_spec (v : List UInt8) (n : Int) (hk : 50 ≤ k) : Ret (fun r H' => r = .str (ba (addV v n)) ∧ Fr Nop H H') (evCall (cx ρ) k 0 43 [.str (ba v),.int .u64 n] H) := by
  obtain ⟨k,rfl⟩ : ∃ q,k = q + 1 := ⟨k - 1,by omega⟩
  rw [E43]
  simp only [L43]
  refine Ret.bind (num_spec v (by omega)) ?_
  rintro r H1 ⟨rfl,f1⟩
  simp only [purK_some,retK_one,bin_add]
  refine Ret.bind (val_spec _ (wrap_u64_range _) (by omega)) ?_
  rintro r H2 ⟨rfl,f2⟩
  try simp only [purK_some,resK_some,boolK_some,condK_true,condK_false,wantV_tt,wantV_tf,wantV_ft,wantV_ff,wantV_t,wantV_f,wantV_skip,Bool.not_true,Bool.not_false,gPur_true,gPur_false,gEff_true,gEff_false,gRes_true,gRes_false,pickA_true,pickA_false,extA_0,extA_1,extA_2,retK_one,retK_none,retK_two,valK_fn,valR_fn,cnd_true,cnd_false,bin_add,bin_sub,bin_mul,bin_eql,bin_neq,bin_lss,bin_leq,bin_gtr,bin_geq,bin_seql,bin_sneq,un_not_t,un_not_f,un_not,cvI_int,cvT_str,nilChk_ptr,nilChk_xp,addA_ptr,lenT_str,Bool.true_or,Bool.or_true,Bool.false_or,Bool.or_false,Bool.true_and,Bool.and_true,Bool.false_and,Bool.and_false,decide_true,decide_false,Int.reduceEq,Int.reduceLT,Int.reduceLE,Int.reduceNe,Int.reduceAdd,Int.reduceSub,Int.reduceMul,Int.reduceNeg,List.nil_append,List.append_nil,List.cons_append]
  exact .intro ⟨rfl,f1.trans f2⟩
end
end Go.Proofs.Ytkmohjddojpdjab

-- part HisA
/- What an operation does to what a key has: the program's and the reference's. -/
set_option linter.unusedVariables false
set_option linter.unusedSimpArgs false
namespace Go.Proofs.Ytkmohjddojpdjab
attribute [local congr] Go.Ev.cond_congr1
open Go.Ev Go.RowKit
structure OpB where
  kind : Int
  key : List UInt8
  val : List UInt8
  n : Int
deriving DecidableEq
def OpB.cells (d : OpB) : List AV := [.int .i64 d.kind,.str (ba d.key),.str (ba d.val),.int .u64 d.n]
theorem OpB.solid (d : OpB) : d.cells.all AV.solid = true := by simp only [OpB.cells,List.all_cons,List.all_nil,sol_int,sol_str,Bool.and_self]
/-- What a key has. -/
structure HasB where
  val : List UInt8
  is : Bool
deriving DecidableEq
structure OutB where
  code : Int
  val : List UInt8
deriving DecidableEq
def OutB.cells (d : OutB) : List AV := [.int .i64 d.code,.str (ba d.val)]
def HasB.cells (d : HasB) : List AV := [.str (ba d.val),.bool d.is]
theorem OutB.solid (d : OutB) : d.cells.all AV.solid = true := by simp only [OutB.cells,List.all_cons,List.all_nil,sol_int,sol_str,Bool.and_self]
theorem HasB.solid (d : HasB) : d.cells.all AV.solid = true := by simp only [HasB.cells,List.all_cons,List.all_nil,sol_bool,sol_str,Bool.and_self]
/-- What is had, as it is told: nothing where there is none. -/
def HasB.norm (h : HasB) : HasB := if h.is then h else ⟨[],false⟩
/-- An operation is done. -/
def applyH (h : HasB) (op : OpB) : HasB × OutB :=
  if op.kind = 1 then (if h.is then (h,⟨0,h.val⟩) else (⟨[],false⟩,⟨7,[]⟩))
  else if op.kind = 2 then (⟨op.val,true⟩,⟨0,[]⟩)
  else if op.kind = 3 then (⟨addV h.norm.val op.n,true⟩,⟨0,[]⟩)
  else if op.kind = 4 then (⟨[],false⟩,⟨0,[]⟩)
  else (h.norm,⟨1,[]⟩)
section
variable {ρ : Addr → Option Value} {k : Nat} {H : Heap}
theorem eqOut (H : Heap) (o : OutB) : binA Try.prog H .eql 29 (.agg o.cells) (.agg o.cells) = some (.bool true) := by
  have : ∀ a s,binA Try.prog H .eql 29 (.agg [.int .i64 a,.str s]) (.agg [.int .i64 a,.str s]) = (bif a == a then bif s == s then some true else some false else some false).map fun b => .bool b := fun a s => by kernel_rfl
  unfold OutB.cells
  rw [this]
  simp [ba_beq]
theorem eqb (H : Heap) (a b : Bool) : binA Try.prog H .eql 4 (.bool a) (.bool b) = some (.bool (a == b)) := by cases a <;> cases b <;> kernel_rfl
theorem apply_spec (h : HasB) (op : OpB) (hk : 100 ≤ k) :
    Ret (fun v H' => v = .tup [.str (ba (applyH h op).1.val),.bool (applyH h op).1.is,.agg (applyH h op).2.cells] ∧ Fr Nop H H') (evCall (cx ρ) k 0 31 [.str (ba h.val),.bool h.is,.agg op.cells] H) := by
  obtain ⟨k,rfl⟩ : ∃ q,k = q + 1 := ⟨k - 1,by omega⟩
  rw [E31]
  simp only [L31,boxA_agg _ _ _ op.solid,newCells_eq]
  refine (St.start Nop H).newP fun n5 H1 s1 hz1 f1 => ?_
  refine s1.newP fun n8 H2 s2 hz2 f2 => ?_
  have s2' : St Nop H [(n5,.cells 0 24 (0,0) false op.cells),(n8,.cells 0 29 (0,0) false [.int .i64 0,.str ByteArray.empty])] H2 := s2
  have d0 : ldC 0 0 (.cells 0 24 (0,0) false op.cells) = some (.int .i64 op.kind) := by rw [ldC_cells]; rfl
  have d2 : ldC 0 2 (.cells 0 24 (0,0) false op.cells) = some (.str (ba op.val)) := by rw [ldC_cells]; rfl
  have d3 : ldC 0 3 (.cells 0 24 (0,0) false op.cells) = some (.int .u64 op.n) := by rw [ldC_cells]; rfl
  have bo : ∀ (o : OutB),(bldA [.int .i64 0,.str ByteArray.empty] [(0,1,.int .i64 o.code),(1,1,.str (ba o.val))]) = some (.agg o.cells) := fun o => rfl
  have b7 : ∀ c : Int,(bldA [.int .i64 0,.str ByteArray.empty] [(0,1,.int .i64 c)]) = some (.agg (OutB.cells ⟨c,[]⟩)) := fun c => rfl
  have bv : ∀ v,(bldA [.int .i64 0,.str ByteArray.empty] [(1,1,.str (ba v))]) = some (.agg (OutB.cells ⟨0,v⟩)) := fun v => rfl
  have b00 : (bldA [.int .i64 0,.str ByteArray.empty] []) = some (.agg (OutB.cells ⟨0,[]⟩)) := rfl
  -- the end: the outcome is laid and read again
  have fin : ∀ {H3 : Heap} (o : OutB) (v : List UInt8) (b : Bool),St Nop H [(n5,.cells 0 24 (0,0) false op.cells),(n8,.cells 0 29 (0,0) false [.int .i64 0,.str ByteArray.empty])] H3 →
      Ret (fun r H' => r = .tup [.str (ba v),.bool b,.agg o.cells] ∧ Fr Nop H H') (effK H3 (stA 0 H3 2 (.ptr n8 0 0) (.agg o.cells)) fun _ H => retC (cx ρ) [none,none,some 29] [.str (ba v),.bool b,.ptr n8 0 0] H) := by
    intro H3 o v b s3
    refine s3.stN 1 rfl rfl o.solid (by decide) fun H4 s4 z4 f4 => ?_
    rw [lay_all [.int .i64 0,.str ByteArray.empty] o.cells rfl] at s4
    have e4 : ldN ρ H4 2 (.ptr n8 0 0) = some (.agg o.cells) := by rw [ldN_of 2 0 (s4.at 1 rfl) (Nat.le_refl _)]; rfl
    simp only [ldT29,e4,retC_eq,retAll_nil,retAll_none,retAll_some,Option.bind_some]
    exact .intro ⟨rfl,s4.fr⟩
  have main : Ret (fun v H' => v = .tup [.str (ba (applyH h op).1.val),.bool (applyH h op).1.is,.agg (applyH h op).2.cells] ∧ Fr Nop H H') (N31_1 ρ (evCall (cx ρ) k) (evCY (cx ρ) k).2 0 k (.str (ba h.norm.val)) (.bool h.is) (.ptr n5 0 0) (.ptr n8 0 0) H2 (retC (cx ρ) [none,none,some 29])) := by
    unfold applyH
    by_cases k1 : op.kind = 1
    · simp only [N31_1,ld1_ptr,s2'.at 0 rfl,d0,k1,if_true,Nat.zero_add,purK_some,condK_true,condK_false,bin_eql,un_not,addA_ptr,decide_true,decide_false,Int.reduceEq]
      cases hi : h.is
      · simp only [if_false,Bool.false_eq_true,condK_true,Bool.not_false,emp1,emp2]
        exact fin ⟨7,[]⟩ [] false s2'
      · have hn : h.norm = h := by unfold HasB.norm; rw [hi]; rfl
        simp only [hn,if_true,condK_false,Bool.not_true,emp2]
        have := fin (H3 := H2) ⟨0,h.val⟩ h.val true s2'
        obtain ⟨v,i⟩ := h
        simp only at hi
        subst hi
        exact this
    by_cases k2 : op.kind = 2
    · simp only [N31_1,ld1_ptr,s2'.at 0 rfl,d0,d2,k2,if_true,if_false,b00,Nat.zero_add,Int.reduceEq,purK_some,condK_true,condK_false,bin_eql,un_not,addA_ptr,decide_true,decide_false,Int.reduceEq]
      exact fin ⟨0,[]⟩ op.val true s2'
    by_cases k3 : op.kind = 3
    · simp only [N31_1,ld1_ptr,s2'.at 0 rfl,d0,d3,k3,if_true,if_false,Nat.zero_add,Int.reduceEq,purK_some,condK_true,condK_false,bin_eql,un_not,addA_ptr,decide_true,decide_false,Int.reduceEq]
      refine Ret.bind (adds_spec h.norm.val op.n (by omega)) ?_
      rintro r H3 ⟨rfl,f3⟩
      simp only [b00,purK_some]
      exact fin ⟨0,[]⟩ _ true (s2'.frame0 f3)
    by_cases k4 : op.kind = 4
    · simp only [N31_1,ld1_ptr,s2'.at 0 rfl,d0,k4,if_true,if_false,Nat.zero_add,Int.reduceEq,purK_some,condK_true,condK_false,bin_eql,un_not,addA_ptr,decide_true,decide_false,Int.reduceEq,emp1,emp2]
      exact fin ⟨0,[]⟩ [] false s2'
    · simp only [N31_1,ld1_ptr,s2'.at 0 rfl,d0,k1,k2,k3,k4,if_false,b7,Nat.zero_add,purK_some,condK_false,bin_eql,un_not,addA_ptr,decide_false]
      have hn2 : h.norm.is = h.is := by unfold HasB.norm; split; rfl; rename_i q; simpa using q
      rw [← hn2]
      exact fin ⟨1,[]⟩ h.norm.val h.norm.is s2'
  cases hi : h.is
  · rw [hi] at main
    have hn : h.norm.val = [] := by unfold HasB.norm; rw [hi]; rfl
    rw [hn] at main
    simp only [purK_some,condK_true,Bool.not_false,un_not,emp1]
    exact main
  · rw [hi] at main
    have hn : h.norm.val = h.val := by unfold HasB.norm; rw [hi]; rfl
    rw [hn] at main
    simp only [purK_some,condK_false,Bool.not_true,un_not,emp1]
    exact main
end
end Go.Proofs.Ytkmohjddojpdjab

-- part HyA
/- Orders of a key's events: the plain model; how many nodes there can be. -/
set_option linter.unusedVariables false
set_option linter.unusedSimpArgs false
namespace Go.Proofs.Ytkmohjddojpdjab
open Go.Ev Go.RowKit
structure EvB where
  op : OpB
  out : OutB
  frm : Int
  to : Int
deriving DecidableEq
def EvB.cells (d : EvB) : List AV := [.int .i64 d.op.kind,.str (ba d.op.key),.str (ba d.op.val),.int .u64 d.op.n,.int .i64 d.out.code,.str (ba d.out.val),.int .i64 d.frm,.int .i64 d.to]
theorem EvB.solid (d : EvB) : d.cells.all AV.solid = true := by simp only [EvB.cells,List.all_cons,List.all_nil,sol_int,sol_str,Bool.and_self]
theorem EvB.len (d : EvB) : d.cells.length = 8 := rfl
def EvB.full (e : EvB) : Bool := decide (0 < e.to) && decide (e.out.code = 9)
def EvB.must (e : EvB) : Bool := decide (0 < e.to) && !decide (e.out.code = 9)
def EvB.ok (e : EvB) : Bool := decide (1 ≤ e.op.kind) && decide (e.op.kind ≤ 4) && decide (1 ≤ e.frm) && (decide (e.to = 0) || decide (e.frm < e.to))
def rightL (l : List EvB) : Bool := l.all EvB.ok
/-- Those that are ahead of x. -/
def aheadL (l : List EvB) (x : EvB) : List Bool := l.map fun y => y.must && decide (y.to < x.frm)
def mustL (l : List EvB) : List Bool := l.map EvB.must
abbrev Nd := Nat × HasB
/-- The next one: i. -/
def mayN (l : List EvB) (m : Nat) (h : HasB) (i : Nat) : Option Nd := match l[i]? with
  | none => none
  | some x => if x.full || m.testBit i || !subM (maskL (aheadL l x)) m then none else
    if 0 < x.to ∧ (applyH h x.op).2 ≠ x.out then none else some (m ||| 2 ^ i,(applyH h x.op).1)
def nd0 : Nd := (0,⟨[],false⟩)
inductive Rch (l : List EvB) : Nd → Prop
  | start : Rch l nd0
  | step {n n' : Nd} {i : Nat} : Rch l n → mayN l n.1 n.2 i = some n' → Rch l n'
theorem mayN_some {l : List EvB} {m i : Nat} {h : HasB} {n : Nd} (e : mayN l m h i = some n) :
    ∃ x,l[i]? = some x ∧ x.full = false ∧ m.testBit i = false ∧ subM (maskL (aheadL l x)) m = true ∧ (0 < x.to → (applyH h x.op).2 = x.out) ∧ n = (m ||| 2 ^ i,(applyH h x.op).1) := by
  unfold mayN at e
  cases hx : l[i]? with
  | none => rw [hx] at e; cases e
  | some x =>
    rw [hx] at e
    simp only at e
    split at e
    · cases e
    · rename_i c
      split at e
      · cases e
      · rename_i c2
        simp only [Bool.or_eq_true,Bool.not_eq_true',not_or,Bool.not_eq_true,Bool.not_eq_false] at c
        refine ⟨x,rfl,c.1.1,c.1.2,c.2,fun h0 => ?_,(Option.some.inj e).symm⟩
        exact Decidable.not_not.1 fun q => c2 ⟨h0,q⟩
theorem mayN_lt {l : List EvB} {m i : Nat} {h : HasB} {n : Nd} (e : mayN l m h i = some n) : i < l.length := by
  obtain ⟨x,hx,_⟩ := mayN_some e
  exact (List.getElem?_eq_some_iff.1 hx).1
-- how many
theorem numB_take (S : Nat) : ∀ i,i ≤ 8 → numB ((w8 S).take i) = S % 256 ^ i
  | 0,_ => by simp [numB,Nat.mod_one]
  | i + 1,h => by
    have hi8 : i < (w8 S).length := by rw [w8_len]; omega
    rw [List.take_succ_eq_append_getElem hi8,numB_snoc,numB_take S i (by omega),w8_at _ i (by omega),Int.toNat_natCast,List.length_take,w8_len,Nat.min_eq_left (by omega),UInt8.toNat_ofNat']
    have : S / 256 ^ i % 256 % 2 ^ 8 = S / 256 ^ i % 256 := Nat.mod_eq_of_lt (by have := Nat.mod_lt (S / 256 ^ i) (show 0 < 256 by decide); omega)
    rw [this,Nat.pow_succ,Nat.mod_mul]
theorem numV_w8 (n : Int) (h : U64 n) : (numV (w8 n) : Int) = n := by
  obtain ⟨S,rfl⟩ : ∃ S : Nat,n = S := ⟨n.toNat,by have := h.1; omega⟩
  have hS : S < 18446744073709551616 := by have := h.2; omega
  unfold numV
  rw [if_pos (w8_len _)]
  have := numB_take S 8 (Nat.le_refl _)
  rw [List.take_of_length_le (by rw [w8_len]; exact Nat.le_refl _)] at this
  rw [this]
  have h8 : 256 ^ 8 = 18446744073709551616 := by decide
  rw [h8,Nat.mod_eq_of_lt hS]
/-- What is added by those in S. -/
def sumS : List EvB → Nat → Int
  | [],_ => 0
  | x :: r,S => (if S.testBit 0 then x.op.n else 0) + sumS r (S / 2)
theorem sumS_or : ∀ (l : List EvB) (S i : Nat) (x : EvB),l[i]? = some x → S.testBit i = false → sumS l (S ||| 2 ^ i) = sumS l S + x.op.n
  | [],S,i,x,h,_ => by simp at h
  | y :: r,S,0,x,h,hb => by
    have : y = x := by simpa using h
    subst this
    have e1 : (S ||| 2 ^ 0).testBit 0 = true := by rw [or_pow_bit]; simp
    have e2 : (S ||| 2 ^ 0) / 2 = S / 2 := by
      apply Nat.eq_of_testBit_eq
      intro j
      rw [← Nat.testBit_succ,← Nat.testBit_succ,or_pow_bit]
      simp
    simp only [sumS,e1,e2,hb,if_true,Bool.false_eq_true,if_false]
    omega
  | y :: r,S,i + 1,x,h,hb => by
    have ih := sumS_or r (S / 2) i x (by simpa using h) (by rw [← Nat.testBit_succ]; exact hb)
    have e1 : (S ||| 2 ^ (i + 1)).testBit 0 = S.testBit 0 := by rw [or_pow_bit]; simp
    have e2 : (S ||| 2 ^ (i + 1)) / 2 = S / 2 ||| 2 ^ i := by
      apply Nat.eq_of_testBit_eq
      intro j
      rw [← Nat.testBit_succ,or_pow_bit,or_pow_bit,Nat.testBit_succ]
      simp
    simp only [sumS,e1,e2,ih]
    omega
def baseV (l : List EvB) (w : Nat) : Int := if w = 0 then 0 else numV ((l[w - 1]?.map fun x => x.op.val).getD [])
def hasOf (l : List EvB) (w S : Nat) : HasB := if S = 0 then (if w = 0 then ⟨[],false⟩ else ⟨(l[w - 1]?.map fun x => x.op.val).getD [],true⟩) else ⟨w8 (wrapK .u64 (baseV l w + sumS l S)),true⟩
theorem sumS_zero : ∀ l : List EvB,sumS l 0 = 0
  | [] => rfl
  | x :: r => by simp [sumS,sumS_zero r]
theorem hasOf_num (l : List EvB) (w S : Nat) : wrapK .u64 (numV (hasOf l w S).norm.val : Int) = wrapK .u64 (baseV l w + sumS l S) := by
  unfold hasOf
  by_cases hS : S = 0
  · subst hS
    rw [if_pos rfl,sumS_zero,Int.add_zero]
    unfold baseV
    by_cases hw : w = 0
    · simp [hw,HasB.norm,numV]
    · simp [hw,HasB.norm]
  · rw [if_neg hS]
    have : (HasB.norm ⟨w8 (wrapK .u64 (baseV l w + sumS l S)),true⟩).val = w8 (wrapK .u64 (baseV l w + sumS l S)) := rfl
    rw [this,numV_w8 _ (wrap_u64_range _),u64w,u64w]
    omega
theorem hasOf_not {l : List EvB} {w S : Nat} (h : (hasOf l w S).is = false) : hasOf l w S = ⟨[],false⟩ := by
  unfold hasOf at h ⊢
  split at h
  · rename_i hS
    rw [if_pos hS]
    split at h
    · rename_i hw; rw [if_pos hw]
    · cases h
  · cases h
def codeN (l : List EvB) (c : Nat) : Nd := (c / (65536 * 17),hasOf l (c / 65536 % 17) (c % 65536))
theorem rch_code {l : List EvB} (hl : l.length ≤ 16) {n : Nd} (h : Rch l n) : ∃ w S,w ≤ l.length ∧ n.1 < 2 ^ l.length ∧ S < 2 ^ l.length ∧ (∀ j,S.testBit j = true → n.1.testBit j = true) ∧ n.2 = hasOf l w S := by
  induction h with
  | start => exact ⟨0,0,by omega,Nat.two_pow_pos _,Nat.two_pow_pos _,fun j h => by simp at h,rfl⟩
  | step hr he ih =>
    rename_i n n' i
    obtain ⟨w,S,h1,h2,h3,h4,h5⟩ := ih
    obtain ⟨x,hx,hfull,hbit,_,_,rfl⟩ := mayN_some he
    have hi : i < l.length := (List.getElem?_eq_some_iff.1 hx).1
    have hlt := or_lt n.1 i l.length h2 hi
    have hsub : ∀ j,S.testBit j = true → (n.1 ||| 2 ^ i).testBit j = true := fun j hj => by rw [or_pow_bit,h4 j hj]; rfl
    have hSi : S.testBit i = false := by
      cases q : S.testBit i with
      | false => rfl
      | true => rw [h4 i q] at hbit; cases hbit
    have same : n.2.norm = n.2 := by
      unfold HasB.norm
      split
      · rfl
      · rename_i q
        rw [h5] at q ⊢
        rw [hasOf_not (by simpa using q)]
    unfold applyH
    by_cases k1 : x.op.kind = 1
    · rw [if_pos k1]
      refine ⟨w,S,h1,hlt,h3,hsub,?_⟩
      by_cases q : n.2.is = true
      · rw [if_pos q]; exact h5
      · rw [if_neg q]
        rw [h5] at q
        exact (hasOf_not (by simpa using q)).symm
    rw [if_neg k1]
    by_cases k2 : x.op.kind = 2
    · rw [if_pos k2]
      refine ⟨i + 1,0,by omega,hlt,Nat.two_pow_pos _,fun j h => by simp at h,?_⟩
      unfold hasOf
      rw [if_pos rfl,if_neg (by omega),Nat.add_sub_cancel,hx]
      rfl
    rw [if_neg k2]
    by_cases k3 : x.op.kind = 3
    · rw [if_pos k3]
      refine ⟨w,S ||| 2 ^ i,h1,hlt,or_lt S i _ h3 hi,fun j hj => ?_,?_⟩
      · rw [or_pow_bit] at hj ⊢
        rcases Bool.or_eq_true _ _ ▸ hj with q | q
        · rw [h4 j q]; rfl
        · rw [q,Bool.or_true]
      · have hne : S ||| 2 ^ i ≠ 0 := fun e => by
          have := congrArg (fun q => q.testBit i) e
          simp only [or_pow_bit,decide_true,Bool.or_true,Nat.zero_testBit] at this
          cases this
        unfold hasOf
        rw [if_neg hne,sumS_or l S i x hx hSi]
        simp only [addV,HasB.mk.injEq,and_true]
        congr 1
        have := hasOf_num l w S
        rw [← h5] at this
        rw [u64w,u64w] at this ⊢
        omega
    rw [if_neg k3]
    by_cases k4 : x.op.kind = 4
    · rw [if_pos k4]
      exact ⟨0,0,by omega,hlt,Nat.two_pow_pos _,fun j h => by simp at h,rfl⟩
    · rw [if_neg k4]
      exact ⟨w,S,h1,hlt,h3,hsub,by simp only; rw [same]; exact h5⟩
theorem nodup_le {α : Type} [DecidableEq α] : ∀ (l r : List α),l.Nodup → (∀ x ∈ l,x ∈ r) → l.length ≤ r.length
  | [],r,_,_ => by simp
  | x :: l,r,hn,hs => by
    rw [List.nodup_cons] at hn
    have hx : x ∈ r := hs x (by simp)
    have := nodup_le l (r.erase x) hn.2 fun y hy => (List.mem_erase_of_ne (fun e : y = x => hn.1 (by rw [← e]; exact hy))).2 (hs y (by simp [hy]))
    rw [List.length_erase_of_mem hx] at this
    have hp : 0 < r.length := List.length_pos_of_mem hx
    rw [List.length_cons]; omega
def maxNd : Nat := 73014444032
theorem rch_count {l : List EvB} (hl : l.length ≤ 16) (L : List Nd) (hnd : L.Nodup) (hr : ∀ n ∈ L,Rch l n) : L.length ≤ maxNd := by
  have hp : 2 ^ l.length ≤ 2 ^ 16 := Nat.pow_le_pow_right (by decide) hl
  have h16 : (2 : Nat) ^ 16 = 65536 := by decide
  have key : ∀ n ∈ L,n ∈ (List.range maxNd).map (codeN l) := by
    intro n hn
    obtain ⟨w,S,h1,h2,h3,_,h5⟩ := rch_code hl (hr n hn)
    rw [List.mem_map]
    refine ⟨(n.1 * 17 + w) * 65536 + S,?_,?_⟩
    · rw [List.mem_range,maxNd]; omega
    · unfold codeN
      have e1 : ((n.1 * 17 + w) * 65536 + S) / (65536 * 17) = n.1 := by omega
      have e2 : ((n.1 * 17 + w) * 65536 + S) / 65536 % 17 = w := by omega
      have e3 : ((n.1 * 17 + w) * 65536 + S) % 65536 = S := by omega
      rw [e1,e2,e3,← h5]
  have := nodup_le L _ hnd key
  rw [List.length_map,List.length_range] at this
  exact this
end Go.Proofs.Ytkmohjddojpdjab

-- part HyBi
/- A function that is asked of the elements of a slice, one by one. -/
set_option linter.unusedVariables false
set_option linter.unusedSimpArgs false
namespace Go.Proofs.Ytkmohjddojpdjab
attribute [local congr] Go.Ev.cond_congr1
open Go.Ev Go.RowKit
theorem cf_ev {α : Type} {ρ : Addr → Option Value} {H : Heap} {x : AV} {g : FuncId} {a c : List AV} (ds : List α) (f : α → List AV) (P : α → Bool) (k0 k : Nat)
    (hx : Els ρ H 8 x (ds.map f)) (hlen : ds.length < 4611686018427387904) (hk : k0 + ds.length + 4 ≤ k)
    (hf : ∀ d ∈ ds,∀ H' k',Fr Nop H H' → k0 ≤ k' → Ret (fun v H'' => v = .bool (P d) ∧ Fr Nop H' H'') (evCall (cx ρ) k' 0 g (a ++ [(.agg (f d))] ++ c) H')) :
    Ret (fun v H' => v = .bool (ds.any P) ∧ Fr Nop H H') (evCall (cx ρ) k 0 22 [x,.fn (.func g) a c] H) := by
  obtain ⟨k,rfl⟩ : ∃ q,k = q + 2 := ⟨k - 2,by omega⟩
  have hl : lenS x = some (.int .i64 ds.length) := by have := hx.lenS; rwa [List.length_map] at this
  rw [E22]
  simp only [L22]
  rw [E30]
  simp only [L30,hl,N30_2,N30_3,purK_some,retK_one]
  have main : Ret (fun v H' => (∃ j : Nat,v = .int .i64 j ∧ ds.any P = true ∧ Fr Nop H H') ∨ (v = .int .i64 (-1) ∧ ds.any P = false ∧ Fr Nop H H'))
      (loopL (fun (x_1 : AV) H kn => N30_3b ρ (evCall (cx ρ) k) (evCY (cx ρ) k).2 0 k x (.fn (.func g) a c) (.int .i64 ds.length) x_1 H (fun x8 H => kn x8 H) (fun H => N30_1 ρ (evCall (cx ρ) k) (evCY (cx ρ) k).2 0 k H retK) retK) k (.int .i64 0) H) := by
    refine Ret.loop (fun m y H' => ∃ i : Nat,y = .int .i64 i ∧ m = ds.length - i ∧ i ≤ ds.length ∧ Fr Nop H H' ∧ (ds.take i).any P = false) ?_ ds.length k _ H ⟨0,rfl,by omega,by omega,Fr.refl ..,by simp⟩ (by omega)
    rintro m y H' kn ⟨i,rfl,hm,hi,fr,hall⟩ next
    simp only [N30_3b,purK_some,retK_one,valK_fn,bin_add,bin_lss,Int.reduceNeg]
    refine Ret.condD (fun h => ?_) (fun h => ?_)
    · have hi : i < ds.length := by omega
      have hX := hx.frame0 fr
      have e1 := hX.ix .i64 i (by omega) (by simpa using h)
      rw [Int.toNat_natCast] at e1
      have e2 : ldN ρ H' 8 (elp 8 x i 0) = some (.agg (f ds[i])) := by
        have := hX.ldN i (by simpa using hi)
        rw [this]; simp
      simp only [e1,e2,purK_some,Int.reduceNeg]
      refine Ret.bind (hf ds[i] (List.getElem_mem hi) H' k fr (by omega)) ?_
      rintro v H1 ⟨rfl,f1⟩
      have ht : ds.take (i + 1) = ds.take i ++ [ds[i]] := by rw [List.take_succ_eq_append_getElem hi]
      refine Ret.cond (fun hp => ?_) (fun hp => ?_)
      · refine .intro (Or.inl ⟨i,rfl,?_,fr.trans f1⟩)
        rw [List.any_eq_true]; exact ⟨ds[i],List.getElem_mem hi,hp⟩
      · have w : wrapK .i64 ((i : Int) + 1) = ((i + 1 : Nat) : Int) := wrap_succN i (by omega)
        simp only [w,Int.reduceNeg]
        exact next (m - 1) _ H1 (by omega) ⟨i + 1,rfl,by omega,by omega,fr.trans f1,by rw [ht,List.any_append,hall]; simp [hp]⟩
    · have : i = ds.length := by omega
      subst this
      simp only [N30_1,retK_one,Int.reduceNeg]
      rw [List.take_length] at hall
      exact .intro (Or.inr ⟨rfl,hall,fr⟩)
  refine Ret.bind main ?_
  rintro v H' (⟨j,rfl,hj,fr⟩ | ⟨rfl,hj,fr⟩)
  · have : (0 : Int) ≤ (j : Int) := by omega
    simp only [this,purK_some,bin_geq,decide_true]
    exact .intro ⟨by rw [hj],fr⟩
  · have : ¬ (0 : Int) ≤ -1 := by omega
    simp only [this,purK_some,bin_geq,decide_false,Int.reduceNeg]
    exact .intro ⟨by rw [hj],fr⟩
end Go.Proofs.Ytkmohjddojpdjab

-- part HyB
/- Which events may be: the program's and the reference's. -/
set_option linter.unusedVariables false
set_option linter.unusedSimpArgs false
namespace Go.Proofs.Ytkmohjddojpdjab
attribute [local congr] Go.Ev.cond_congr1
open Go.Ev Go.RowKit
section
variable (e : Nat) (fr : Nat × Nat) (g : Bool) (d : EvB)
theorem ec0 : ldC 0 0 (.cells 0 e fr g d.cells) = some (.int .i64 d.op.kind) := by rw [ldC_cells]; rfl
theorem ec1 : ldC 0 1 (.cells 0 e fr g d.cells) = some (.str (ba d.op.key)) := by rw [ldC_cells]; rfl
theorem ec4 : ldC 0 4 (.cells 0 e fr g d.cells) = some (.int .i64 d.out.code) := by rw [ldC_cells]; rfl
theorem ec6 : ldC 0 6 (.cells 0 e fr g d.cells) = some (.int .i64 d.frm) := by rw [ldC_cells]; rfl
theorem ec7 : ldC 0 7 (.cells 0 e fr g d.cells) = some (.int .i64 d.to) := by rw [ldC_cells]; rfl
theorem ecN8 : ldCN 8 0 0 (.cells 0 e fr g d.cells) = some (.agg d.cells) := by rw [ldCN_cells _ _ _ _ _ _ _ (Nat.le_refl _)]; rfl
theorem ecN4 : ldCN 4 0 0 (.cells 0 e fr g d.cells) = some (.agg d.op.cells) := by rw [ldCN_cells _ _ _ _ _ _ _ (show 0 + 4 ≤ 8 by decide)]; rfl
theorem ecN2 : ldCN 2 0 4 (.cells 0 e fr g d.cells) = some (.agg d.out.cells) := by rw [ldCN_cells _ _ _ _ _ _ _ (show 4 + 2 ≤ 8 by decide)]; rfl
end
section
variable {ρ : Addr → Option Value} {k : Nat} {H : Heap}
theorem odd_spec (d : EvB) (hk : 1 ≤ k) : Ret (fun v H' => v = .bool (!d.ok) ∧ Fr Nop H H') (evCall (cx ρ) k 0 23 [.agg d.cells] H) := by
  obtain ⟨k,rfl⟩ : ∃ q,k = q + 1 := ⟨k - 1,by omega⟩
  rw [E23]
  simp only [L23,boxA_agg _ _ _ d.solid]
  refine (St.start Nop H).newP fun n H1 s hz f1 => ?_
  have fin : ∀ b,d.ok = b → Ret (fun v H' => v = .bool (!d.ok) ∧ Fr Nop H H') (.done (.bool (!b),H1)) := fun b h => .intro ⟨by rw [h],f1⟩
  by_cases c1 : d.op.kind < 1
  · have : d.ok = false := by simp only [EvB.ok]; rw [decide_eq_false (by omega)]; rfl
    simp only [ld1_ptr,s.at 0 rfl,ec0,c1,Nat.zero_add,purK_some,wantV_f,wantV_skip,Bool.not_true,gPur_false,pickA_true,retK_one,bin_lss,addA_ptr,decide_true]
    exact fin false this
  by_cases c2 : 4 < d.op.kind
  · have : d.ok = false := by simp only [EvB.ok]; rw [decide_eq_false (show ¬ d.op.kind ≤ 4 by omega)]; simp
    simp only [ld1_ptr,s.at 0 rfl,ec0,c1,c2,Nat.zero_add,purK_some,wantV_f,wantV_skip,Bool.not_true,Bool.not_false,gPur_true,gPur_false,pickA_true,pickA_false,retK_one,bin_lss,bin_gtr,addA_ptr,decide_true,decide_false]
    exact fin false this
  by_cases c3 : d.frm < 1
  · have : d.ok = false := by simp only [EvB.ok]; rw [decide_eq_false (show ¬ 1 ≤ d.frm by omega)]; simp
    simp only [ld1_ptr,s.at 0 rfl,ec0,ec6,c1,c2,c3,Nat.zero_add,purK_some,wantV_f,wantV_skip,Bool.not_true,Bool.not_false,gPur_true,gPur_false,pickA_true,pickA_false,retK_one,bin_lss,bin_gtr,addA_ptr,decide_true,decide_false]
    exact fin false this
  have b1 : decide (1 ≤ d.op.kind) = true := decide_eq_true (by omega)
  have b2 : decide (d.op.kind ≤ 4) = true := decide_eq_true (by omega)
  have b3 : decide (1 ≤ d.frm) = true := decide_eq_true (by omega)
  by_cases c4 : d.to = 0
  · have : d.ok = true := by simp only [EvB.ok,b1,b2,b3]; rw [decide_eq_true c4]; rfl
    simp only [ld1_ptr,s.at 0 rfl,ec0,ec6,ec7,c1,c2,c3,c4,ne_eq,not_true_eq_false,Nat.zero_add,purK_some,wantV_t,wantV_f,Bool.not_false,gPur_true,gPur_false,pickA_false,retK_one,bin_neq,bin_lss,bin_gtr,addA_ptr,decide_false]
    exact fin true this
  by_cases c5 : d.to ≤ d.frm
  · have : d.ok = false := by simp only [EvB.ok,b1,b2,b3]; rw [decide_eq_false c4,decide_eq_false (show ¬ d.frm < d.to by omega)]; rfl
    simp only [ld1_ptr,s.at 0 rfl,ec0,ec6,ec7,c1,c2,c3,c4,c5,ne_eq,not_false_eq_true,Nat.zero_add,purK_some,wantV_t,wantV_f,Bool.not_false,gPur_true,pickA_true,pickA_false,retK_one,bin_neq,bin_lss,bin_leq,bin_gtr,addA_ptr,decide_true,decide_false]
    exact fin false this
  · have : d.ok = true := by simp only [EvB.ok,b1,b2,b3]; rw [decide_eq_true (show d.frm < d.to by omega)]; simp
    simp only [ld1_ptr,s.at 0 rfl,ec0,ec6,ec7,c1,c2,c3,c4,c5,ne_eq,not_false_eq_true,Nat.zero_add,purK_some,wantV_t,wantV_f,Bool.not_false,gPur_true,pickA_true,pickA_false,retK_one,bin_neq,bin_lss,bin_leq,bin_gtr,addA_ptr,decide_true,decide_false]
    exact fin true this
theorem right_spec {x : AV} (ds : List EvB) (hx : Els ρ H 8 x (ds.map EvB.cells)) (hlen : ds.length < 4611686018427387904) (hk : ds.length + 20 ≤ k) :
    Ret (fun v H' => v = .bool (rightL ds) ∧ Fr Nop H H') (evCall (cx ρ) k 0 13 [x] H) := by
  obtain ⟨k,rfl⟩ : ∃ q,k = q + 1 := ⟨k - 1,by omega⟩
  rw [E13]
  simp only [L13]
  refine Ret.bind (cf_ev ds EvB.cells (fun d => !d.ok) 1 k hx hlen (by omega) fun d hd H' k' f hk' => odd_spec d hk') ?_
  rintro v H1 ⟨rfl,f1⟩
  simp only [purK_some,retK_one,un_not]
  refine .intro ⟨?_,f1⟩
  congr 1
  unfold rightL
  rw [← List.not_all_eq_any_not]; simp
end
end Go.Proofs.Ytkmohjddojpdjab

-- part HyC
/- A search is opened: the key's events, where they are, who is ahead of whom. -/
set_option linter.unusedVariables false
set_option linter.unusedSimpArgs false
namespace Go.Proofs.Ytkmohjddojpdjab
attribute [local congr] Go.Ev.cond_congr1
open Go.Ev Go.RowKit
/-- A key's events, and where they are. -/
def subE (ds : List EvB) (key : List UInt8) : List (EvB × Nat) := ds.zipIdx.filter fun e => decide (e.1.op.key = key)
def evsOf (ds : List EvB) (key : List UInt8) : List EvB := (subE ds key).map Prod.fst
def atsOf (ds : List EvB) (key : List UInt8) : List Nat := (subE ds key).map Prod.snd
def irow (l : List Nat) : List (List AV) := l.map fun n : Nat => [AV.int .i64 (n : Int)]
def mrow (l : List Nat) : List (List AV) := l.map fun n : Nat => [AV.int .u32 (n : Int)]
theorem evsOf_len (ds : List EvB) (key : List UInt8) : (evsOf ds key).length ≤ ds.length := by
  unfold evsOf subE
  rw [List.length_map]
  refine Nat.le_trans (List.length_filter_le _ _) ?_
  rw [List.length_zipIdx]; exact Nat.le_refl _
theorem subE_take (ds : List EvB) (key : List UInt8) (i : Nat) (h : i < ds.length) : subE (ds.take (i + 1)) key = if ds[i].op.key = key then subE (ds.take i) key ++ [(ds[i],i)] else subE (ds.take i) key := by
  unfold subE
  rw [List.take_succ_eq_append_getElem h,List.zipIdx_append,List.filter_append,List.length_take,Nat.min_eq_left (by omega),Nat.zero_add]
  by_cases q : ds[i].op.key = key
  · simp [q]
  · simp [q]
/-- A search in its place. -/
def srC (xl xa xh : AV) (m : Nat) (f b : Nat) : List AV := [xl,xa,xh,.int .u32 m,.mp f,.mp b]
section
variable (xl xa xh : AV) (m f b : Nat)
theorem sr0 : ldC 0 0 (.cells 0 64 (0,0) false (srC xl xa xh m f b)) = some xl := by rw [ldC_cells]; rfl
theorem sr1 : ldC 0 1 (.cells 0 64 (0,0) false (srC xl xa xh m f b)) = some xa := by rw [ldC_cells]; rfl
theorem sr2 : ldC 0 2 (.cells 0 64 (0,0) false (srC xl xa xh m f b)) = some xh := by rw [ldC_cells]; rfl
theorem sr3 : ldC 0 3 (.cells 0 64 (0,0) false (srC xl xa xh m f b)) = some (.int .u32 m) := by rw [ldC_cells]; rfl
theorem sr4 : ldC 0 4 (.cells 0 64 (0,0) false (srC xl xa xh m f b)) = some (.mp f) := by rw [ldC_cells]; rfl
theorem sr5 : ldC 0 5 (.cells 0 64 (0,0) false (srC xl xa xh m f b)) = some (.mp b) := by rw [ldC_cells]; rfl
end
theorem noev : (EvB.mk ⟨0,[],[],0⟩ ⟨0,[]⟩ 0 0).cells = [AV.int .i64 0,.str ByteArray.empty,.str ByteArray.empty,.int .u64 0,.int .i64 0,.str ByteArray.empty,.int .i64 0,.int .i64 0] := rfl
theorem eqvE (d : EvB) : AV.eqv (.agg d.cells) (.agg d.cells) = true := by simp only [EvB.cells,eqv_agg,eqvs_cons,eqvs_nil,eqv_int,eqv_str,Bool.and_self]
section
variable {ρ : Addr → Option Value} {k : Nat} {H : Heap}
theorem el_ev {H : Heap} {x : AV} {ds : List EvB} (hX : Els ρ H 8 x (ds.map EvB.cells)) (i : Nat) (h : i < ds.length) : ixS 8 x (.int .i64 i) = some (elp 8 x i 0) ∧ ldN ρ H 8 (elp 8 x i 0) = some (.agg ds[i].cells) := by
  have e1 := hX.ix .i64 i (by omega) (by simpa using h)
  rw [Int.toNat_natCast] at e1
  refine ⟨e1,?_⟩
  have := hX.ldN i (by simpa using h)
  rw [this]; simp
theorem len_ev {H : Heap} {x : AV} {ds : List EvB} (hX : Els ρ H 8 x (ds.map EvB.cells)) : lenS x = some (.int .i64 ds.length) := by have := hX.lenS; rwa [List.length_map] at this
/-- The first loop: the key's events. -/
theorem open1 {x : AV} (ds : List EvB) (key : List UInt8) (hx : Els ρ H 8 x (ds.map EvB.cells)) (hlen : ds.length ≤ 1000) {p f b : Nat} {H1 : Heap}
    {Q : AV → Heap → Prop} {call : CallF} {yc : YieldF} {K : AV → Heap → Res}
    (s : Sg Nop H [(f,.map [] 0),(b,.map [] 0),(p,.cells 0 64 (0,0) false (srC .nils .nils .nils 0 f b))] [⟨31,8,.nils,[]⟩,⟨3,1,.nils,[]⟩] H1) (hk : ds.length + 2 ≤ k)
    (hK : ∀ xl xa H',Sg Nop H [(f,.map [] 0),(b,.map [] 0),(p,.cells 0 64 (0,0) false (srC xl xa .nils 0 f b))] [⟨31,8,xl,(evsOf ds key).map EvB.cells⟩,⟨3,1,xa,irow (atsOf ds key)⟩] H' → Ret Q (K (.ptr p 0 0) H')) :
    Ret Q (N8_10 ρ call yc 0 k (.str (ba key)) (.ptr p 0 0) x (.int .i64 ds.length) (.int .i64 0) H1 K) := by
  simp only [N8_10,N8_11]
  refine Ret.loop (fun m y H' => ∃ (i : Nat) (xl xa : AV),y = .int .i64 i ∧ m = ds.length - i ∧ i ≤ ds.length ∧ Sg Nop H [(f,.map [] 0),(b,.map [] 0),(p,.cells 0 64 (0,0) false (srC xl xa .nils 0 f b))] [⟨31,8,xl,(evsOf (ds.take i) key).map EvB.cells⟩,⟨3,1,xa,irow (atsOf (ds.take i) key)⟩] H') ?_ ds.length k _ H1 ⟨0,.nils,.nils,rfl,by omega,by omega,s⟩ (by omega)
  rintro m y H' kn ⟨i,xl,xa,rfl,hm,hi,s⟩ next
  by_cases h : i < ds.length
  · have h' : (i : Int) < (ds.length : Nat) := by omega
    obtain ⟨e1,e2⟩ := el_ev (hx.frame0 s.fr) i h
    obtain ⟨d,hd⟩ : ∃ d,d = ds[i] := ⟨_,rfl⟩
    rw [← hd] at e2
    have w : wrapK .i64 ((i : Int) + 1) = ((i + 1 : Nat) : Int) := wrap_succN i (by omega)
    have hsub := subE_take ds key i h
    rw [← hd] at hsub
    simp only [N8_11b,h',e1,e2,purK_some,condK_true,bin_lss,nilChk_ptr,addA_ptr,Bool.and_true,decide_true]
    refine s.var rfl rfl d.solid fun n8 H3 s3 z3 f3 => ?_
    have s3' : Sg Nop H [(f,.map [] 0),(b,.map [] 0),(p,.cells 0 64 (0,0) false (srC xl xa .nils 0 f b)),(n8,.cells 0 31 (0,0) false d.cells)] [⟨31,8,xl,(evsOf (ds.take i) key).map EvB.cells⟩,⟨3,1,xa,irow (atsOf (ds.take i) key)⟩] H3 := s3
    by_cases q : d.op.key = key
    · rw [if_pos q] at hsub
      have hse : (evsOf (ds.take (i + 1)) key).map EvB.cells = (evsOf (ds.take i) key).map EvB.cells ++ [d.cells] := by unfold evsOf; rw [hsub,List.map_append,List.map_append]; rfl
      have hsa : irow (atsOf (ds.take (i + 1)) key) = irow (atsOf (ds.take i) key) ++ [[.int .i64 i]] := by unfold atsOf irow; rw [hsub,List.map_append,List.map_append]; rfl
      have hll : (evsOf (ds.take i) key).length ≤ 1000 := Nat.le_trans (evsOf_len _ _) (by rw [List.length_take]; omega)
      have hla : (atsOf (ds.take i) key).length = (evsOf (ds.take i) key).length := by unfold atsOf evsOf; rw [List.length_map,List.length_map]
      have b1 : bldS H3 31 8 [.int .i64 0,.str (ba []),.str (ba []),.int .u64 0,.int .i64 0,.str (ba []),.int .i64 0,.int .i64 0] 1 [(0,8,.agg d.cells)] = some (.sl H3.sz 0 0 1 1 false,.new (.cells 0 31 (0,0) false d.cells)) := bldS_1 H3 _ 8 _ d.cells rfl rfl d.solid
      simp only [ld1_ptr,ldN_ptr,s3'.at 3 rfl,s3'.at 2 rfl,ec1,ecN8,sr0,q,b1,Nat.zero_add,purK_some,condK_true,bin_seql,addA_ptr,decide_true,emp2]
      have sc0 := (s3'.gg 0 rfl).eqv
      have sc1 := (s3'.gg 1 rfl).eqv
      simp only at sc0 sc1
      refine s3'.mkS rfl fun n9 H4 s4 z4 f4 => ?_
      have b2 : ∀ H : Heap,bldS H 3 1 [.int .i64 0] 1 [(0,1,.int .i64 i)] = some (.sl H.sz 0 0 1 1 false,.new (.cells 0 3 (0,0) false [.int .i64 i])) := fun H => rfl
      have s4' : Sg Nop H [(f,.map [] 0),(b,.map [] 0),(p,.cells 0 64 (0,0) false (srC xl xa .nils 0 f b)),(n8,.cells 0 31 (0,0) false d.cells),(n9,.cells 0 31 (0,0) false d.cells)] [⟨31,8,xl,(evsOf (ds.take i) key).map EvB.cells⟩,⟨3,1,xa,irow (atsOf (ds.take i) key)⟩] H4 := s4
      simp only [s4'.at 3 rfl,s4'.at 2 rfl,ecN8,sr0,sr1,sc0,b2,agn_some,eqvE,purK_some,cnd_true,Bool.and_true]
      refine s4'.mkS rfl fun n10 H5 s5 z5 f5 => ?_
      have s5' : Sg Nop H [(f,.map [] 0),(b,.map [] 0),(p,.cells 0 64 (0,0) false (srC xl xa .nils 0 f b)),(n8,.cells 0 31 (0,0) false d.cells),(n9,.cells 0 31 (0,0) false d.cells),(n10,.cells 0 3 (0,0) false [.int .i64 i])] [⟨31,8,xl,(evsOf (ds.take i) key).map EvB.cells⟩,⟨3,1,xa,irow (atsOf (ds.take i) key)⟩] H5 := s5
      simp only [s5'.at 3 rfl,s5'.at 2 rfl,ecN8,sr0,sr1,sc0,sc1,agn_some,eqvE,cnd_true,Bool.and_true]
      have hE9 : Els ρ H5 8 (.sl n9 0 0 1 1 false) [d.cells] := Els.of_cells (els := [d.cells]) (s5'.lt' 4 rfl) (by rw [s5'.at 4 rfl]; rfl) (by intro r hr; simp at hr; subst hr; rfl)
      refine s5'.app 0 rfl hE9 (by intro r hr; simp at hr; subst hr; exact d.solid) (by simp; omega) (by simp; omega) fun xl' H6 s6 f6 hl6 hs6 => ?_
      have s6' : Sg Nop H [(f,.map [] 0),(b,.map [] 0),(p,.cells 0 64 (0,0) false (srC xl xa .nils 0 f b)),(n8,.cells 0 31 (0,0) false d.cells),(n9,.cells 0 31 (0,0) false d.cells),(n10,.cells 0 3 (0,0) false [.int .i64 i])] [⟨31,8,xl',(evsOf (ds.take (i + 1)) key).map EvB.cells⟩,⟨3,1,xa,irow (atsOf (ds.take i) key)⟩] H6 := by rw [hse]; exact s6
      simp only [s6'.at 2 rfl,sr1,sc1,agn_some,cnd_true]
      have hE10 : Els ρ H6 1 (.sl n10 0 0 1 1 false) [[.int .i64 i]] := Els.of_cells (els := [[.int .i64 i]]) (s6'.lt' 5 rfl) (by rw [s6'.at 5 rfl]; rfl) (by intro r hr; simp at hr; subst hr; rfl)
      refine s6'.app 1 rfl hE10 (by intro r hr; simp at hr; subst hr; rfl) (by simp [irow,hla]; omega) (by simp [irow,hla]; omega) fun xa' H7 s7 f7 hl7 hs7 => ?_
      have s7' : Sg Nop H [(f,.map [] 0),(b,.map [] 0),(p,.cells 0 64 (0,0) false (srC xl xa .nils 0 f b)),(n8,.cells 0 31 (0,0) false d.cells),(n9,.cells 0 31 (0,0) false d.cells),(n10,.cells 0 3 (0,0) false [.int .i64 i])] [⟨31,8,xl',(evsOf (ds.take (i + 1)) key).map EvB.cells⟩,⟨3,1,xa',irow (atsOf (ds.take (i + 1)) key)⟩] H7 := by rw [hsa]; exact s7
      try simp only [Nat.zero_add,purK_some,resK_some,boolK_some,condK_true,condK_false,wantV_tt,wantV_tf,wantV_ft,wantV_ff,wantV_t,wantV_f,wantV_skip,Bool.not_true,Bool.not_false,gPur_true,gPur_false,gEff_true,gEff_false,gRes_true,gRes_false,pickA_true,pickA_false,extA_0,extA_1,extA_2,retK_one,retK_none,retK_two,valK_fn,valR_fn,cnd_true,cnd_false,bin_add,bin_sub,bin_mul,bin_eql,bin_neq,bin_lss,bin_leq,bin_gtr,bin_geq,bin_seql,bin_sneq,un_not_t,un_not_f,un_not,cvI_int,cvT_str,nilChk_ptr,nilChk_xp,addA_ptr,lenT_str,Bool.true_or,Bool.or_true,Bool.false_or,Bool.or_false,Bool.true_and,Bool.and_true,Bool.false_and,Bool.and_false,decide_true,decide_false,Int.reduceEq,Int.reduceLT,Int.reduceLE,Int.reduceNe,Int.reduceAdd,Int.reduceSub,Int.reduceMul,Int.reduceNeg,List.nil_append,List.append_nil,List.cons_append]
      refine s7'.st1 2 rfl hs6 (show 0 < 6 by decide) fun H8 s8 z8 f8 => ?_
      refine s8.st1 2 rfl hs7 (show 1 < 6 by decide) fun H9 s9 z9 f9 => ?_
      simp only [N8_12,w,purK_some,bin_add]
      exact next (m - 1) _ H9 (by omega) ⟨i + 1,xl',xa',rfl,by omega,by omega,s9.drop (L := [(f,.map [] 0),(b,.map [] 0),(p,.cells 0 64 (0,0) false (srC xl' xa' .nils 0 f b))]) (R := [_,_,_])⟩
    · rw [if_neg q] at hsub
      have hse : evsOf (ds.take (i + 1)) key = evsOf (ds.take i) key := by unfold evsOf; rw [hsub]
      have hsa : atsOf (ds.take (i + 1)) key = atsOf (ds.take i) key := by unfold atsOf; rw [hsub]
      simp only [N8_12,w,ld1_ptr,s3'.at 3 rfl,ec1,q,Nat.zero_add,purK_some,condK_false,bin_add,bin_seql,addA_ptr,decide_false,ba_inj,emp2]
      exact next (m - 1) _ H3 (by omega) ⟨i + 1,xl,xa,rfl,by omega,by omega,by rw [hse,hsa]; exact s3'.drop (L := [(f,.map [] 0),(b,.map [] 0),(p,.cells 0 64 (0,0) false (srC xl xa .nils 0 f b))]) (R := [_])⟩
  · have : i = ds.length := by omega
    subst this
    have h' : ¬ ((ds.length : Nat) : Int) < (ds.length : Nat) := by omega
    rw [List.take_length] at s
    simp only [N8_11b,h',purK_some,condK_false,bin_lss,nilChk_ptr,addA_ptr,Bool.and_true,decide_false]
    exact hK xl xa H' s
end
theorem mustL_take (s : List EvB) (i : Nat) (h : i < s.length) : maskL (mustL (s.take (i + 1))) = if s[i].must then maskL (mustL (s.take i)) ||| 2 ^ i else maskL (mustL (s.take i)) := by
  unfold mustL
  rw [List.take_succ_eq_append_getElem h,List.map_append,List.map_cons,List.map_nil,maskL_snoc,List.length_map,List.length_take,Nat.min_eq_left (by omega)]
theorem aheadL_take (s : List EvB) (x : EvB) (i : Nat) (h : i < s.length) : maskL ((aheadL s x).take (i + 1)) = if s[i].must && decide (s[i].to < x.frm) then maskL ((aheadL s x).take i) ||| 2 ^ i else maskL ((aheadL s x).take i) := by
  have hl : i < (aheadL s x).length := by unfold aheadL; rw [List.length_map]; exact h
  rw [List.take_succ_eq_append_getElem hl,maskL_snoc,List.length_take,Nat.min_eq_left (by omega)]
  have e : (aheadL s x)[i] = (s[i].must && decide (s[i].to < x.frm)) := by simp [aheadL]
  rw [e]
theorem mask_lt (l : List Bool) (h : l.length ≤ 16) : maskL l < 4294967296 := by
  have h1 := maskL_lt l
  have h2 : 2 ^ l.length ≤ 2 ^ 16 := Nat.pow_le_pow_right (by decide) h
  have h3 : (2 : Nat) ^ 16 = 65536 := by decide
  omega
section
variable {ρ : Addr → Option Value} {k : Nat} {H : Heap}
/-- Who is ahead of one. -/
theorem ahead_spec (s : List EvB) (hs16 : s.length ≤ 16) (x : EvB) {xl : AV} {L : List (Nat × AObj)} {G : List GS} {H1 : Heap} {j n10 : Nat} (hj : L[j]? = some (n10,.cells 0 31 (0,0) false x.cells)) (hG : G[0]? = some ⟨31,8,xl,s.map EvB.cells⟩)
    {Q : AV → Heap → Prop} {call : CallF} {yc : YieldF} {x6 x9 x63 x64 x65 : AV} {K : AV → AV → AV → AV → Heap → Res} (S1 : Sg Nop H L G H1) (hk : s.length + 2 ≤ k)
    (hK : ∀ H',Sg Nop H L G H' → Ret Q (K x9 (.ptr n10 0 0) (.int .u32 (maskL (aheadL s x))) x65 H')) :
    Ret Q (N8_7 ρ call yc 0 k x6 x9 (.ptr n10 0 0) (.int .u32 0) x63 x64 x65 xl (.int .i64 s.length) (.int .i64 0) H1 K) := by
  simp only [N8_7,N8_8]
  refine Ret.loop (fun m (y : AV × AV) H' => ∃ i : Nat,y = (.int .u32 (maskL ((aheadL s x).take i)),.int .i64 i) ∧ m = s.length - i ∧ i ≤ s.length ∧ Sg Nop H L G H') ?_ s.length k _ H1 ⟨0,rfl,by omega,by omega,S1⟩ (by omega)
  rintro m y H' kn ⟨i,rfl,hm,hi,S2⟩ next
  have hG' : Els ρ H' 8 xl (s.map EvB.cells) := S2.els 0 hG
  by_cases h : i < s.length
  · have h' : (i : Int) < (s.length : Nat) := by omega
    obtain ⟨e1,e2⟩ := el_ev hG' i h
    have hat := aheadL_take s x i h
    obtain ⟨d,hd⟩ : ∃ d,d = s[i] := ⟨_,rfl⟩
    rw [← hd] at e2 hat
    have w : wrapK .i64 ((i : Int) + 1) = ((i + 1 : Nat) : Int) := wrap_succN i (by omega)
    simp only [N8_8b,h',e1,e2,purK_some,condK_true,bin_lss,addA_ptr,decide_true]
    refine S2.var rfl rfl d.solid fun n13 H3 S3 z3 f3 => ?_
    have hL : ∀ q : Nat × AObj,(L ++ [q])[j]? = some (n10,.cells 0 31 (0,0) false x.cells) := fun q => by
      rw [List.getElem?_append_left (List.getElem?_eq_some_iff.1 hj).1]; exact hj
    have g10 := S3.at j (hL _)
    have g13 := S3.st.get (n13,.cells 0 31 (0,0) false d.cells) (by simp)
    simp only at g13
    have mlt : maskL ((aheadL s x).take i) < 4294967296 := mask_lt _ (by rw [List.length_take]; omega)
    have p32 := pow_lt32 i (by omega)
    have fin : ∀ b : Bool,(d.must && decide (d.to < x.frm)) = b → Ret Q (kn ((.int .u32 (if b then (maskL ((aheadL s x).take i) ||| 2 ^ i : Nat) else maskL ((aheadL s x).take i) : Nat) : AV),.int .i64 ((i + 1 : Nat) : Int)) H3) := by
      intro b hb
      refine next (m - 1) _ H3 (by omega) ⟨i + 1,?_,by omega,by omega,S3.drop⟩
      rw [hat,hb]
    by_cases c1 : 0 < d.to
    · by_cases c2 : d.to < x.frm
      · by_cases c3 : d.out.code = 9
        · have : (d.must && decide (d.to < x.frm)) = false := by simp [EvB.must,c3]
          simp only [N8_9,w,ld1_ptr,g10,g13,ec4,ec6,ec7,c1,c2,c3,ne_eq,not_true_eq_false,Nat.zero_add,Nat.reduceAdd,purK_some,condK_false,wantV_t,gPur_true,pickA_true,bin_add,bin_neq,bin_lss,bin_gtr,addA_ptr,decide_true,decide_false]
          exact fin false this
        · have : (d.must && decide (d.to < x.frm)) = true := by simp [EvB.must,c1,c2,c3]
          have q0 : (0 : Int) ≤ (i : Int) := by omega
          simp only [N8_9,w,ld1_ptr,g10,g13,ec4,ec6,ec7,c1,c2,c3,ne_eq,not_false_eq_true,bin_shl _ _ _ _ _ _ _ q0,shl32 i (by omega),bin_or,or32 _ _ mlt p32,Nat.zero_add,Nat.reduceAdd,purK_some,condK_true,wantV_t,gPur_true,pickA_true,bin_add,bin_neq,bin_lss,bin_gtr,addA_ptr,decide_true]
          exact fin true this
      · have : (d.must && decide (d.to < x.frm)) = false := by simp [c2]
        simp only [N8_9,w,ld1_ptr,g10,g13,ec6,ec7,c1,c2,Nat.zero_add,purK_some,condK_false,wantV_t,gPur_true,gPur_false,pickA_true,pickA_false,bin_add,bin_lss,bin_gtr,addA_ptr,decide_true,decide_false]
        exact fin false this
    · have : (d.must && decide (d.to < x.frm)) = false := by simp [EvB.must,c1]
      simp only [N8_9,w,ld1_ptr,g13,ec7,c1,Nat.zero_add,purK_some,condK_false,wantV_t,gPur_false,pickA_false,bin_add,bin_gtr,addA_ptr,decide_false]
      exact fin false this
  · have : i = s.length := by omega
    subst this
    have h' : ¬ ((s.length : Nat) : Int) < (s.length : Nat) := by omega
    have ht : (aheadL s x).take s.length = aheadL s x := List.take_of_length_le (by unfold aheadL; rw [List.length_map]; exact Nat.le_refl _)
    simp only [N8_8b,h',ht,purK_some,condK_false,bin_lss,addA_ptr,decide_false]
    exact hK H' S2
/-- What a search is, in its places. -/
def srL (p f b : Nat) (xl xa xh : AV) (m : Nat) : List (Nat × AObj) := [(f,.map [] 0),(b,.map [] 0),(p,.cells 0 64 (0,0) false (srC xl xa xh m f b))]
def srG (xl xa xh : AV) (s : List EvB) (ats : List Nat) (h : List Nat) : List GS := [⟨31,8,xl,s.map EvB.cells⟩,⟨3,1,xa,irow ats⟩,⟨48,1,xh,mrow h⟩]
theorem open2 (s : List EvB) (ats : List Nat) (hs16 : s.length ≤ 16) {xl xa : AV} {p f b : Nat} {H1 : Heap} {Q : AV → Heap → Prop} {call : CallF} {yc : YieldF} {K : AV → Heap → Res}
    (S1 : Sg Nop H (srL p f b xl xa .nils 0) (srG xl xa .nils s ats []) H1) (hk : s.length + 5 ≤ k)
    (hK : ∀ xh H',Sg Nop H (srL p f b xl xa xh (maskL (mustL s))) (srG xl xa xh s ats (s.map fun x => maskL (aheadL s x))) H' → Ret Q (K (.ptr p 0 0) H')) :
    Ret Q (N8_3 ρ call yc 0 k (.ptr p 0 0) xl (.int .i64 s.length) (.int .i64 0) H1 K) := by
  simp only [N8_3,N8_4]
  refine Ret.loop (fun m y H' => ∃ (i : Nat) (xh : AV),y = .int .i64 i ∧ m = s.length - i ∧ i ≤ s.length ∧ Sg Nop H (srL p f b xl xa xh (maskL (mustL (s.take i)))) (srG xl xa xh s ats ((s.take i).map fun x => maskL (aheadL s x))) H') ?_ s.length k _ H1 ⟨0,.nils,rfl,by omega,by omega,S1⟩ (by omega)
  rintro m y H' kn ⟨i,xh,rfl,hm,hi,S2⟩ next
  have hG' : Els ρ H' 8 xl (s.map EvB.cells) := S2.els 0 rfl
  by_cases h : i < s.length
  · have h' : (i : Int) < (s.length : Nat) := by omega
    obtain ⟨e1,e2⟩ := el_ev hG' i h
    have hmt := mustL_take s i h
    have hht : (s.take (i + 1)).map (fun x => maskL (aheadL s x)) = (s.take i).map (fun x => maskL (aheadL s x)) ++ [maskL (aheadL s s[i])] := by rw [List.take_succ_eq_append_getElem h,List.map_append]; rfl
    obtain ⟨d,hd⟩ : ∃ d,d = s[i] := ⟨_,rfl⟩
    rw [← hd] at e2 hmt hht
    have w : wrapK .i64 ((i : Int) + 1) = ((i + 1 : Nat) : Int) := wrap_succN i (by omega)
    simp only [N8_4b,h',e1,e2,purK_some,condK_true,bin_lss,nilChk_ptr,addA_ptr,decide_true]
    refine S2.var rfl rfl d.solid fun n10 H3 S3 z3 f3 => ?_
    have gp := S3.at 2 rfl
    have hln : lenS xl = some (.int .i64 s.length) := len_ev hG'
    simp only [ld1_ptr,gp,sr0,hln,Nat.zero_add,purK_some]
    refine ahead_spec s hs16 d (j := 3) rfl rfl S3 (by omega) fun H4 S4 => ?_
    have gp := S4.at 2 rfl
    have g10 := S4.at 3 rfl
    have b2 : ∀ H : Heap,∀ v : Int,bldS H 48 1 [.int .u32 0] 1 [(0,1,.int .u32 v)] = some (.sl H.sz 0 0 1 1 false,.new (.cells 0 48 (0,0) false [.int .u32 v])) := fun H v => rfl
    simp only [N8_6,ld1_ptr,gp,sr2,b2,Nat.zero_add,purK_some,nilChk_ptr,addA_ptr]
    refine S4.newS fun n11 H5 S5 z5 f5 => ?_
    have hE : Els ρ H5 1 (.sl n11 0 0 1 1 false) (mrow [maskL (aheadL s d)]) := Els.of_cells (els := mrow [_]) (S5.lt' 4 rfl) (by rw [S5.at 4 rfl]; rfl) (by intro r hr; simp [mrow] at hr; subst hr; rfl)
    have hll : (mrow ((s.take i).map fun x => maskL (aheadL s x))).length ≤ 16 := by unfold mrow; rw [List.length_map,List.length_map,List.length_take]; omega
    refine S5.app 2 rfl hE (by intro r hr; simp [mrow] at hr; subst hr; rfl) (by simp [mrow] at hll ⊢; omega) (by simp [mrow] at hll ⊢; omega) fun xh' H6 S6 f6 hl6 hs6 => ?_
    try simp only [Nat.zero_add,Nat.reduceAdd,purK_some,resK_some,boolK_some,condK_true,condK_false,wantV_tt,wantV_tf,wantV_ft,wantV_ff,wantV_t,wantV_f,wantV_skip,Bool.not_true,Bool.not_false,gPur_true,gPur_false,gEff_true,gEff_false,gRes_true,gRes_false,pickA_true,pickA_false,extA_0,extA_1,extA_2,retK_one,retK_none,retK_two,valK_fn,valR_fn,cnd_true,cnd_false,bin_add,bin_sub,bin_mul,bin_eql,bin_neq,bin_lss,bin_leq,bin_gtr,bin_geq,bin_seql,bin_sneq,un_not_t,un_not_f,un_not,cvI_int,cvT_str,nilChk_ptr,nilChk_xp,addA_ptr,lenT_str,Bool.true_or,Bool.or_true,Bool.false_or,Bool.or_false,Bool.true_and,Bool.and_true,Bool.false_and,Bool.and_false,decide_true,decide_false,Int.reduceEq,Int.reduceLT,Int.reduceLE,Int.reduceNe,Int.reduceAdd,Int.reduceSub,Int.reduceMul,Int.reduceNeg,List.nil_append,List.append_nil,List.cons_append]
    refine S6.st1 2 rfl hs6 (show 2 < 6 by decide) fun H7 S7 z7 f7 => ?_
    have hmr : mrow ((s.take i).map fun x => maskL (aheadL s x)) ++ mrow [maskL (aheadL s d)] = mrow ((s.take (i + 1)).map fun x => maskL (aheadL s x)) := by rw [hht]; unfold mrow; rw [List.map_append]
    have S7' : Sg Nop H (srL p f b xl xa xh' (maskL (mustL (s.take i))) ++ [(n10,.cells 0 31 (0,0) false d.cells),(n11,.cells 0 48 (0,0) false [.int .u32 (maskL (aheadL s d))])]) (srG xl xa xh' s ats ((s.take (i + 1)).map fun x => maskL (aheadL s x))) H7 := by
      have := S7
      simp only [srG,List.set_cons_succ,List.set_cons_zero] at this
      rw [hmr] at this
      exact this
    have gp := S7'.at 2 rfl
    have g10 := S7'.at 3 rfl
    have mlt : maskL (mustL (s.take i)) < 4294967296 := mask_lt _ (by unfold mustL; rw [List.length_map,List.length_take]; omega)
    have p32 := pow_lt32 i (by omega)
    by_cases c1 : 0 < d.to
    · by_cases c3 : d.out.code = 9
      · have hb : d.must = false := by simp [EvB.must,c3]
        rw [hb] at hmt
        simp only [N8_5,w,ld1_ptr,gp,g10,sr3,ec4,ec7,c1,c3,ne_eq,not_true_eq_false,Nat.reduceAdd,purK_some,condK_false,wantV_t,gPur_true,pickA_true,bin_add,bin_neq,bin_gtr,addA_ptr,decide_true,decide_false]
        exact next (m - 1) _ H7 (by omega) ⟨i + 1,xh',rfl,by omega,by omega,by rw [hmt]; exact S7'.drop⟩
      · have hb : d.must = true := by simp [EvB.must,c1,c3]
        rw [hb] at hmt
        have q0 : (0 : Int) ≤ (i : Int) := by omega
        simp only [N8_5,w,ld1_ptr,gp,g10,sr3,ec4,ec7,c1,c3,ne_eq,not_false_eq_true,bin_shl _ _ _ _ _ _ _ q0,shl32 i (by omega),bin_or,or32 _ _ mlt p32,Nat.reduceAdd,purK_some,condK_true,wantV_t,gPur_true,pickA_true,bin_add,bin_neq,bin_gtr,addA_ptr,decide_true]
        refine S7'.st1 2 rfl rfl (show 3 < 6 by decide) fun H8 S8 z8 f8 => ?_
        exact next (m - 1) _ H8 (by omega) ⟨i + 1,xh',rfl,by omega,by omega,by rw [hmt]; exact S8.drop (L := srL p f b xl xa xh' (maskL (mustL (s.take i)) ||| 2 ^ i)) (R := [_,_])⟩
    · have hb : d.must = false := by simp [EvB.must,c1]
      rw [hb] at hmt
      simp only [N8_5,w,gp,g10,sr3,ec7,c1,purK_some,condK_false,wantV_t,gPur_false,pickA_false,bin_add,bin_gtr,decide_false]
      exact next (m - 1) _ H7 (by omega) ⟨i + 1,xh',rfl,by omega,by omega,by rw [hmt]; exact S7'.drop⟩
  · have : i = s.length := by omega
    subst this
    have h' : ¬ ((s.length : Nat) : Int) < (s.length : Nat) := by omega
    rw [List.take_length] at S2
    simp only [N8_4b,h',purK_some,condK_false,bin_lss,nilChk_ptr,addA_ptr,decide_false]
    exact hK xh H' S2
/-- A search is opened. -/
theorem open_spec {x : AV} (ds : List EvB) (key : List UInt8) (hx : Els ρ H 8 x (ds.map EvB.cells)) (hlen : ds.length ≤ 1000) (hk : 1100 ≤ k) :
    Ret (fun v H' => (rightL ds = false ∧ v = .tup [.nilp,.int .i64 1] ∧ Fr Nop H H') ∨ (rightL ds = true ∧ 16 < (evsOf ds key).length ∧ v = .tup [.nilp,.int .i64 5] ∧ Fr Nop H H') ∨
      (rightL ds = true ∧ (evsOf ds key).length ≤ 16 ∧ ∃ p f b xl xa xh,v = .tup [.ptr p 0 0,.int .i64 0] ∧ Sg Nop H (srL p f b xl xa xh (maskL (mustL (evsOf ds key)))) (srG xl xa xh (evsOf ds key) (atsOf ds key) ((evsOf ds key).map fun x => maskL (aheadL (evsOf ds key) x))) H'))
      (evCall (cx ρ) k 0 8 [x,.str (ba key)] H) := by
  obtain ⟨k,rfl⟩ : ∃ q,k = q + 1 := ⟨k - 1,by omega⟩
  have hl := len_ev hx
  rw [E8]
  simp only [L8]
  refine Ret.bind (right_spec ds hx (by omega) (by omega)) ?_
  rintro v H1 ⟨rfl,f1⟩
  cases hr : rightL ds with
  | false =>
    simp only [purK_some,condK_true,Bool.not_false,retK_two,un_not]
    exact .intro (Or.inl ⟨trivial,rfl,f1⟩)
  | true =>
    simp only [purK_some,condK_false,Bool.not_true,retK_two,un_not]
    refine ((St.start Nop H).frame0 f1).sg.newM fun f H2 s2 z2 f2 => ?_
    refine s2.newM fun b H3 s3 z3 f3 => ?_
    have bl : (bldA [.nils,.nils,.nils,.int .u32 0,.nilm,.nilm] [(4,1,.mp f),(5,1,.mp b)]) = some (.agg (srC .nils .nils .nils 0 f b)) := rfl
    have hsol : (srC .nils .nils .nils 0 f b).all AV.solid = true := rfl
    simp only [bl,boxA_agg _ _ _ hsol,hl,purK_some]
    refine s3.newP fun p H4 s4 z4 f4 => ?_
    have s4' := (s4.nils 31 8).nils 3 1
    refine open1 ds key hx hlen s4' (by omega) fun xl xa H5 s5 => ?_
    have s5' : Sg Nop H (srL p f b xl xa .nils 0) (srG xl xa .nils (evsOf ds key) (atsOf ds key) []) H5 := s5.nils 48 1
    have hX : Els ρ H5 8 xl ((evsOf ds key).map EvB.cells) := s5'.els 0 rfl
    have gp := s5'.at 2 rfl
    simp only [N8_1,ld1_ptr,gp,sr0,len_ev hX,Nat.zero_add,purK_some,retK_two,bin_gtr,nilChk_ptr,addA_ptr]
    by_cases h16 : 16 < (evsOf ds key).length
    · have h16' : (16 : Int) < ((evsOf ds key).length : Nat) := by omega
      simp only [h16',condK_true,decide_true]
      exact .intro (Or.inr (Or.inl ⟨trivial,h16,rfl,s5'.fr⟩))
    · have h16' : ¬ (16 : Int) < ((evsOf ds key).length : Nat) := by omega
      simp only [h16',condK_false,decide_false]
      refine open2 _ _ (by omega) s5' (by omega) fun xh H6 s6 => ?_
      simp only [N8_2,retK_two]
      exact .intro (Or.inr (Or.inr ⟨trivial,by omega,p,f,b,xl,xa,xh,rfl,s6⟩))
end
end Go.Proofs.Ytkmohjddojpdjab

-- part HyD
/- May an event be the next one? -/
set_option linter.unusedVariables false
set_option linter.unusedSimpArgs false
namespace Go.Proofs.Ytkmohjddojpdjab
attribute [local congr] Go.Ev.cond_congr1
open Go.Ev Go.RowKit
def ndC (n : Nd) : List AV := [.int .u32 n.1,.str (ba n.2.val),.bool n.2.is]
theorem ndC_solid (n : Nd) : (ndC n).all AV.solid = true := by simp only [ndC,List.all_cons,List.all_nil,sol_int,sol_str,sol_bool,Bool.and_self]
section
variable (e : Nat) (g : Bool) (n : Nd)
theorem nc0 : ldC 0 0 (.cells 0 e (0,0) g (ndC n)) = some (.int .u32 n.1) := by rw [ldC_cells]; rfl
theorem nc1 : ldC 0 1 (.cells 0 e (0,0) g (ndC n)) = some (.str (ba n.2.val)) := by rw [ldC_cells]; rfl
theorem nc2 : ldC 0 2 (.cells 0 e (0,0) g (ndC n)) = some (.bool n.2.is) := by rw [ldC_cells]; rfl
theorem ncN : ldCN 3 0 0 (.cells 0 e (0,0) g (ndC n)) = some (.agg (ndC n)) := by rw [ldCN_cells _ _ _ _ _ _ _ (Nat.le_refl _)]; rfl
end
theorem ocN (e : Nat) (g : Bool) (o : OutB) : ldCN 2 0 0 (.cells 0 e (0,0) g o.cells) = some (.agg o.cells) := by rw [ldCN_cells _ _ _ _ _ _ _ (Nat.le_refl _)]; rfl
theorem neOut (H : Heap) (o o' : OutB) : binA Try.prog H .neq 29 (.agg o.cells) (.agg o'.cells) = some (.bool (decide (o ≠ o'))) := by
  have : ∀ a s a' s',binA Try.prog H .neq 29 (.agg [.int .i64 a,.str s]) (.agg [.int .i64 a',.str s']) = (bif a == a' then bif s == s' then some true else some false else some false).map fun b => .bool !b := fun a s a' s' => by kernel_rfl
  unfold OutB.cells
  rw [this]
  obtain ⟨a,s⟩ := o
  obtain ⟨a',s'⟩ := o'
  by_cases h1 : a = a'
  · by_cases h2 : s = s'
    · subst h1; subst h2; simp [ba_beq]
    · have : (ba s == ba s') = false := by rw [ba_beq]; simp [ba_inj,h2]
      simp [h1,this,h2]
  · have h3 : (a == a') = false := by simp [h1]
    simp [h3,h1]
def mayAns (r : Option Nd) : AV := match r with
  | some n => .tup [.agg (ndC n),.bool true]
  | none => .tup [.agg (ndC nd0),.bool false]
section
variable {ρ : Addr → Option Value} {k : Nat} {H : Heap}
theorem may_spec {p f b : Nat} {xl xa xh : AV} {mm : Nat} (s : List EvB) (hs16 : s.length ≤ 16) (hp : H.get p = .cells 0 64 (0,0) false (srC xl xa xh mm f b)) (hpl : p < H.sz)
    (hxl : Els ρ H 8 xl (s.map EvB.cells)) (hxh : Els ρ H 1 xh (mrow (s.map fun x => maskL (aheadL s x)))) (n : Nd) (hn : n.1 < 4294967296) (i : Nat) (hi : i < s.length) (hk : 200 ≤ k) :
    Ret (fun v H' => v = mayAns (mayN s n.1 n.2 i) ∧ Fr Nop H H') (evCall (cx ρ) k 0 26 [.ptr p 0 0,.agg (ndC n),.int .i64 i] H) := by
  obtain ⟨k,rfl⟩ : ∃ q,k = q + 1 := ⟨k - 1,by omega⟩
  obtain ⟨d,hd⟩ : ∃ d,d = s[i] := ⟨_,rfl⟩
  have hget : s[i]? = some d := by rw [hd]; exact List.getElem?_eq_getElem hi
  have hmay : mayN s n.1 n.2 i = if d.full || n.1.testBit i || !subM (maskL (aheadL s d)) n.1 then none else if 0 < d.to ∧ (applyH n.2 d.op).2 ≠ d.out then none else some (n.1 ||| 2 ^ i,(applyH n.2 d.op).1) := by unfold mayN; rw [hget]
  rw [E26]
  simp only [L26,boxA_agg _ _ _ (ndC_solid n)]
  refine (St.start Nop H).sg.newP fun n4 H1 s1 z1 f1 => ?_
  refine s1.newP fun n6 H2 s2 z2 f2 => ?_
  have gp2 : H2.get p = .cells 0 64 (0,0) false (srC xl xa xh mm f b) := by rw [s2.fr.get p hpl (fun q => q)]; exact hp
  have hX2 := hxl.frame0 s2.fr
  obtain ⟨e1,e2⟩ := el_ev hX2 i hi
  rw [← hd] at e2
  simp only [ld1_ptr,gp2,sr0,e1,e2,Nat.zero_add,purK_some,nilChk_ptr,addA_ptr]
  refine s2.var rfl rfl d.solid fun n8 H3 s3 z3 f3 => ?_
  have s3' : Sg Nop H [(n4,.cells 0 52 (0,0) false (ndC n)),(n6,.cells 0 52 (0,0) false (ndC nd0)),(n8,.cells 0 31 (0,0) false d.cells)] [] H3 := s3
  have g4 := s3'.at 0 rfl
  have g8 := s3'.at 2 rfl
  have gp3 : H3.get p = .cells 0 64 (0,0) false (srC xl xa xh mm f b) := by rw [s3'.fr.get p hpl (fun q => q)]; exact hp
  have hX3 := hxh.frame0 s3'.fr
  have bnd : (bldA [.int .u32 0,.str (ba []),.bool false] []) = some (.agg (ndC nd0)) := rfl
  have nd0l : (ndC nd0).length = 3 := rfl
  -- no
  have no : mayN s n.1 n.2 i = none → ∀ {H5 : Heap} {R : List (Nat × AObj)},Sg Nop H ([(n4,.cells 0 52 (0,0) false (ndC n)),(n6,.cells 0 52 (0,0) false (ndC nd0)),(n8,.cells 0 31 (0,0) false d.cells)] ++ R) [] H5 →
      Ret (fun v H' => v = mayAns (mayN s n.1 n.2 i) ∧ Fr Nop H H') (effK H5 (stA 0 H5 3 (.ptr n6 0 0) (.agg (ndC nd0))) fun x H => retC (cx ρ) [some 52,none] [.ptr n6 0 0,.bool false] H) := by
    intro hnone H5 R s5
    refine s5.stW 1 (c := ndC nd0) (by rfl) rfl rfl (ndC_solid _) fun H6 s6 z6 f6 => ?_
    have e4 : ldN ρ H6 3 (.ptr n6 0 0) = some (.agg (ndC nd0)) := by rw [ldN_ptr,s6.at 1 (by rfl),ncN]
    simp only [ldT52,e4,bindR_some,retK_two,retC_eq,retAll_nil,retAll_none,retAll_some,Option.bind_some]
    exact .intro ⟨by rw [hnone]; rfl,s6.fr⟩
  have q0 : (0 : Int) ≤ (i : Int) := by omega
  by_cases cf : d.full = true
  · have hnone : mayN s n.1 n.2 i = none := by rw [hmay,cf]; rfl
    have c1 : 0 < d.to := by simp [EvB.full] at cf; exact cf.1
    have c2 : d.out.code = 9 := by simp [EvB.full] at cf; exact cf.2
    simp only [N26_4,ld1_ptr,g8,ec4,ec7,c1,c2,bnd,Nat.zero_add,Nat.reduceAdd,purK_some,condK_true,wantV_t,wantV_f,Bool.not_true,gPur_true,gPur_false,pickA_true,bin_eql,bin_gtr,addA_ptr,decide_true,emp2]
    exact no hnone (R := []) s3'
  have cf0 : d.full = false := by simpa using cf
  have hb1 := shr32 n.1 i (by omega) hn
  have hX3i := hX3.ix .i64 i (by omega) (by simp [mrow]; omega)
  rw [Int.toNat_natCast] at hX3i
  have hX3l := hX3.ld1 i 0 (by simp [mrow]; omega) (by decide)
  have hX3e : (mrow (s.map fun x => maskL (aheadL s x)))[i]'(by simp [mrow]; omega) = [.int .u32 (maskL (aheadL s d))] := by simp [mrow,hd]
  rw [hX3e,List.getElem?_cons_zero] at hX3l
  have ha1 := andNot32 (maskL (aheadL s d)) n.1 (mask_lt _ (by unfold aheadL; rw [List.length_map]; exact hs16)) hn
  by_cases cb : n.1.testBit i = true
  · have hnone : mayN s n.1 n.2 i = none := by rw [hmay,cb]; simp
    have hb2 := hb1.2 cb
    by_cases c1 : 0 < d.to
    · have c2 : ¬ d.out.code = 9 := fun q => by simp [EvB.full,c1,q] at cf
      simp only [N26_4,ld1_ptr,g4,g8,nc0,ec4,ec7,c1,c2,bin_shr _ _ _ _ _ _ _ q0,bin_and,hb2,bnd,Nat.zero_add,Nat.reduceAdd,purK_some,condK_true,wantV_t,wantV_f,Bool.not_true,Bool.not_false,gPur_true,gPur_false,pickA_true,pickA_false,bin_eql,bin_gtr,addA_ptr,decide_true,decide_false,emp2]
      exact no hnone (R := []) s3'
    · simp only [N26_4,ld1_ptr,g4,g8,nc0,ec7,c1,bin_shr _ _ _ _ _ _ _ q0,bin_and,hb2,bnd,Nat.zero_add,purK_some,condK_true,wantV_t,wantV_f,Bool.not_true,Bool.not_false,gPur_true,gPur_false,pickA_true,pickA_false,bin_eql,bin_gtr,addA_ptr,decide_true,decide_false,emp2]
      exact no hnone (R := []) s3'
  have hb2 : ¬ (Go.bits .and .u32 ((n.1 : Int).fdiv (2 ^ min ((i : Int)).toNat IntKind.u32.bits)) 1 = 1) := fun q => cb (hb1.1 q)
  have cb0 : n.1.testBit i = false := by simpa using cb
  by_cases ca : subM (maskL (aheadL s d)) n.1 = true
  · have ha2 := ha1.2 ca
    have hmay' : mayN s n.1 n.2 i = if 0 < d.to ∧ (applyH n.2 d.op).2 ≠ d.out then none else some (n.1 ||| 2 ^ i,(applyH n.2 d.op).1) := by rw [hmay,cf0,cb0,ca]; rfl
    -- the operation is done
    have yes : Ret (fun v H' => v = mayAns (mayN s n.1 n.2 i) ∧ Fr Nop H H') (N26_1 ρ (evCall (cx ρ) k) (evCY (cx ρ) k).2 0 k (.int .i64 i) (.ptr n4 0 0) (.ptr n6 0 0) (.ptr n8 0 0) H3 (retC (cx ρ) [some 52,none])) := by
      simp only [N26_1,ld1_ptr,ldN_ptr,g4,g8,nc1,nc2,ecN4,Nat.zero_add,Nat.reduceAdd,purK_some,addA_ptr]
      refine Ret.bind (apply_spec n.2 d.op (by omega)) ?_
      rintro v H4 ⟨rfl,f4⟩
      obtain ⟨h',hh'⟩ : ∃ h',h' = (applyH n.2 d.op).1 := ⟨_,rfl⟩
      obtain ⟨o,ho⟩ : ∃ o,o = (applyH n.2 d.op).2 := ⟨_,rfl⟩
      rw [← ho,← hh'] at hmay' ⊢
      simp only [purK_some,extA_0,extA_1,extA_2]
      refine (s3'.frame0 f4).var rfl rfl o.solid fun n12 H5 s5 z5 f5 => ?_
      have s5' : Sg Nop H [(n4,.cells 0 52 (0,0) false (ndC n)),(n6,.cells 0 52 (0,0) false (ndC nd0)),(n8,.cells 0 31 (0,0) false d.cells),(n12,.cells 0 29 (0,0) false o.cells)] [] H5 := s5
      have g4 := s5'.at 0 rfl
      have g8 := s5'.at 2 rfl
      have g12 := s5'.at 3 rfl
      have p32 := pow_lt32 i (by omega)
      have good : mayN s n.1 n.2 i = some (n.1 ||| 2 ^ i,h') → Ret (fun v H' => v = mayAns (mayN s n.1 n.2 i) ∧ Fr Nop H H') (N26_2 ρ (evCall (cx ρ) k) (evCY (cx ρ) k).2 0 k (.int .i64 i) (.ptr n4 0 0) (.ptr n6 0 0) (.str (ba h'.val)) (.bool h'.is) H5 (retC (cx ρ) [some 52,none])) := by
        intro hsome
        have b1 : (bldA [.str (ba []),.bool false] [(0,1,.str (ba h'.val)),(1,1,.bool h'.is)]) = some (.agg [.str (ba h'.val),.bool h'.is]) := rfl
        have b2 : ∀ v : Int,(bldA [.int .u32 0,.str (ba []),.bool false] [(0,1,.int .u32 v),(1,2,.agg [.str (ba h'.val),.bool h'.is])]) = some (.agg [.int .u32 v,.str (ba h'.val),.bool h'.is]) := fun v => rfl
        simp only [N26_2,ld1_ptr,g4,nc0,bin_shl _ _ _ _ _ _ _ q0,shl32 i (by omega),bin_or,or32 _ _ hn p32,b1,b2,Nat.zero_add,purK_some,addA_ptr,emp2]
        have hcs : (AV.agg [.int .u32 ((n.1 ||| 2 ^ i : Nat) : Int),.str (ba h'.val),.bool h'.is]) = .agg (ndC (n.1 ||| 2 ^ i,h')) := rfl
        rw [hcs]
        refine s5'.stW 1 (c := ndC nd0) rfl rfl rfl (ndC_solid _) fun H6 s6 z6 f6 => ?_
        have e4 : ldN ρ H6 3 (.ptr n6 0 0) = some (.agg (ndC (n.1 ||| 2 ^ i,h'))) := by rw [ldN_ptr,s6.at 1 rfl,ncN]
        simp only [ldT52,e4,bindR_some,retK_two,retC_eq,retAll_nil,retAll_none,retAll_some,Option.bind_some]
        exact .intro ⟨by rw [hsome]; rfl,s6.fr⟩
      by_cases c1 : 0 < d.to
      · by_cases co : o = d.out
        · have co' : ¬ o ≠ d.out := fun q => q co
          rw [if_neg (by rintro ⟨_,q⟩; exact q co)] at hmay'
          simp only [N26_3,ldN_ptr,g8,g12,ec7,ecN2,ocN,neOut,c1,co',purK_some,condK_false,wantV_t,gPur_true,pickA_true,bin_gtr,decide_true,decide_false]
          exact good hmay'
        · have co' : o ≠ d.out := co
          rw [if_pos ⟨c1,co⟩] at hmay'
          simp only [N26_3,ldN_ptr,g8,g12,ec7,ecN2,ocN,neOut,c1,eq_true co',bnd,purK_some,condK_true,wantV_t,gPur_true,pickA_true,bin_gtr,decide_true,emp2]
          exact no hmay' (R := [_]) s5'
      · rw [if_neg (by rintro ⟨q,_⟩; exact c1 q)] at hmay'
        simp only [N26_3,g8,ec7,c1,purK_some,condK_false,wantV_t,gPur_false,pickA_false,bin_gtr,decide_false]
        exact good hmay'
    by_cases c1 : 0 < d.to
    · have c2 : ¬ d.out.code = 9 := fun q => by simp [EvB.full,c1,q] at cf
      simp only [N26_4,ld1_ptr,g4,g8,gp3,sr2,nc0,ec4,ec7,c1,c2,bin_shr _ _ _ _ _ _ _ q0,bin_and,bin_andNot,hb2,hX3i,hX3l,ha2,ne_eq,not_true_eq_false,Nat.zero_add,Nat.reduceAdd,purK_some,condK_false,wantV_t,wantV_f,Bool.not_false,gPur_true,pickA_true,pickA_false,bin_eql,bin_neq,bin_gtr,nilChk_ptr,addA_ptr,decide_true,decide_false]
      exact yes
    · simp only [N26_4,ld1_ptr,g4,g8,gp3,sr2,nc0,ec7,c1,bin_shr _ _ _ _ _ _ _ q0,bin_and,bin_andNot,hb2,hX3i,hX3l,ha2,ne_eq,not_true_eq_false,Nat.zero_add,purK_some,condK_false,wantV_t,wantV_f,Bool.not_false,gPur_true,gPur_false,pickA_false,bin_eql,bin_neq,bin_gtr,nilChk_ptr,addA_ptr,decide_false]
      exact yes
  · have ha2 : ¬ (Go.bits .andNot .u32 ((maskL (aheadL s d) : Nat) : Int) ((n.1 : Nat) : Int) = 0) := fun q => ca (ha1.1 q)
    have ca0 : subM (maskL (aheadL s d)) n.1 = false := by simpa using ca
    have hnone : mayN s n.1 n.2 i = none := by rw [hmay,ca0]; simp
    by_cases c1 : 0 < d.to
    · have c2 : ¬ d.out.code = 9 := fun q => by simp [EvB.full,c1,q] at cf
      simp only [N26_4,ld1_ptr,g4,g8,gp3,sr2,nc0,ec4,ec7,c1,c2,bin_shr _ _ _ _ _ _ _ q0,bin_and,bin_andNot,hb2,hX3i,hX3l,ha2,ne_eq,not_false_eq_true,bnd,Nat.zero_add,Nat.reduceAdd,purK_some,condK_true,wantV_t,wantV_f,Bool.not_false,gPur_true,pickA_true,pickA_false,bin_eql,bin_neq,bin_gtr,nilChk_ptr,addA_ptr,decide_true,decide_false,emp2]
      exact no hnone (R := []) s3'
    · simp only [N26_4,ld1_ptr,g4,g8,gp3,sr2,nc0,ec7,c1,bin_shr _ _ _ _ _ _ _ q0,bin_and,bin_andNot,hb2,hX3i,hX3l,ha2,ne_eq,not_false_eq_true,bnd,Nat.zero_add,purK_some,condK_true,wantV_t,wantV_f,Bool.not_false,gPur_true,gPur_false,pickA_false,bin_eql,bin_neq,bin_gtr,nilChk_ptr,addA_ptr,decide_true,decide_false,emp2]
      exact no hnone (R := []) s3'
end
end Go.Proofs.Ytkmohjddojpdjab

-- part HyE
/- All nodes that can be. -/
set_option linter.unusedVariables false
set_option linter.unusedSimpArgs false
namespace Go.Proofs.Ytkmohjddojpdjab
attribute [local congr] Go.Ev.cond_congr1
open Go.Ev Go.RowKit
def ndA (n : Nd) : AV := .agg (ndC n)
theorem kNode (ρ : Addr → Option Value) : KeyT (cx ρ).P 52 ndA where
  eq := by
    intro H d d'
    have : ∀ a s b a' s' b',eqIn Try.prog H 20 52 (.agg [.int .u32 a,.str s,.bool b]) (.agg [.int .u32 a',.str s',.bool b']) = (bif a == a' then ((bif s == s' then (bif b == b' then some true else some false) else some false).bind fun e => bif e then some true else some false) else some false) := fun a s b a' s' b' => by kernel_rfl
    show eqIn Try.prog H 20 52 (.agg (ndC d)) (.agg (ndC d')) = _
    unfold ndC
    rw [this]
    obtain ⟨a,s,b⟩ := d
    obtain ⟨a',s',b'⟩ := d'
    by_cases h1 : a = a'
    · by_cases h2 : s = s'
      · by_cases h3 : b = b'
        · subst h1; subst h2; subst h3; simp [ba_beq]
        · subst h1; subst h2
          have q : (b == b') = false := by simp [h3]
          simp [ba_beq,q,h3]
      · have q : (ba s == ba s') = false := by rw [ba_beq]; simp [ba_inj,h2]
        simp [q,h2]
    · have q : ((a : Int) == (a' : Int)) = false := by simp; omega
      simp [q,h1]
  chk := fun d => by
    have : ∀ a s b,keyChk Try.prog 20 52 (.agg [.int .u32 a,.str s,.bool b]) = true := fun a s b => by kernel_rfl
    exact this _ _ _
  same := fun d => by
    show sameA (.agg (ndC d)) (.agg (ndC d)) = true
    simp [sameA,ndC,sameCells,sameCell,ba_beq]
abbrev Tr3 := List (Nd × Nd × Nat)
def fEnts (tr : Tr3) : List (Nd × AV × Nat) := tr.zipIdx.map fun e => (e.1.1,AV.agg (ndC e.1.2.1),e.2)
def bEnts (tr : Tr3) : List (Nd × AV × Nat) := tr.zipIdx.map fun e => (e.1.1,AV.int .i64 (e.1.2.2 : Nat),e.2)
def sEnts (all : List Nd) : List (Nd × AV × Nat) := all.zipIdx.map fun e => (e.1,AV.bool true,e.2)
theorem fEnts_snoc (tr : Tr3) (t : Nd × Nd × Nat) : fEnts (tr ++ [t]) = fEnts tr ++ [(t.1,.agg (ndC t.2.1),tr.length)] := by
  unfold fEnts; rw [List.zipIdx_append,List.map_append]; simp
theorem bEnts_snoc (tr : Tr3) (t : Nd × Nd × Nat) : bEnts (tr ++ [t]) = bEnts tr ++ [(t.1,.int .i64 (t.2.2 : Nat),tr.length)] := by
  unfold bEnts; rw [List.zipIdx_append,List.map_append]; simp
theorem sEnts_snoc (all : List Nd) (n : Nd) : sEnts (all ++ [n]) = sEnts all ++ [(n,.bool true,all.length)] := by
  unfold sEnts; rw [List.zipIdx_append,List.map_append]; simp
theorem born_zip {α : Type} (l : List α) (g : α → Nd × AV) : Born (l.zipIdx.map fun e => ((g e.1).1,(g e.1).2,e.2)) l.length := by
  constructor
  · rw [List.map_map]
    have : (l.zipIdx.map ((fun e : Nd × AV × Nat => e.2.2) ∘ fun e => ((g e.1).1,(g e.1).2,e.2))) = List.range l.length := by
      apply List.ext_getElem
      · simp
      · intro i h1 h2; simp
    rw [this]
    exact List.pairwise_lt_range
  · intro e he
    obtain ⟨q,hq,rfl⟩ := List.mem_map.1 he
    have := List.snd_lt_of_mem_zipIdx hq
    simpa using this
theorem fBorn (tr : Tr3) : Born (fEnts tr) tr.length := born_zip tr fun t => (t.1,AV.agg (ndC t.2.1))
theorem bBorn (tr : Tr3) : Born (bEnts tr) tr.length := born_zip tr fun t => (t.1,AV.int .i64 (t.2.2 : Nat))
theorem fNone {tr : Tr3} {n : Nd} (h : n ∉ tr.map Prod.fst) : getM (fEnts tr) n = none := by
  rw [getM_none]
  intro e he q
  obtain ⟨y,hy,rfl⟩ := List.mem_map.1 he
  exact h (List.mem_map.2 ⟨y.1,(List.mem_zipIdx_iff_getElem?.1 hy |> List.mem_of_getElem?),q⟩)
theorem bNone {tr : Tr3} {n : Nd} (h : n ∉ tr.map Prod.fst) : getM (bEnts tr) n = none := by
  rw [getM_none]
  intro e he q
  obtain ⟨y,hy,rfl⟩ := List.mem_map.1 he
  exact h (List.mem_map.2 ⟨y.1,(List.mem_zipIdx_iff_getElem?.1 hy |> List.mem_of_getElem?),q⟩)
theorem sGet (all : List Nd) (n : Nd) : (getM (sEnts all) n).getD (.bool false) = .bool (decide (n ∈ all)) := by
  by_cases h : n ∈ all
  · have hne : getM (sEnts all) n ≠ none := by
      intro q
      rw [getM_none] at q
      obtain ⟨i,hi,e⟩ := List.mem_iff_getElem.1 h
      exact q (n,.bool true,i) (List.mem_map.2 ⟨(n,i),by rw [List.mem_zipIdx_iff_getElem?]; simp [hi,e],rfl⟩) rfl
    have hv : ∀ v,getM (sEnts all) n = some v → v = .bool true := by
      intro v hv
      unfold getM at hv
      rw [Option.map_eq_some_iff] at hv
      obtain ⟨e,he,rfl⟩ := hv
      have := List.mem_of_find?_eq_some he
      obtain ⟨y,hy,rfl⟩ := List.mem_map.1 this
      rfl
    cases hg : getM (sEnts all) n with
    | none => exact absurd hg hne
    | some v => rw [hv v hg]; simp [h]
  · have : getM (sEnts all) n = none := by
      rw [getM_none]
      intro e he q
      obtain ⟨y,hy,rfl⟩ := List.mem_map.1 he
      exact h (q ▸ (List.mem_of_getElem? (List.mem_zipIdx_iff_getElem?.1 hy)))
    rw [this]; simp [h]
theorem sNone {all : List Nd} {n : Nd} (h : n ∉ all) : getM (sEnts all) n = none := by
  rw [getM_none]
  intro e he q
  obtain ⟨y,hy,rfl⟩ := List.mem_map.1 he
  exact h (q ▸ (List.mem_of_getElem? (List.mem_zipIdx_iff_getElem?.1 hy)))
/-- How far the search has come: node k, event i. -/
structure Part (s : List EvB) (all : List Nd) (tr : Tr3) (k i : Nat) : Prop where
  hd : all = nd0 :: tr.map Prod.fst
  nd : all.Nodup
  par : ∀ j t,tr[j]? = some t → t.2.1 ∈ all.take (j + 1) ∧ mayN s t.2.1.1 t.2.1.2 t.2.2 = some t.1
  cl : ∀ j n,all[j]? = some n → ∀ i' n',mayN s n.1 n.2 i' = some n' → (j < k ∨ j = k ∧ i' < i) → n' ∈ all
theorem Part.rch {s : List EvB} {all : List Nd} {tr : Tr3} {k i : Nat} (P : Part s all tr k i) : ∀ n ∈ all,Rch s n := by
  have key : ∀ m,∀ n ∈ all.take m,Rch s n := by
    intro m
    induction m with
    | zero => intro n hn; simp at hn
    | succ m ih =>
      intro n hn
      by_cases hm : m < all.length
      · rw [List.take_succ_eq_append_getElem hm] at hn
        rcases List.mem_append.1 hn with q | q
        · exact ih n q
        · simp at q; subst q
          cases m with
          | zero => have := P.hd; simp only [this,List.getElem_cons_zero]; exact .start
          | succ m =>
            have h1 : all[m + 1]? = some all[m + 1] := List.getElem?_eq_getElem hm
            have h2 : (nd0 :: tr.map Prod.fst)[m + 1]? = some all[m + 1] := by rw [← P.hd]; exact h1
            rw [List.getElem?_cons_succ,List.getElem?_map,Option.map_eq_some_iff] at h2
            obtain ⟨t,ht,e⟩ := h2
            obtain ⟨h3,h4⟩ := P.par m t ht
            rw [← e]
            exact .step (ih _ h3) h4
      · rw [List.take_of_length_le (by omega)] at hn
        rw [List.take_of_length_le (by omega)] at ih
        exact ih n hn
  intro n hn
  exact key all.length n (by rw [List.take_length]; exact hn)
theorem Part.trLen {s : List EvB} {all : List Nd} {tr : Tr3} {k i : Nat} (P : Part s all tr k i) : all.length = tr.length + 1 := by
  have := P.hd
  rw [this]; simp
theorem Part.skip {s : List EvB} {all : List Nd} {tr : Tr3} {k i : Nat} (P : Part s all tr k i) (h : ∀ n n',all[k]? = some n → mayN s n.1 n.2 i = some n' → n' ∈ all) : Part s all tr k (i + 1) :=
  ⟨P.hd,P.nd,P.par,fun j n hj i' n' hm hc => by
    by_cases q : j = k ∧ i' = i
    · obtain ⟨rfl,rfl⟩ := q; exact h n n' hj hm
    · exact P.cl j n hj i' n' hm (by omega)⟩
theorem Part.add {s : List EvB} {all : List Nd} {tr : Tr3} {k i : Nat} (P : Part s all tr k i) {n n' : Nd} (hk : all[k]? = some n) (hm : mayN s n.1 n.2 i = some n') (hn : n' ∉ all) : Part s (all ++ [n']) (tr ++ [(n',n,i)]) k (i + 1) := by
  have hkl : k < all.length := (List.getElem?_eq_some_iff.1 hk).1
  refine ⟨by rw [List.map_append,P.hd]; rfl,?_,?_,?_⟩
  · rw [List.nodup_append]
    refine ⟨P.nd,by simp,?_⟩
    intro a ha b hb e
    simp at hb; subst hb; subst e; exact hn ha
  · intro j t hj
    rw [List.getElem?_append] at hj
    split at hj
    · rename_i hlt
      obtain ⟨h1,h2⟩ := P.par j t hj
      refine ⟨?_,h2⟩
      rw [List.take_append_of_le_length (by have := P.trLen; omega)]
      exact h1
    · rename_i hlt
      have hj0 : j - tr.length = 0 := by
        by_cases q : j - tr.length = 0
        · exact q
        · rw [List.getElem?_eq_none (by simp; omega)] at hj; cases hj
      rw [hj0] at hj
      simp at hj; subst hj
      refine ⟨?_,hm⟩
      have : j + 1 = all.length := by have := P.trLen; omega
      rw [List.take_append_of_le_length (by omega),this,List.take_length]
      exact List.mem_of_getElem? hk
  · intro j m hj i' m' hmm hc
    rw [List.getElem?_append] at hj
    split at hj
    · by_cases q : j = k ∧ i' = i
      · obtain ⟨rfl,rfl⟩ := q
        rw [hk] at hj
        obtain rfl := Option.some.inj hj
        rw [hm] at hmm
        obtain rfl := Option.some.inj hmm
        simp
      · exact List.mem_append_left _ (P.cl j m hj i' m' hmm (by omega))
    · rename_i hlt
      exfalso; omega
theorem Part.next {s : List EvB} {all : List Nd} {tr : Tr3} {k : Nat} (P : Part s all tr k s.length) : Part s all tr (k + 1) 0 :=
  ⟨P.hd,P.nd,P.par,fun j n hj i' n' hm hc => P.cl j n hj i' n' hm (by have := mayN_lt hm; omega)⟩
/-- All nodes. -/
structure Reached (s : List EvB) (all : List Nd) (tr : Tr3) : Prop where
  hd : all = nd0 :: tr.map Prod.fst
  nd : all.Nodup
  par : ∀ j t,tr[j]? = some t → t.2.1 ∈ all.take (j + 1) ∧ mayN s t.2.1.1 t.2.1.2 t.2.2 = some t.1
  iff : ∀ n,n ∈ all ↔ Rch s n
theorem Part.all {s : List EvB} {all : List Nd} {tr : Tr3} {k : Nat} (P : Part s all tr k 0) (hk : all.length ≤ k) : Reached s all tr :=
  ⟨P.hd,P.nd,P.par,fun n => ⟨P.rch n,fun h => by
    induction h with
    | start => rw [P.hd]; simp
    | step _ hm ih =>
      obtain ⟨j,hj,e⟩ := List.mem_iff_getElem.1 ih
      exact P.cl j _ (by rw [List.getElem?_eq_getElem hj,e]) _ _ hm (by omega)⟩⟩
end Go.Proofs.Ytkmohjddojpdjab

-- part HyF
/- All nodes that can be: the walk. -/
set_option linter.unusedVariables false
set_option linter.unusedSimpArgs false
namespace Go.Proofs.Ytkmohjddojpdjab
attribute [local congr] Go.Ev.cond_congr1
open Go.Ev Go.RowKit
/-- A search as it lies in memory, but for its maps. -/
structure SrAt (H : Heap) (p f b : Nat) (xl xa xh : AV) (mm : Nat) (s : List EvB) (ats : List Nat) : Prop where
  hp : H.get p = .cells 0 64 (0,0) false (srC xl xa xh mm f b)
  hpl : p < H.sz
  hf : f < H.sz
  hb : b < H.sz
  pf : p ≠ f
  pb : p ≠ b
  fb : f ≠ b
  hxl : ∀ ρ,Els ρ H 8 xl (s.map EvB.cells)
  hxa : ∀ ρ,Els ρ H 1 xa (irow ats)
  hxh : ∀ ρ,Els ρ H 1 xh (mrow (s.map fun x => maskL (aheadL s x)))
  ol : ∀ l,xl.lies l → l ≠ f ∧ l ≠ b
  oa : ∀ l,xa.lies l → l ≠ f ∧ l ≠ b
  oh : ∀ l,xh.lies l → l ≠ f ∧ l ≠ b
  ea : AV.eqv xa xa = true
def FB (f b : Nat) : Nat → Prop := fun t => t = f ∨ t = b
theorem SrAt.frame {H H' : Heap} {p f b : Nat} {xl xa xh : AV} {mm : Nat} {s : List EvB} {ats : List Nat} (A : SrAt H p f b xl xa xh mm s ats) (fr : Fr (FB f b) H H') : SrAt H' p f b xl xa xh mm s ats where
  hp := by rw [fr.get p A.hpl (fun q => q.elim A.pf A.pb)]; exact A.hp
  hpl := Nat.lt_of_lt_of_le A.hpl fr.sz
  hf := Nat.lt_of_lt_of_le A.hf fr.sz
  hb := Nat.lt_of_lt_of_le A.hb fr.sz
  pf := A.pf
  pb := A.pb
  fb := A.fb
  hxl := fun ρ => (A.hxl ρ).frame _ fr fun l hl q => q.elim (A.ol l hl).1 (A.ol l hl).2
  hxa := fun ρ => (A.hxa ρ).frame _ fr fun l hl q => q.elim (A.oa l hl).1 (A.oa l hl).2
  hxh := fun ρ => (A.hxh ρ).frame _ fr fun l hl q => q.elim (A.oh l hl).1 (A.oh l hl).2
  ol := A.ol
  oa := A.oa
  oh := A.oh
  ea := A.ea
theorem SrAt.of {H0 H : Heap} {p f b : Nat} {xl xa xh : AV} {mm : Nat} {s : List EvB} {ats : List Nat} (S1 : Sg Nop H0 (srL p f b xl xa xh mm) (srG xl xa xh s ats (s.map fun x => maskL (aheadL s x))) H) : SrAt H p f b xl xa xh mm s ats where
  hp := S1.at 2 rfl
  hpl := S1.lt' 2 rfl
  hf := S1.lt' 0 rfl
  hb := S1.lt' 1 rfl
  pf := fun e => by have := S1.st.nd; simp [srL] at this; omega
  pb := fun e => by have := S1.st.nd; simp [srL] at this; omega
  fb := fun e => by have := S1.st.nd; simp [srL] at this; omega
  hxl := fun ρ => S1.els 0 rfl
  hxa := fun ρ => S1.els 1 rfl
  hxh := fun ρ => S1.els 2 rfl
  ol := fun l hl => ⟨fun e => S1.off _ (List.mem_of_getElem? (i := 0) rfl) (f,.map [] 0) (by simp [srL]) (e ▸ hl),fun e => S1.off _ (List.mem_of_getElem? (i := 0) rfl) (b,.map [] 0) (by simp [srL]) (e ▸ hl)⟩
  oa := fun l hl => ⟨fun e => S1.off _ (List.mem_of_getElem? (i := 1) rfl) (f,.map [] 0) (by simp [srL]) (e ▸ hl),fun e => S1.off _ (List.mem_of_getElem? (i := 1) rfl) (b,.map [] 0) (by simp [srL]) (e ▸ hl)⟩
  oh := fun l hl => ⟨fun e => S1.off _ (List.mem_of_getElem? (i := 2) rfl) (f,.map [] 0) (by simp [srL]) (e ▸ hl),fun e => S1.off _ (List.mem_of_getElem? (i := 2) rfl) (b,.map [] 0) (by simp [srL]) (e ▸ hl)⟩
  ea := (S1.gg 1 rfl).eqv
/-- The maps and the list, as they grow. -/
def rL (f b se : Nat) (all : List Nd) (tr : Tr3) : List (Nat × AObj) := [(f,mapO ndA (fEnts tr) tr.length),(b,mapO ndA (bEnts tr) tr.length),(se,mapO ndA (sEnts all) all.length)]
def rG (x3 : AV) (all : List Nd) : List GS := [⟨52,3,x3,all.map ndC⟩]
theorem el_nd {ρ : Addr → Option Value} {H : Heap} {x : AV} {all : List Nd} (hX : Els ρ H 3 x (all.map ndC)) (i : Nat) (h : i < all.length) : ixS 3 x (.int .i64 i) = some (elp 3 x i 0) ∧ ldN ρ H 3 (elp 3 x i 0) = some (.agg (ndC all[i])) := by
  have e1 := hX.ix .i64 i (by omega) (by simpa using h)
  rw [Int.toNat_natCast] at e1
  refine ⟨e1,?_⟩
  have := hX.ldN i (by simpa using h)
  rw [this]; simp
theorem len_nd {ρ : Addr → Option Value} {H : Heap} {x : AV} {all : List Nd} (hX : Els ρ H 3 x (all.map ndC)) : lenS x = some (.int .i64 all.length) := by have := hX.lenS; rwa [List.length_map] at this
theorem eqvNd (n : Nd) : AV.eqv (.agg (ndC n)) (.agg (ndC n)) = true := by simp only [ndC,eqv_agg,eqvs_cons,eqvs_nil,eqv_int,eqv_str,eqv_bool,Bool.and_self]
theorem tFM (ρ : Addr → Option Value) : (cx ρ).P.underlying 60 = some (.map 52 52) := by kernel_rfl
theorem tBM (ρ : Addr → Option Value) : (cx ρ).P.underlying 61 = some (.map 52 3) := by kernel_rfl
theorem tSM (ρ : Addr → Option Value) : (cx ρ).P.underlying 74 = some (.map 52 4) := by kernel_rfl
theorem zNd (ρ : Addr → Option Value) : zeroA (cx ρ).P 52 = some (.agg (ndC nd0)) := by kernel_rfl
theorem zInt (ρ : Addr → Option Value) : zeroA (cx ρ).P 3 = some (.int .i64 0) := by kernel_rfl
theorem zBool (ρ : Addr → Option Value) : zeroA (cx ρ).P 4 = some (.bool false) := by kernel_rfl
theorem sSolid (n : Nd) : ∀ r ∈ [ndC n],r.all AV.solid = true := by intro r hr; simp at hr; subst hr; exact ndC_solid n
section
variable {ρ : Addr → Option Value} {k : Nat} {H : Heap}
theorem nd_lt {s : List EvB} (hs16 : s.length ≤ 16) {n : Nd} (h : Rch s n) : n.1 < 4294967296 := by
  obtain ⟨w,S,_,h2,_⟩ := rch_code hs16 h
  have : 2 ^ s.length ≤ 2 ^ 16 := Nat.pow_le_pow_right (by decide) hs16
  have h3 : (2 : Nat) ^ 16 = 65536 := by decide
  omega
/-- A new node is laid down. -/
theorem reach8 {p f b : Nat} {xl xa xh : AV} {mm : Nat} {s : List EvB} {ats : List Nat} (A : SrAt H p f b xl xa xh mm s ats) (hs16 : s.length ≤ 16) {Q : AV → Heap → Prop} {call : CallF} {yc : YieldF} {K : AV → AV → Heap → Res} {x24 : AV}
    {all : List Nd} {tr : Tr3} {kk i : Nat} {n n' : Nd} {x3 : AV} {se n7 : Nat} {H1 : Heap} (hk : all[kk]? = some n) (htr : all.length = tr.length + 1) (hcard : all.length ≤ maxNd) (hnf : n' ∉ tr.map Prod.fst)
    (s1 : Sg (FB f b) H ([(f,mapO ndA (fEnts tr) tr.length),(b,mapO ndA (bEnts tr) tr.length),(se,mapO ndA (sEnts (all ++ [n'])) (all.length + 1))] ++ [(n7,.cells 0 52 (0,0) false (ndC n'))]) (rG x3 all) H1)
    (hK : ∀ x3' H',Sg (FB f b) H (rL f b se (all ++ [n']) (tr ++ [(n',n,i)])) (rG x3' (all ++ [n'])) H' → Ret Q (K x3' (.int .i64 i) H')) :
    Ret Q (N16_8 ρ call yc 0 k (.ptr p 0 0) x3 (.mp se) (.int .i64 kk) (.int .i64 i) (.ptr n7 0 0) x24 (.int .i64 i) H1 K) := by
  have hkl : kk < all.length := (List.getElem?_eq_some_iff.1 hk).1
  have hke : all[kk] = n := (List.getElem?_eq_some_iff.1 hk).2
  have A1 := A.frame s1.fr
  have g7 := s1.at 3 rfl
  have hX1 : Els ρ H1 3 x3 (all.map ndC) := s1.els 0 rfl
  obtain ⟨e1,e2⟩ := el_nd hX1 kk hkl
  rw [hke] at e2
  have key1 : mapEntryA (cx ρ) 0 H1 60 (.mp f) (.agg (ndC n')) = _ := entry_new (kNode ρ) (tFM ρ) (s1.at 0 rfl) n' (zNd ρ) (fNone hnf)
  simp only [N16_8,ld1_ptr,ldN_ptr,A1.hp,sr4,sr5,g7,ncN,e1,e2,key1,Nat.zero_add,purK_some,nilChk_ptr,addA_ptr,Bool.and_true]
  rw [effK_put]
  have s2 := s1.put1 0 (mapO ndA (fEnts tr ++ [(n',.agg (ndC nd0),tr.length)]) (tr.length + 1)) rfl
  generalize H1.put f (mapO ndA (fEnts tr ++ [(n',.agg (ndC nd0),tr.length)]) (tr.length + 1)) = H2 at s2 ⊢
  have g7 := s2.at 3 rfl
  have hX2 : Els ρ H2 3 x3 (all.map ndC) := s2.els 0 rfl
  obtain ⟨_,e2⟩ := el_nd hX2 kk hkl
  rw [hke] at e2
  have key2 : entryStoreA 0 H2 (.mp f) (.int .i64 tr.length) (.agg (ndC n)) = _ := entryStore_new (s2.at 0 rfl) (fBorn tr) (.agg (ndC n))
  simp only [g7,ncN,e2,agn_some,eqvNd,key2,Option.map_some,skips,purK_some,extA_1,cnd_true,Bool.and_true]
  rw [effK_put]
  have s3 := s2.put1 0 (mapO ndA (fEnts tr ++ [(n',.agg (ndC n),tr.length)]) (tr.length + 1)) rfl
  generalize H2.put f (mapO ndA (fEnts tr ++ [(n',.agg (ndC n),tr.length)]) (tr.length + 1)) = H3 at s3 ⊢
  have g7 := s3.at 3 rfl
  have key3 : mapEntryA (cx ρ) 0 H3 61 (.mp b) (.agg (ndC n')) = _ := entry_new (kNode ρ) (tBM ρ) (s3.at 1 rfl) n' (zInt ρ) (bNone hnf)
  simp only [g7,ncN,agn_some,eqvNd,key3,cnd_true]
  rw [effK_put]
  have s4 := s3.put1 1 (mapO ndA (bEnts tr ++ [(n',.int .i64 0,tr.length)]) (tr.length + 1)) rfl
  generalize H3.put b (mapO ndA (bEnts tr ++ [(n',.int .i64 0,tr.length)]) (tr.length + 1)) = H4 at s4 ⊢
  have key4 : entryStoreA 0 H4 (.mp b) (.int .i64 tr.length) (.int .i64 i) = _ := entryStore_new (s4.at 1 rfl) (bBorn tr) (.int .i64 i)
  simp only [key4,Option.map_some,skips,purK_some,extA_1]
  rw [effK_put]
  have s5 := s4.put1 1 (mapO ndA (bEnts tr ++ [(n',.int .i64 i,tr.length)]) (tr.length + 1)) rfl
  generalize H4.put b (mapO ndA (bEnts tr ++ [(n',.int .i64 i,tr.length)]) (tr.length + 1)) = H5 at s5 ⊢
  have g7 := s5.at 3 rfl
  have b1 : ∀ H : Heap,bldS H 52 3 [.int .u32 0,.str ByteArray.empty,.bool false] 1 [(0,3,.agg (ndC n'))] = some (.sl H.sz 0 0 1 1 false,.new (.cells 0 52 (0,0) false (ndC n'))) := fun H => bldS_1 H _ 3 _ (ndC n') rfl rfl (ndC_solid n')
  simp only [g7,ncN,b1,purK_some]
  refine s5.newS fun n8 H6 s6 z6 f6 => ?_
  have hE : Els ρ H6 3 (.sl n8 0 0 1 1 false) [ndC n'] := Els.of_cells (els := [ndC n']) (s6.lt' 4 rfl) (by rw [s6.at 4 rfl]; rfl) (by intro r hr; simp at hr; subst hr; rfl)
  have hc : all.length ≤ 73014444032 := hcard
  refine s6.app 0 rfl hE (sSolid n') (by simp; omega) (by simp; omega) fun x3' H7 s7 f7 hl7 hs7 => ?_
  try simp only [purK_some,resK_some,boolK_some,condK_true,condK_false,wantV_tt,wantV_tf,wantV_ft,wantV_ff,wantV_t,wantV_f,wantV_skip,Bool.not_true,Bool.not_false,gPur_true,gPur_false,gEff_true,gEff_false,gRes_true,gRes_false,pickA_true,pickA_false,extA_0,extA_1,extA_2,retK_one,retK_none,retK_two,valK_fn,valR_fn,cnd_true,cnd_false,bin_add,bin_sub,bin_mul,bin_eql,bin_neq,bin_lss,bin_leq,bin_gtr,bin_geq,bin_seql,bin_sneq,un_not_t,un_not_f,un_not,cvI_int,cvT_str,nilChk_ptr,nilChk_xp,addA_ptr,lenT_str,Bool.true_or,Bool.or_true,Bool.false_or,Bool.or_false,Bool.true_and,Bool.and_true,Bool.false_and,Bool.and_false,decide_true,decide_false,Int.reduceEq,Int.reduceLT,Int.reduceLE,Int.reduceNe,Int.reduceAdd,Int.reduceSub,Int.reduceMul,Int.reduceNeg,List.nil_append,List.append_nil,List.cons_append]
  refine hK x3' H7 ?_
  have e1 : rL f b se (all ++ [n']) (tr ++ [(n',n,i)]) = [(f,mapO ndA (fEnts tr ++ [(n',.agg (ndC n),tr.length)]) (tr.length + 1)),(b,mapO ndA (bEnts tr ++ [(n',.int .i64 i,tr.length)]) (tr.length + 1)),(se,mapO ndA (sEnts (all ++ [n'])) (all.length + 1))] := by
    unfold rL; rw [fEnts_snoc,bEnts_snoc,List.length_append,List.length_append]; rfl
  have e2 : rG x3' (all ++ [n']) = [⟨52,3,x3',all.map ndC ++ [ndC n']⟩] := by unfold rG; rw [List.map_append]; rfl
  rw [e1,e2]
  exact s7.drop (R := [_,_])
/-- All events behind one node. -/
theorem reach5 {p f b : Nat} {xl xa xh : AV} {mm : Nat} {s : List EvB} {ats : List Nat} (A : SrAt H p f b xl xa xh mm s ats) (hs16 : s.length ≤ 16) {Q : AV → Heap → Prop} {yc : YieldF} {K : AV → AV → Heap → Res}
    {all : List Nd} {tr : Tr3} {kk : Nat} {x3 : AV} {se : Nat} {H1 : Heap} (hkl : kk < all.length) (P : Part s all tr kk 0)
    (s1 : Sg (FB f b) H (rL f b se all tr) (rG x3 all) H1) (hk : 300 ≤ k)
    (hK : ∀ x3' all tr H',kk < all.length → Part s all tr (kk + 1) 0 → Sg (FB f b) H (rL f b se all tr) (rG x3' all) H' → Ret Q (K x3' (.int .i64 kk) H')) :
    Ret Q (N16_5 ρ (evCall (cx ρ) k) yc 0 k (.ptr p 0 0) x3 (.mp se) (.int .i64 kk) (.int .i64 s.length) (.int .i64 0) H1 K) := by
  simp only [N16_5,N16_6]
  refine Ret.loop (fun m (y : AV × AV) H' => ∃ (i : Nat) (all : List Nd) (tr : Tr3) (x3 : AV),y = (x3,.int .i64 i) ∧ m = s.length - i ∧ i ≤ s.length ∧ kk < all.length ∧ Part s all tr kk i ∧ Sg (FB f b) H (rL f b se all tr) (rG x3 all) H') ?_ s.length k _ H1 ⟨0,all,tr,x3,rfl,by omega,by omega,hkl,P,s1⟩ (by omega)
  clear P s1 hkl all tr x3
  rintro m y H' kn ⟨i,all,tr,x3,rfl,hm,hi,hkl,P,s1⟩ next
  by_cases h : i < s.length
  · have h' : (i : Int) < (s.length : Nat) := by omega
    have hX1 : Els ρ H' 3 x3 (all.map ndC) := s1.els 0 rfl
    obtain ⟨e1,e2⟩ := el_nd hX1 kk hkl
    obtain ⟨n,hn⟩ : ∃ n,n = all[kk] := ⟨_,rfl⟩
    rw [← hn] at e2
    have hget : all[kk]? = some n := by rw [hn]; exact List.getElem?_eq_getElem hkl
    have hr : Rch s n := P.rch n (List.mem_of_getElem? hget)
    have A1 := A.frame s1.fr
    have w : wrapK .i64 ((i : Int) + 1) = ((i + 1 : Nat) : Int) := wrap_succN i (by omega)
    have hcard : all.length ≤ maxNd := rch_count hs16 all P.nd P.rch
    have htr := P.trLen
    simp only [N16_6b,h',e1,e2,purK_some,condK_true,bin_lss,decide_true]
    refine Ret.bind (may_spec s hs16 A1.hp A1.hpl (A1.hxl ρ) (A1.hxh ρ) n (nd_lt hs16 hr) i h (by omega)) ?_
    rintro v H2 ⟨rfl,f2⟩
    have s2 := s1.frame0 f2
    cases hmay : mayN s n.1 n.2 i with
    | none =>
      simp only [mayAns,purK_some,condK_true,wantV_f,Bool.not_true,Bool.not_false,gPur_false,pickA_true,extA_0,extA_1,un_not]
      refine s2.var rfl rfl (ndC_solid nd0) fun n7 H3 s3 z3 f3 => ?_
      have P' : Part s all tr kk (i + 1) := P.skip fun a a' ha haa => by
        rw [hget] at ha; obtain rfl := Option.some.inj ha
        rw [hmay] at haa; cases haa
      simp only [N16_7,w,purK_some,bin_add]
      exact next (m - 1) _ H3 (by omega) ⟨i + 1,all,tr,x3,rfl,by omega,by omega,hkl,P',s3.drop⟩
    | some n' =>
      simp only [mayAns,purK_some,wantV_f,Bool.not_true,Bool.not_false,gPur_true,pickA_false,extA_0,extA_1,un_not]
      refine s2.var rfl rfl (ndC_solid n') fun n7 H3 s3 z3 f3 => ?_
      have g7 := s3.at 3 rfl
      have hlook : lookupA (cx ρ) H3 74 (.mp se) (.agg (ndC n')) false = some (.bool (decide (n' ∈ all))) := by
        have := lookup_at (kNode ρ) (tSM ρ) (s3.at 2 rfl) n' (zBool ρ)
        rw [sGet] at this
        exact this
      by_cases hin : n' ∈ all
      · have P' : Part s all tr kk (i + 1) := P.skip fun a a' ha haa => by
          rw [hget] at ha; obtain rfl := Option.some.inj ha
          rw [hmay] at haa; obtain rfl := Option.some.inj haa; exact hin
        simp only [N16_7,w,ldN_ptr,g7,ncN,hlook,hin,purK_some,condK_true,bin_add,decide_true]
        exact next (m - 1) _ H3 (by omega) ⟨i + 1,all,tr,x3,rfl,by omega,by omega,hkl,P',s3.drop⟩
      · have P' := P.add hget hmay hin
        have key1 : mapPutA (cx ρ) 0 H3 74 (.mp se) (.agg (ndC n')) (.bool true) = _ := put_new (kNode ρ) (tSM ρ) (s3.at 2 rfl) n' (.bool true) (sNone hin)
        simp only [ldN_ptr,g7,ncN,hlook,hin,key1,Option.map_some,skips,purK_some,condK_false,decide_false]
        rw [effK_put]
        have s4 := s3.put1 2 (mapO ndA (sEnts all ++ [(n',.bool true,all.length)]) (all.length + 1)) rfl
        rw [← sEnts_snoc] at s4
        have hnf : n' ∉ tr.map Prod.fst := fun q => hin (by rw [P.hd]; exact List.mem_cons_of_mem _ q)
        refine reach8 A hs16 hget htr hcard hnf (i := i) ?_ fun x3' H5 s5 => ?_
        · rw [sEnts_snoc]
          rw [sEnts_snoc] at s4
          exact s4
        · simp only [N16_7,w,purK_some,bin_add]
          exact next (m - 1) _ H5 (by omega) ⟨i + 1,_,_,x3',rfl,by omega,by omega,by rw [List.length_append]; omega,P',s5⟩
  · have : i = s.length := by omega
    subst this
    have h' : ¬ ((s.length : Nat) : Int) < (s.length : Nat) := by omega
    simp only [N16_6b,h',purK_some,condK_false,bin_lss,decide_false]
    exact hK x3 all tr H' hkl P.next s1
/-- All nodes that can be are told, each with the one ahead of it. -/
theorem reach_spec {p f b : Nat} {xl xa xh : AV} {mm : Nat} {s : List EvB} {ats : List Nat} (A : SrAt H p f b xl xa xh mm s ats) (hf0 : H.get f = .map [] 0) (hb0 : H.get b = .map [] 0) (hs16 : s.length ≤ 16) (hk : 100000000000 ≤ k) :
    Ret (fun v H' => ∃ all tr,Reached s all tr ∧ GG H' 52 3 v (all.map ndC) ∧ (∀ l,v.lies l → H.sz ≤ l) ∧ H'.get f = mapO ndA (fEnts tr) tr.length ∧ H'.get b = mapO ndA (bEnts tr) tr.length ∧ Fr (FB f b) H H') (evCall (cx ρ) k 0 16 [.ptr p 0 0] H) := by
  obtain ⟨k,rfl⟩ : ∃ q,k = q + 1 := ⟨k - 1,by omega⟩
  have b0 : (bldA [.int .u32 0,.str ByteArray.empty,.bool false] []) = some (.agg (ndC nd0)) := rfl
  have b1 : ∀ H : Heap,bldS H 52 3 [.int .u32 0,.str ByteArray.empty,.bool false] 1 [(0,3,.agg (ndC nd0))] = some (.sl H.sz 0 0 1 1 false,.new (.cells 0 52 (0,0) false (ndC nd0))) := fun H => bldS_1 H _ 3 _ (ndC nd0) rfl rfl (ndC_solid nd0)
  have s0 : Sg (FB f b) H [(f,.map [] 0),(b,.map [] 0)] [] H :=
    ⟨⟨by simp; exact A.fb,by simp; exact ⟨A.hf,A.hb⟩,by simp; exact ⟨hf0,hb0⟩,by simp [FB],Fr.refl ..⟩,by simp,by simp,by simp,.nil⟩
  rw [E16]
  simp only [L16,b0,b1,purK_some]
  refine s0.newF (e := 52) (sz := 3) [ndC nd0] rfl rfl (by intro r hr; simp at hr; subst hr; rfl) fun l3 H1 s1 z1 f1 => ?_
  refine s1.newM fun se H2 s2 z2 f2 => ?_
  have key1 : mapPutA (cx ρ) 0 H2 74 (.mp se) (.agg (ndC nd0)) (.bool true) = some (.put se (mapO ndA [(nd0,.bool true,0)] 1)) := put_new (kNode ρ) (tSM ρ) (f := ndA) (es := []) (c := 0) (s2.at 2 rfl) nd0 (.bool true) rfl
  simp only [key1,Option.map_some,skips]
  rw [effK_put]
  have s3 : Sg (FB f b) H (rL f b se [nd0] []) (rG (.sl l3 0 0 1 1 false) [nd0]) (H2.put se (mapO ndA [(nd0,.bool true,0)] 1)) := s2.put1 2 _ rfl
  generalize H2.put se (mapO ndA [(nd0,.bool true,0)] 1) = H3 at s3 ⊢
  have P0 : Part s [nd0] [] 0 0 := ⟨rfl,by simp,fun j t h => by simp at h,fun j n _ i' n' _ h => by omega⟩
  simp only [N16_2,N16_3]
  refine Ret.loop (fun m (y : AV × AV) H' => ∃ (kk : Nat) (all : List Nd) (tr : Tr3) (x3 : AV),y = (x3,.int .i64 kk) ∧ m = maxNd - kk ∧ kk ≤ all.length ∧ Part s all tr kk 0 ∧ Sg (FB f b) H (rL f b se all tr) (rG x3 all) H') ?_ maxNd k _ H3 ⟨0,[nd0],[],_,rfl,by omega,by simp,P0,s3⟩ (by unfold maxNd; omega)
  rintro m y H' kn ⟨kk,all,tr,x3,rfl,hm,hkk,P,s4⟩ next
  have hX : Els ρ H' 3 x3 (all.map ndC) := s4.els 0 rfl
  have hcard : all.length ≤ maxNd := rch_count hs16 all P.nd P.rch
  have hlen := len_nd hX
  have A1 := A.frame s4.fr
  have hln := len_ev (A1.hxl ρ)
  by_cases h : kk < all.length
  · have h' : (kk : Int) < (all.length : Nat) := by omega
    simp only [N16_3b,hlen,h',ld1_ptr,A1.hp,sr0,hln,Nat.zero_add,purK_some,condK_true,bin_lss,nilChk_ptr,addA_ptr,decide_true]
    refine reach5 A hs16 h P s4 (by omega) fun x3' all' tr' H5 hl P' s5 => ?_
    have hc : maxNd < 9223372036854775807 := by decide
    have w : wrapK .i64 ((kk : Int) + 1) = ((kk + 1 : Nat) : Int) := wrap_succN kk (by omega)
    simp only [N16_4,w,purK_some,bin_add]
    clear w hc
    exact next (m - 1) _ H5 (by omega) ⟨kk + 1,all',tr',x3',rfl,by omega,by omega,P',s5⟩
  · have : kk = all.length := by omega
    subst this
    have h' : ¬ ((all.length : Nat) : Int) < (all.length : Nat) := by omega
    simp only [N16_3b,N16_1,hlen,h',purK_some,condK_false,retK_one,bin_lss,nilChk_ptr,addA_ptr,decide_false]
    refine .intro ⟨all,tr,P.all (Nat.le_refl _),s4.gg 0 rfl,fun l hl => ?_,s4.at 0 rfl,s4.at 1 rfl,s4.fr⟩
    rcases s4.own _ (List.mem_of_getElem? (i := 0) rfl) l hl with q | q
    · exfalso
      rcases q with q | q
      · exact s4.off _ (List.mem_of_getElem? (i := 0) rfl) (f,mapO ndA (fEnts tr) tr.length) (by simp [rL]) (q ▸ hl)
      · exact s4.off _ (List.mem_of_getElem? (i := 0) rfl) (b,mapO ndA (bEnts tr) tr.length) (by simp [rL]) (q ▸ hl)
    · exact q
end
end Go.Proofs.Ytkmohjddojpdjab

-- part HyG
/- The nodes in which all is that must be. -/
set_option linter.unusedVariables false
set_option linter.unusedSimpArgs false
namespace Go.Proofs.Ytkmohjddojpdjab
attribute [local congr] Go.Ev.cond_congr1
open Go.Ev Go.RowKit
theorem slNds (ρ : Addr → Option Value) : (cx ρ).P.underlying 44 = some (.slice 52) := by kernel_rfl
section
variable {ρ : Addr → Option Value} {k : Nat} {H : Heap}
/-- What is asked of the function that tells. -/
def Tells (ρ : Addr → Option Value) (H : Heap) (S : Nat → Prop) (g : FuncId) (a c : List AV) (P : Nd → Bool) (k0 : Nat) (ds : List Nd) : Prop :=
  ∀ d ∈ ds,∀ H' k',Fr S H H' → k0 ≤ k' → Ret (fun v H'' => v = .bool (P d) ∧ Fr Nop H' H'') (evCall (cx ρ) k' 0 g (a ++ [.agg (ndC d)] ++ c) H')
theorem ix_nd {x : AV} {g : FuncId} {a c : List AV} (ds : List Nd) (P : Nd → Bool) (k0 : Nat) (S : Nat → Prop) (hx : Els ρ H 3 x (ds.map ndC)) (hlen : ds.length < 4611686018427387904) (hk : k0 + ds.length + 4 ≤ k) (hf : Tells ρ H S g a c P k0 ds) :
    Ret (fun v H' => Fr Nop H H' ∧ ((v = .int .i64 (-1) ∧ ds.any P = false) ∨ ∃ j,∃ hj : j < ds.length,v = .int .i64 j ∧ P ds[j] = true ∧ (ds.take j).any P = false)) (evCall (cx ρ) k 0 25 [x,.fn (.func g) a c] H) := by
  obtain ⟨k,rfl⟩ : ∃ q,k = q + 1 := ⟨k - 1,by omega⟩
  have hl := len_nd hx
  rw [E25]
  simp only [L25,hl,N25_2,N25_3,purK_some,Int.reduceNeg]
  refine Ret.loop (fun m y H' => ∃ i : Nat,y = .int .i64 i ∧ m = ds.length - i ∧ i ≤ ds.length ∧ Fr Nop H H' ∧ (ds.take i).any P = false) ?_ ds.length k _ H ⟨0,rfl,by omega,by omega,Fr.refl ..,by simp⟩ (by omega)
  rintro m y H' kn ⟨i,rfl,hm,hi,fr,hall⟩ next
  by_cases h : i < ds.length
  · have h' : (i : Int) < (ds.length : Nat) := by omega
    obtain ⟨e1,e2⟩ := el_nd (hx.frame0 fr) i h
    simp only [N25_3b,h',e1,e2,purK_some,condK_true,retK_one,valK_fn,bin_add,bin_lss,decide_true,Int.reduceNeg]
    refine Ret.bind (hf ds[i] (List.getElem_mem h) H' k (fr.mono fun _ _ q => q.elim) (by omega)) ?_
    rintro v H1 ⟨rfl,f1⟩
    refine Ret.cond (fun hp => ?_) (fun hp => ?_)
    · exact .intro ⟨fr.trans f1,Or.inr ⟨i,h,rfl,hp,hall⟩⟩
    · have w : wrapK .i64 ((i : Int) + 1) = ((i + 1 : Nat) : Int) := wrap_succN i (by omega)
      have ht : ds.take (i + 1) = ds.take i ++ [ds[i]] := by rw [List.take_succ_eq_append_getElem h]
      simp only [w,Int.reduceNeg]
      exact next (m - 1) _ H1 (by omega) ⟨i + 1,rfl,by omega,by omega,fr.trans f1,by rw [ht,List.any_append,hall]; simp [hp]⟩
  · have : i = ds.length := by omega
    subst this
    have h' : ¬ ((ds.length : Nat) : Int) < (ds.length : Nat) := by omega
    rw [List.take_length] at hall
    simp only [N25_3b,N25_1,h',purK_some,condK_false,retK_one,valK_fn,bin_add,bin_lss,decide_false,Int.reduceNeg]
    exact .intro ⟨fr,Or.inl ⟨rfl,hall⟩⟩
/-- Those that are told of go. -/
theorem del_nd {x : AV} {g : FuncId} {a c : List AV} (ds : List Nd) (P : Nd → Bool) (k0 : Nat) (hx : GG H 52 3 x (ds.map ndC)) (hlen : ds.length < 4611686018427387904) (hk : k0 + ds.length + 10 ≤ k) (hf : Tells ρ H x.lies g a c P k0 ds) :
    Ret (fun v H' => (∀ ρ,Els ρ H' 3 v ((ds.filter fun d => !P d).map ndC)) ∧ (∀ l,v.lies l → x.lies l) ∧ Fr x.lies H H') (evCall (cx ρ) k 0 15 [x,.fn (.func g) a c] H) := by
  obtain ⟨k,rfl⟩ : ∃ q,k = q + 1 := ⟨k - 1,by omega⟩
  rw [E15]
  simp only [L15]
  refine Ret.bind (ix_nd ds P k0 x.lies hx.toEls hlen (by omega) hf) ?_
  rintro v H1 ⟨f1,(⟨rfl,hno⟩ | ⟨j,hj,rfl,hpj,hno⟩)⟩
  · simp only [purK_some,condK_true,retK_one,bin_add,bin_eql,decide_true,Int.reduceAdd,Int.reduceNeg]
    refine .intro ⟨fun ρ => ?_,fun l h => h,f1.mono fun _ _ q => q.elim⟩
    have : ds.filter (fun d => !P d) = ds := by
      rw [List.filter_eq_self]
      intro d hd
      rw [List.any_eq_false] at hno
      simpa using hno d hd
    rw [this]
    exact (hx.toEls).frame0 f1
  have hjn : ¬ (j : Int) = -1 := by omega
  have w : wrapK .i64 ((j : Int) + 1) = ((j + 1 : Nat) : Int) := wrap_succN j (by omega)
  have hkeep : (ds.take j).filter (fun d => !P d) = ds.take j := by
    rw [List.filter_eq_self]
    intro d hd
    rw [List.any_eq_false] at hno
    simpa using hno d hd
  simp only [hjn,w,N15_2,N15_3,purK_some,condK_false,retK_one,bin_add,bin_eql,decide_false,Int.reduceNeg]
  clear w
  refine Ret.loop (fun m (y : AV × AV) H' => ∃ (i jj : Nat) (E : List Nd),y = (.int .i64 i,.int .i64 jj) ∧ m = ds.length - jj ∧ jj ≤ ds.length ∧ i + 1 ≤ jj ∧ E.length = ds.length ∧ E.take i = (ds.take jj).filter (fun d => !P d) ∧ E.drop jj = ds.drop jj ∧ GG H' 52 3 x (E.map ndC) ∧ Fr x.lies H H') ?_ (ds.length - (j + 1)) k _ H1
    ⟨j,j + 1,ds,rfl,by omega,by omega,by omega,rfl,?_,rfl,hx.frame Nop f1 (fun _ _ q => q),f1.mono fun _ _ q => q.elim⟩ (by omega)
  · rintro m y H' kn ⟨i,jj,E,rfl,hm,hjj,hij,hE,ht,hd,hG,fr⟩ next
    have hln := len_nd (hG.toEls (ρ := ρ))
    by_cases h : jj < ds.length
    · have h' : (jj : Int) < (E.length : Nat) := by omega
      have hjE : jj < E.length := by omega
      obtain ⟨e1,e2⟩ := el_nd (hG.toEls (ρ := ρ)) jj hjE
      have hEd : E[jj] = ds[jj] := by
        have := congrArg (fun l => l[0]?) hd
        simp only [List.getElem?_drop,Nat.add_zero] at this
        rw [List.getElem?_eq_getElem hjE,List.getElem?_eq_getElem h] at this
        exact Option.some.inj this
      rw [hEd] at e2
      obtain ⟨d,hdd⟩ : ∃ d,d = ds[jj] := ⟨_,rfl⟩
      rw [← hdd] at e2
      have hdr : E.drop (jj + 1) = ds.drop (jj + 1) := by
        have := congrArg (List.drop 1) hd
        rwa [List.drop_drop,List.drop_drop] at this
      have htk : (ds.take (jj + 1)).filter (fun d => !P d) = (ds.take jj).filter (fun d => !P d) ++ if P d then [] else [d] := by
        rw [List.take_succ_eq_append_getElem h,List.filter_append,← hdd]
        cases hpd : P d <;> simp [hpd]
      have hiE : i < E.length := by omega
      have hk2 : k0 ≤ k := by omega
      have wj : wrapK .i64 ((jj : Int) + 1) = ((jj + 1 : Nat) : Int) := wrap_succN jj (by omega)
      have wi : wrapK .i64 ((i : Int) + 1) = ((i + 1 : Nat) : Int) := wrap_succN i (by omega)
      simp only [N15_3b,hln,h',e1,e2,purK_some,condK_true,valK_fn,bin_add,bin_lss,decide_true]
      refine (St.start Nop H').sg.var rfl rfl (ndC_solid d) fun n7 H2 s2 z2 f2 => ?_
      have g7 := s2.at 0 rfl
      simp only [ldN_ptr,g7,ncN,purK_some]
      have fr2 : Fr x.lies H H2 := fr.trans (s2.fr.mono fun _ _ q => q.elim)
      refine Ret.bind (hf d (by rw [hdd]; exact List.getElem_mem h) H2 k fr2 hk2) ?_
      rintro v H3 ⟨rfl,f3⟩
      have s3 := s2.frame0 f3
      have g7 := s3.at 0 rfl
      have fr3 : Fr x.lies H H3 := fr2.trans (f3.mono fun _ _ q => q.elim)
      have hG3 := hG.frame Nop s3.fr fun _ _ q => q
      cases hp : P d with
      | true =>
        rw [hp] at htk
        simp only [N15_4,wj,purK_some,condK_false,Bool.not_true,bin_add,un_not]
        clear wj wi
        exact next (m - 1) _ H3 (by omega) ⟨i,jj + 1,E,rfl,by omega,by omega,by omega,hE,by rw [htk,ht]; simp,hdr,hG3,fr3⟩
      | false =>
        rw [hp] at htk
        obtain ⟨e3,_⟩ := el_nd (hG3.toEls (ρ := ρ)) i hiE
        simp only [g7,ncN,e3,purK_some,condK_true,Bool.not_false,un_not]
        refine hG3.stE i (by simpa using hiE) rfl (ndC_solid d) fun H4 hG4 z4 f4 => ?_
        rw [← List.map_set] at hG4
        simp only [N15_4,wj,wi,purK_some,bin_add]
        clear wj wi
        refine next (m - 1) _ H4 (by omega) ⟨i + 1,jj + 1,E.set i d,rfl,by omega,by omega,by omega,by rw [List.length_set]; exact hE,?_,?_,hG4,fr3.trans f4⟩
        · rw [htk,← ht]
          rw [List.take_succ_eq_append_getElem (by rw [List.length_set]; exact hiE)]
          rw [List.take_set_of_le (by omega)]
          simp
        · rw [List.drop_set_of_lt (by omega)]
          exact hdr
    · have : jj = ds.length := by omega
      subst this
      have h' : ¬ ((ds.length : Nat) : Int) < (E.length : Nat) := by omega
      have hiE : i < (E.map ndC).length := by rw [List.length_map]; omega
      obtain ⟨y,hy1,hy2⟩ := hG.clr (C := cx ρ) (t := 44) i hiE (slNds ρ) (zNd ρ) rfl rfl (by decide) (ndC_solid nd0) .i64
      rw [List.take_length] at ht
      simp only [N15_3b,N15_1,hln,h',hy1,purK_some,condK_false,retK_one,valK_fn,bin_add,bin_lss,decide_false]
      refine hy2 fun H2 hG2 z2 f2 => ?_
      obtain ⟨y2,hc1,hc2,hc3⟩ := (hG2.toEls (ρ := ρ)).cut (lo := 0) (hi := i) (by omega) (by simp; omega) none (some (.int .i64 i)) (Or.inl ⟨rfl,rfl⟩) (Or.inr ⟨.i64,rfl⟩) (fun n => hG2.notSx n)
      simp only [hc1,purK_some]
      refine .intro ⟨fun ρ' => ?_,hc3,fr.trans f2⟩
      obtain ⟨y3,hd1,hd2,_⟩ := (hG2.toEls (ρ := ρ')).cut (lo := 0) (hi := i) (by omega) (by simp; omega) none (some (.int .i64 i)) (Or.inl ⟨rfl,rfl⟩) (Or.inr ⟨.i64,rfl⟩) (fun n => hG2.notSx n)
      rw [hc1] at hd1
      obtain rfl := Option.some.inj hd1
      have e : ((((E.map ndC).take i ++ List.replicate ((E.map ndC).length - i) (ndC nd0)).drop 0).take (i - 0)) = (ds.filter fun d => !P d).map ndC := by
        rw [List.drop_zero,Nat.sub_zero,List.take_append_of_le_length (by rw [List.length_take]; omega),List.take_take,Nat.min_self,← List.map_take,ht]
      have hd3 : Els ρ' H2 3 y2 ((((E.map ndC).take i ++ List.replicate ((E.map ndC).length - i) (ndC nd0)).drop 0).take (i - 0)) := hd2
      rw [e] at hd3
      exact hd3
  · rw [List.take_succ_eq_append_getElem hj,List.filter_append,hkeep]
    simp [hpj]
/-- Does a node lack one that must be in? -/
theorem lacks_spec {c p f b : Nat} {xl xa xh : AV} {mm ct : Nat} (hcl : c < H.sz) (hpl : p < H.sz) (hc : H.get c = .cells 0 ct (0,0) false [.ptr p 0 0]) (hp : H.get p = .cells 0 64 (0,0) false (srC xl xa xh mm f b)) (hm : mm < 4294967296) (n : Nd) (hn : n.1 < 4294967296) (hk : 1 ≤ k) :
    Ret (fun v H' => v = .bool (!subM mm n.1) ∧ Fr Nop H H') (evCall (cx ρ) k 0 17 [.agg (ndC n),.ptr c 0 0] H) := by
  obtain ⟨k,rfl⟩ : ∃ q,k = q + 1 := ⟨k - 1,by omega⟩
  rw [E17]
  simp only [L17,boxA_agg _ _ _ (ndC_solid n)]
  refine (St.start Nop H).sg.newP fun n2 H1 s1 z1 f1 => ?_
  have hc1 : H1.get c = .cells 0 ct (0,0) false [.ptr p 0 0] := by rw [s1.fr.get c hcl (fun q => q)]; exact hc
  have hp1 : H1.get p = .cells 0 64 (0,0) false (srC xl xa xh mm f b) := by rw [s1.fr.get p hpl (fun q => q)]; exact hp
  have lc : ldC 0 0 (.cells 0 ct (0,0) false [.ptr p 0 0]) = some (.ptr p 0 0) := by rw [ldC_cells]; rfl
  have ha := andNot32 mm n.1 hm hn
  simp only [ld1_ptr,hc1,lc,hp1,sr3,s1.at 0 rfl,nc0,bin_andNot,Nat.zero_add,purK_some,retK_one,bin_neq,nilChk_ptr,addA_ptr]
  refine .intro ⟨?_,f1⟩
  congr 1
  cases hs : subM mm n.1 with
  | true => simp [ha.2 hs]
  | false =>
    have : ¬ Go.bits .andNot .u32 (mm : Int) (n.1 : Int) = 0 := fun q => by rw [ha.1 q] at hs; cases hs
    simp [this]
theorem mustM_lt {s : List EvB} (hs16 : s.length ≤ 16) : maskL (mustL s) < 4294967296 := mask_lt _ (by unfold mustL; rw [List.length_map]; exact hs16)
/-- The nodes in which all is that must be. -/
theorem whole_spec2 {p f b : Nat} {xl xa xh : AV} {s : List EvB} {ats : List Nat} (A : SrAt H p f b xl xa xh (maskL (mustL s)) s ats) (hf0 : H.get f = .map [] 0) (hb0 : H.get b = .map [] 0) (hs16 : s.length ≤ 16) (hk : 200000000000 ≤ k) :
    Ret (fun v H' => ∃ all tr,Reached s all tr ∧ (∀ ρ,Els ρ H' 3 v ((all.filter fun n => subM (maskL (mustL s)) n.1).map ndC)) ∧ H'.get f = mapO ndA (fEnts tr) tr.length ∧ H'.get b = mapO ndA (bEnts tr) tr.length ∧ Fr (FB f b) H H' ∧ ∀ l,v.lies l → H.sz ≤ l) (evCall (cx ρ) k 0 9 [.ptr p 0 0] H) := by
  obtain ⟨k,rfl⟩ : ∃ q,k = q + 1 := ⟨k - 1,by omega⟩
  rw [E9]
  simp only [L9,box1 _ _ _ (scal_ptr _ _ _)]
  refine (St.start Nop H).sg.newP fun n1 H1 s1 z1 f1 => ?_
  have hn1 := s1.at 0 rfl
  have lc : ∀ ct,ldC 0 0 (.cells 0 ct (0,0) false [.ptr p 0 0]) = some (.ptr p 0 0) := fun ct => by rw [ldC_cells]; rfl
  have A1 := A.frame (f1.mono fun _ _ q => q.elim)
  simp only [ld1_ptr,hn1,lc,purK_some,retK_one]
  have hf1 : H1.get f = .map [] 0 := by rw [f1.get f A.hf (fun q => q)]; exact hf0
  have hb1 : H1.get b = .map [] 0 := by rw [f1.get b A.hb (fun q => q)]; exact hb0
  refine Ret.bind (reach_spec A1 hf1 hb1 hs16 (by omega)) ?_
  rintro v H2 ⟨all,tr,R,hG,hown,hf2,hb2,f2⟩
  have hcard : all.length ≤ 73014444032 := rch_count hs16 all R.nd fun n hn => (R.iff n).1 hn
  have hz2 : H1.sz ≤ H2.sz := f2.sz
  have hn1lt : n1 < H1.sz := s1.lt' 0 rfl
  have off1 : ¬ v.lies n1 := fun q => by have := hown n1 q; omega
  have offp : ¬ v.lies p := fun q => by have := hown p q; have := A1.hpl; omega
  have A2 := A1.frame f2
  have hn2 : H2.get n1 = .cells 0 41 (0,0) false [.ptr p 0 0] := by
    rw [f2.get n1 hn1lt (fun q => q.elim (fun e => by have := A.hf; omega) (fun e => by have := A.hb; omega))]; exact hn1
  refine Ret.bind (del_nd (c := [.ptr n1 0 0]) (a := []) all (fun n => !subM (maskL (mustL s)) n.1) 1 hG (by omega) (by omega) ?_) ?_
  · intro d hd H' k' fr hk'
    have hlt := nd_lt hs16 ((R.iff d).1 hd)
    refine lacks_spec (Nat.lt_of_lt_of_le hn1lt (Nat.le_trans hz2 fr.sz)) (Nat.lt_of_lt_of_le A2.hpl fr.sz) (by rw [fr.get n1 (by omega) off1]; exact hn2) (by rw [fr.get p A2.hpl offp]; exact A2.hp) (mustM_lt hs16) d hlt hk'
  · rintro y H3 ⟨hE,hly,f3⟩
    try simp only [purK_some,resK_some,boolK_some,condK_true,condK_false,wantV_tt,wantV_tf,wantV_ft,wantV_ff,wantV_t,wantV_f,wantV_skip,Bool.not_true,Bool.not_false,gPur_true,gPur_false,gEff_true,gEff_false,gRes_true,gRes_false,pickA_true,pickA_false,extA_0,extA_1,extA_2,retK_one,retK_none,retK_two,valK_fn,valR_fn,cnd_true,cnd_false,bin_add,bin_sub,bin_mul,bin_eql,bin_neq,bin_lss,bin_leq,bin_gtr,bin_geq,bin_seql,bin_sneq,un_not_t,un_not_f,un_not,cvI_int,cvT_str,nilChk_ptr,nilChk_xp,addA_ptr,lenT_str,Bool.true_or,Bool.or_true,Bool.false_or,Bool.or_false,Bool.true_and,Bool.and_true,Bool.false_and,Bool.and_false,decide_true,decide_false,Int.reduceEq,Int.reduceLT,Int.reduceLE,Int.reduceNe,Int.reduceAdd,Int.reduceSub,Int.reduceMul,Int.reduceNeg,List.nil_append,List.append_nil,List.cons_append]
    have hfl : ∀ t,t < H1.sz → ¬ v.lies t := fun t ht q => by have := hown t q; omega
    refine .intro ⟨all,tr,R,fun ρ => ?_,?_,?_,?_,fun l hl => Nat.le_trans f1.sz (hown l (hly l hl))⟩
    · have := hE ρ
      simpa using this
    · rw [f3.get f A2.hf (hfl f A1.hf)]; exact hf2
    · rw [f3.get b A2.hb (hfl b A1.hb)]; exact hb2
    · refine ((f1.mono fun _ _ q => q.elim).trans f2).trans' f3 fun l hl q => absurd q (hfl l (by have := f1.sz; omega))
theorem whole_spec {p f b : Nat} {xl xa xh : AV} {s : List EvB} {ats : List Nat} (A : SrAt H p f b xl xa xh (maskL (mustL s)) s ats) (hf0 : H.get f = .map [] 0) (hb0 : H.get b = .map [] 0) (hs16 : s.length ≤ 16) (hk : 200000000000 ≤ k) :
    Ret (fun v H' => ∃ all tr,Reached s all tr ∧ (∀ ρ,Els ρ H' 3 v ((all.filter fun n => subM (maskL (mustL s)) n.1).map ndC)) ∧ H'.get f = mapO ndA (fEnts tr) tr.length ∧ H'.get b = mapO ndA (bEnts tr) tr.length ∧ Fr (FB f b) H H') (evCall (cx ρ) k 0 9 [.ptr p 0 0] H) :=
  (whole_spec2 A hf0 hb0 hs16 hk).mono fun v H' ⟨all,tr,h1,h2,h3,h4,h5,_⟩ => ⟨all,tr,h1,h2,h3,h4,h5⟩
end
end Go.Proofs.Ytkmohjddojpdjab

-- part HyH
/- The way to a node. -/
set_option linter.unusedVariables false
set_option linter.unusedSimpArgs false
namespace Go.Proofs.Ytkmohjddojpdjab
attribute [local congr] Go.Ev.cond_congr1
open Go.Ev Go.RowKit
/-- From one node to another. -/
inductive Pth (s : List EvB) : Nd → List Nat → Nd → Prop
  | nil (n : Nd) : Pth s n [] n
  | cons {a b c : Nd} {i : Nat} {π : List Nat} : mayN s a.1 a.2 i = some b → Pth s b π c → Pth s a (i :: π) c
theorem neNd (H : Heap) (o o' : Nd) : binA Try.prog H .neq 52 (.agg (ndC o)) (.agg (ndC o')) = some (.bool (decide (o ≠ o'))) := by
  have : ∀ a s b a' s' b',binA Try.prog H .neq 52 (.agg [.int .u32 a,.str s,.bool b]) (.agg [.int .u32 a',.str s',.bool b']) = (bif a == a' then ((bif s == s' then (bif b == b' then some true else some false) else some false).bind fun e => bif e then some true else some false) else some false).map fun b => .bool !b := fun a s b a' s' b' => by kernel_rfl
  unfold ndC
  rw [this]
  obtain ⟨a,s,b⟩ := o
  obtain ⟨a',s',b'⟩ := o'
  by_cases h1 : a = a'
  · by_cases h2 : s = s'
    · by_cases h3 : b = b'
      · subst h1; subst h2; subst h3; simp [ba_beq]
      · subst h1; subst h2
        have q : (b == b') = false := by simp [h3]
        simp [ba_beq,q,h3]
    · have q : (ba s == ba s') = false := by rw [ba_beq]; simp [ba_inj,h2]
      simp [q,h2]
  · have q : ((a : Int) == (a' : Int)) = false := by simp; omega
    simp [q,h1]
theorem getM_at {α : Type} (g : α → Nd × AV) : ∀ (l : List α) (k j : Nat) (t : α),l[j]? = some t → (l.map fun t => (g t).1).Nodup → getM ((l.zipIdx k).map fun e => ((g e.1).1,(g e.1).2,e.2)) (g t).1 = some (g t).2
  | [],_,_,_,h,_ => by simp at h
  | x :: l,k,0,t,h,_ => by
    have : x = t := by simpa using h
    subst this
    simp [getM]
  | x :: l,k,j + 1,t,h,hn => by
    have ih := getM_at g l (k + 1) j t (by simpa using h) (by rw [List.map_cons,List.nodup_cons] at hn; exact hn.2)
    have hne : (g x).1 ≠ (g t).1 := fun e => by
      rw [List.map_cons,List.nodup_cons] at hn
      exact hn.1 (e ▸ List.mem_map.2 ⟨t,List.mem_of_getElem? (by simpa using h : l[j]? = some t),rfl⟩)
    unfold getM at ih ⊢
    simp [hne] at ih ⊢
    exact ih
theorem fGet {tr : Tr3} {j : Nat} {t : Nd × Nd × Nat} (h : tr[j]? = some t) (hn : (tr.map Prod.fst).Nodup) : getM (fEnts tr) t.1 = some (.agg (ndC t.2.1)) := getM_at (fun t : Nd × Nd × Nat => (t.1,AV.agg (ndC t.2.1))) tr 0 j t h hn
theorem bGet {tr : Tr3} {j : Nat} {t : Nd × Nd × Nat} (h : tr[j]? = some t) (hn : (tr.map Prod.fst).Nodup) : getM (bEnts tr) t.1 = some (.int .i64 (t.2.2 : Nat)) := getM_at (fun t : Nd × Nd × Nat => (t.1,AV.int .i64 (t.2.2 : Nat))) tr 0 j t h hn
theorem Reached.nodup {s : List EvB} {all : List Nd} {tr : Tr3} (R : Reached s all tr) : (tr.map Prod.fst).Nodup := by
  have := R.nd
  rw [R.hd,List.nodup_cons] at this
  exact this.2
section
variable {ρ : Addr → Option Value} {k : Nat} {H : Heap}
theorem el_int {H : Heap} {x : AV} {l : List Nat} (hX : Els ρ H 1 x (irow l)) (i : Nat) (h : i < l.length) : ixS 1 x (.int .i64 i) = some (elp 1 x i 0) ∧ ld1 ρ H (elp 1 x i 0) = some (.int .i64 (l[i] : Nat)) := by
  have hl : (irow l).length = l.length := by unfold irow; rw [List.length_map]
  have e1 := hX.ix .i64 i (by omega) (by rw [hl]; omega)
  rw [Int.toNat_natCast] at e1
  refine ⟨e1,?_⟩
  have := hX.ld1 i 0 (by rw [hl]; exact h) (by decide)
  rw [this]
  simp [irow]
theorem len_int {H : Heap} {x : AV} {l : List Nat} (hX : Els ρ H 1 x (irow l)) : lenS x = some (.int .i64 l.length) := by
  have := hX.lenS
  unfold irow at this; rwa [List.length_map] at this
theorem irow_set (l : List Nat) (i v : Nat) : (irow l).set i [.int .i64 v] = irow (l.set i v) := by unfold irow; rw [List.map_set]
/-- A list of numbers is turned round. -/
theorem rev_spec {x : AV} (l : List Nat) (hx : GG H 3 1 x (irow l)) (hlen : l.length < 4611686018427387904) (hk : l.length + 5 ≤ k) :
    Ret (fun v H' => GG H' 3 1 x (irow l.reverse) ∧ Fr x.lies H H') (evCall (cx ρ) k 0 18 [x] H) := by
  obtain ⟨k,rfl⟩ : ∃ q,k = q + 1 := ⟨k - 1,by omega⟩
  have hl := len_int (hx.toEls (ρ := ρ))
  have w0 : wrapK .i64 ((l.length : Int) - 1) = (l.length : Int) - 1 := wrap_i64 _ (by omega)
  rw [E18]
  simp only [L18,hl,w0,N18_1,N18_2,purK_some,bin_sub]
  clear w0
  refine Ret.loop (fun m (y : AV × AV) H' => ∃ (i : Nat) (E : List Nat),y = (.int .i64 i,.int .i64 ((l.length : Int) - 1 - i)) ∧ m = l.length - i ∧ i ≤ l.length ∧ E.length = l.length ∧ (∀ q,q < l.length → E[q]? = if q < i ∨ l.length - i ≤ q then l[l.length - 1 - q]? else l[q]?) ∧ GG H' 3 1 x (irow E) ∧ Fr x.lies H H') ?_ l.length k _ H
    ⟨0,l,by simp,by omega,by omega,rfl,fun q hq => by rw [if_neg (by omega)],hx,Fr.refl ..⟩ (by omega)
  rintro m y H' kn ⟨i,E,rfl,hm,hi,hE,hq,hG,fr⟩ next
  by_cases h : (i : Int) < (l.length : Int) - 1 - i
  · have hi1 : i < E.length := by omega
    have hj1 : l.length - 1 - i < E.length := by omega
    obtain ⟨j,hj⟩ : ∃ j,j = l.length - 1 - i := ⟨_,rfl⟩
    have hjc : (l.length : Int) - 1 - i = (j : Int) := by omega
    rw [← hj] at hj1
    obtain ⟨e1,e2⟩ := el_int (hG.toEls (ρ := ρ)) i hi1
    obtain ⟨e3,e4⟩ := el_int (hG.toEls (ρ := ρ)) j hj1
    rw [hjc] at h
    simp only [N18_2b,hjc,h,e1,e2,e3,e4,purK_some,condK_true,retK_none,bin_add,bin_sub,bin_lss,decide_true]
    refine hG.st1 i (by unfold irow; rw [List.length_map]; exact hi1) (scal_int _ _) fun H1 hG1 z1 f1 => ?_
    rw [irow_set] at hG1
    obtain ⟨e5,_⟩ := el_int (hG1.toEls (ρ := ρ)) j (by rw [List.length_set]; exact hj1)
    try simp only [e5,purK_some,resK_some,boolK_some,condK_true,condK_false,wantV_tt,wantV_tf,wantV_ft,wantV_ff,wantV_t,wantV_f,wantV_skip,Bool.not_true,Bool.not_false,gPur_true,gPur_false,gEff_true,gEff_false,gRes_true,gRes_false,pickA_true,pickA_false,extA_0,extA_1,extA_2,retK_one,retK_none,retK_two,valK_fn,valR_fn,cnd_true,cnd_false,bin_add,bin_sub,bin_mul,bin_eql,bin_neq,bin_lss,bin_leq,bin_gtr,bin_geq,bin_seql,bin_sneq,un_not_t,un_not_f,un_not,cvI_int,cvT_str,nilChk_ptr,nilChk_xp,addA_ptr,lenT_str,Bool.true_or,Bool.or_true,Bool.false_or,Bool.or_false,Bool.true_and,Bool.and_true,Bool.false_and,Bool.and_false,decide_true,decide_false,Int.reduceEq,Int.reduceLT,Int.reduceLE,Int.reduceNe,Int.reduceAdd,Int.reduceSub,Int.reduceMul,Int.reduceNeg,List.nil_append,List.append_nil,List.cons_append]
    refine hG1.st1 j (by unfold irow; rw [List.length_map,List.length_set]; exact hj1) (scal_int _ _) fun H2 hG2 z2 f2 => ?_
    rw [irow_set] at hG2
    have hEi := hq i (by omega)
    have hEj := hq j (by omega)
    rw [if_neg (by omega),List.getElem?_eq_getElem hi1,List.getElem?_eq_getElem (by omega : i < l.length)] at hEi
    rw [if_neg (by omega),List.getElem?_eq_getElem hj1,List.getElem?_eq_getElem (by omega : j < l.length)] at hEj
    have hEi := Option.some.inj hEi
    have hEj := Option.some.inj hEj
    have hq2 : ∀ q,q < l.length → ((E.set i E[j]).set j E[i])[q]? = if q < i + 1 ∨ l.length - (i + 1) ≤ q then l[l.length - 1 - q]? else l[q]? := by
      intro q hql
      rw [List.getElem?_set]
      by_cases q1 : j = q
      · subst q1
        rw [if_pos rfl,if_pos (by rw [List.length_set]; exact hj1),if_pos (by omega),hEi]
        have : l.length - 1 - j = i := by omega
        rw [this,List.getElem?_eq_getElem]
      · rw [if_neg q1,List.getElem?_set]
        by_cases q2 : i = q
        · subst q2
          rw [if_pos rfl,if_pos hi1,if_pos (by omega),hEj]
          rw [← hj,List.getElem?_eq_getElem]
        · rw [if_neg q2,hq q hql]
          by_cases q3 : q < i ∨ l.length - i ≤ q
          · rw [if_pos q3,if_pos (by omega)]
          · rw [if_neg q3,if_neg (by omega)]
    have hlt : m - 1 < m := by omega
    have hm2 : m - 1 = l.length - (i + 1) := by omega
    have hi2 : i + 1 ≤ l.length := by omega
    have hjc2 : (l.length : Int) - 1 - ((i + 1 : Nat) : Int) = (j : Int) - 1 := by omega
    have w1 : wrapK .i64 ((i : Int) + 1) = ((i + 1 : Nat) : Int) := wrap_succN i (by omega)
    have w2 : wrapK .i64 ((j : Int) - 1) = (j : Int) - 1 := by clear w1; exact wrap_i64 _ (by omega)
    simp only [w1,w2]
    exact next (m - 1) _ H2 hlt ⟨i + 1,_,by rw [hjc2],hm2,hi2,by rw [List.length_set,List.length_set]; exact hE,hq2,hG2,(fr.trans f1).trans f2⟩
  · simp only [N18_2b,h,purK_some,condK_false,retK_none,bin_add,bin_sub,bin_lss,decide_false]
    refine .intro ⟨?_,fr⟩
    have : E = l.reverse := by
      apply List.ext_getElem?
      intro q
      by_cases hql : q < l.length
      · rw [hq q hql,List.getElem?_reverse hql]
        by_cases q3 : q < i ∨ l.length - i ≤ q
        · rw [if_pos q3]
        · rw [if_neg q3]
          have : l.length - 1 - q = q := by omega
          rw [this]
      · rw [List.getElem?_eq_none (by omega),List.getElem?_eq_none (by rw [List.length_reverse]; omega)]
    rw [← this]
    exact hG
theorem Pth.lt {s : List EvB} {a c : Nd} {π : List Nat} (h : Pth s a π c) : ∀ i ∈ π,i < s.length := by
  induction h with
  | nil => intro i hi; simp at hi
  | cons hm _ ih =>
    intro j hj
    rcases List.mem_cons.1 hj with rfl | hj
    · exact mayN_lt hm
    · exact ih j hj
def posOf (ats : List Nat) (π : List Nat) : List Nat := π.map fun i => ats.getD i 0
theorem Reached.back {s : List EvB} {all : List Nd} {tr : Tr3} (R : Reached s all tr) {q : Nat} {m : Nd} (h : all[q]? = some m) (hm : m ≠ nd0) : ∃ j t,q = j + 1 ∧ tr[j]? = some t ∧ t.1 = m ∧ mayN s t.2.1.1 t.2.1.2 t.2.2 = some m ∧ ∃ q',q' < q ∧ all[q']? = some t.2.1 := by
  rw [R.hd] at h
  cases q with
  | zero => simp at h; exact absurd h.symm hm
  | succ j =>
    rw [List.getElem?_cons_succ,List.getElem?_map,Option.map_eq_some_iff] at h
    obtain ⟨t,ht,rfl⟩ := h
    obtain ⟨h1,h2⟩ := R.par j t ht
    obtain ⟨q',hq',e⟩ := List.mem_iff_getElem.1 h1
    rw [List.length_take] at hq'
    rw [List.getElem_take] at e
    exact ⟨j,t,rfl,ht,rfl,h2,q',by omega,by rw [List.getElem?_eq_getElem (by omega),e]⟩
/-- The way to a node, as places. -/
theorem way_spec {p f b : Nat} {xl xa xh : AV} {mm : Nat} {s : List EvB} {ats : List Nat} (A : SrAt H p f b xl xa xh mm s ats) (hats : ats.length = s.length) (hs16 : s.length ≤ 16) {all : List Nd} {tr : Tr3} (R : Reached s all tr)
    (hf : H.get f = mapO ndA (fEnts tr) tr.length) (hb : H.get b = mapO ndA (bEnts tr) tr.length) (n : Nd) (hn : n ∈ all) (hk : 200000000000 ≤ k) :
    Ret (fun v H' => ∃ π,Pth s nd0 π n ∧ (∀ ρ,Els ρ H' 1 v (irow (posOf ats π))) ∧ (∀ l,v.lies l → H.sz ≤ l) ∧ Fr Nop H H') (evCall (cx ρ) k 0 10 [.ptr p 0 0,.agg (ndC n)] H) := by
  obtain ⟨k,rfl⟩ : ∃ q,k = q + 1 := ⟨k - 1,by omega⟩
  have hcard : all.length ≤ 73014444032 := rch_count hs16 all R.nd fun n hn => (R.iff n).1 hn
  obtain ⟨q0,hq0,hq0e⟩ := List.mem_iff_getElem.1 hn
  rw [E10]
  simp only [L10,boxA_agg _ _ _ (ndC_solid n)]
  refine (St.start Nop H).sg.newP fun n3 H1 s1 z1 f1 => ?_
  simp only [N10_1,N10_3]
  have bnd : (bldA [.int .u32 0,.str ByteArray.empty,.bool false] []) = some (.agg (ndC nd0)) := rfl
  have s1' : Sg Nop H [(n3,.cells 0 52 (0,0) false (ndC n))] [⟨3,1,.nils,irow (posOf ats ([] : List Nat).reverse)⟩] H1 := s1.nils 3 1
  refine Ret.loop (fun mq (x5 : AV) H' => ∃ (m : Nd) (σ : List Nat),all[mq]? = some m ∧ Pth s m σ n ∧ σ.length + mq ≤ q0 ∧ Sg Nop H [(n3,.cells 0 52 (0,0) false (ndC m))] [⟨3,1,x5,irow (posOf ats σ.reverse)⟩] H') ?_ q0 k _ H1 ⟨n,[],by rw [List.getElem?_eq_getElem hq0,hq0e],.nil n,by simp,s1'⟩ (by omega)
  rintro mq x5 H' kn ⟨m,σ,hm,hp,hσ,s2⟩ next
  have g3 := s2.at 0 rfl
  by_cases h : m = nd0
  · subst h
    have hne : ¬ nd0 ≠ nd0 := fun q => q rfl
    simp only [N10_3b,ldN_ptr,g3,ncN,bnd,neNd,hne,N10_2,purK_some,condK_false,retK_one,nilChk_ptr,addA_ptr,Bool.and_true,decide_false]
    have hlen : (posOf ats σ.reverse).length < 4611686018427387904 := by unfold posOf; rw [List.length_map,List.length_reverse]; omega
    refine Ret.bind (rev_spec (k := k) (posOf ats σ.reverse) (s2.gg 0 rfl) hlen (by unfold posOf; rw [List.length_map,List.length_reverse]; omega)) ?_
    rintro v H3 ⟨hG,f3⟩
    have e : (posOf ats σ.reverse).reverse = posOf ats σ := by unfold posOf; rw [← List.map_reverse,List.reverse_reverse]
    rw [e] at hG
    have own : ∀ l,x5.lies l → H.sz ≤ l := fun l hl => (s2.own _ (List.mem_of_getElem? (i := 0) rfl) l hl).resolve_left (fun q => q)
    try simp only [purK_some,resK_some,boolK_some,condK_true,condK_false,wantV_tt,wantV_tf,wantV_ft,wantV_ff,wantV_t,wantV_f,wantV_skip,Bool.not_true,Bool.not_false,gPur_true,gPur_false,gEff_true,gEff_false,gRes_true,gRes_false,pickA_true,pickA_false,extA_0,extA_1,extA_2,retK_one,retK_none,retK_two,valK_fn,valR_fn,cnd_true,cnd_false,bin_add,bin_sub,bin_mul,bin_eql,bin_neq,bin_lss,bin_leq,bin_gtr,bin_geq,bin_seql,bin_sneq,un_not_t,un_not_f,un_not,cvI_int,cvT_str,nilChk_ptr,nilChk_xp,addA_ptr,lenT_str,Bool.true_or,Bool.or_true,Bool.false_or,Bool.or_false,Bool.true_and,Bool.and_true,Bool.false_and,Bool.and_false,decide_true,decide_false,Int.reduceEq,Int.reduceLT,Int.reduceLE,Int.reduceNe,Int.reduceAdd,Int.reduceSub,Int.reduceMul,Int.reduceNeg,List.nil_append,List.append_nil,List.cons_append]
    exact .intro ⟨σ,hp,fun ρ => hG.toEls,own,s2.fr.trans' f3 fun l h1 h2 => by have := own l h2; omega⟩
  · have hne : m ≠ nd0 := h
    obtain ⟨j,t,rfl,ht,rfl,hmay,q',hq',hpar⟩ := R.back hm h
    have A2 := A.frame (s2.fr.mono fun _ _ q => q.elim)
    have hf2 : H'.get f = mapO ndA (fEnts tr) tr.length := by rw [s2.fr.get f A.hf (fun q => q)]; exact hf
    have hb2 : H'.get b = mapO ndA (bEnts tr) tr.length := by rw [s2.fr.get b A.hb (fun q => q)]; exact hb
    have hlt := mayN_lt hmay
    have lb : ∀ H'' : Heap,H''.get b = mapO ndA (bEnts tr) tr.length → lookupA (cx ρ) H'' 61 (.mp b) (.agg (ndC t.1)) false = some (.int .i64 (t.2.2 : Nat)) := fun H'' hb'' => by
      have := lookup_at (kNode ρ) (tBM ρ) hb'' t.1 (zInt ρ)
      rw [bGet ht R.nodup] at this
      exact this
    have lf : ∀ H'' : Heap,H''.get f = mapO ndA (fEnts tr) tr.length → lookupA (cx ρ) H'' 60 (.mp f) (.agg (ndC t.1)) false = some (.agg (ndC t.2.1)) := fun H'' hf'' => by
      have := lookup_at (kNode ρ) (tFM ρ) hf'' t.1 (zNd ρ)
      rw [fGet ht R.nodup] at this
      exact this
    obtain ⟨e1,e2⟩ := el_int (A2.hxa ρ) t.2.2 (by omega)
    have b1 : ∀ (H : Heap) (v : Nat),bldS H 3 1 [.int .i64 0] 1 [(0,1,.int .i64 v)] = some (.sl H.sz 0 0 1 1 false,.new (.cells 0 3 (0,0) false [.int .i64 v])) := fun H v => rfl
    have hat : ats.getD t.2.2 0 = ats[t.2.2]'(by omega) := by rw [List.getD_eq_getElem?_getD,List.getElem?_eq_getElem (by omega)]; rfl
    simp only [N10_3b,ldN_ptr,g3,ncN,bnd,neNd,hne,ne_eq,not_false_eq_true,ld1_ptr,A2.hp,sr1,sr5,lb H' hb2,e1,e2,b1,Nat.zero_add,purK_some,condK_true,nilChk_ptr,addA_ptr,Bool.and_true,decide_true]
    refine s2.mkS rfl fun n4 H3 s3 z3 f3 => ?_
    have A3 := A.frame (s3.fr.mono fun _ _ q => q.elim)
    have g3 := s3.at 0 rfl
    have hb3 : H3.get b = mapO ndA (bEnts tr) tr.length := by rw [s3.fr.get b A.hb (fun q => q)]; exact hb
    obtain ⟨_,e2⟩ := el_int (A3.hxa ρ) t.2.2 (by omega)
    have eqx := A.ea
    simp only [g3,ncN,A3.hp,sr1,sr5,lb H3 hb3,e2,agn_some,eqv_int,eqvNd,eqv_mp,eqx,Bool.and_self,cnd_true]
    have hE : Els ρ H3 1 (.sl n4 0 0 1 1 false) (irow [ats[t.2.2]'(by omega)]) := Els.of_cells (els := irow [_]) (s3.lt' 1 rfl) (by rw [s3.at 1 rfl]; rfl) (by intro r hr; simp [irow] at hr; subst hr; rfl)
    refine s3.app 0 rfl hE (by intro r hr; simp [irow] at hr; subst hr; rfl) (by simp [irow,posOf]; omega) (by simp [irow,posOf]; omega) fun x5' H4 s4 f4 hl4 hs4 => ?_
    have A4 := A.frame (s4.fr.mono fun _ _ q => q.elim)
    have g3 := s4.at 0 rfl
    have hf4 : H4.get f = mapO ndA (fEnts tr) tr.length := by rw [s4.fr.get f A.hf (fun q => q)]; exact hf
    simp only [g3,ncN,A4.hp,sr4,lf H4 hf4,purK_some]
    refine s4.stW 0 rfl rfl rfl (ndC_solid _) fun H5 s5 z5 f5 => ?_
    try simp only [purK_some,resK_some,boolK_some,condK_true,condK_false,wantV_tt,wantV_tf,wantV_ft,wantV_ff,wantV_t,wantV_f,wantV_skip,Bool.not_true,Bool.not_false,gPur_true,gPur_false,gEff_true,gEff_false,gRes_true,gRes_false,pickA_true,pickA_false,extA_0,extA_1,extA_2,retK_one,retK_none,retK_two,valK_fn,valR_fn,cnd_true,cnd_false,bin_add,bin_sub,bin_mul,bin_eql,bin_neq,bin_lss,bin_leq,bin_gtr,bin_geq,bin_seql,bin_sneq,un_not_t,un_not_f,un_not,cvI_int,cvT_str,nilChk_ptr,nilChk_xp,addA_ptr,lenT_str,Bool.true_or,Bool.or_true,Bool.false_or,Bool.or_false,Bool.true_and,Bool.and_true,Bool.false_and,Bool.and_false,decide_true,decide_false,Int.reduceEq,Int.reduceLT,Int.reduceLE,Int.reduceNe,Int.reduceAdd,Int.reduceSub,Int.reduceMul,Int.reduceNeg,List.nil_append,List.append_nil,List.cons_append]
    refine next q' _ H5 hq' ⟨t.2.1,t.2.2 :: σ,hpar,.cons hmay hp,by simp; omega,?_⟩
    have e : irow (posOf ats (t.2.2 :: σ).reverse) = irow (posOf ats σ.reverse) ++ irow [ats[t.2.2]'(by omega)] := by
      rw [List.reverse_cons]
      unfold posOf irow
      rw [List.map_append,List.map_append]
      simp
      rw [List.getElem?_eq_getElem (by omega)]; rfl
    rw [e]
    exact s5.drop (R := [_])
end
end Go.Proofs.Ytkmohjddojpdjab

-- part HyI
/- The order of a key's events. -/
set_option linter.unusedVariables false
set_option linter.unusedSimpArgs false
namespace Go.Proofs.Ytkmohjddojpdjab
attribute [local congr] Go.Ev.cond_congr1
open Go.Ev Go.RowKit
/-- A node in which all is that must be. -/
def Whole (s : List EvB) (n : Nd) : Prop := Rch s n ∧ subM (maskL (mustL s)) n.1 = true
/-- What Order tells. -/
def OrderAns (ρ : Addr → Option Value) (ds : List EvB) (key : List UInt8) (H : Heap) (v : AV) (H' : Heap) : Prop :=
  (rightL ds = false ∧ v = .tup [.nils,.bool false,.int .i64 1]) ∨
  (rightL ds = true ∧ 16 < (evsOf ds key).length ∧ v = .tup [.nils,.bool false,.int .i64 5]) ∨
  (rightL ds = true ∧ (evsOf ds key).length ≤ 16 ∧ (∀ n,¬ Whole (evsOf ds key) n) ∧ v = .tup [.nils,.bool false,.int .i64 0]) ∨
  (rightL ds = true ∧ (evsOf ds key).length ≤ 16 ∧ ∃ n π x,Whole (evsOf ds key) n ∧ Pth (evsOf ds key) nd0 π n ∧ v = .tup [x,.bool true,.int .i64 0] ∧ (∀ ρ,Els ρ H' 1 x (irow (posOf (atsOf ds key) π))) ∧ ∀ l,x.lies l → H.sz ≤ l)
theorem ats_len (ds : List EvB) (key : List UInt8) : (atsOf ds key).length = (evsOf ds key).length := by unfold atsOf evsOf; rw [List.length_map,List.length_map]
section
variable {ρ : Addr → Option Value} {k : Nat} {H : Heap}
theorem order_spec {x : AV} (ds : List EvB) (key : List UInt8) (hx : Els ρ H 8 x (ds.map EvB.cells)) (hlen : ds.length ≤ 1000) (hk : 300000000000 ≤ k) :
    Ret (fun v H' => OrderAns ρ ds key H v H' ∧ Fr Nop H H') (evCall (cx ρ) k 0 5 [x,.str (ba key)] H) := by
  obtain ⟨k,rfl⟩ : ∃ q,k = q + 1 := ⟨k - 1,by omega⟩
  rw [E5]
  simp only [L5]
  refine Ret.bind (open_spec ds key hx hlen (by omega)) ?_
  rintro v H1 (⟨hr,rfl,f1⟩ | ⟨hr,h16,rfl,f1⟩ | ⟨hr,h16,p,f,b,xl,xa,xh,rfl,S1⟩)
  · have c : (1 : Int) ≠ 0 := by decide
    simp only [eq_true c,purK_some,condK_true,extA_0,extA_1,retK_two,bin_neq,decide_true]
    exact .intro ⟨Or.inl ⟨hr,rfl⟩,f1⟩
  · have c : (5 : Int) ≠ 0 := by decide
    simp only [eq_true c,purK_some,condK_true,extA_0,extA_1,retK_two,bin_neq,decide_true]
    exact .intro ⟨Or.inr (Or.inl ⟨hr,h16,rfl⟩),f1⟩
  have A := SrAt.of S1
  have c : ¬ (0 : Int) ≠ 0 := by decide
  have fb : ∀ l,l < H.sz → ¬ FB f b l := by
    rintro l hl (q | q)
    · have := (S1.st.own (f,.map [] 0) (by simp [srL])).resolve_left (fun q => q); simp only at this; omega
    · have := (S1.st.own (b,.map [] 0) (by simp [srL])).resolve_left (fun q => q); simp only at this; omega
  simp only [c,purK_some,condK_false,extA_0,extA_1,retK_two,bin_neq,decide_false]
  refine Ret.bind (whole_spec A (S1.at 0 rfl) (S1.at 1 rfl) h16 (by omega)) ?_
  rintro y H2 ⟨all,tr,R,hE,hf,hb,f2⟩
  have f12 : Fr Nop H H2 := S1.fr.trans' f2 fun l hl q => (fb l hl q).elim
  have hln := len_nd (hE ρ)
  have mem : ∀ n,n ∈ all.filter (fun n => subM (maskL (mustL (evsOf ds key))) n.1) ↔ Whole (evsOf ds key) n := fun n => by
    rw [List.mem_filter,R.iff]; exact Iff.rfl
  obtain ⟨ws,hws⟩ : ∃ ws,ws = all.filter (fun n => subM (maskL (mustL (evsOf ds key))) n.1) := ⟨_,rfl⟩
  rw [← hws] at hE hln mem
  cases ws with
  | nil =>
    have c0 : (((([] : List Nd).length : Nat) : Int) = 0) := rfl
    simp only [hln,c0,purK_some,condK_true,bin_eql,decide_true]
    exact .intro ⟨Or.inr (Or.inr (Or.inl ⟨hr,h16,fun n hn => by have := (mem n).2 hn; simp at this,rfl⟩)),f12⟩
  | cons n ws =>
    have c0 : ¬ ((((n :: ws).length : Nat) : Int) = 0) := by rw [List.length_cons]; omega
    obtain ⟨e1,e2⟩ := el_nd (hE ρ) 0 (by rw [List.length_cons]; omega)
    simp only [List.getElem_cons_zero] at e2
    have z0 : ((0 : Nat) : Int) = 0 := rfl
    rw [z0] at e1
    have hW := (mem n).1 (by simp)
    have A2 := A.frame f2
    simp only [hln,c0,N5_1,e1,e2,purK_some,condK_false,retK_two,bin_eql,decide_false]
    refine Ret.bind (way_spec A2 (ats_len ds key) h16 R hf hb n ((R.iff n).2 hW.1) (by omega)) ?_
    rintro v H3 ⟨π,hp,hX,hown,f3⟩
    try simp only [purK_some,resK_some,boolK_some,condK_true,condK_false,wantV_tt,wantV_tf,wantV_ft,wantV_ff,wantV_t,wantV_f,wantV_skip,Bool.not_true,Bool.not_false,gPur_true,gPur_false,gEff_true,gEff_false,gRes_true,gRes_false,pickA_true,pickA_false,extA_0,extA_1,extA_2,retK_one,retK_none,retK_two,valK_fn,valR_fn,cnd_true,cnd_false,bin_add,bin_sub,bin_mul,bin_eql,bin_neq,bin_lss,bin_leq,bin_gtr,bin_geq,bin_seql,bin_sneq,un_not_t,un_not_f,un_not,cvI_int,cvT_str,nilChk_ptr,nilChk_xp,addA_ptr,lenT_str,Bool.true_or,Bool.or_true,Bool.false_or,Bool.or_false,Bool.true_and,Bool.and_true,Bool.false_and,Bool.and_false,decide_true,decide_false,Int.reduceEq,Int.reduceLT,Int.reduceLE,Int.reduceNe,Int.reduceAdd,Int.reduceSub,Int.reduceMul,Int.reduceNeg,List.nil_append,List.append_nil,List.cons_append]
    exact .intro ⟨Or.inr (Or.inr (Or.inr ⟨hr,h16,n,π,v,hW,hp,rfl,hX,fun l hl => Nat.le_trans f12.sz (hown l hl)⟩)),f12.trans f3⟩
end
end Go.Proofs.Ytkmohjddojpdjab

-- part HyS
/- Sorting texts: rows of texts; one text less than another; a part sorted by insertion; the heap. -/
set_option linter.unusedVariables false
set_option linter.unusedSimpArgs false
namespace Go.Proofs.Ytkmohjddojpdjab
attribute [local congr] Go.Ev.cond_congr1
open Go.Ev Go.RowKit
open Go.Sort (swp ltStr insInner insOuter insertionSort siftDown heapBuild heapPop heapSort)
abbrev DA := Array (List UInt8)
def srow (d : DA) : List (List AV) := d.toList.map fun s => [.str (ba s)]
theorem srow_len (d : DA) : (srow d).length = d.size := by unfold srow; rw [List.length_map,Array.length_toList]
theorem srow_set (d : DA) (i : Nat) (s : List UInt8) : (srow d).set i [.str (ba s)] = srow (d.setIfInBounds i s) := by
  unfold srow; rw [Array.toList_setIfInBounds,List.map_set]
/-- A slice of texts of its own. -/
abbrev TS (H : Heap) (x : AV) (d : DA) : Prop := GG H 9 1 x (srow d)
section
variable {ρ : Addr → Option Value} {k : Nat} {H : Heap} {x : AV} {d : DA} {Q : AV → Heap → Prop} {K : AV → Heap → Res}
theorem ts_ix (h : TS H x d) (i : Nat) (hi : i < d.size) : ixS 1 x (.int .i64 i) = some (elp 1 x i 0) := by
  have e1 := (GG.toEls (ρ := fun _ => none) h).ix .i64 i (by omega) (by rw [srow_len]; omega)
  rwa [Int.toNat_natCast] at e1
theorem ts_ld (h : TS H x d) (i : Nat) (hi : i < d.size) : ld1 ρ H (elp 1 x i 0) = some (.str (ba d[i]!)) := by
  have := (GG.toEls (ρ := ρ) h).ld1 i 0 (by rw [srow_len]; exact hi) (by decide)
  rw [this]
  simp [srow,hi]
theorem ts_len (h : TS H x d) : lenS x = some (.int .i64 d.size) := by
  have := (GG.toEls (ρ := fun _ => none) h).lenS
  rwa [srow_len] at this
theorem ts_st (h : TS H x d) (i : Nat) (hi : i < d.size) (s : List UInt8)
    (hk : ∀ H1,TS H1 x (d.setIfInBounds i s) → Fr x.lies H H1 → Ret Q (K (.tup []) H1)) : Ret Q (effK H (stA 0 H 1 (elp 1 x i 0) (.str (ba s))) K) := by
  refine h.st1 i (by rw [srow_len]; exact hi) (scal_str _) fun H1 h1 z1 f1 => ?_
  rw [srow_set] at h1
  exact hk H1 h1 f1
theorem nan_spec (s : List UInt8) : evCall (cx ρ) (k + 1) 0 49 [.str (ba s)] H = .done (.bool false,H) := by
  rw [E49]
  have : ¬ ba s ≠ ba s := fun q => q rfl
  simp only [L49,this,purK_some,retK_one,bin_sneq,decide_false]
theorem less_spec (a b : List UInt8) (hk : 2 ≤ k) : evCall (cx ρ) k 0 38 [.str (ba a),.str (ba b)] H = .done (.bool (ltStr a b),H) := by
  obtain ⟨k,rfl⟩ : ∃ q,k = q + 2 := ⟨k - 2,by omega⟩
  rw [E38]
  simp only [L38,nan_spec,bin_sltB,Go.Proofs.bytesLess_eq,purK_some,resK_some,wantV_t,wantV_f,Bool.not_false,gPur_true,gPur_false,gRes_false,pickA_false,retK_one]
  rfl
theorem agI (n : Int) : agn (some (.int .i64 n)) (.int .i64 n) = true := by rw [agn_some,eqv_int]
theorem insInner_at (a j : Nat) (d : DA) : insInner ltStr a j d = if j > a ∧ ltStr d[j]! d[j - 1]! = true then insInner ltStr a (j - 1) (swp d j (j - 1)) else d := by
  cases j with
  | zero => rw [if_neg (by omega)]; rfl
  | succ j =>
    rw [insInner]
    simp only [Nat.add_sub_cancel,Bool.and_eq_true,decide_eq_true_eq]
/-- By insertion. -/
theorem ins_spec (a b : Nat) (hab : a ≤ b) (hb : b ≤ d.size) (hsz : d.size < 4611686018427387904) (h : TS H x d) (hk : d.size + 10 ≤ k) :
    Ret (fun v H' => TS H' x (insertionSort ltStr d a b) ∧ Fr x.lies H H') (evCall (cx ρ) k 0 32 [x,.int .i64 a,.int .i64 b] H) := by
  obtain ⟨k,rfl⟩ : ∃ q,k = q + 1 := ⟨k - 1,by omega⟩
  have w0 : wrapK .i64 ((a : Int) + 1) = ((a + 1 : Nat) : Int) := wrap_succN a (by omega)
  rw [E32]
  simp only [L32,w0,N32_1,N32_2,purK_some,bin_add]
  clear w0
  refine Ret.loop (fun m y H' => ∃ (i : Nat) (d' : DA),y = .int .i64 i ∧ m = b + 1 - i ∧ a < i ∧ i ≤ b + 1 ∧ d'.size = d.size ∧ insOuter ltStr a b i d' = insertionSort ltStr d a b ∧ TS H' x d' ∧ Fr x.lies H H') ?_ (b + 1 - (a + 1)) k _ H ⟨a + 1,d,rfl,rfl,by omega,by omega,rfl,rfl,h,Fr.refl ..⟩ (by omega)
  rintro m y H' kn ⟨i,d',rfl,hm,hai,hi,hs,hout,hT,fr⟩ next
  by_cases c : i < b
  · have c' : (i : Int) < (b : Int) := by omega
    rw [insOuter,if_pos c] at hout
    have hlt : m - 1 < m := by omega
    have hm2 : m - 1 = b + 1 - (i + 1) := by omega
    simp only [N32_2b,c',N32_4,N32_5,purK_some,condK_true,retK_none,bin_lss,decide_true]
    refine Ret.loop (fun m2 y H' => ∃ (j : Nat) (e : DA),y = .int .i64 j ∧ m2 = j ∧ j ≤ i ∧ e.size = d.size ∧ insInner ltStr a j e = insInner ltStr a i d' ∧ TS H' x e ∧ Fr x.lies H H') ?_ i k _ H' ⟨i,d',rfl,rfl,Nat.le_refl _,hs,rfl,hT,fr⟩ (by omega)
    rintro m2 y H2 kn2 ⟨j,e,rfl,hm2j,hj,hse,hin,hT2,fr2⟩ next2
    have stop : insInner ltStr a j e = e → Ret (fun v H' => TS H' x (insertionSort ltStr d a b) ∧ Fr x.lies H H') (N32_3 ρ (evCall (cx ρ) k) (evCY (cx ρ) k).2 0 k x (.int .i64 a) (.int .i64 b) (.int .i64 i) H2 fun x6 H => kn x6 H) := by
      intro he
      have w : wrapK .i64 ((i : Int) + 1) = ((i + 1 : Nat) : Int) := wrap_succN i (by omega)
      simp only [N32_3,w,purK_some,bin_add]
      clear w
      exact next _ _ H2 hlt ⟨i + 1,e,rfl,hm2,by omega,by omega,hse,by rw [← hout,← hin,he],hT2,fr2⟩
    by_cases q : j > a
    · have q' : (a : Int) < (j : Int) := by omega
      have hje : j < e.size := by omega
      have hj1 : j - 1 < e.size := by omega
      have e1 := ts_ix hT2 j hje
      have e2 := ts_ld (ρ := ρ) hT2 j hje
      have e3 := ts_ix hT2 (j - 1) hj1
      have e4 := ts_ld (ρ := ρ) hT2 (j - 1) hj1
      have k2 : 2 ≤ k := by omega
      have hat := insInner_at a j e
      have hmj : m2 - 1 < m2 := by omega
      have hmj1 : m2 - 1 = j - 1 := by omega
      have hji : j - 1 ≤ i := by omega
      have w1 : wrapK .i64 ((j : Int) - 1) = ((j - 1 : Nat) : Int) := wrap_predN j (by omega) (by omega)
      cases hl : ltStr e[j]! e[j - 1]! with
      | true =>
        rw [if_pos ⟨q,hl⟩] at hat
        simp only [N32_5b,q',w1,e1,e2,e3,e4,less_spec _ _ k2,hl,gRes_true,purK_some,resK_some,boolK_some,condK_true,wantV_t,Bool.not_true,gRes_true,pickA_true,cnd_true,bin_sub,bin_gtr,Bool.or_true,Bool.and_true,decide_true]
        refine ts_st hT2 j hje _ fun H3 s3 f3 => ?_
        have e5 := ts_ix s3 (j - 1) (by simpa using hj1)
        simp only [agI,cnd_true]
        refine ts_st s3 (j - 1) (by simpa using hj1) _ fun H4 s4 f4 => ?_
        have s4' : TS H4 x (swp e j (j - 1)) := s4
        simp only [N32_6,w1,purK_some,bin_sub]
        clear w1
        exact next2 _ _ H4 hmj ⟨j - 1,_,rfl,hmj1,hji,by rw [Go.Sort.size_swp]; exact hse,by rw [← hat,hin],s4',(fr2.trans f3).trans f4⟩
      | false =>
        rw [if_neg (by rw [hl]; simp)] at hat
        simp only [N32_5b,q',w1,e1,e2,e3,e4,less_spec _ _ k2,hl,gRes_true,purK_some,resK_some,boolK_some,condK_false,wantV_t,Bool.not_true,gRes_true,pickA_true,cnd_true,bin_sub,bin_gtr,Bool.or_true,Bool.and_true,decide_true]
        exact stop hat
    · have q' : ¬ (a : Int) < (j : Int) := by omega
      have hat := insInner_at a j e
      rw [if_neg (by rintro ⟨q1,_⟩; exact q q1)] at hat
      simp only [N32_5b,q',gRes_false,resK_some,purK_some,resK_some,boolK_some,condK_false,wantV_t,Bool.not_false,gRes_false,pickA_false,cnd_true,cnd_false,bin_sub,bin_gtr,Bool.or_true,Bool.and_true,decide_false]
      exact stop hat
  · have c' : ¬ (i : Int) < (b : Int) := by omega
    rw [insOuter,if_neg c] at hout
    simp only [N32_2b,c',purK_some,condK_false,retK_none,bin_lss,decide_false]
    exact .intro ⟨by rw [← hout]; exact hT,fr⟩
end
end Go.Proofs.Ytkmohjddojpdjab

-- part HyT
/- The heap. -/
set_option linter.unusedVariables false
set_option linter.unusedSimpArgs false
namespace Go.Proofs.Ytkmohjddojpdjab
attribute [local congr] Go.Ev.cond_congr1
open Go.Ev Go.RowKit
open Go.Sort (swp ltStr siftDown heapBuild heapPop heapSort reverseLoop reverseRange)
theorem size_siftDown (hi F : Nat) : ∀ (n r : Nat) (d : DA),hi - r ≤ n → (siftDown ltStr hi F r d).size = d.size := by
  intro n
  induction n with
  | zero =>
    intro r d h
    rw [siftDown,dif_pos (by omega)]
  | succ n ih =>
    intro r d h
    rw [siftDown]
    split
    · rfl
    · split
      · split
        · rfl
        · split
          · rw [ih _ _ (by omega),Go.Sort.size_swp]
          · rfl
      · split
        · rfl
        · rw [ih _ _ (by omega),Go.Sort.size_swp]
section
variable {ρ : Addr → Option Value} {k : Nat} {H : Heap} {x : AV} {d : DA}
theorem sift_spec (hi F root lo0 : Nat) (hF : F + hi ≤ d.size) (hr : root < 4611686018427387904) (hsz : d.size < 2305843009213693952) (h : TS H x d) (hk : d.size + 10 ≤ k) :
    Ret (fun v H' => TS H' x (siftDown ltStr hi F root d) ∧ Fr x.lies H H') (evCall (cx ρ) k 0 44 [x,.int .i64 root,.int .i64 hi,.int .i64 F] H) := by
  obtain ⟨k,rfl⟩ : ∃ q,k = q + 1 := ⟨k - 1,by omega⟩
  have k2 : 2 ≤ k := by omega
  rw [E44]
  simp only [L44,N44_1,N44_2]
  refine Ret.loop (fun m y H' => ∃ (r : Nat) (e : DA),y = .int .i64 r ∧ m = hi - r ∧ r < 4611686018427387904 ∧ e.size = d.size ∧ siftDown ltStr hi F r e = siftDown ltStr hi F root d ∧ TS H' x e ∧ Fr x.lies H H') ?_ (hi - root) k _ H ⟨root,d,rfl,rfl,hr,rfl,rfl,h,Fr.refl ..⟩ (by omega)
  rintro m y H' kn ⟨r,e,rfl,hm,hr,hse,hsd,hT,fr⟩ next
  have e0 := siftDown.eq_1 ltStr hi F r e
  have w1 : wrapK .i64 (2 * (r : Int)) = ((2 * r : Nat) : Int) := by rw [wrap_i64 _ (by omega)]; omega
  have w2 : wrapK .i64 (((2 * r : Nat) : Int) + 1) = ((2 * r + 1 : Nat) : Int) := wrap_succN _ (by omega)
  by_cases c : 2 * r + 1 ≥ hi
  · have c' : (hi : Int) ≤ ((2 * r + 1 : Nat) : Int) := by clear w1 w2; omega
    rw [dif_pos c] at e0
    simp only [N44_2b,w1,w2,c',purK_some,boolK_some,condK_true,wantV_t,retK_none,cnd_true,bin_add,bin_mul,bin_lss,bin_geq,Bool.or_true,Bool.and_true,decide_true]
    exact .intro ⟨by rw [← hsd,e0]; exact hT,fr⟩
  have c' : ¬ (hi : Int) ≤ ((2 * r + 1 : Nat) : Int) := by clear w1 w2; omega
  rw [dif_neg c] at e0
  have a1 : F + r < e.size := by clear w1 w2; omega
  have a2 : F + (2 * r + 1) < e.size := by clear w1 w2; omega
  have q3 : 2 * r + 1 + 1 < 9223372036854775808 := by clear w1 w2; omega
  have q4 : F + r < 9223372036854775808 := by clear w1 w2; omega
  have q5 : F + (2 * r + 1) < 9223372036854775808 := by clear w1 w2; omega
  have q6 : F + (2 * r + 1) + 1 < 9223372036854775808 := by clear w1 w2; omega
  have w3 : wrapK .i64 (((2 * r + 1 : Nat) : Int) + 1) = ((2 * r + 1 + 1 : Nat) : Int) := wrap_succN _ q3
  have w4 : wrapK .i64 ((F : Int) + (r : Int)) = ((F + r : Nat) : Int) := wrap_addN F r q4
  have w5 : wrapK .i64 ((F : Int) + ((2 * r + 1 : Nat) : Int)) = ((F + (2 * r + 1) : Nat) : Int) := wrap_addN F _ q5
  have w6 : wrapK .i64 (((F + (2 * r + 1) : Nat) : Int) + 1) = ((F + (2 * r + 1) + 1 : Nat) : Int) := wrap_succN _ q6
  -- the child is known
  have tail : ∀ cc : Nat,cc < hi → 2 * r < cc → siftDown ltStr hi F r e = (if !ltStr e[F + r]! e[F + cc]! then e else siftDown ltStr hi F cc (swp e (F + r) (F + cc))) →
      Ret (fun v H' => TS H' x (siftDown ltStr hi F root d) ∧ Fr x.lies H H') (N44_3 ρ (evCall (cx ρ) k) (evCY (cx ρ) k).2 0 k x (.int .i64 hi) (.int .i64 F) (.int .i64 r) (.int .i64 cc) H' (fun x8 H => kn x8 H) retK) := by
    clear w1 w2 w3 w4 w5 w6
    intro cc hcc hrc heq
    have b1 : F + cc < e.size := by omega
    have n1 := ts_ix hT (F + r) a1
    have n2 := ts_ld (ρ := ρ) hT (F + r) a1
    have n3 := ts_ix hT (F + cc) b1
    have n4 := ts_ld (ρ := ρ) hT (F + cc) b1
    have q7 : F + cc < 9223372036854775808 := by omega
    have mm : hi - cc < m := by omega
    have hcl : cc < 4611686018427387904 := by omega
    have w4 : wrapK .i64 ((F : Int) + (r : Int)) = ((F + r : Nat) : Int) := wrap_addN F r q4
    have w7 : wrapK .i64 ((F : Int) + (cc : Int)) = ((F + cc : Nat) : Int) := wrap_addN F cc q7
    cases hl : ltStr e[F + r]! e[F + cc]! with
    | false =>
      rw [hl] at heq
      simp only [N44_3,w4,w7,n1,n2,n3,n4,less_spec _ _ k2,hl,purK_some,resK_some,condK_true,Bool.not_false,retK_none,bin_add,un_not,Bool.and_true]
      exact .intro ⟨by rw [← hsd,heq]; exact hT,fr⟩
    | true =>
      rw [hl] at heq
      simp only [N44_3,w4,w7,n1,n2,n3,n4,less_spec _ _ k2,hl,purK_some,resK_some,condK_false,Bool.not_true,retK_none,bin_add,un_not,Bool.and_true]
      refine ts_st hT (F + r) a1 _ fun H3 s3 f3 => ?_
      have n5 := ts_ix s3 (F + cc) (by simpa using b1)
      simp only [agI,cnd_true]
      refine ts_st s3 (F + cc) (by simpa using b1) _ fun H4 s4 f4 => ?_
      have s4' : TS H4 x (swp e (F + r) (F + cc)) := s4
      simp only [N44_4]
      clear w4 w7
      exact next _ _ H4 mm ⟨cc,_,rfl,rfl,hcl,by rw [Go.Sort.size_swp]; exact hse,by rw [← hsd,heq]; rfl,s4',(fr.trans f3).trans f4⟩
  by_cases c2 : 2 * r + 1 + 1 < hi
  · have c2' : ((2 * r + 1 + 1 : Nat) : Int) < (hi : Int) := by clear w1 w2 w3 w4 w5 w6; omega
    have a3 : F + (2 * r + 1) + 1 < e.size := by clear w1 w2 w3 w4 w5 w6; omega
    have n1 := ts_ix hT (F + (2 * r + 1)) a2
    have n2 := ts_ld (ρ := ρ) hT (F + (2 * r + 1)) a2
    have n3 := ts_ix hT (F + (2 * r + 1) + 1) a3
    have n4 := ts_ld (ρ := ρ) hT (F + (2 * r + 1) + 1) a3
    cases hl : ltStr e[F + (2 * r + 1)]! e[F + (2 * r + 1) + 1]! with
    | true =>
      have hd : (decide (2 * r + 1 + 1 < hi) && ltStr e[F + (2 * r + 1)]! e[F + (2 * r + 1) + 1]!) = true := by rw [decide_eq_true c2,hl]; rfl
      rw [if_pos hd,dif_pos c2] at e0
      simp only [N44_2b,N44_5,w1,w2,w3,w5,w6,c',c2',n1,n2,n3,n4,less_spec _ _ k2,hl,gRes_true,purK_some,resK_some,boolK_some,condK_true,condK_false,wantV_t,Bool.not_true,gRes_true,pickA_true,retK_none,cnd_true,bin_add,bin_mul,bin_lss,bin_geq,Bool.or_true,Bool.and_true,decide_true,decide_false]
      exact tail (2 * r + 2) c2 (by clear w1 w2 w3 w4 w5 w6; omega) e0
    | false =>
      have hd : ¬ (decide (2 * r + 1 + 1 < hi) && ltStr e[F + (2 * r + 1)]! e[F + (2 * r + 1) + 1]!) = true := by rw [hl]; simp
      rw [if_neg hd] at e0
      simp only [N44_2b,N44_5,w1,w2,w3,w5,w6,c',c2',n1,n2,n3,n4,less_spec _ _ k2,hl,gRes_true,purK_some,resK_some,boolK_some,condK_false,wantV_t,Bool.not_true,gRes_true,pickA_true,retK_none,cnd_true,bin_add,bin_mul,bin_lss,bin_geq,Bool.or_true,Bool.and_true,decide_true,decide_false]
      exact tail (2 * r + 1) (by clear w1 w2 w3 w4 w5 w6; omega) (by clear w1 w2 w3 w4 w5 w6; omega) e0
  · have c2' : ¬ ((2 * r + 1 + 1 : Nat) : Int) < (hi : Int) := by clear w1 w2 w3 w4 w5 w6; omega
    have hd : ¬ (decide (2 * r + 1 + 1 < hi) && ltStr e[F + (2 * r + 1)]! e[F + (2 * r + 1) + 1]!) = true := by rw [decide_eq_false c2]; simp
    rw [if_neg hd] at e0
    simp only [N44_2b,N44_5,w1,w2,w3,c',c2',gRes_false,resK_some,purK_some,resK_some,boolK_some,condK_false,wantV_t,Bool.not_false,gRes_false,pickA_false,retK_none,cnd_true,cnd_false,bin_add,bin_mul,bin_lss,bin_geq,Bool.or_true,Bool.and_true,decide_false]
    exact tail (2 * r + 1) (by clear w1 w2 w3 w4 w5 w6; omega) (by clear w1 w2 w3 w4 w5 w6; omega) e0
/-- By a heap. -/
theorem heap_spec (a b : Nat) (hab : a ≤ b) (hb : b ≤ d.size) (hsz : d.size < 2305843009213693952) (h : TS H x d) (hk : d.size + 20 ≤ k) :
    Ret (fun v H' => TS H' x (heapSort ltStr d a b) ∧ Fr x.lies H H') (evCall (cx ρ) k 0 33 [x,.int .i64 a,.int .i64 b] H) := by
  obtain ⟨k,rfl⟩ : ∃ q,k = q + 1 := ⟨k - 1,by omega⟩
  have n2 : (2 : Int) ≠ 0 := by decide
  have w0 : wrapK .i64 ((b : Int) - (a : Int)) = ((b - a : Nat) : Int) := wrap_subN b a hab (by omega)
  have hq : wrapK .i64 (Int.tdiv (wrapK .i64 (((b - a : Nat) : Int) - 1)) 2) = (((b - a - 1) / 2 : Nat) : Int) := by
    rw [wrap_i64 (((b - a : Nat) : Int) - 1) (by omega)]
    by_cases z : b - a = 0
    · rw [z]; decide
    · have : ((b - a : Nat) : Int) - 1 = ((b - a - 1 : Nat) : Int) := by omega
      rw [this]
      have : Int.tdiv ((b - a - 1 : Nat) : Int) 2 = (((b - a - 1) / 2 : Nat) : Int) := rfl
      rw [this]
      exact wrap_nat _ (by omega)
  rw [E33]
  simp only [L33,w0,bin_quo _ _ _ _ _ _ n2,hq,N33_5,N33_6,purK_some,bin_sub]
  clear w0 hq
  have hsift : ∀ (hi r : Nat) (e : DA),(siftDown ltStr hi a r e).size = e.size := fun hi r e => size_siftDown hi a (hi - r) r e (Nat.le_refl _)
  refine Ret.loop (fun m y H' => ∃ (t : Nat) (e : DA),y = .int .i64 ((t : Int) - 1) ∧ m = t ∧ t ≤ (b - a - 1) / 2 + 1 ∧ e.size = d.size ∧ heapBuild ltStr (b - a) a t e = heapBuild ltStr (b - a) a ((b - a - 1) / 2 + 1) d ∧ TS H' x e ∧ Fr x.lies H H') ?_ ((b - a - 1) / 2 + 1) k _ H ⟨(b - a - 1) / 2 + 1,d,by congr 1; omega,rfl,Nat.le_refl _,rfl,rfl,h,Fr.refl ..⟩ (by omega)
  rintro m y H' kn ⟨t,e,rfl,hm,ht,hse,hbu,hT,fr⟩ next
  cases t with
  | succ t =>
    have c : (0 : Int) ≤ ((t + 1 : Nat) : Int) - 1 := by omega
    have ct : ((t + 1 : Nat) : Int) - 1 = (t : Int) := by omega
    have mm : t < m := by omega
    have htt : t ≤ (b - a - 1) / 2 + 1 := by omega
    simp only [N33_6b,c,purK_some,condK_true,bin_sub,bin_geq,decide_true]
    rw [ct]
    refine Ret.bind (sift_spec (b - a) a t 0 (by omega) (by omega) (by omega) hT (by omega)) ?_
    rintro v H2 ⟨hT2,f2⟩
    have w : wrapK .i64 ((t : Int) - 1) = (t : Int) - 1 := wrap_i64 _ (by omega)
    simp only [w]
    clear w
    exact next t _ H2 mm ⟨t,_,rfl,rfl,htt,by rw [hsift]; exact hse,by rw [← hbu]; rfl,hT2,fr.trans f2⟩
  | zero =>
    have c : ¬ (0 : Int) ≤ ((0 : Nat) : Int) - 1 := by omega
    have w : wrapK .i64 (((b - a : Nat) : Int) - 1) = ((b - a : Nat) : Int) - 1 := wrap_i64 _ (by omega)
    simp only [N33_6b,N33_1,c,w,N33_2,N33_3,purK_some,condK_false,bin_sub,bin_geq,decide_false]
    clear w next
    have hbu' : heapBuild ltStr (b - a) a ((b - a - 1) / 2 + 1) d = e := hbu.symm
    refine Ret.loop (fun m y H' => ∃ (t : Nat) (g : DA),y = .int .i64 ((t : Int) - 1) ∧ m = t ∧ t ≤ b - a ∧ g.size = d.size ∧ heapPop ltStr a t g = heapPop ltStr a (b - a) e ∧ TS H' x g ∧ Fr x.lies H H') ?_ (b - a) k _ H' ⟨b - a,e,rfl,rfl,Nat.le_refl _,hse,rfl,hT,fr⟩ (by omega)
    rintro m2 y H2 kn2 ⟨t,g,rfl,hm2,ht2,hsg,hpo,hT2,fr2⟩ next2
    cases t with
    | succ t =>
      have c : (0 : Int) ≤ ((t + 1 : Nat) : Int) - 1 := by omega
      have ct : ((t + 1 : Nat) : Int) - 1 = (t : Int) := by omega
      have mm : t < m2 := by omega
      have htt : t ≤ b - a := by omega
      have a1 : a < g.size := by omega
      have a2 : a + t < g.size := by omega
      have q1 : a + t < 9223372036854775808 := by omega
      have e1 := ts_ix hT2 a a1
      have e2 := ts_ld (ρ := ρ) hT2 a a1
      have e3 := ts_ix hT2 (a + t) a2
      have e4 := ts_ld (ρ := ρ) hT2 (a + t) a2
      have w : wrapK .i64 ((a : Int) + (t : Int)) = ((a + t : Nat) : Int) := wrap_addN a t q1
      simp only [N33_3b,c,purK_some,condK_true,retK_none,bin_add,bin_geq,Bool.and_true,decide_true]
      rw [ct]
      simp only [w,e1,e2,e3,e4,purK_some]
      refine ts_st hT2 a a1 _ fun H3 s3 f3 => ?_
      have n5 := ts_ix s3 (a + t) (by simpa using a2)
      simp only [agI,cnd_true]
      clear w
      refine ts_st s3 (a + t) (by simpa using a2) _ fun H4 s4 f4 => ?_
      have s4' : TS H4 x (swp g a (a + t)) := s4
      try simp only [purK_some,resK_some,boolK_some,condK_true,condK_false,wantV_tt,wantV_tf,wantV_ft,wantV_ff,wantV_t,wantV_f,wantV_skip,Bool.not_true,Bool.not_false,gPur_true,gPur_false,gEff_true,gEff_false,gRes_true,gRes_false,pickA_true,pickA_false,extA_0,extA_1,extA_2,retK_one,retK_none,retK_two,valK_fn,valR_fn,cnd_true,cnd_false,bin_add,bin_sub,bin_mul,bin_eql,bin_neq,bin_lss,bin_leq,bin_gtr,bin_geq,bin_seql,bin_sneq,un_not_t,un_not_f,un_not,cvI_int,cvT_str,nilChk_ptr,nilChk_xp,addA_ptr,lenT_str,Bool.true_or,Bool.or_true,Bool.false_or,Bool.or_false,Bool.true_and,Bool.and_true,Bool.false_and,Bool.and_false,decide_true,decide_false,Int.reduceEq,Int.reduceLT,Int.reduceLE,Int.reduceNe,Int.reduceAdd,Int.reduceSub,Int.reduceMul,Int.reduceNeg,List.nil_append,List.append_nil,List.cons_append]
      refine Ret.bind (sift_spec t a 0 0 (by rw [Go.Sort.size_swp]; omega) (by omega) (by rw [Go.Sort.size_swp]; omega) s4' (by rw [Go.Sort.size_swp]; omega)) ?_
      rintro v H5 ⟨hT5,f5⟩
      have w : wrapK .i64 ((t : Int) - 1) = (t : Int) - 1 := wrap_i64 _ (by omega)
      simp only [N33_4,w,purK_some,bin_sub]
      clear w
      exact next2 t _ H5 mm ⟨t,_,rfl,rfl,htt,by rw [hsift,Go.Sort.size_swp]; exact hsg,by rw [← hpo]; rfl,hT5,((fr2.trans f3).trans f4).trans f5⟩
    | zero =>
      have c : ¬ (0 : Int) ≤ ((0 : Nat) : Int) - 1 := by omega
      simp only [N33_3b,c,purK_some,condK_false,retK_none,bin_add,bin_geq,Bool.and_true,decide_false]
      refine .intro ⟨?_,fr2⟩
      have : heapSort ltStr d a b = g := by
        unfold heapSort
        rw [hbu',← hpo]; rfl
      rw [this]; exact hT2
/-- A part is turned round. -/
theorem revr_spec (a b : Nat) (hab : a < b) (hb : b ≤ d.size) (hsz : d.size < 2305843009213693952) (h : TS H x d) (hk : d.size + 10 ≤ k) :
    Ret (fun v H' => TS H' x (reverseRange d a b) ∧ Fr x.lies H H') (evCall (cx ρ) k 0 36 [x,.int .i64 a,.int .i64 b] H) := by
  obtain ⟨k,rfl⟩ : ∃ q,k = q + 1 := ⟨k - 1,by omega⟩
  have w0 : wrapK .i64 ((b : Int) - 1) = ((b - 1 : Nat) : Int) := wrap_predN b (by omega) (by omega)
  rw [E36]
  simp only [L36,w0,N36_1,N36_2,purK_some,bin_sub]
  clear w0
  refine Ret.loop (fun m (y : AV × AV) H' => ∃ (i j : Nat) (e : DA),y = (.int .i64 i,.int .i64 j) ∧ m = j + 1 - i ∧ j < d.size ∧ i ≤ d.size ∧ e.size = d.size ∧ reverseLoop i j e = reverseLoop a (b - 1) d ∧ TS H' x e ∧ Fr x.lies H H') ?_ (b - 1 + 1 - a) k _ H ⟨a,b - 1,d,rfl,rfl,by omega,by omega,rfl,rfl,h,Fr.refl ..⟩ (by omega)
  rintro m y H' kn ⟨i,j,e,rfl,hm,hj,hi,hse,hre,hT,fr⟩ next
  have e0 := reverseLoop.eq_1 i j e
  by_cases c : i < j
  · have c' : (i : Int) < (j : Int) := by omega
    have a1 : i < e.size := by omega
    have a2 : j < e.size := by omega
    have e1 := ts_ix hT i a1
    have e2 := ts_ld (ρ := ρ) hT i a1
    have e3 := ts_ix hT j a2
    have e4 := ts_ld (ρ := ρ) hT j a2
    rw [if_pos c] at e0
    simp only [N36_2b,c',e1,e2,e3,e4,purK_some,condK_true,retK_none,bin_add,bin_sub,bin_lss,decide_true]
    refine ts_st hT i a1 _ fun H3 s3 f3 => ?_
    have n5 := ts_ix s3 j (by simpa using a2)
    try simp only [n5,purK_some,resK_some,boolK_some,condK_true,condK_false,wantV_tt,wantV_tf,wantV_ft,wantV_ff,wantV_t,wantV_f,wantV_skip,Bool.not_true,Bool.not_false,gPur_true,gPur_false,gEff_true,gEff_false,gRes_true,gRes_false,pickA_true,pickA_false,extA_0,extA_1,extA_2,retK_one,retK_none,retK_two,valK_fn,valR_fn,cnd_true,cnd_false,bin_add,bin_sub,bin_mul,bin_eql,bin_neq,bin_lss,bin_leq,bin_gtr,bin_geq,bin_seql,bin_sneq,un_not_t,un_not_f,un_not,cvI_int,cvT_str,nilChk_ptr,nilChk_xp,addA_ptr,lenT_str,Bool.true_or,Bool.or_true,Bool.false_or,Bool.or_false,Bool.true_and,Bool.and_true,Bool.false_and,Bool.and_false,decide_true,decide_false,Int.reduceEq,Int.reduceLT,Int.reduceLE,Int.reduceNe,Int.reduceAdd,Int.reduceSub,Int.reduceMul,Int.reduceNeg,List.nil_append,List.append_nil,List.cons_append]
    refine ts_st s3 j (by simpa using a2) _ fun H4 s4 f4 => ?_
    have s4' : TS H4 x (swp e i j) := s4
    have mm : j - 1 + 1 - (i + 1) < m := by omega
    have hj1 : j - 1 < d.size := by omega
    have hi1 : i + 1 ≤ d.size := by omega
    have q1 : i + 1 < 9223372036854775808 := by omega
    have q2 : j < 9223372036854775808 := by omega
    have q3 : 1 ≤ j := by omega
    have w1 : wrapK .i64 ((i : Int) + 1) = ((i + 1 : Nat) : Int) := wrap_succN i q1
    have w2 : wrapK .i64 ((j : Int) - 1) = ((j - 1 : Nat) : Int) := wrap_predN j q3 q2
    simp only [w1,w2]
    clear w1 w2
    exact next _ _ H4 mm ⟨i + 1,j - 1,_,rfl,rfl,hj1,hi1,by rw [Go.Sort.size_swp]; exact hse,by rw [← hre,e0],s4',(fr.trans f3).trans f4⟩
  · have c' : ¬ (i : Int) < (j : Int) := by omega
    rw [if_neg c] at e0
    simp only [N36_2b,c',purK_some,condK_false,retK_none,bin_add,bin_sub,bin_lss,decide_false]
    exact .intro ⟨by unfold reverseRange; rw [← hre,e0]; exact hT,fr⟩
end
end Go.Proofs.Ytkmohjddojpdjab

-- part HyU
/- The partitions. -/
set_option linter.unusedVariables false
set_option linter.unusedSimpArgs false
namespace Go.Proofs.Ytkmohjddojpdjab
attribute [local congr] Go.Ev.cond_congr1
open Go.Ev Go.RowKit
open Go.Sort (swp ltStr scanUp scanDown partLoop partition partEqLoop partitionEqual)
theorem loop_up {H : Heap} {B : AV → Heap → (AV → Heap → Res) → Res} {Ke : Nat → Res} (p : List UInt8 → Bool) (d : DA) (j : Nat) (hB : ∀ i kn,i ≤ j + 1 → B (.int .i64 (i : Nat)) H kn = if (decide (i ≤ j) && p d[i]!) = true then kn (.int .i64 ((i + 1 : Nat) : Int)) H else Ke i) :
    ∀ (n i : Nat),i ≤ j + 1 → j + 1 - i < n → loopL B n (.int .i64 (i : Nat)) H = Ke (scanUp p d j i) := by
  intro n
  induction n with
  | zero => intro i _ h; omega
  | succ n ih =>
    intro i hi hn
    rw [loopL_succ,hB i _ hi,scanUp]
    by_cases c : (decide (i ≤ j) && p d[i]!) = true
    · rw [if_pos c,if_pos c]
      have : i ≤ j := by simp only [Bool.and_eq_true,decide_eq_true_eq] at c; exact c.1
      exact ih (i + 1) (by omega) (by omega)
    · rw [if_neg c,if_neg c]
theorem loop_down {H : Heap} {B : AV → Heap → (AV → Heap → Res) → Res} {Ke : Nat → Res} (p : List UInt8 → Bool) (d : DA) (i : Nat) (hi1 : 1 ≤ i) (hB : ∀ j kn,j < d.size → i ≤ j + 1 → B (.int .i64 (j : Nat)) H kn = if (decide (i ≤ j) && p d[j]!) = true then kn (.int .i64 ((j - 1 : Nat) : Int)) H else Ke j) :
    ∀ (n j : Nat),j < d.size → i ≤ j + 1 → j < n → loopL B n (.int .i64 (j : Nat)) H = Ke (scanDown p d i j) := by
  intro n
  induction n with
  | zero => intro j _ _ h; omega
  | succ n ih =>
    intro j hjs hj hn
    rw [loopL_succ,hB j _ hjs hj]
    cases j with
    | zero =>
      have c : ¬ (decide (i ≤ 0) && p d[0]!) = true := by
        have : ¬ i ≤ 0 := by omega
        simp [this]
      rw [if_neg c]; rfl
    | succ j =>
      rw [scanDown]
      by_cases c : (decide (i ≤ j + 1) && p d[j + 1]!) = true
      · rw [if_pos c,if_pos c]
        have : i ≤ j + 1 := by simp only [Bool.and_eq_true,decide_eq_true_eq] at c; exact c.1
        exact ih j (by omega) (by omega) (by omega)
      · rw [if_neg c,if_neg c]
section
variable {ρ : Addr → Option Value} {k : Nat} {H : Heap} {x : AV} {d : DA}
theorem bcond (i j : Nat) (b : Bool) (h : i ≤ j) : (decide (i ≤ j) && b) = b := by rw [decide_eq_true h,Bool.true_and]
theorem bcond0 (i j : Nat) (b : Bool) (h : ¬ i ≤ j) : ¬ (decide (i ≤ j) && b) = true := by rw [decide_eq_false h]; simp
theorem part13 (g : DA) {G : Heap} (hg : TS G x g) (a : Nat) (ha : a < g.size) (i j : Nat) (hij : i ≤ j + 1) (hj : j < g.size) (hi1 : 1 ≤ i) (hsz : g.size < 2305843009213693952) (hk : g.size + 5 ≤ k) {yc : YieldF} {K : AV → AV → AV → AV → Heap → Res} :
    N40_13 ρ (evCall (cx ρ) k) yc 0 k x (.int .i64 a) (.int .i64 i) (.int .i64 j) G K = K x (.int .i64 a) (.int .i64 (scanUp (fun s => ltStr s g[a]!) g j i : Nat)) (.int .i64 j) G := by
  simp only [N40_13]
  have k2 : 2 ≤ k := by omega
  have e1 := ts_ix hg a ha
  have e2 := ts_ld (ρ := ρ) hg a ha
  refine loop_up (Ke := fun i => K x (.int .i64 a) (.int .i64 (i : Nat)) (.int .i64 j) G) (fun s => ltStr s g[a]!) g j ?_ k i hij (by omega)
  intro i kn hij
  by_cases c : i ≤ j
  · have c' : (i : Int) ≤ (j : Int) := by omega
    rw [bcond _ _ _ c]
    have e3 := ts_ix hg i (by omega)
    have e4 := ts_ld (ρ := ρ) hg i (by omega)
    have w : wrapK .i64 ((i : Int) + 1) = ((i + 1 : Nat) : Int) := wrap_succN i (by omega)
    cases hl : ltStr g[i]! g[a]! <;> simp only [N40_13b,c',w,e1,e2,e3,e4,less_spec _ _ k2,hl,gRes_true,resK_some,Bool.not_true,if_true,if_false,Bool.false_eq_true,purK_some,resK_some,boolK_some,condK_true,condK_false,wantV_t,Bool.not_true,gRes_true,pickA_true,cnd_true,bin_add,bin_leq,Bool.or_true,Bool.and_true,decide_true]
  · have c' : ¬ (i : Int) ≤ (j : Int) := by omega
    rw [if_neg (bcond0 _ _ _ c)]
    simp only [N40_13b,c',gRes_false,resK_some,purK_some,resK_some,boolK_some,condK_false,wantV_t,Bool.not_false,gRes_false,pickA_false,cnd_true,cnd_false,bin_add,bin_leq,Bool.or_true,Bool.and_true,decide_false]
theorem part12 (g : DA) {G : Heap} (hg : TS G x g) (a : Nat) (ha : a < g.size) (i j : Nat) (hij : i ≤ j + 1) (hj : j < g.size) (hi1 : 1 ≤ i) (hsz : g.size < 2305843009213693952) (hk : g.size + 5 ≤ k) {yc : YieldF} {K : AV → AV → AV → AV → Heap → Res} :
    N40_12 ρ (evCall (cx ρ) k) yc 0 k x (.int .i64 a) (.int .i64 i) (.int .i64 j) G K = K x (.int .i64 a) (.int .i64 i) (.int .i64 (scanDown (fun s => !ltStr s g[a]!) g i j : Nat)) G := by
  simp only [N40_12]
  have k2 : 2 ≤ k := by omega
  have e1 := ts_ix hg a ha
  have e2 := ts_ld (ρ := ρ) hg a ha
  refine loop_down (Ke := fun j => K x (.int .i64 a) (.int .i64 i) (.int .i64 (j : Nat)) G) (fun s => !ltStr s g[a]!) g i hi1 ?_ k j hj hij (by omega)
  intro j kn hjs hij
  by_cases c : i ≤ j
  · have c' : (i : Int) ≤ (j : Int) := by omega
    rw [bcond _ _ _ c]
    have hjg : j < g.size := hjs
    have e3 := ts_ix hg j (by omega)
    have e4 := ts_ld (ρ := ρ) hg j (by omega)
    have w : wrapK .i64 ((j : Int) - 1) = ((j - 1 : Nat) : Int) := wrap_predN j (by omega) (by omega)
    cases hl : ltStr g[j]! g[a]! <;> simp only [N40_12b,c',w,e1,e2,e3,e4,less_spec _ _ k2,hl,gRes_true,resK_some,Bool.not_true,Bool.not_false,if_true,if_false,Bool.false_eq_true,purK_some,resK_some,boolK_some,condK_true,condK_false,wantV_t,Bool.not_true,Bool.not_false,gPur_true,gRes_true,pickA_true,cnd_true,bin_sub,bin_leq,un_not,Bool.or_true,Bool.and_true,decide_true]
  · have c' : ¬ (i : Int) ≤ (j : Int) := by omega
    rw [if_neg (bcond0 _ _ _ c)]
    simp only [N40_12b,c',gRes_false,resK_some,purK_some,resK_some,boolK_some,condK_false,wantV_t,Bool.not_false,gPur_false,gRes_false,pickA_false,cnd_true,cnd_false,bin_sub,bin_leq,Bool.or_true,Bool.and_true,decide_false]
theorem part11 (g : DA) {G : Heap} (hg : TS G x g) (a : Nat) (ha : a < g.size) (i j : Nat) (hij : i ≤ j + 1) (hj : j < g.size) (hi1 : 1 ≤ i) (hsz : g.size < 2305843009213693952) (hk : g.size + 5 ≤ k) {yc : YieldF} {K : AV → AV → Heap → Res} :
    N40_11 ρ (evCall (cx ρ) k) yc 0 k x (.int .i64 a) (.int .i64 i) (.int .i64 j) G K = K (.int .i64 (scanUp (fun s => ltStr s g[a]!) g j i : Nat)) (.int .i64 j) G := by
  simp only [N40_11]
  have k2 : 2 ≤ k := by omega
  have e1 := ts_ix hg a ha
  have e2 := ts_ld (ρ := ρ) hg a ha
  refine loop_up (Ke := fun i => K (.int .i64 (i : Nat)) (.int .i64 j) G) (fun s => ltStr s g[a]!) g j ?_ k i hij (by omega)
  intro i kn hij
  by_cases c : i ≤ j
  · have c' : (i : Int) ≤ (j : Int) := by omega
    rw [bcond _ _ _ c]
    have e3 := ts_ix hg i (by omega)
    have e4 := ts_ld (ρ := ρ) hg i (by omega)
    have w : wrapK .i64 ((i : Int) + 1) = ((i + 1 : Nat) : Int) := wrap_succN i (by omega)
    cases hl : ltStr g[i]! g[a]! <;> simp only [N40_11b,c',w,e1,e2,e3,e4,less_spec _ _ k2,hl,gRes_true,resK_some,Bool.not_true,if_true,if_false,Bool.false_eq_true,purK_some,resK_some,boolK_some,condK_true,condK_false,wantV_t,Bool.not_true,gRes_true,pickA_true,cnd_true,bin_add,bin_leq,Bool.or_true,Bool.and_true,decide_true]
  · have c' : ¬ (i : Int) ≤ (j : Int) := by omega
    rw [if_neg (bcond0 _ _ _ c)]
    simp only [N40_11b,c',gRes_false,resK_some,purK_some,resK_some,boolK_some,condK_false,wantV_t,Bool.not_false,gRes_false,pickA_false,cnd_true,cnd_false,bin_add,bin_leq,Bool.or_true,Bool.and_true,decide_false]
theorem part10 (g : DA) {G : Heap} (hg : TS G x g) (a : Nat) (ha : a < g.size) (i j : Nat) (hij : i ≤ j + 1) (hj : j < g.size) (hi1 : 1 ≤ i) (hsz : g.size < 2305843009213693952) (hk : g.size + 5 ≤ k) {yc : YieldF} {K : AV → AV → Heap → Res} :
    N40_10 ρ (evCall (cx ρ) k) yc 0 k x (.int .i64 a) (.int .i64 i) (.int .i64 j) G K = K (.int .i64 i) (.int .i64 (scanDown (fun s => !ltStr s g[a]!) g i j : Nat)) G := by
  simp only [N40_10]
  have k2 : 2 ≤ k := by omega
  have e1 := ts_ix hg a ha
  have e2 := ts_ld (ρ := ρ) hg a ha
  refine loop_down (Ke := fun j => K (.int .i64 i) (.int .i64 (j : Nat)) G) (fun s => !ltStr s g[a]!) g i hi1 ?_ k j hj hij (by omega)
  intro j kn hjs hij
  by_cases c : i ≤ j
  · have c' : (i : Int) ≤ (j : Int) := by omega
    rw [bcond _ _ _ c]
    have hjg : j < g.size := hjs
    have e3 := ts_ix hg j (by omega)
    have e4 := ts_ld (ρ := ρ) hg j (by omega)
    have w : wrapK .i64 ((j : Int) - 1) = ((j - 1 : Nat) : Int) := wrap_predN j (by omega) (by omega)
    cases hl : ltStr g[j]! g[a]! <;> simp only [N40_10b,c',w,e1,e2,e3,e4,less_spec _ _ k2,hl,gRes_true,resK_some,Bool.not_true,Bool.not_false,if_true,if_false,Bool.false_eq_true,purK_some,resK_some,boolK_some,condK_true,condK_false,wantV_t,Bool.not_true,Bool.not_false,gPur_true,gRes_true,pickA_true,cnd_true,bin_sub,bin_leq,un_not,Bool.or_true,Bool.and_true,decide_true]
  · have c' : ¬ (i : Int) ≤ (j : Int) := by omega
    rw [if_neg (bcond0 _ _ _ c)]
    simp only [N40_10b,c',gRes_false,resK_some,purK_some,resK_some,boolK_some,condK_false,wantV_t,Bool.not_false,gPur_false,gRes_false,pickA_false,cnd_true,cnd_false,bin_sub,bin_leq,Bool.or_true,Bool.and_true,decide_false]
theorem peq7 (g : DA) {G : Heap} (hg : TS G x g) (a : Nat) (ha : a < g.size) (i j : Nat) (hij : i ≤ j + 1) (hj : j < g.size) (hi1 : 1 ≤ i) (hsz : g.size < 2305843009213693952) (hk : g.size + 5 ≤ k) {yc : YieldF} {K : AV → AV → Heap → Res} :
    N39_7 ρ (evCall (cx ρ) k) yc 0 k x (.int .i64 a) (.int .i64 i) (.int .i64 j) G K = K (.int .i64 (scanUp (fun s => !ltStr g[a]! s) g j i : Nat)) (.int .i64 j) G := by
  simp only [N39_7]
  have k2 : 2 ≤ k := by omega
  have e1 := ts_ix hg a ha
  have e2 := ts_ld (ρ := ρ) hg a ha
  refine loop_up (Ke := fun i => K (.int .i64 (i : Nat)) (.int .i64 j) G) (fun s => !ltStr g[a]! s) g j ?_ k i hij (by omega)
  intro i kn hij
  by_cases c : i ≤ j
  · have c' : (i : Int) ≤ (j : Int) := by omega
    rw [bcond _ _ _ c]
    have e3 := ts_ix hg i (by omega)
    have e4 := ts_ld (ρ := ρ) hg i (by omega)
    have w : wrapK .i64 ((i : Int) + 1) = ((i + 1 : Nat) : Int) := wrap_succN i (by omega)
    cases hl : ltStr g[a]! g[i]! <;> simp only [N39_7b,c',w,e1,e2,e3,e4,less_spec _ _ k2,hl,gRes_true,resK_some,Bool.not_true,Bool.not_false,if_true,if_false,Bool.false_eq_true,purK_some,resK_some,boolK_some,condK_true,condK_false,wantV_t,Bool.not_true,Bool.not_false,gPur_true,gRes_true,pickA_true,cnd_true,bin_add,bin_leq,un_not,Bool.or_true,Bool.and_true,decide_true]
  · have c' : ¬ (i : Int) ≤ (j : Int) := by omega
    rw [if_neg (bcond0 _ _ _ c)]
    simp only [N39_7b,c',gRes_false,resK_some,purK_some,resK_some,boolK_some,condK_false,wantV_t,Bool.not_false,gPur_false,gRes_false,pickA_false,cnd_true,cnd_false,bin_add,bin_leq,Bool.or_true,Bool.and_true,decide_false]
theorem peq6 (g : DA) {G : Heap} (hg : TS G x g) (a : Nat) (ha : a < g.size) (i j : Nat) (hij : i ≤ j + 1) (hj : j < g.size) (hi1 : 1 ≤ i) (hsz : g.size < 2305843009213693952) (hk : g.size + 5 ≤ k) {yc : YieldF} {K : AV → AV → Heap → Res} :
    N39_6 ρ (evCall (cx ρ) k) yc 0 k x (.int .i64 a) (.int .i64 i) (.int .i64 j) G K = K (.int .i64 i) (.int .i64 (scanDown (fun s => ltStr g[a]! s) g i j : Nat)) G := by
  simp only [N39_6]
  have k2 : 2 ≤ k := by omega
  have e1 := ts_ix hg a ha
  have e2 := ts_ld (ρ := ρ) hg a ha
  refine loop_down (Ke := fun j => K (.int .i64 i) (.int .i64 (j : Nat)) G) (fun s => ltStr g[a]! s) g i hi1 ?_ k j hj hij (by omega)
  intro j kn hjs hij
  by_cases c : i ≤ j
  · have c' : (i : Int) ≤ (j : Int) := by omega
    rw [bcond _ _ _ c]
    have hjg : j < g.size := hjs
    have e3 := ts_ix hg j (by omega)
    have e4 := ts_ld (ρ := ρ) hg j (by omega)
    have w : wrapK .i64 ((j : Int) - 1) = ((j - 1 : Nat) : Int) := wrap_predN j (by omega) (by omega)
    cases hl : ltStr g[a]! g[j]! <;> simp only [N39_6b,c',w,e1,e2,e3,e4,less_spec _ _ k2,hl,gRes_true,resK_some,Bool.not_true,if_true,if_false,Bool.false_eq_true,purK_some,resK_some,boolK_some,condK_true,condK_false,wantV_t,Bool.not_true,gRes_true,pickA_true,cnd_true,bin_sub,bin_leq,Bool.or_true,Bool.and_true,decide_true]
  · have c' : ¬ (i : Int) ≤ (j : Int) := by omega
    rw [if_neg (bcond0 _ _ _ c)]
    simp only [N39_6b,c',gRes_false,resK_some,purK_some,resK_some,boolK_some,condK_false,wantV_t,Bool.not_false,gRes_false,pickA_false,cnd_true,cnd_false,bin_sub,bin_leq,Bool.or_true,Bool.and_true,decide_false]
/-- A partition. -/
theorem part_spec (a b pv : Nat) (hap : a ≤ pv) (hpb : pv < b) (hb : b ≤ d.size) (hsz : d.size < 2305843009213693952) (h : TS H x d) (hk : d.size + 20 ≤ k) :
    Ret (fun v H' => v = .tup [.int .i64 ((partition ltStr d a b pv).1 : Nat),.bool (partition ltStr d a b pv).2.1] ∧ TS H' x (partition ltStr d a b pv).2.2 ∧ Fr x.lies H H') (evCall (cx ρ) k 0 40 [x,.int .i64 a,.int .i64 b,.int .i64 pv] H) := by
  obtain ⟨k,rfl⟩ : ∃ q,k = q + 1 := ⟨k - 1,by omega⟩
  have k2 : 2 ≤ k := by omega
  have a1 : a < d.size := by omega
  have a2 : pv < d.size := by omega
  have e1 := ts_ix h a a1
  have e2 := ts_ld (ρ := ρ) h a a1
  have e3 := ts_ix h pv a2
  have e4 := ts_ld (ρ := ρ) h pv a2
  rw [E40]
  simp only [L40,e1,e2,e3,e4,purK_some,bin_add,bin_sub]
  refine ts_st h a a1 _ fun H1 s1 f1 => ?_
  try simp only [purK_some,resK_some,boolK_some,condK_true,condK_false,wantV_tt,wantV_tf,wantV_ft,wantV_ff,wantV_t,wantV_f,wantV_skip,Bool.not_true,Bool.not_false,gPur_true,gPur_false,gEff_true,gEff_false,gRes_true,gRes_false,pickA_true,pickA_false,extA_0,extA_1,extA_2,retK_one,retK_none,retK_two,valK_fn,valR_fn,cnd_true,cnd_false,bin_add,bin_sub,bin_mul,bin_eql,bin_neq,bin_lss,bin_leq,bin_gtr,bin_geq,bin_seql,bin_sneq,un_not_t,un_not_f,un_not,cvI_int,cvT_str,nilChk_ptr,nilChk_xp,addA_ptr,lenT_str,Bool.true_or,Bool.or_true,Bool.false_or,Bool.or_false,Bool.true_and,Bool.and_true,Bool.false_and,Bool.and_false,decide_true,decide_false,Int.reduceEq,Int.reduceLT,Int.reduceLE,Int.reduceNe,Int.reduceAdd,Int.reduceSub,Int.reduceMul,Int.reduceNeg,List.nil_append,List.append_nil,List.cons_append]
  refine ts_st s1 pv (by simpa using a2) _ fun H2 s2 f2 => ?_
  have fr2 := f1.trans f2
  have y4 : a + 1 < 9223372036854775808 := by omega
  have y5 : 1 ≤ b := by omega
  have y6 : b < 9223372036854775808 := by omega
  have w1 : wrapK .i64 ((a : Int) + 1) = ((a + 1 : Nat) : Int) := wrap_succN a y4
  have w2 : wrapK .i64 ((b : Int) - 1) = ((b - 1 : Nat) : Int) := wrap_predN b y5 y6
  simp only [w1,w2,N40_1]
  clear w1 w2 e1 e2 e3 e4
  obtain ⟨e,he⟩ : ∃ e,e = swp d a pv := ⟨_,rfl⟩
  have s2' : TS H2 x e := by rw [he]; exact s2
  have hes : e.size = d.size := by rw [he,Go.Sort.size_swp]
  have ea : a < e.size := by omega
  have u1 := (Go.Sort.scanUp_spec (fun s => ltStr s e[a]!) e (b - 1) _ (a + 1) rfl)
  rw [part13 e s2' a ea (a + 1) (b - 1) (by omega) (by omega) (by omega) (by omega) (by omega)]
  obtain ⟨i,hi⟩ : ∃ i,i = scanUp (fun s => ltStr s e[a]!) e (b - 1) (a + 1) := ⟨_,rfl⟩
  rw [← hi] at u1 ⊢
  have u2 := Go.Sort.scanDown_spec (fun s => !ltStr s e[a]!) e i (b - 1)
  simp only [N40_2]
  rw [part12 e s2' a ea i (b - 1) (by omega) (by omega) (by omega) (by omega) (by omega)]
  obtain ⟨j,hj⟩ : ∃ j,j = scanDown (fun s => !ltStr s e[a]!) e i (b - 1) := ⟨_,rfl⟩
  rw [← hj] at u2 ⊢
  have hpt : partition ltStr d a b pv = if i > j then (j,true,swp e j a) else ((partLoop ltStr a (i + 1) (j - 1) (swp e i j)).1,false,swp (partLoop ltStr a (i + 1) (j - 1) (swp e i j)).2 (partLoop ltStr a (i + 1) (j - 1) (swp e i j)).1 a) := by
    rw [hj,hi,he]; rfl
  have hja : a ≤ j := by omega
  have hjs : j < e.size := by omega
  have n1 := ts_ix s2' a ea
  have n2 := ts_ld (ρ := ρ) s2' a ea
  have n3 := ts_ix s2' j hjs
  have n4 := ts_ld (ρ := ρ) s2' j hjs
  by_cases c : i > j
  · have c' : (j : Int) < (i : Int) := by omega
    rw [if_pos c] at hpt
    simp only [N40_3,c',n1,n2,n3,n4,purK_some,condK_true,retK_two,bin_gtr,decide_true]
    refine ts_st s2' j hjs _ fun H3 s3 f3 => ?_
    try simp only [purK_some,resK_some,boolK_some,condK_true,condK_false,wantV_tt,wantV_tf,wantV_ft,wantV_ff,wantV_t,wantV_f,wantV_skip,Bool.not_true,Bool.not_false,gPur_true,gPur_false,gEff_true,gEff_false,gRes_true,gRes_false,pickA_true,pickA_false,extA_0,extA_1,extA_2,retK_one,retK_none,retK_two,valK_fn,valR_fn,cnd_true,cnd_false,bin_add,bin_sub,bin_mul,bin_eql,bin_neq,bin_lss,bin_leq,bin_gtr,bin_geq,bin_seql,bin_sneq,un_not_t,un_not_f,un_not,cvI_int,cvT_str,nilChk_ptr,nilChk_xp,addA_ptr,lenT_str,Bool.true_or,Bool.or_true,Bool.false_or,Bool.or_false,Bool.true_and,Bool.and_true,Bool.false_and,Bool.and_false,decide_true,decide_false,Int.reduceEq,Int.reduceLT,Int.reduceLE,Int.reduceNe,Int.reduceAdd,Int.reduceSub,Int.reduceMul,Int.reduceNeg,List.nil_append,List.append_nil,List.cons_append]
    refine ts_st s3 a (by simpa using ea) _ fun H4 s4 f4 => ?_
    try simp only [purK_some,resK_some,boolK_some,condK_true,condK_false,wantV_tt,wantV_tf,wantV_ft,wantV_ff,wantV_t,wantV_f,wantV_skip,Bool.not_true,Bool.not_false,gPur_true,gPur_false,gEff_true,gEff_false,gRes_true,gRes_false,pickA_true,pickA_false,extA_0,extA_1,extA_2,retK_one,retK_none,retK_two,valK_fn,valR_fn,cnd_true,cnd_false,bin_add,bin_sub,bin_mul,bin_eql,bin_neq,bin_lss,bin_leq,bin_gtr,bin_geq,bin_seql,bin_sneq,un_not_t,un_not_f,un_not,cvI_int,cvT_str,nilChk_ptr,nilChk_xp,addA_ptr,lenT_str,Bool.true_or,Bool.or_true,Bool.false_or,Bool.or_false,Bool.true_and,Bool.and_true,Bool.false_and,Bool.and_false,decide_true,decide_false,Int.reduceEq,Int.reduceLT,Int.reduceLE,Int.reduceNe,Int.reduceAdd,Int.reduceSub,Int.reduceMul,Int.reduceNeg,List.nil_append,List.append_nil,List.cons_append]
    rw [hpt]
    exact .intro ⟨rfl,s4,(fr2.trans f3).trans f4⟩
  · have c' : ¬ (j : Int) < (i : Int) := by omega
    have hlt : i < j := by
      rcases Nat.lt_or_ge i j with q | q
      · exact q
      · have eij : i = j := by omega
        have p1 := u1.2.2.2 (by omega)
        have p2 := u2.2.2.2 (by omega) (by omega)
        rw [← eij] at p2
        try simp only at p1 p2
        rw [p1] at p2; cases p2
    rw [if_neg c] at hpt
    have his : i < e.size := by omega
    have n5 := ts_ix s2' i his
    have n6 := ts_ld (ρ := ρ) s2' i his
    simp only [N40_3,c',n3,n4,n5,n6,purK_some,condK_false,retK_two,bin_gtr,decide_false]
    refine ts_st s2' i his _ fun H3 s3 f3 => ?_
    try simp only [purK_some,resK_some,boolK_some,condK_true,condK_false,wantV_tt,wantV_tf,wantV_ft,wantV_ff,wantV_t,wantV_f,wantV_skip,Bool.not_true,Bool.not_false,gPur_true,gPur_false,gEff_true,gEff_false,gRes_true,gRes_false,pickA_true,pickA_false,extA_0,extA_1,extA_2,retK_one,retK_none,retK_two,valK_fn,valR_fn,cnd_true,cnd_false,bin_add,bin_sub,bin_mul,bin_eql,bin_neq,bin_lss,bin_leq,bin_gtr,bin_geq,bin_seql,bin_sneq,un_not_t,un_not_f,un_not,cvI_int,cvT_str,nilChk_ptr,nilChk_xp,addA_ptr,lenT_str,Bool.true_or,Bool.or_true,Bool.false_or,Bool.or_false,Bool.true_and,Bool.and_true,Bool.false_and,Bool.and_false,decide_true,decide_false,Int.reduceEq,Int.reduceLT,Int.reduceLE,Int.reduceNe,Int.reduceAdd,Int.reduceSub,Int.reduceMul,Int.reduceNeg,List.nil_append,List.append_nil,List.cons_append]
    refine ts_st s3 j (by simpa using hjs) _ fun H4 s4 f4 => ?_
    have s4' : TS H4 x (swp e i j) := s4
    have fr4 := (fr2.trans f3).trans f4
    have x4 : i + 1 < 9223372036854775808 := by omega
    have x5 : 1 ≤ j := by omega
    have x6 : j < 9223372036854775808 := by omega
    have w1 : wrapK .i64 ((i : Int) + 1) = ((i + 1 : Nat) : Int) := wrap_succN i x4
    have w2 : wrapK .i64 ((j : Int) - 1) = ((j - 1 : Nat) : Int) := wrap_predN j x5 x6
    simp only [w1,w2,N40_4,N40_5,N40_7,purK_some,bin_add,bin_sub]
    clear w1 w2
    refine Ret.loop (fun m (y : AV × AV) H' => ∃ (i' j' : Nat) (g : DA),y = (.int .i64 i',.int .i64 j') ∧ m = j' + 1 - i' ∧ a < i' ∧ i' ≤ j' + 1 ∧ j' < b ∧ g.size = d.size ∧ partLoop ltStr a i' j' g = partLoop ltStr a (i + 1) (j - 1) (swp e i j) ∧ TS H' x g ∧ Fr x.lies H H') ?_ (j - 1 + 1 - (i + 1)) k _ H4
      ⟨i + 1,j - 1,_,rfl,rfl,by omega,by omega,by omega,by rw [Go.Sort.size_swp]; exact hes,rfl,s4',fr4⟩ (by omega)
    rintro m y H5 kn ⟨i',j',g,rfl,hm,hai,hij,hjb,hgs,hlp,hT,fr⟩ next
    have ga : a < g.size := by omega
    have v1 := (Go.Sort.scanUp_spec (fun s => ltStr s g[a]!) g j' _ i' rfl)
    have heq := Go.Sort.partLoop_eq ltStr a i' j' g
    simp only [N40_7b]
    rw [part11 g hT a ga i' j' hij (by omega) (by omega) (by omega) (by omega)]
    obtain ⟨i2,hi2⟩ : ∃ i2,i2 = scanUp (fun s => ltStr s g[a]!) g j' i' := ⟨_,rfl⟩
    rw [← hi2] at v1 heq ⊢
    have v2 := Go.Sort.scanDown_spec (fun s => !ltStr s g[a]!) g i2 j'
    simp only [N40_8]
    rw [part10 g hT a ga i2 j' (by omega) (by omega) (by omega) (by omega) (by omega)]
    obtain ⟨j2,hj2⟩ : ∃ j2,j2 = scanDown (fun s => !ltStr s g[a]!) g i2 j' := ⟨_,rfl⟩
    rw [← hj2] at v2 heq ⊢
    have hj2a : a ≤ j2 := by omega
    have hj2s : j2 < g.size := by omega
    have m1 := ts_ix hT a ga
    have m2 := ts_ld (ρ := ρ) hT a ga
    have m3 := ts_ix hT j2 hj2s
    have m4 := ts_ld (ρ := ρ) hT j2 hj2s
    by_cases q : i2 > j2
    · have q' : (j2 : Int) < (i2 : Int) := by omega
      rw [if_pos q] at heq
      have hr : partLoop ltStr a (i + 1) (j - 1) (swp e i j) = (j2,g) := by rw [← hlp,heq]
      simp only [N40_9,N40_6,q',m1,m2,m3,m4,purK_some,condK_true,retK_two,bin_add,bin_sub,bin_gtr,decide_true]
      refine ts_st hT j2 hj2s _ fun H6 s6 f6 => ?_
      try simp only [purK_some,resK_some,boolK_some,condK_true,condK_false,wantV_tt,wantV_tf,wantV_ft,wantV_ff,wantV_t,wantV_f,wantV_skip,Bool.not_true,Bool.not_false,gPur_true,gPur_false,gEff_true,gEff_false,gRes_true,gRes_false,pickA_true,pickA_false,extA_0,extA_1,extA_2,retK_one,retK_none,retK_two,valK_fn,valR_fn,cnd_true,cnd_false,bin_add,bin_sub,bin_mul,bin_eql,bin_neq,bin_lss,bin_leq,bin_gtr,bin_geq,bin_seql,bin_sneq,un_not_t,un_not_f,un_not,cvI_int,cvT_str,nilChk_ptr,nilChk_xp,addA_ptr,lenT_str,Bool.true_or,Bool.or_true,Bool.false_or,Bool.or_false,Bool.true_and,Bool.and_true,Bool.false_and,Bool.and_false,decide_true,decide_false,Int.reduceEq,Int.reduceLT,Int.reduceLE,Int.reduceNe,Int.reduceAdd,Int.reduceSub,Int.reduceMul,Int.reduceNeg,List.nil_append,List.append_nil,List.cons_append]
      refine ts_st s6 a (by simpa using ga) _ fun H7 s7 f7 => ?_
      try simp only [purK_some,resK_some,boolK_some,condK_true,condK_false,wantV_tt,wantV_tf,wantV_ft,wantV_ff,wantV_t,wantV_f,wantV_skip,Bool.not_true,Bool.not_false,gPur_true,gPur_false,gEff_true,gEff_false,gRes_true,gRes_false,pickA_true,pickA_false,extA_0,extA_1,extA_2,retK_one,retK_none,retK_two,valK_fn,valR_fn,cnd_true,cnd_false,bin_add,bin_sub,bin_mul,bin_eql,bin_neq,bin_lss,bin_leq,bin_gtr,bin_geq,bin_seql,bin_sneq,un_not_t,un_not_f,un_not,cvI_int,cvT_str,nilChk_ptr,nilChk_xp,addA_ptr,lenT_str,Bool.true_or,Bool.or_true,Bool.false_or,Bool.or_false,Bool.true_and,Bool.and_true,Bool.false_and,Bool.and_false,decide_true,decide_false,Int.reduceEq,Int.reduceLT,Int.reduceLE,Int.reduceNe,Int.reduceAdd,Int.reduceSub,Int.reduceMul,Int.reduceNeg,List.nil_append,List.append_nil,List.cons_append]
      rw [hpt,hr]
      exact .intro ⟨rfl,s7,(fr.trans f6).trans f7⟩
    · have q' : ¬ (j2 : Int) < (i2 : Int) := by omega
      rw [if_neg q] at heq
      have hlt2 : i2 < j2 := by
        rcases Nat.lt_or_ge i2 j2 with q | q
        · exact q
        · have eij : i2 = j2 := by omega
          have p1 := v1.2.2.2 (by omega)
          have p2 := v2.2.2.2 (by omega) (by omega)
          rw [← eij] at p2
          try simp only at p1 p2
          first | (rw [p1] at p2; cases p2) | (rw [p2] at p1; cases p1)
      have hi2s : i2 < g.size := by omega
      have m5 := ts_ix hT i2 hi2s
      have m6 := ts_ld (ρ := ρ) hT i2 hi2s
      simp only [N40_9,q',m3,m4,m5,m6,purK_some,condK_false,bin_add,bin_sub,bin_gtr,decide_false]
      refine ts_st hT i2 hi2s _ fun H6 s6 f6 => ?_
      try simp only [purK_some,resK_some,boolK_some,condK_true,condK_false,wantV_tt,wantV_tf,wantV_ft,wantV_ff,wantV_t,wantV_f,wantV_skip,Bool.not_true,Bool.not_false,gPur_true,gPur_false,gEff_true,gEff_false,gRes_true,gRes_false,pickA_true,pickA_false,extA_0,extA_1,extA_2,retK_one,retK_none,retK_two,valK_fn,valR_fn,cnd_true,cnd_false,bin_add,bin_sub,bin_mul,bin_eql,bin_neq,bin_lss,bin_leq,bin_gtr,bin_geq,bin_seql,bin_sneq,un_not_t,un_not_f,un_not,cvI_int,cvT_str,nilChk_ptr,nilChk_xp,addA_ptr,lenT_str,Bool.true_or,Bool.or_true,Bool.false_or,Bool.or_false,Bool.true_and,Bool.and_true,Bool.false_and,Bool.and_false,decide_true,decide_false,Int.reduceEq,Int.reduceLT,Int.reduceLE,Int.reduceNe,Int.reduceAdd,Int.reduceSub,Int.reduceMul,Int.reduceNeg,List.nil_append,List.append_nil,List.cons_append]
      refine ts_st s6 j2 (by simpa using hj2s) _ fun H7 s7 f7 => ?_
      have s7' : TS H7 x (swp g i2 j2) := s7
      have mm : j2 - 1 + 1 - (i2 + 1) < m := by omega
      have x1 : a < i2 + 1 := by omega
      have x2 : i2 + 1 ≤ j2 - 1 + 1 := by omega
      have x3 : j2 - 1 < b := by omega
      have x4 : i2 + 1 < 9223372036854775808 := by omega
      have x5 : 1 ≤ j2 := by omega
      have x6 : j2 < 9223372036854775808 := by omega
      have w1 : wrapK .i64 ((i2 : Int) + 1) = ((i2 + 1 : Nat) : Int) := wrap_succN i2 x4
      have w2 : wrapK .i64 ((j2 : Int) - 1) = ((j2 - 1 : Nat) : Int) := wrap_predN j2 x5 x6
      simp only [w1,w2]
      clear w1 w2
      exact next _ _ H7 mm ⟨i2 + 1,j2 - 1,_,rfl,rfl,x1,x2,x3,by rw [Go.Sort.size_swp]; exact hgs,by rw [← hlp,heq],s7',(fr.trans f6).trans f7⟩
/-- Those that are no greater than the pivot stand ahead of those that are. -/
theorem peq_spec (a b pv : Nat) (hap : a ≤ pv) (hpb : pv < b) (hb : b ≤ d.size) (hsz : d.size < 2305843009213693952) (h : TS H x d) (hk : d.size + 20 ≤ k) :
    Ret (fun v H' => v = .int .i64 ((partitionEqual ltStr d a b pv).1 : Nat) ∧ TS H' x (partitionEqual ltStr d a b pv).2 ∧ Fr x.lies H H') (evCall (cx ρ) k 0 39 [x,.int .i64 a,.int .i64 b,.int .i64 pv] H) := by
  obtain ⟨k,rfl⟩ : ∃ q,k = q + 1 := ⟨k - 1,by omega⟩
  have k2 : 2 ≤ k := by omega
  have a1 : a < d.size := by omega
  have a2 : pv < d.size := by omega
  have e1 := ts_ix h a a1
  have e2 := ts_ld (ρ := ρ) h a a1
  have e3 := ts_ix h pv a2
  have e4 := ts_ld (ρ := ρ) h pv a2
  rw [E39]
  simp only [L39,e1,e2,e3,e4,purK_some,bin_add,bin_sub]
  refine ts_st h a a1 _ fun H1 s1 f1 => ?_
  try simp only [purK_some,resK_some,boolK_some,condK_true,condK_false,wantV_tt,wantV_tf,wantV_ft,wantV_ff,wantV_t,wantV_f,wantV_skip,Bool.not_true,Bool.not_false,gPur_true,gPur_false,gEff_true,gEff_false,gRes_true,gRes_false,pickA_true,pickA_false,extA_0,extA_1,extA_2,retK_one,retK_none,retK_two,valK_fn,valR_fn,cnd_true,cnd_false,bin_add,bin_sub,bin_mul,bin_eql,bin_neq,bin_lss,bin_leq,bin_gtr,bin_geq,bin_seql,bin_sneq,un_not_t,un_not_f,un_not,cvI_int,cvT_str,nilChk_ptr,nilChk_xp,addA_ptr,lenT_str,Bool.true_or,Bool.or_true,Bool.false_or,Bool.or_false,Bool.true_and,Bool.and_true,Bool.false_and,Bool.and_false,decide_true,decide_false,Int.reduceEq,Int.reduceLT,Int.reduceLE,Int.reduceNe,Int.reduceAdd,Int.reduceSub,Int.reduceMul,Int.reduceNeg,List.nil_append,List.append_nil,List.cons_append]
  refine ts_st s1 pv (by simpa using a2) _ fun H2 s2 f2 => ?_
  have fr2 := f1.trans f2
  have y4 : a + 1 < 9223372036854775808 := by omega
  have y5 : 1 ≤ b := by omega
  have y6 : b < 9223372036854775808 := by omega
  have w1 : wrapK .i64 ((a : Int) + 1) = ((a + 1 : Nat) : Int) := wrap_succN a y4
  have w2 : wrapK .i64 ((b : Int) - 1) = ((b - 1 : Nat) : Int) := wrap_predN b y5 y6
  simp only [w1,w2,N39_1,N39_3]
  clear w1 w2 e1 e2 e3 e4
  obtain ⟨e,he⟩ : ∃ e,e = swp d a pv := ⟨_,rfl⟩
  have s2' : TS H2 x e := by rw [he]; exact s2
  have hes : e.size = d.size := by rw [he,Go.Sort.size_swp]
  have hpt : partitionEqual ltStr d a b pv = partEqLoop ltStr a (a + 1) (b - 1) e := by rw [he]; rfl
  refine Ret.loop (fun m (y : AV × AV) H' => ∃ (i' j' : Nat) (g : DA),y = (.int .i64 i',.int .i64 j') ∧ m = j' + 1 - i' ∧ a < i' ∧ i' ≤ j' + 1 ∧ j' < b ∧ g.size = d.size ∧ partEqLoop ltStr a i' j' g = partEqLoop ltStr a (a + 1) (b - 1) e ∧ TS H' x g ∧ Fr x.lies H H') ?_ (b - 1 + 1 - (a + 1)) k _ H2
    ⟨a + 1,b - 1,_,rfl,rfl,by omega,by omega,by omega,hes,rfl,s2',fr2⟩ (by omega)
  rintro m y H5 kn ⟨i',j',g,rfl,hm,hai,hij,hjb,hgs,hlp,hT,fr⟩ next
  have ga : a < g.size := by omega
  have v1 := (Go.Sort.scanUp_spec (fun s => !ltStr g[a]! s) g j' _ i' rfl)
  have heq := Go.Sort.partEqLoop_eq ltStr a i' j' g
  simp only [N39_3b]
  rw [peq7 g hT a ga i' j' hij (by omega) (by omega) (by omega) (by omega)]
  obtain ⟨i2,hi2⟩ : ∃ i2,i2 = scanUp (fun s => !ltStr g[a]! s) g j' i' := ⟨_,rfl⟩
  rw [← hi2] at v1 heq ⊢
  have v2 := Go.Sort.scanDown_spec (fun s => ltStr g[a]! s) g i2 j'
  simp only [N39_4]
  rw [peq6 g hT a ga i2 j' (by omega) (by omega) (by omega) (by omega) (by omega)]
  obtain ⟨j2,hj2⟩ : ∃ j2,j2 = scanDown (fun s => ltStr g[a]! s) g i2 j' := ⟨_,rfl⟩
  rw [← hj2] at v2 heq ⊢
  have hj2a : a ≤ j2 := by omega
  have hj2s : j2 < g.size := by omega
  have m3 := ts_ix hT j2 hj2s
  have m4 := ts_ld (ρ := ρ) hT j2 hj2s
  by_cases q : i2 > j2
  · have q' : (j2 : Int) < (i2 : Int) := by omega
    rw [if_pos q] at heq
    have hr : partitionEqual ltStr d a b pv = (i2,g) := by rw [hpt,← hlp,heq]
    simp only [N39_5,N39_2,q',purK_some,condK_true,retK_one,bin_add,bin_sub,bin_gtr,decide_true]
    rw [hr]
    exact .intro ⟨rfl,hT,fr⟩
  · have q' : ¬ (j2 : Int) < (i2 : Int) := by omega
    rw [if_neg q] at heq
    have hlt2 : i2 < j2 := by
      rcases Nat.lt_or_ge i2 j2 with q | q
      · exact q
      · have eij : i2 = j2 := by omega
        have p1 := v1.2.2.2 (by omega)
        have p2 := v2.2.2.2 (by omega) (by omega)
        rw [← eij] at p2
        try simp only at p1 p2
        first | (rw [p1] at p2; cases p2) | (rw [p2] at p1; cases p1)
    have hi2s : i2 < g.size := by omega
    have m5 := ts_ix hT i2 hi2s
    have m6 := ts_ld (ρ := ρ) hT i2 hi2s
    simp only [N39_5,q',m3,m4,m5,m6,purK_some,condK_false,bin_add,bin_sub,bin_gtr,decide_false]
    refine ts_st hT i2 hi2s _ fun H6 s6 f6 => ?_
    try simp only [purK_some,resK_some,boolK_some,condK_true,condK_false,wantV_tt,wantV_tf,wantV_ft,wantV_ff,wantV_t,wantV_f,wantV_skip,Bool.not_true,Bool.not_false,gPur_true,gPur_false,gEff_true,gEff_false,gRes_true,gRes_false,pickA_true,pickA_false,extA_0,extA_1,extA_2,retK_one,retK_none,retK_two,valK_fn,valR_fn,cnd_true,cnd_false,bin_add,bin_sub,bin_mul,bin_eql,bin_neq,bin_lss,bin_leq,bin_gtr,bin_geq,bin_seql,bin_sneq,un_not_t,un_not_f,un_not,cvI_int,cvT_str,nilChk_ptr,nilChk_xp,addA_ptr,lenT_str,Bool.true_or,Bool.or_true,Bool.false_or,Bool.or_false,Bool.true_and,Bool.and_true,Bool.false_and,Bool.and_false,decide_true,decide_false,Int.reduceEq,Int.reduceLT,Int.reduceLE,Int.reduceNe,Int.reduceAdd,Int.reduceSub,Int.reduceMul,Int.reduceNeg,List.nil_append,List.append_nil,List.cons_append]
    refine ts_st s6 j2 (by simpa using hj2s) _ fun H7 s7 f7 => ?_
    have s7' : TS H7 x (swp g i2 j2) := s7
    have mm : j2 - 1 + 1 - (i2 + 1) < m := by omega
    have x1 : a < i2 + 1 := by omega
    have x2 : i2 + 1 ≤ j2 - 1 + 1 := by omega
    have x3 : j2 - 1 < b := by omega
    have x4 : i2 + 1 < 9223372036854775808 := by omega
    have x5 : 1 ≤ j2 := by omega
    have x6 : j2 < 9223372036854775808 := by omega
    have w1 : wrapK .i64 ((i2 : Int) + 1) = ((i2 + 1 : Nat) : Int) := wrap_succN i2 x4
    have w2 : wrapK .i64 ((j2 : Int) - 1) = ((j2 - 1 : Nat) : Int) := wrap_predN j2 x5 x6
    simp only [w1,w2]
    clear w1 w2
    exact next _ _ H7 mm ⟨i2 + 1,j2 - 1,_,rfl,rfl,x1,x2,x3,by rw [Go.Sort.size_swp]; exact hgs,by rw [← hlp,heq],s7',(fr.trans f6).trans f7⟩
end
end Go.Proofs.Ytkmohjddojpdjab

-- part HyV
/- A part that is nearly sorted. -/
set_option linter.unusedVariables false
set_option linter.unusedSimpArgs false
namespace Go.Proofs.Ytkmohjddojpdjab
attribute [local congr] Go.Ev.cond_congr1
open Go.Ev Go.RowKit
open Go.Sort (swp ltStr scanSorted shiftDown shiftUp partialIns partialInsertionSort)
theorem scanSorted_le (d : DA) (b : Nat) : ∀ (n i : Nat),b - i ≤ n → i ≤ b → i ≤ scanSorted ltStr d b i ∧ scanSorted ltStr d b i ≤ b := by
  intro n
  induction n with
  | zero =>
    intro i h hi
    rw [scanSorted]
    have : ¬ (decide (i < b) && !ltStr d[i]! d[i - 1]!) = true := by
      have : ¬ i < b := by omega
      simp [this]
    rw [if_neg this]
    omega
  | succ n ih =>
    intro i h hi
    rw [scanSorted]
    split
    · rename_i c
      simp only [Bool.and_eq_true,decide_eq_true_eq] at c
      have := ih (i + 1) (by omega) (by omega)
      omega
    · omega
section
variable {ρ : Addr → Option Value} {k : Nat} {H : Heap} {x : AV} {d : DA} {Q : AV → Heap → Prop}
theorem loop_sorted {H : Heap} {B : AV → Heap → (AV → Heap → Res) → Res} {Ke : Nat → Res} (d : DA) (b : Nat) (hB : ∀ i kn,1 ≤ i → i ≤ b → B (.int .i64 (i : Nat)) H kn = if (decide (i < b) && !ltStr d[i]! d[i - 1]!) = true then kn (.int .i64 ((i + 1 : Nat) : Int)) H else Ke i) :
    ∀ (n i : Nat),1 ≤ i → i ≤ b → b - i < n → loopL B n (.int .i64 (i : Nat)) H = Ke (scanSorted ltStr d b i) := by
  intro n
  induction n with
  | zero => intro i _ _ h; omega
  | succ n ih =>
    intro i h1 hi hn
    rw [loopL_succ,hB i _ h1 hi,scanSorted]
    by_cases c : (decide (i < b) && !ltStr d[i]! d[i - 1]!) = true
    · rw [if_pos c,if_pos c]
      have : i < b := by simp only [Bool.and_eq_true,decide_eq_true_eq] at c; exact c.1
      exact ih (i + 1) (by omega) (by omega) (by omega)
    · rw [if_neg c,if_neg c]
/-- As far as it is sorted. -/
theorem pis15 (g : DA) {G : Heap} (hg : TS G x g) (a b : Nat) (hb : b ≤ g.size) (hsz : g.size < 2305843009213693952) (st : AV) {yc : YieldF} {K : AV → AV → Heap → Res} (i : Nat) (hi1 : 1 ≤ i) (hib : i ≤ b) (hk : g.size + 5 ≤ k) :
    N37_15 ρ (evCall (cx ρ) k) yc 0 k x (.int .i64 a) (.int .i64 b) (.int .i64 i) st G K = K (.int .i64 (scanSorted ltStr g b i : Nat)) st G := by
  simp only [N37_15]
  have k2 : 2 ≤ k := by omega
  refine loop_sorted (Ke := fun i => K (.int .i64 (i : Nat)) st G) g b ?_ k i hi1 hib (by omega)
  intro i kn h1 hib
  by_cases c : i < b
  · have c' : (i : Int) < (b : Int) := by omega
    have hd : (decide (i < b) && !ltStr g[i]! g[i - 1]!) = !ltStr g[i]! g[i - 1]! := by rw [decide_eq_true c,Bool.true_and]
    have e1 := ts_ix hg i (by omega)
    have e2 := ts_ld (ρ := ρ) hg i (by omega)
    have e3 := ts_ix hg (i - 1) (by omega)
    have e4 := ts_ld (ρ := ρ) hg (i - 1) (by omega)
    have y1 : i < 9223372036854775808 := by omega
    have y2 : i + 1 < 9223372036854775808 := by omega
    have w1 : wrapK .i64 ((i : Int) - 1) = ((i - 1 : Nat) : Int) := wrap_predN i h1 y1
    have w2 : wrapK .i64 ((i : Int) + 1) = ((i + 1 : Nat) : Int) := wrap_succN i y2
    rw [hd]
    cases hl : ltStr g[i]! g[i - 1]! <;> simp only [N37_15b,c',w1,w2,e1,e2,e3,e4,less_spec _ _ k2,hl,gRes_true,resK_some,Bool.not_true,Bool.not_false,if_true,if_false,Bool.false_eq_true,purK_some,resK_some,boolK_some,condK_true,condK_false,wantV_t,Bool.not_true,Bool.not_false,gPur_true,gRes_true,pickA_true,cnd_true,bin_add,bin_sub,bin_lss,un_not,Bool.or_true,Bool.and_true,decide_true]
  · have c' : ¬ (i : Int) < (b : Int) := by omega
    have c2 : ¬ (decide (i < b) && !ltStr g[i]! g[i - 1]!) = true := by rw [decide_eq_false c]; simp
    rw [if_neg c2]
    simp only [N37_15b,c',gRes_false,resK_some,purK_some,resK_some,boolK_some,condK_false,wantV_t,Bool.not_false,gPur_false,gRes_false,pickA_false,cnd_true,cnd_false,bin_add,bin_lss,Bool.or_true,Bool.and_true,decide_false]
/-- Down. -/
theorem pis13 {G : Heap} (a b i : Nat) (st : AV) {yc : YieldF} {K : AV → AV → Heap → Res} (n : Nat) (g : DA) (hg : TS G x g) (hn : n < g.size) (hsz : g.size < 2305843009213693952) (hk : g.size + 5 ≤ k)
    (hK : ∀ G',TS G' x (shiftDown ltStr n g) → Fr x.lies G G' → Ret Q (K (.int .i64 i) st G')) :
    Ret Q (N37_13 ρ (evCall (cx ρ) k) yc 0 k x (.int .i64 a) (.int .i64 b) (.int .i64 i) st (.int .i64 n) G K) := by
  simp only [N37_13]
  refine Ret.loop (fun m y G' => ∃ (j : Nat) (e : DA),y = .int .i64 j ∧ m = j ∧ j < e.size ∧ e.size = g.size ∧ shiftDown ltStr j e = shiftDown ltStr n g ∧ TS G' x e ∧ Fr x.lies G G') ?_ n k _ G ⟨n,g,rfl,rfl,hn,rfl,rfl,hg,Fr.refl ..⟩ (by omega)
  rintro m y G1 kn ⟨j,e,rfl,hm,hj,hes,hsd,hT,fr⟩ next
  cases j with
  | zero =>
    have c : ¬ (1 : Int) ≤ ((0 : Nat) : Int) := by omega
    simp only [N37_13b,c,purK_some,condK_false,bin_sub,bin_geq,Bool.and_true,decide_false]
    exact hK G1 (by rw [← hsd]; exact hT) fr
  | succ j =>
    have c : (1 : Int) ≤ ((j + 1 : Nat) : Int) := by omega
    have k2 : 2 ≤ k := by omega
    have hj1 : j < e.size := by omega
    have e1 := ts_ix hT (j + 1) hj
    have e2 := ts_ld (ρ := ρ) hT (j + 1) hj
    have e3 := ts_ix hT j hj1
    have e4 := ts_ld (ρ := ρ) hT j hj1
    have mm : j < m := by omega
    have y1 : 1 ≤ j + 1 := by omega
    have y2 : j + 1 < 9223372036854775808 := by omega
    have w : wrapK .i64 (((j + 1 : Nat) : Int) - 1) = (j : Int) := wrap_predN (j + 1) y1 y2
    rw [shiftDown] at hsd
    cases hl : ltStr e[j + 1]! e[j]! with
    | false =>
      rw [hl] at hsd
      simp only [N37_13b,c,w,e1,e2,e3,e4,less_spec _ _ k2,hl,purK_some,resK_some,condK_true,Bool.not_false,bin_sub,bin_geq,un_not,Bool.and_true,decide_true]
      exact hK G1 (by rw [← hsd]; exact hT) fr
    | true =>
      rw [hl] at hsd
      simp only [N37_13b,c,w,e1,e2,e3,e4,less_spec _ _ k2,hl,purK_some,resK_some,condK_true,condK_false,Bool.not_true,bin_sub,bin_geq,un_not,Bool.and_true,decide_true]
      refine ts_st hT (j + 1) hj _ fun H3 s3 f3 => ?_
      have n5 := ts_ix s3 j (by simpa using hj1)
      simp only [agI,cnd_true]
      refine ts_st s3 j (by simpa using hj1) _ fun H4 s4 f4 => ?_
      have s4' : TS H4 x (swp e (j + 1) j) := s4
      simp only [N37_14,w,purK_some,bin_sub]
      clear w
      exact next j _ H4 mm ⟨j,_,rfl,rfl,by rw [Go.Sort.size_swp]; exact hj1,by rw [Go.Sort.size_swp]; exact hes,hsd,s4',(fr.trans f3).trans f4⟩
/-- Up. -/
theorem pis10 {G : Heap} (a b i : Nat) (st : AV) {yc : YieldF} {K : AV → AV → Heap → Res} (n : Nat) (g : DA) (hg : TS G x g) (hn1 : 1 ≤ n) (hnb : n ≤ b) (hb : b ≤ g.size) (hsz : g.size < 2305843009213693952) (hk : g.size + 5 ≤ k)
    (hK : ∀ G',TS G' x (shiftUp ltStr b n g) → Fr x.lies G G' → Ret Q (K (.int .i64 i) st G')) :
    Ret Q (N37_9 ρ (evCall (cx ρ) k) yc 0 k x (.int .i64 a) (.int .i64 b) (.int .i64 i) st (.int .i64 n) G K) := by
  simp only [N37_9,N37_10]
  refine Ret.loop (fun m y G' => ∃ (j : Nat) (e : DA),y = .int .i64 j ∧ m = b - j ∧ 1 ≤ j ∧ j ≤ b ∧ e.size = g.size ∧ shiftUp ltStr b j e = shiftUp ltStr b n g ∧ TS G' x e ∧ Fr x.lies G G') ?_ (b - n) k _ G ⟨n,g,rfl,rfl,hn1,hnb,rfl,rfl,hg,Fr.refl ..⟩ (by omega)
  rintro m y G1 kn ⟨j,e,rfl,hm,hj1,hjb,hes,hsd,hT,fr⟩ next
  rw [shiftUp] at hsd
  by_cases c : j < b
  · have c' : (j : Int) < (b : Int) := by omega
    have k2 : 2 ≤ k := by omega
    have hjs : j < e.size := by omega
    have hj2 : j - 1 < e.size := by omega
    have e1 := ts_ix hT j hjs
    have e2 := ts_ld (ρ := ρ) hT j hjs
    have e3 := ts_ix hT (j - 1) hj2
    have e4 := ts_ld (ρ := ρ) hT (j - 1) hj2
    have mm : b - (j + 1) < m := by omega
    have y1 : j < 9223372036854775808 := by omega
    have y2 : j + 1 < 9223372036854775808 := by omega
    have y3 : 1 ≤ j + 1 := by omega
    have y4 : j + 1 ≤ b := by omega
    have w : wrapK .i64 ((j : Int) - 1) = ((j - 1 : Nat) : Int) := wrap_predN j hj1 y1
    have w2 : wrapK .i64 ((j : Int) + 1) = ((j + 1 : Nat) : Int) := wrap_succN j y2
    rw [if_pos c] at hsd
    cases hl : ltStr e[j]! e[j - 1]! with
    | false =>
      rw [hl] at hsd
      simp only [N37_10b,c',w,e1,e2,e3,e4,less_spec _ _ k2,hl,purK_some,resK_some,condK_true,Bool.not_false,bin_sub,bin_lss,un_not,Bool.and_true,decide_true]
      exact hK G1 (by rw [← hsd]; exact hT) fr
    | true =>
      rw [hl] at hsd
      simp only [N37_10b,c',w,e1,e2,e3,e4,less_spec _ _ k2,hl,purK_some,resK_some,condK_true,condK_false,Bool.not_true,bin_sub,bin_lss,un_not,Bool.and_true,decide_true]
      refine ts_st hT j hjs _ fun H3 s3 f3 => ?_
      have n5 := ts_ix s3 (j - 1) (by simpa using hj2)
      simp only [agI,cnd_true]
      refine ts_st s3 (j - 1) (by simpa using hj2) _ fun H4 s4 f4 => ?_
      have s4' : TS H4 x (swp e j (j - 1)) := s4
      simp only [N37_11,w2,purK_some,bin_add]
      clear w w2
      exact next _ _ H4 mm ⟨j + 1,_,rfl,rfl,y3,y4,by rw [Go.Sort.size_swp]; exact hes,hsd,s4',(fr.trans f3).trans f4⟩
  · have c' : ¬ (j : Int) < (b : Int) := by omega
    rw [if_neg c] at hsd
    simp only [N37_10b,c',purK_some,condK_false,bin_sub,bin_lss,Bool.and_true,decide_false]
    exact hK G1 (by rw [← hsd]; exact hT) fr
theorem size_shiftDown : ∀ (n : Nat) (g : DA),(shiftDown ltStr n g).size = g.size
  | 0,_ => rfl
  | n + 1,g => by
    rw [shiftDown]
    split
    · rfl
    · rw [size_shiftDown n,Go.Sort.size_swp]
theorem size_shiftUp (b : Nat) : ∀ (n j : Nat) (g : DA),b - j ≤ n → (shiftUp ltStr b j g).size = g.size := by
  intro n
  induction n with
  | zero => intro j g h; rw [shiftUp,if_neg (by omega)]
  | succ n ih =>
    intro j g h
    rw [shiftUp]
    split
    · split
      · rfl
      · rw [ih _ _ (by omega),Go.Sort.size_swp]
    · rfl
/-- A part that is nearly sorted is sorted, or it is told that it isn't. -/
theorem pis_spec (a b : Nat) (hab : a < b) (hb : b ≤ d.size) (hsz : d.size < 2305843009213693952) (h : TS H x d) (hk : d.size + 20 ≤ k) :
    Ret (fun v H' => v = .bool (partialInsertionSort ltStr d a b).2 ∧ TS H' x (partialInsertionSort ltStr d a b).1 ∧ Fr x.lies H H') (evCall (cx ρ) k 0 37 [x,.int .i64 a,.int .i64 b] H) := by
  obtain ⟨k,rfl⟩ : ∃ q,k = q + 1 := ⟨k - 1,by omega⟩
  have y0 : a + 1 < 9223372036854775808 := by omega
  have w0 : wrapK .i64 ((a : Int) + 1) = ((a + 1 : Nat) : Int) := wrap_succN a y0
  rw [E37]
  simp only [L37,w0,N37_2,N37_3,purK_some,bin_add]
  clear w0
  refine Ret.loop (fun m (y : AV × AV) H' => ∃ (i s : Nat) (e : DA),y = (.int .i64 i,.int .i64 ((5 - s : Nat) : Int)) ∧ m = s ∧ s ≤ 5 ∧ a < i ∧ i ≤ b ∧ e.size = d.size ∧ partialIns ltStr a b s i e = partialInsertionSort ltStr d a b ∧ TS H' x e ∧ Fr x.lies H H') ?_ 5 k _ H ⟨a + 1,5,d,rfl,rfl,Nat.le_refl _,by omega,by omega,rfl,rfl,h,Fr.refl ..⟩ (by omega)
  rintro m y H1 kn ⟨i,s,e,rfl,hm,hs5,hai,hib,hes,hpi,hT,fr⟩ next
  cases s with
  | zero =>
    have c : ¬ ((5 - 0 : Nat) : Int) < 5 := by decide
    simp only [N37_3b,N37_1,c,purK_some,condK_false,retK_one,bin_lss,decide_false]
    exact .intro ⟨by rw [← hpi]; rfl,by rw [← hpi]; exact hT,fr⟩
  | succ s =>
    have c : ((5 - (s + 1) : Nat) : Int) < 5 := by omega
    have hms : s < m := by omega
    have hss : s ≤ 5 := by omega
    have hbe : b ≤ e.size := by omega
    have k2 : 2 ≤ k := by omega
    have hsl := scanSorted_le e b _ i (Nat.le_refl _) hib
    rw [partialIns] at hpi
    simp only [N37_3b,N37_4,c,purK_some,condK_true,bin_lss,decide_true]
    rw [pis15 e hT a b hbe (by omega) _ i (by omega) hib (by omega)]
    obtain ⟨j,hj⟩ : ∃ j,j = scanSorted ltStr e b i := ⟨_,rfl⟩
    rw [← hj] at hsl hpi ⊢
    simp only at hpi
    by_cases cb : j = b
    · have cb' : ((j : Nat) : Int) = (b : Int) := by omega
      rw [if_pos cb] at hpi
      simp only [N37_6,cb',purK_some,condK_true,retK_one,bin_sub,bin_eql,bin_lss,Bool.and_true,decide_true]
      exact .intro ⟨by rw [← hpi],by rw [← hpi]; exact hT,fr⟩
    have cb' : ¬ ((j : Nat) : Int) = (b : Int) := by omega
    rw [if_neg cb] at hpi
    have y1 : a ≤ b := by omega
    have y2 : b < 9223372036854775808 := by omega
    by_cases c50 : b - a < 50
    · have c50' : ((b - a : Nat) : Int) < 50 := by omega
      rw [if_pos c50] at hpi
      have w1 : wrapK .i64 ((b : Int) - (a : Int)) = ((b - a : Nat) : Int) := wrap_subN b a y1 y2
      simp only [N37_6,cb',w1,c50',purK_some,condK_true,condK_false,retK_one,bin_sub,bin_eql,bin_lss,Bool.and_true,decide_true,decide_false]
      exact .intro ⟨by rw [← hpi],by rw [← hpi]; exact hT,fr⟩
    have c50' : ¬ ((b - a : Nat) : Int) < 50 := by omega
    rw [if_neg c50] at hpi
    have j1 : 1 ≤ j := by omega
    have jm : j < 9223372036854775808 := by omega
    have jm1 : j + 1 < 9223372036854775808 := by omega
    have ja : a ≤ j := by omega
    have jb : j ≤ b := by omega
    have hje : j < e.size := by omega
    have hj1 : j - 1 < e.size := by omega
    have e1 := ts_ix hT j hje
    have e2 := ts_ld (ρ := ρ) hT j hje
    have e3 := ts_ix hT (j - 1) hj1
    have e4 := ts_ld (ρ := ρ) hT (j - 1) hj1
    have w1 : wrapK .i64 ((b : Int) - (a : Int)) = ((b - a : Nat) : Int) := wrap_subN b a y1 y2
    have w2 : wrapK .i64 ((j : Int) - 1) = ((j - 1 : Nat) : Int) := wrap_predN j j1 jm
    simp only [N37_6,cb',w1,w2,c50',e1,e2,e3,e4,purK_some,condK_false,retK_one,bin_sub,bin_eql,bin_lss,Bool.and_true,decide_false]
    refine ts_st hT j hje _ fun H3 s3 f3 => ?_
    have n5 := ts_ix s3 (j - 1) (by simpa using hj1)
    simp only [agI,cnd_true]
    refine ts_st s3 (j - 1) (by simpa using hj1) _ fun H4 s4 f4 => ?_
    clear w1 w2
    obtain ⟨g,hg⟩ : ∃ g,g = swp e j (j - 1) := ⟨_,rfl⟩
    have s4' : TS H4 x g := by rw [hg]; exact s4
    rw [← hg] at hpi
    have hgs : g.size = d.size := by rw [hg,Go.Sort.size_swp]; exact hes
    have fr4 := (fr.trans f3).trans f4
    have cs : (5 - (s + 1)) + 1 = 5 - s := by omega
    -- the second half,and the next round
    have up : ∀ (u : DA) (H5 : Heap),u.size = d.size → TS H5 x u → Fr x.lies H H5 → partialIns ltStr a b s j (if b - j ≥ 2 then shiftUp ltStr b (j + 1) u else u) = partialInsertionSort ltStr d a b →
        Ret (fun v H' => v = .bool (partialInsertionSort ltStr d a b).2 ∧ TS H' x (partialInsertionSort ltStr d a b).1 ∧ Fr x.lies H H') (N37_8 ρ (evCall (cx ρ) k) (evCY (cx ρ) k).2 0 k x (.int .i64 a) (.int .i64 b) (.int .i64 j) (.int .i64 ((5 - (s + 1) : Nat) : Int)) H5 (fun x7_2 x8_2 H => N37_5 ρ (evCall (cx ρ) k) (evCY (cx ρ) k).2 0 k x (.int .i64 a) (.int .i64 b) x7_2 x8_2 H fun x7 x8 H => kn (x7,x8) H)) := by
      intro u H5 hus hu fr5 hpu
      have fin : ∀ (u' : DA) (H6 : Heap),u'.size = d.size → TS H6 x u' → Fr x.lies H H6 → partialIns ltStr a b s j u' = partialInsertionSort ltStr d a b →
          Ret (fun v H' => v = .bool (partialInsertionSort ltStr d a b).2 ∧ TS H' x (partialInsertionSort ltStr d a b).1 ∧ Fr x.lies H H') (N37_5 ρ (evCall (cx ρ) k) (evCY (cx ρ) k).2 0 k x (.int .i64 a) (.int .i64 b) (.int .i64 j) (.int .i64 ((5 - (s + 1) : Nat) : Int)) H6 fun x7 x8 H => kn (x7,x8) H) := by
        intro u' H6 hus' hu' fr6 hpu'
        have haj : a < j := by omega
        have w : wrapK .i64 (((5 - (s + 1) : Nat) : Int) + 1) = ((5 - (s + 1) + 1 : Nat) : Int) := wrap_succN _ (by omega)
        simp only [N37_5,w,purK_some,bin_add]
        clear w
        exact next s _ H6 hms ⟨j,s,u',by rw [cs],rfl,hss,haj,jb,hus',hpu',hu',fr6⟩
      have w1 : wrapK .i64 ((b : Int) - (j : Int)) = ((b - j : Nat) : Int) := wrap_subN b j jb y2
      by_cases c2 : b - j ≥ 2
      · have c2' : (2 : Int) ≤ ((b - j : Nat) : Int) := by clear w1; omega
        have w2 : wrapK .i64 ((j : Int) + 1) = ((j + 1 : Nat) : Int) := wrap_succN j jm1
        rw [if_pos c2] at hpu
        simp only [N37_8,w1,w2,c2',purK_some,condK_true,bin_add,bin_sub,bin_geq,decide_true]
        clear w1 w2
        refine pis10 a b j _ (j + 1) u hu (by omega) (by omega) (by omega) (by omega) (by omega) fun H6 hu6 f6 => ?_
        exact fin _ H6 (by rw [size_shiftUp b _ _ _ (Nat.le_refl _)]; exact hus) hu6 (fr5.trans f6) hpu
      · have c2' : ¬ (2 : Int) ≤ ((b - j : Nat) : Int) := by clear w1; omega
        rw [if_neg c2] at hpu
        simp only [N37_8,w1,c2',purK_some,condK_false,bin_add,bin_sub,bin_geq,decide_false]
        clear w1
        exact fin _ H5 hus hu fr5 hpu
    have w3 : wrapK .i64 ((j : Int) - (a : Int)) = ((j - a : Nat) : Int) := wrap_subN j a ja jm
    by_cases c2 : j - a ≥ 2
    · have c2' : (2 : Int) ≤ ((j - a : Nat) : Int) := by clear w3; omega
      have w2 : wrapK .i64 ((j : Int) - 1) = ((j - 1 : Nat) : Int) := wrap_predN j j1 jm
      rw [if_pos c2] at hpi
      simp only [N37_7,w2,w3,c2',N37_12,purK_some,condK_true,bin_sub,bin_geq,decide_true]
      clear w2 w3
      refine pis13 a b j _ (j - 1) g s4' (by omega) (by omega) (by omega) fun H5 hu5 f5 => ?_
      exact up _ H5 (by rw [size_shiftDown]; exact hgs) hu5 (fr4.trans f5) hpi
    · have c2' : ¬ (2 : Int) ≤ ((j - a : Nat) : Int) := by clear w3; omega
      rw [if_neg c2] at hpi
      simp only [N37_7,w3,c2',purK_some,condK_false,bin_sub,bin_geq,decide_false]
      clear w3
      exact up g H4 hgs s4' fr4 hpi
end
end Go.Proofs.Ytkmohjddojpdjab

-- part HyW
/- How many bits a number has; the pivot; patterns broken. -/
set_option linter.unusedVariables false
set_option linter.unusedSimpArgs false
set_option maxRecDepth 100000
namespace Go.Proofs.Ytkmohjddojpdjab
attribute [local congr] Go.Ev.cond_congr1
open Go.Ev Go.RowKit
open Go.Sort (swp ltStr bitsLen PermIn)
theorem bitsLen_div (x s : Nat) (h : 2 ^ s ≤ x) : bitsLen x = s + bitsLen (x / 2 ^ s) := by
  have key : ∀ k,bitsLen x ≤ k ↔ s + bitsLen (x / 2 ^ s) ≤ k := by
    intro k
    rw [Go.Sort.bitsLen_le_iff]
    constructor
    · intro hx
      have hsk : s < k := by
        rcases Nat.lt_or_ge s k with q | q
        · exact q
        · have := Nat.pow_le_pow_right (show 0 < 2 by decide) q
          omega
      have : bitsLen (x / 2 ^ s) ≤ k - s := by
        rw [Go.Sort.bitsLen_le_iff,Nat.div_lt_iff_lt_mul (Nat.two_pow_pos _),← Nat.pow_add]
        have : k - s + s = k := by omega
        rw [this]; exact hx
      omega
    · intro hx
      have : bitsLen (x / 2 ^ s) ≤ k - s := by omega
      rw [Go.Sort.bitsLen_le_iff,Nat.div_lt_iff_lt_mul (Nat.two_pow_pos _),← Nat.pow_add] at this
      have e : k - s + s = k := by omega
      rw [e] at this
      exact this
  have h1 := (key (s + bitsLen (x / 2 ^ s))).2 (Nat.le_refl _)
  have h2 := (key (bitsLen x)).1 (Nat.le_refl _)
  omega
def tab8 : ByteArray := ByteArray.mk #[0,1,2,2,3,3,3,3,4,4,4,4,4,4,4,4,5,5,5,5,5,5,5,5,5,5,5,5,5,5,5,5,6,6,6,6,6,6,6,6,6,6,6,6,6,6,6,6,6,6,6,6,6,6,6,6,6,6,6,6,6,6,6,6,7,7,7,7,7,7,7,7,7,7,7,7,7,7,7,7,7,7,7,7,7,7,7,7,7,7,7,7,7,7,7,7,7,7,7,7,7,7,7,7,7,7,7,7,7,7,7,7,7,7,7,7,7,7,7,7,7,7,7,7,7,7,7,7,8,8,8,8,8,8,8,8,8,8,8,8,8,8,8,8,8,8,8,8,8,8,8,8,8,8,8,8,8,8,8,8,8,8,8,8,8,8,8,8,8,8,8,8,8,8,8,8,8,8,8,8,8,8,8,8,8,8,8,8,8,8,8,8,8,8,8,8,8,8,8,8,8,8,8,8,8,8,8,8,8,8,8,8,8,8,8,8,8,8,8,8,8,8,8,8,8,8,8,8,8,8,8,8,8,8,8,8,8,8,8,8,8,8,8,8,8,8,8,8,8,8,8,8,8,8,8,8]
theorem tab8_all : ∀ i : Fin 256,(tab8.data[i.1]?.map UInt8.toNat) = some (bitsLen i.1) := by decide +kernel
theorem tab8_ix (n : Nat) (h : n < 256) : ixT (.str (ByteArray.mk #[0,1,2,2,3,3,3,3,4,4,4,4,4,4,4,4,5,5,5,5,5,5,5,5,5,5,5,5,5,5,5,5,6,6,6,6,6,6,6,6,6,6,6,6,6,6,6,6,6,6,6,6,6,6,6,6,6,6,6,6,6,6,6,6,7,7,7,7,7,7,7,7,7,7,7,7,7,7,7,7,7,7,7,7,7,7,7,7,7,7,7,7,7,7,7,7,7,7,7,7,7,7,7,7,7,7,7,7,7,7,7,7,7,7,7,7,7,7,7,7,7,7,7,7,7,7,7,7,8,8,8,8,8,8,8,8,8,8,8,8,8,8,8,8,8,8,8,8,8,8,8,8,8,8,8,8,8,8,8,8,8,8,8,8,8,8,8,8,8,8,8,8,8,8,8,8,8,8,8,8,8,8,8,8,8,8,8,8,8,8,8,8,8,8,8,8,8,8,8,8,8,8,8,8,8,8,8,8,8,8,8,8,8,8,8,8,8,8,8,8,8,8,8,8,8,8,8,8,8,8,8,8,8,8,8,8,8,8,8,8,8,8,8,8,8,8,8,8,8,8,8,8,8,8,8,8])) (.int .u8 n) = some (.int .u8 (bitsLen n : Nat)) := by
  have hs : ((n : Int)).toNat < tab8.size := by
    have : tab8.size = 256 := by rfl
    rw [this,Int.toNat_natCast]; exact h
  have e := ixT_str tab8 .u8 (n : Int) (by omega) hs
  have a := tab8_all ⟨n,h⟩
  have hs2 : n < tab8.data.size := by simpa using hs
  rw [Array.getElem?_eq_getElem hs2,Option.map_some,Option.some.injEq] at a
  show ixT (.str tab8) _ = _
  rw [e]
  congr 2
  exact congrArg Int.ofNat a
theorem shrN (x s : Nat) (t : Int) (ht : t = s) (hs : s < 64) : ((x : Int).fdiv (2 ^ min t.toNat IntKind.u64.bits)) = ((x / 2 ^ s : Nat) : Int) := by
  subst ht
  have e0 : min ((s : Int)).toNat IntKind.u64.bits = s := by
    have : IntKind.u64.bits = 64 := rfl
    omega
  rw [e0,Int.fdiv_eq_ediv_of_nonneg _ (by exact_mod_cast Nat.zero_le _)]
  norm_cast
section
variable {ρ : Addr → Option Value} {k : Nat} {H : Heap} {x : AV} {d : DA}
theorem len3 (y n : Nat) (hy : y < 256) (hn : n < 1000) (lim : Nat) (call : CallF) (yc : YieldF) (R : List AV → Heap → Res) : N42_3 ρ call yc lim k (.int .u64 y) (.int .i64 n) H R = R [.int .i64 ((n + bitsLen y : Nat) : Int)] H := by
  have hb : bitsLen y ≤ 8 := (Go.Sort.bitsLen_le_iff y 8).2 (by omega)
  have w1 : wrapK .u8 (y : Int) = (y : Int) := wrap_u8 _ (by omega)
  have w2 : wrapK .i64 ((bitsLen y : Nat) : Int) = ((bitsLen y : Nat) : Int) := wrap_nat _ (by omega)
  have w3 : wrapK .i64 ((n : Int) + ((bitsLen y : Nat) : Int)) = ((n + bitsLen y : Nat) : Int) := wrap_addN _ _ (by omega)
  simp only [N42_3,w1,tab8_ix y hy,w2,w3,purK_some,bin_add,cvI_int]
theorem len2 (y n : Nat) (hy : y < 65536) (hn : n < 900) (lim : Nat) (call : CallF) (yc : YieldF) (R : List AV → Heap → Res) : N42_2 ρ call yc lim k (.int .u64 y) (.int .i64 n) H R = R [.int .i64 ((n + bitsLen y : Nat) : Int)] H := by
  by_cases c : 256 ≤ y
  · have c' : (256 : Int) ≤ (y : Int) := by omega
    have w : wrapK .i64 ((n : Int) + 8) = ((n + 8 : Nat) : Int) := wrap_addN n 8 (by omega)
    have z8 : (0 : Int) ≤ 8 := by decide
    simp only [N42_2,c',w,bin_shr _ _ _ _ _ _ _ z8,shrN y 8 8 rfl (by decide),purK_some,condK_true,bin_add,bin_geq,decide_true]
    rw [len3 _ _ (by omega) (by clear w; omega),bitsLen_div y 8 c]
    have : n + 8 + bitsLen (y / 2 ^ 8) = n + (8 + bitsLen (y / 2 ^ 8)) := by omega
    rw [this]
  · have c' : ¬ (256 : Int) ≤ (y : Int) := by omega
    simp only [N42_2,c',purK_some,condK_false,bin_add,bin_geq,decide_false]
    exact len3 y n (by omega) (by omega) ..
theorem len1 (y n : Nat) (hy : y < 4294967296) (hn : n < 800) (lim : Nat) (call : CallF) (yc : YieldF) (R : List AV → Heap → Res) : N42_1 ρ call yc lim k (.int .u64 y) (.int .i64 n) H R = R [.int .i64 ((n + bitsLen y : Nat) : Int)] H := by
  by_cases c : 65536 ≤ y
  · have c' : (65536 : Int) ≤ (y : Int) := by omega
    have w : wrapK .i64 ((n : Int) + 16) = ((n + 16 : Nat) : Int) := wrap_addN n 16 (by omega)
    have z8 : (0 : Int) ≤ 16 := by decide
    simp only [N42_1,c',w,bin_shr _ _ _ _ _ _ _ z8,shrN y 16 16 rfl (by decide),purK_some,condK_true,bin_add,bin_geq,decide_true]
    rw [len2 _ _ (by omega) (by clear w; omega),bitsLen_div y 16 c]
    have : n + 16 + bitsLen (y / 2 ^ 16) = n + (16 + bitsLen (y / 2 ^ 16)) := by omega
    rw [this]
  · have c' : ¬ (65536 : Int) ≤ (y : Int) := by omega
    simp only [N42_1,c',purK_some,condK_false,bin_add,bin_geq,decide_false]
    exact len2 y n (by omega) (by omega) ..
theorem len_spec (y : Nat) (hy : y < 18446744073709551616) (hk : 2 ≤ k) : evCall (cx ρ) k 0 29 [.int .u64 y] H = .done (.int .i64 (bitsLen y : Nat),H) := by
  obtain ⟨k,rfl⟩ : ∃ q,k = q + 2 := ⟨k - 2,by omega⟩
  rw [E29]
  simp only [L29,purK_some,condK_false,retK_one,cvI_int]
  rw [E42]
  by_cases c : 4294967296 ≤ y
  · have c' : (4294967296 : Int) ≤ (y : Int) := by omega
    have z8 : (0 : Int) ≤ 32 := by decide
    have z32 : (32 : Int) = ((32 : Nat) : Int) := rfl
    simp only [L42,c',bin_shr _ _ _ _ _ _ _ z8,shrN y 32 32 rfl (by decide),purK_some,condK_true,bin_geq,decide_true]
    rw [z32,len1 _ _ (by omega) (by decide),← bitsLen_div y 32 c]
    simp only [resK_some,retK_one]
  · have c' : ¬ (4294967296 : Int) ≤ (y : Int) := by omega
    have z0 : (0 : Int) = ((0 : Nat) : Int) := rfl
    simp only [L42,c',purK_some,condK_false,bin_geq,decide_false]
    rw [z0,len1 _ _ (by omega) (by decide),Nat.zero_add]
    simp only [resK_some,retK_one]
end
end Go.Proofs.Ytkmohjddojpdjab

-- part HyX
/- The pivot; patterns broken; the sort. -/
set_option linter.unusedVariables false
set_option linter.unusedSimpArgs false
namespace Go.Proofs.Ytkmohjddojpdjab
attribute [local congr] Go.Ev.cond_congr1
open Go.Ev Go.RowKit
open Go.Sort (swp ltStr bitsLen PermIn)
section
variable {ρ : Addr → Option Value} {k : Nat} {H : Heap} {x : AV} {d : DA} {Q : AV → Heap → Prop}
/-- A counter of changes. -/
def Cnt (H : Heap) (n : Nat) : Prop := n < H.sz ∧ ∃ c : Int,H.get n = .cells 0 3 (0,0) false [.int .i64 c]
theorem Cnt.lt {n : Nat} (h : Cnt H n) : n < H.sz := h.1
theorem ord_spec (u v n : Nat) (hu : u < d.size) (hv : v < d.size) (h : TS H x d) (hn : Cnt H n) (hk : 5 ≤ k) :
    Ret (fun r H' => (r = .tup [.int .i64 u,.int .i64 v] ∨ r = .tup [.int .i64 v,.int .i64 u]) ∧ Cnt H' n ∧ Fr (fun t => t = n) H H') (evCall (cx ρ) k 0 52 [x,.int .i64 u,.int .i64 v,.ptr n 0 0] H) := by
  obtain ⟨k,rfl⟩ : ∃ q,k = q + 1 := ⟨k - 1,by omega⟩
  have k2 : 2 ≤ k := by omega
  have e1 := ts_ix h u hu
  have e2 := ts_ld (ρ := ρ) h u hu
  have e3 := ts_ix h v hv
  have e4 := ts_ld (ρ := ρ) h v hv
  obtain ⟨hnl,c,hc⟩ := hn
  rw [E52]
  cases hl : ltStr d[v]! d[u]! with
  | false =>
    simp only [L52,e1,e2,e3,e4,less_spec _ _ k2,hl,purK_some,resK_some,condK_false,retK_two,nilChk_ptr]
    exact .intro ⟨Or.inl rfl,⟨hnl,c,hc⟩,Fr.refl ..⟩
  | true =>
    have s : Sg (fun t => t = n) H [(n,.cells 0 3 (0,0) false [.int .i64 c])] [] H := (St.start1 (S := fun t => t = n) hnl hc rfl).sg
    have l0 : ldC 0 0 (.cells 0 3 (0,0) false [.int .i64 c]) = some (.int .i64 c) := by rw [ldC_cells]; rfl
    simp only [L52,e1,e2,e3,e4,less_spec _ _ k2,hl,ld1_ptr,hc,l0,purK_some,resK_some,condK_true,retK_two,bin_add,nilChk_ptr]
    refine s.st1 0 rfl rfl (show 0 < 1 by decide) fun H2 s2 z2 f2 => ?_
    try simp only [purK_some,resK_some,boolK_some,condK_true,condK_false,wantV_tt,wantV_tf,wantV_ft,wantV_ff,wantV_t,wantV_f,wantV_skip,Bool.not_true,Bool.not_false,gPur_true,gPur_false,gEff_true,gEff_false,gRes_true,gRes_false,pickA_true,pickA_false,extA_0,extA_1,extA_2,retK_one,retK_none,retK_two,valK_fn,valR_fn,cnd_true,cnd_false,bin_add,bin_sub,bin_mul,bin_eql,bin_neq,bin_lss,bin_leq,bin_gtr,bin_geq,bin_seql,bin_sneq,un_not_t,un_not_f,un_not,cvI_int,cvT_str,nilChk_ptr,nilChk_xp,addA_ptr,lenT_str,Bool.true_or,Bool.or_true,Bool.false_or,Bool.or_false,Bool.true_and,Bool.and_true,Bool.false_and,Bool.and_false,decide_true,decide_false,Int.reduceEq,Int.reduceLT,Int.reduceLE,Int.reduceNe,Int.reduceAdd,Int.reduceSub,Int.reduceMul,Int.reduceNeg,List.nil_append,List.append_nil,List.cons_append]
    exact .intro ⟨Or.inr rfl,⟨s2.lt' 0 rfl,_,s2.at 0 rfl⟩,f2⟩
theorem med_spec (u v w n : Nat) (hu : u < d.size) (hv : v < d.size) (hw : w < d.size) (h : TS H x d) (hn : Cnt H n) (hx : ¬ x.lies n) (hk : 10 ≤ k) :
    Ret (fun r H' => (∃ m : Nat,r = .int .i64 m ∧ (m = u ∨ m = v ∨ m = w)) ∧ Cnt H' n ∧ Fr (fun t => t = n) H H') (evCall (cx ρ) k 0 48 [x,.int .i64 u,.int .i64 v,.int .i64 w,.ptr n 0 0] H) := by
  obtain ⟨k,rfl⟩ : ∃ q,k = q + 1 := ⟨k - 1,by omega⟩
  have k5 : 5 ≤ k := by omega
  have keep : ∀ {H1 H2 : Heap},TS H1 x d → Fr (fun t => t = n) H1 H2 → TS H2 x d := fun h1 f => h1.frame _ f fun l hl e => hx (e ▸ hl)
  rw [E48]
  simp only [L48]
  refine Ret.bind (ord_spec u v n hu hv h hn k5) ?_
  have one : ∀ (p q : Nat) (H1 : Heap),p < d.size → q < d.size → (p = u ∨ p = v) → (q = u ∨ q = v) → Cnt H1 n → Fr (fun t => t = n) H H1 →
      Ret (fun r H' => (∃ m : Nat,r = .int .i64 m ∧ (m = u ∨ m = v ∨ m = w)) ∧ Cnt H' n ∧ Fr (fun t => t = n) H H') (resK (evCall (cx ρ) k 0 52 [x,.int .i64 q,.int .i64 w,.ptr n 0 0] H1) fun x24 H =>
        purK (extA 0 x24) fun x25 => purK (extA 1 x24) fun x26 => resK (evCall (cx ρ) k 0 52 [x,.int .i64 p,x25,.ptr n 0 0] H) fun x32 H => purK (extA 0 x32) fun x33 => purK (extA 1 x32) fun x34 => N48_1 ρ (evCall (cx ρ) k) (evCY (cx ρ) k).2 0 k x34 H retK) := by
    intro p q H1 hp hq pu qu c1 f1
    have h1 := keep h f1
    refine Ret.bind (ord_spec q w n hq hw h1 c1 k5) ?_
    have two : ∀ (r : Nat) (H2 : Heap),r < d.size → (r = u ∨ r = v ∨ r = w) → Cnt H2 n → Fr (fun t => t = n) H H2 →
        Ret (fun r H' => (∃ m : Nat,r = .int .i64 m ∧ (m = u ∨ m = v ∨ m = w)) ∧ Cnt H' n ∧ Fr (fun t => t = n) H H') (resK (evCall (cx ρ) k 0 52 [x,.int .i64 p,.int .i64 r,.ptr n 0 0] H2) fun x32 H => purK (extA 0 x32) fun x33 => purK (extA 1 x32) fun x34 => N48_1 ρ (evCall (cx ρ) k) (evCY (cx ρ) k).2 0 k x34 H retK) := by
      intro r H2 hr ru c2 f2
      refine Ret.bind (ord_spec p r n hp hr (keep h f2) c2 k5) ?_
      rintro y H3 ⟨(rfl | rfl),c3,f3⟩
      · simp only [N48_1,purK_some,extA_0,extA_1,retK_one]
        exact .intro ⟨⟨r,rfl,ru⟩,c3,f2.trans f3⟩
      · simp only [N48_1,purK_some,extA_0,extA_1,retK_one]
        exact .intro ⟨⟨p,rfl,pu.elim Or.inl fun q => Or.inr (Or.inl q)⟩,c3,f2.trans f3⟩
    rintro y H2 ⟨(rfl | rfl),c2,f2⟩
    · simp only [purK_some,extA_0,extA_1]
      exact two q H2 hq (qu.elim Or.inl fun q => Or.inr (Or.inl q)) c2 (f1.trans f2)
    · simp only [purK_some,extA_0,extA_1]
      exact two w H2 hw (Or.inr (Or.inr rfl)) c2 (f1.trans f2)
  rintro y H1 ⟨(rfl | rfl),c1,f1⟩
  · simp only [purK_some,extA_0,extA_1]
    exact one u v H1 hu hv (Or.inl rfl) (Or.inr rfl) c1 f1
  · simp only [purK_some,extA_0,extA_1]
    exact one v u H1 hv hu (Or.inr rfl) (Or.inl rfl) c1 f1
theorem madj_spec (u n : Nat) (h1 : 1 ≤ u) (hu : u + 1 < d.size) (hsz : d.size < 2305843009213693952) (h : TS H x d) (hn : Cnt H n) (hx : ¬ x.lies n) (hk : 20 ≤ k) :
    Ret (fun r H' => (∃ m : Nat,r = .int .i64 m ∧ u - 1 ≤ m ∧ m ≤ u + 1) ∧ Cnt H' n ∧ Fr (fun t => t = n) H H') (evCall (cx ρ) k 0 47 [x,.int .i64 u,.ptr n 0 0] H) := by
  obtain ⟨k,rfl⟩ : ∃ q,k = q + 1 := ⟨k - 1,by omega⟩
  have y1 : u < 9223372036854775808 := by omega
  have y2 : u + 1 < 9223372036854775808 := by omega
  have w1 : wrapK .i64 ((u : Int) - 1) = ((u - 1 : Nat) : Int) := wrap_predN u h1 y1
  have w2 : wrapK .i64 ((u : Int) + 1) = ((u + 1 : Nat) : Int) := wrap_succN u y2
  rw [E47]
  simp only [L47,w1,w2,purK_some,retK_one,bin_add,bin_sub]
  clear w1 w2
  refine Ret.bind (med_spec (u - 1) u (u + 1) n (by omega) (by omega) hu h hn hx (by omega)) ?_
  rintro y H1 ⟨⟨m,rfl,hm⟩,c1,f1⟩
  try simp only [purK_some,resK_some,boolK_some,condK_true,condK_false,wantV_tt,wantV_tf,wantV_ft,wantV_ff,wantV_t,wantV_f,wantV_skip,Bool.not_true,Bool.not_false,gPur_true,gPur_false,gEff_true,gEff_false,gRes_true,gRes_false,pickA_true,pickA_false,extA_0,extA_1,extA_2,retK_one,retK_none,retK_two,valK_fn,valR_fn,cnd_true,cnd_false,bin_add,bin_sub,bin_mul,bin_eql,bin_neq,bin_lss,bin_leq,bin_gtr,bin_geq,bin_seql,bin_sneq,un_not_t,un_not_f,un_not,cvI_int,cvT_str,nilChk_ptr,nilChk_xp,addA_ptr,lenT_str,Bool.true_or,Bool.or_true,Bool.false_or,Bool.or_false,Bool.true_and,Bool.and_true,Bool.false_and,Bool.and_false,decide_true,decide_false,Int.reduceEq,Int.reduceLT,Int.reduceLE,Int.reduceNe,Int.reduceAdd,Int.reduceSub,Int.reduceMul,Int.reduceNeg,List.nil_append,List.append_nil,List.cons_append]
  exact .intro ⟨⟨m,rfl,by omega,by omega⟩,c1,f1⟩
/-- A pivot within the part. -/
theorem piv_spec (a b : Nat) (hab : a + 12 < b) (hb : b ≤ d.size) (hsz : d.size < 2305843009213693952) (h : TS H x d) (hk : 30 ≤ k) :
    Ret (fun r H' => (∃ (p : Nat) (t : Int),r = .tup [.int .i64 p,.int .i64 t] ∧ a ≤ p ∧ p < b) ∧ Fr Nop H H') (evCall (cx ρ) k 0 35 [x,.int .i64 a,.int .i64 b] H) := by
  obtain ⟨k,rfl⟩ : ∃ q,k = q + 1 := ⟨k - 1,by omega⟩
  have n4 : (4 : Int) ≠ 0 := by decide
  obtain ⟨l,hl⟩ : ∃ l,l = (b - a) / 4 := ⟨_,rfl⟩
  have y0 : a ≤ b := by omega
  have y1 : b < 9223372036854775808 := by omega
  have w0 : wrapK .i64 ((b : Int) - (a : Int)) = ((b - a : Nat) : Int) := wrap_subN b a y0 y1
  have wq : wrapK .i64 (((b - a : Nat) : Int).tdiv 4) = (l : Int) := by
    have : (((b - a : Nat) : Int).tdiv 4) = (((b - a) / 4 : Nat) : Int) := rfl
    rw [this,hl]; exact wrap_nat _ (by omega)
  have y2 : a + l * 1 < 9223372036854775808 := by clear w0 wq; omega
  have y3 : a + l * 2 < 9223372036854775808 := by clear w0 wq; omega
  have y4 : a + l * 3 < 9223372036854775808 := by clear w0 wq; omega
  have m1 : wrapK .i64 ((l : Int) * 1) = ((l * 1 : Nat) : Int) := wrap_mulN l 1 (by clear w0 wq; omega)
  have m2 : wrapK .i64 ((l : Int) * 2) = ((l * 2 : Nat) : Int) := wrap_mulN l 2 (by clear w0 wq m1; omega)
  have m3 : wrapK .i64 ((l : Int) * 3) = ((l * 3 : Nat) : Int) := wrap_mulN l 3 (by clear w0 wq m1 m2; omega)
  have p1 : wrapK .i64 ((a : Int) + ((l * 1 : Nat) : Int)) = ((a + l * 1 : Nat) : Int) := wrap_addN _ _ y2
  have p2 : wrapK .i64 ((a : Int) + ((l * 2 : Nat) : Int)) = ((a + l * 2 : Nat) : Int) := wrap_addN _ _ y3
  have p3 : wrapK .i64 ((a : Int) + ((l * 3 : Nat) : Int)) = ((a + l * 3 : Nat) : Int) := wrap_addN _ _ y4
  rw [E35]
  simp only [L35,w0,purK_some,bin_sub]
  refine (St.start Nop H).sg.newP fun n H1 s1 z1 f1 => ?_
  simp only [bin_quo _ _ _ _ _ _ n4,wq,m1,m2,m3,p1,p2,p3,purK_some,bin_add,bin_mul]
  clear w0 wq m1 m2 m3 p1 p2 p3
  have hc1 : Cnt H1 n := ⟨s1.lt' 0 rfl,0,s1.at 0 rfl⟩
  have hx : ¬ x.lies n := fun q => by have := h.lt n q; omega
  have h1 := h.frame Nop f1 fun _ _ q => q
  have keep : ∀ {H1 H2 : Heap},TS H1 x d → Fr (fun t => t = n) H1 H2 → TS H2 x d := fun h1 f => h1.frame _ f fun l hl e => hx (e ▸ hl)
  have c8 : (8 : Int) ≤ ((b - a : Nat) : Int) := by omega
  -- the end
  have last : ∀ (p : Nat) (H2 : Heap),a ≤ p → p < b → Cnt H2 n → Fr Nop H H2 → Ret (fun r H' => (∃ (p : Nat) (t : Int),r = .tup [.int .i64 p,.int .i64 t] ∧ a ≤ p ∧ p < b) ∧ Fr Nop H H') (N35_2 ρ (evCall (cx ρ) k) (evCY (cx ρ) k).2 0 k (.ptr n 0 0) (.int .i64 p) H2 retK) := by
    intro p H2 hp1 hp2 hc f2
    obtain ⟨_,c,hc⟩ := hc
    have l0 : ldC 0 0 (.cells 0 3 (0,0) false [.int .i64 c]) = some (.int .i64 c) := by rw [ldC_cells]; rfl
    by_cases q0 : c = 0
    · simp only [N35_2,N35_3,ld1_ptr,hc,q0,retK_two]
      exact .intro ⟨⟨p,1,rfl,hp1,hp2⟩,f2⟩
    by_cases q1 : c = 12
    · simp only [N35_2,N35_3,ld1_ptr,hc,q1,retK_two]
      exact .intro ⟨⟨p,2,rfl,hp1,hp2⟩,f2⟩
    · simp only [N35_2,N35_3,ld1_ptr,hc,l0,q0,q1,purK_some,condK_false,retK_two,bin_eql,decide_false]
      exact .intro ⟨⟨p,0,rfl,hp1,hp2⟩,f2⟩
  have mid : ∀ (i j r : Nat) (H2 : Heap),a ≤ i → i < b → a ≤ j → j < b → a ≤ r → r < b → TS H2 x d → Cnt H2 n → Fr Nop H H2 → Ret (fun r H' => (∃ (p : Nat) (t : Int),r = .tup [.int .i64 p,.int .i64 t] ∧ a ≤ p ∧ p < b) ∧ Fr Nop H H')
      (N35_4 ρ (evCall (cx ρ) k) (evCY (cx ρ) k).2 0 k x (.ptr n 0 0) (.int .i64 i) (.int .i64 j) (.int .i64 r) H2 fun x9 x11 H => N35_2 ρ (evCall (cx ρ) k) (evCY (cx ρ) k).2 0 k x9 x11 H retK) := by
    intro i j r H2 i1 i2 j1 j2 r1 r2 hT hc f2
    simp only [N35_4]
    refine Ret.bind (med_spec i j r n (by omega) (by omega) (by omega) hT hc hx (by omega)) ?_
    rintro y H3 ⟨⟨m,rfl,hm⟩,c3,f3⟩
    exact last m H3 (by omega) (by omega) c3 (f2.trans' f3 fun l hl e => by omega)
  by_cases c50 : 50 ≤ b - a
  · have c50' : (50 : Int) ≤ ((b - a : Nat) : Int) := by omega
    simp only [N35_1,c8,c50',purK_some,condK_true,bin_geq,decide_true]
    refine Ret.bind (madj_spec (a + l * 1) n (by omega) (by omega) hsz h1 hc1 hx (by omega)) ?_
    rintro y H2 ⟨⟨i,rfl,hi⟩,c2,f2⟩
    have h2 := keep h1 f2
    try simp only [purK_some,resK_some,boolK_some,condK_true,condK_false,wantV_tt,wantV_tf,wantV_ft,wantV_ff,wantV_t,wantV_f,wantV_skip,Bool.not_true,Bool.not_false,gPur_true,gPur_false,gEff_true,gEff_false,gRes_true,gRes_false,pickA_true,pickA_false,extA_0,extA_1,extA_2,retK_one,retK_none,retK_two,valK_fn,valR_fn,cnd_true,cnd_false,bin_add,bin_sub,bin_mul,bin_eql,bin_neq,bin_lss,bin_leq,bin_gtr,bin_geq,bin_seql,bin_sneq,un_not_t,un_not_f,un_not,cvI_int,cvT_str,nilChk_ptr,nilChk_xp,addA_ptr,lenT_str,Bool.true_or,Bool.or_true,Bool.false_or,Bool.or_false,Bool.true_and,Bool.and_true,Bool.false_and,Bool.and_false,decide_true,decide_false,Int.reduceEq,Int.reduceLT,Int.reduceLE,Int.reduceNe,Int.reduceAdd,Int.reduceSub,Int.reduceMul,Int.reduceNeg,List.nil_append,List.append_nil,List.cons_append]
    refine Ret.bind (madj_spec (a + l * 2) n (by omega) (by omega) hsz h2 c2 hx (by omega)) ?_
    rintro y H3 ⟨⟨j,rfl,hj⟩,c3,f3⟩
    have h3 := keep h2 f3
    try simp only [purK_some,resK_some,boolK_some,condK_true,condK_false,wantV_tt,wantV_tf,wantV_ft,wantV_ff,wantV_t,wantV_f,wantV_skip,Bool.not_true,Bool.not_false,gPur_true,gPur_false,gEff_true,gEff_false,gRes_true,gRes_false,pickA_true,pickA_false,extA_0,extA_1,extA_2,retK_one,retK_none,retK_two,valK_fn,valR_fn,cnd_true,cnd_false,bin_add,bin_sub,bin_mul,bin_eql,bin_neq,bin_lss,bin_leq,bin_gtr,bin_geq,bin_seql,bin_sneq,un_not_t,un_not_f,un_not,cvI_int,cvT_str,nilChk_ptr,nilChk_xp,addA_ptr,lenT_str,Bool.true_or,Bool.or_true,Bool.false_or,Bool.or_false,Bool.true_and,Bool.and_true,Bool.false_and,Bool.and_false,decide_true,decide_false,Int.reduceEq,Int.reduceLT,Int.reduceLE,Int.reduceNe,Int.reduceAdd,Int.reduceSub,Int.reduceMul,Int.reduceNeg,List.nil_append,List.append_nil,List.cons_append]
    refine Ret.bind (madj_spec (a + l * 3) n (by omega) (by omega) hsz h3 c3 hx (by omega)) ?_
    rintro y H4 ⟨⟨r,rfl,hr⟩,c4,f4⟩
    try simp only [purK_some,resK_some,boolK_some,condK_true,condK_false,wantV_tt,wantV_tf,wantV_ft,wantV_ff,wantV_t,wantV_f,wantV_skip,Bool.not_true,Bool.not_false,gPur_true,gPur_false,gEff_true,gEff_false,gRes_true,gRes_false,pickA_true,pickA_false,extA_0,extA_1,extA_2,retK_one,retK_none,retK_two,valK_fn,valR_fn,cnd_true,cnd_false,bin_add,bin_sub,bin_mul,bin_eql,bin_neq,bin_lss,bin_leq,bin_gtr,bin_geq,bin_seql,bin_sneq,un_not_t,un_not_f,un_not,cvI_int,cvT_str,nilChk_ptr,nilChk_xp,addA_ptr,lenT_str,Bool.true_or,Bool.or_true,Bool.false_or,Bool.or_false,Bool.true_and,Bool.and_true,Bool.false_and,Bool.and_false,decide_true,decide_false,Int.reduceEq,Int.reduceLT,Int.reduceLE,Int.reduceNe,Int.reduceAdd,Int.reduceSub,Int.reduceMul,Int.reduceNeg,List.nil_append,List.append_nil,List.cons_append]
    exact mid i j r H4 (by omega) (by omega) (by omega) (by omega) (by omega) (by omega) (keep h3 f4) c4 (f1.trans' ((f2.trans f3).trans f4) fun l hl e => by omega)
  · have c50' : ¬ (50 : Int) ≤ ((b - a : Nat) : Int) := by omega
    simp only [N35_1,c8,c50',purK_some,condK_true,condK_false,bin_geq,decide_true,decide_false]
    exact mid _ _ _ H1 (by omega) (by omega) (by omega) (by omega) (by omega) (by omega) h1 hc1 f1
/-- A random number. -/
def Rnd (H : Heap) (n : Nat) : Prop := n < H.sz ∧ ∃ c : Int,H.get n = .cells 0 96 (0,0) false [.int .u64 c]
theorem next_spec (n : Nat) (hn : Rnd H n) (hk : 1 ≤ k) : Ret (fun r H' => (∃ c : Int,r = .int .u64 c) ∧ Rnd H' n ∧ Fr (fun t => t = n) H H') (evCall (cx ρ) k 0 46 [.ptr n 0 0] H) := by
  obtain ⟨k,rfl⟩ : ∃ q,k = q + 1 := ⟨k - 1,by omega⟩
  obtain ⟨hnl,c,hc⟩ := hn
  have s : Sg (fun t => t = n) H [(n,.cells 0 96 (0,0) false [.int .u64 c])] [] H := (St.start1 (S := fun t => t = n) hnl hc rfl).sg
  have l0 : ∀ c : Int,ldC 0 0 (.cells 0 96 (0,0) false [.int .u64 c]) = some (.int .u64 c) := fun c => by rw [ldC_cells]; rfl
  have z13 : (0 : Int) ≤ 13 := by decide
  have z7 : (0 : Int) ≤ 7 := by decide
  have z17 : (0 : Int) ≤ 17 := by decide
  rw [E46]
  simp only [L46,ld1_ptr,hc,l0,bin_shl _ _ _ _ _ _ _ z13,bin_xor,purK_some,nilChk_ptr]
  generalize Go.bits .xor .u64 c _ = c1
  refine s.st1 0 rfl rfl (show 0 < 1 by decide) fun H2 s2 z2 f2 => ?_
  have g2 : H2.get n = .cells 0 96 (0,0) false [.int .u64 c1] := s2.at 0 rfl
  simp only [g2,l0,bin_shr _ _ _ _ _ _ _ z7,bin_xor,purK_some]
  generalize Go.bits .xor .u64 c1 _ = c2
  refine s2.st1 0 rfl rfl (show 0 < 1 by decide) fun H3 s3 z3 f3 => ?_
  have g3 : H3.get n = .cells 0 96 (0,0) false [.int .u64 c2] := s3.at 0 rfl
  simp only [g3,l0,bin_shl _ _ _ _ _ _ _ z17,bin_xor,purK_some]
  generalize Go.bits .xor .u64 c2 _ = c3
  refine s3.st1 0 rfl rfl (show 0 < 1 by decide) fun H4 s4 z4 f4 => ?_
  have g4 : H4.get n = .cells 0 96 (0,0) false [.int .u64 c3] := s4.at 0 rfl
  simp only [N46_1,ld1_ptr,g4,l0,purK_some,retK_one,nilChk_ptr]
  exact .intro ⟨⟨c3,rfl⟩,⟨s4.lt' 0 rfl,c3,g4⟩,(f2.trans f3).trans f4⟩
/-- The least power of two above a number. -/
theorem npt_spec (l : Nat) (hl : l < 2305843009213693952) (hk : 5 ≤ k) : evCall (cx ρ) k 0 45 [.int .i64 l] H = .done (.int .u64 ((2 ^ bitsLen l : Nat) : Int),H) := by
  obtain ⟨k,rfl⟩ : ∃ q,k = q + 1 := ⟨k - 1,by omega⟩
  have h61 : (2 : Nat) ^ 61 = 2305843009213693952 := by decide
  have hb : bitsLen l ≤ 61 := (Go.Sort.bitsLen_le_iff l 61).2 (by rw [h61]; exact hl)
  have w1 : wrapK .u64 (l : Int) = (l : Int) := wrap_u64 _ (by omega)
  have z0 : (0 : Int) ≤ ((bitsLen l : Nat) : Int) := by omega
  have e0 : min (((bitsLen l : Nat) : Int)).toNat IntKind.u64.bits = bitsLen l := by
    have : IntKind.u64.bits = 64 := rfl
    omega
  have hp : 2 ^ bitsLen l ≤ 2 ^ 61 := Nat.pow_le_pow_right (by decide) hb
  have w2 : wrapK .u64 (1 * 2 ^ bitsLen l) = ((2 ^ bitsLen l : Nat) : Int) := by
    have e1 : (1 * 2 ^ bitsLen l : Int) = ((2 ^ bitsLen l : Nat) : Int) := by norm_cast; omega
    rw [e1]
    rw [h61] at hp
    generalize 2 ^ bitsLen l = q at hp ⊢
    exact wrap_u64 _ (by omega)
  rw [E45]
  have hk2 : 2 ≤ k := by clear w1 w2; omega
  have hl2 : l < 18446744073709551616 := by clear w1 w2; omega
  simp only [L45,w1,len_spec l hl2 hk2,bin_shl _ _ _ _ _ _ _ z0,e0,w2,purK_some,resK_some,retK_one,cvI_int]
theorem and_le (r : Int) (M : Nat) (hM : M < 18446744073709551616) : ∃ q : Nat,Go.bits .and .u64 r (M : Int) = (q : Int) ∧ q ≤ M := by
  refine ⟨(BitVec.ofInt 64 r &&& BitVec.ofInt 64 (M : Int)).toNat,and_bv _ _,?_⟩
  rw [BitVec.toNat_and,bv_of (show U64 (M : Int) by unfold U64; omega)]
  exact Nat.and_le_right
/-- Patterns are broken: a part is shuffled. -/
theorem brk_spec (a b : Nat) (hab : a ≤ b) (hb : b ≤ d.size) (hsz : d.size < 2305843009213693952) (h : TS H x d) (hk : 30 ≤ k) :
    Ret (fun v H' => ∃ d',TS H' x d' ∧ PermIn a b d d' ∧ Fr x.lies H H') (evCall (cx ρ) k 0 34 [x,.int .i64 a,.int .i64 b] H) := by
  obtain ⟨k,rfl⟩ : ∃ q,k = q + 1 := ⟨k - 1,by omega⟩
  have y1 : b < 9223372036854775808 := by omega
  obtain ⟨l,hl⟩ : ∃ l,l = b - a := ⟨_,rfl⟩
  have w0 : wrapK .i64 ((b : Int) - (a : Int)) = (l : Int) := by rw [hl]; exact wrap_subN b a hab y1
  rw [E34]
  by_cases c8 : 8 ≤ l
  · have c8' : (8 : Int) ≤ (l : Int) := by clear w0; omega
    have hl61 : l < 2305843009213693952 := by clear w0; omega
    have y2 : (0 : Int) ≤ (l : Int) ∧ (l : Int) < 18446744073709551616 := by clear w0; omega
    have w1 : wrapK .u64 (l : Int) = (l : Int) := wrap_u64 _ y2
    have n4 : (4 : Int) ≠ 0 := by decide
    obtain ⟨q,hq⟩ : ∃ q,q = l / 4 * 2 := ⟨_,rfl⟩
    have y3 : l / 4 < 9223372036854775808 := by clear w0 w1; omega
    have wq : wrapK .i64 ((l : Int).tdiv 4) = ((l / 4 : Nat) : Int) := by
      have : ((l : Int).tdiv 4) = ((l / 4 : Nat) : Int) := rfl
      rw [this]; exact wrap_nat _ y3
    have y4 : l / 4 * 2 < 9223372036854775808 := by clear w0 w1 wq; omega
    have wm : wrapK .i64 (((l / 4 : Nat) : Int) * 2) = (q : Int) := by rw [hq]; exact wrap_mulN (l / 4) 2 y4
    have y5 : a + q < 9223372036854775808 := by clear w0 w1 wq wm; omega
    have wa : wrapK .i64 ((a : Int) + (q : Int)) = ((a + q : Nat) : Int) := wrap_addN a q y5
    have y6 : 1 ≤ a + q := by clear w0 w1 wq wm wa; omega
    have ws : wrapK .i64 (((a + q : Nat) : Int) - 1) = ((a + q - 1 : Nat) : Int) := wrap_predN _ y6 y5
    have y7 : a + q + 1 < 9223372036854775808 := by clear w0 w1 wq wm wa ws; omega
    have wp : wrapK .i64 (((a + q : Nat) : Int) + 1) = ((a + q + 1 : Nat) : Int) := wrap_succN _ y7
    have k5 : 5 ≤ k := by clear w0 w1 wq wm wa ws wp; omega
    simp only [L34,w0,c8',w1,purK_some,condK_true,retK_none,bin_sub,bin_geq,cvI_int,decide_true]
    refine (St.start Nop H).sg.newP fun n H1 s1 z1 f1 => ?_
    refine s1.st1 0 rfl rfl (show 0 < 1 by decide) fun H2 s2 z2 f2 => ?_
    have hr2 : Rnd H2 n := ⟨s2.lt' 0 rfl,_,s2.at 0 rfl⟩
    have hx : ¬ x.lies n := fun q => by have := h.lt n q; clear w0 w1 wq wm wa ws wp; omega
    have h2 := h.frame Nop s2.fr fun _ _ q => q
    simp only [npt_spec l hl61 k5,bin_quo _ _ _ _ _ _ n4,wq,wm,wa,ws,N34_1,N34_2,purK_some,resK_some,bin_add,bin_sub,bin_mul]
    obtain ⟨M,hM⟩ : ∃ M,M = 2 ^ bitsLen l := ⟨_,rfl⟩
    have hM2 : M ≤ 2 * l := by rw [hM]; exact Go.Sort.two_pow_bitsLen_le (by clear w0 w1 wq wm wa ws wp; omega)
    have hM1 : 1 ≤ M := by rw [hM]; exact Nat.one_le_two_pow
    rw [← hM]
    have y8 : (0 : Int) ≤ (M : Int) - 1 ∧ (M : Int) - 1 < 18446744073709551616 := by clear w0 w1 wq wm wa ws wp; omega
    have wM : wrapK .u64 ((M : Int) - 1) = ((M - 1 : Nat) : Int) := by rw [wrap_u64 _ y8]; clear w0 w1 wq wm wa ws wp; omega
    have y9 : M - 1 < 18446744073709551616 := by clear w0 w1 wq wm wa ws wp wM; omega
    have fb : a + q + 2 ≤ b := by clear w0 w1 wq wm wa ws wp wM; omega
    have k9 : 9 ≤ k := by clear w0 w1 wq wm wa ws wp wM; omega
    refine Ret.loop (fun m y H' => ∃ (t : Nat) (e : DA),y = .int .i64 ((a + q - 1 + t : Nat) : Int) ∧ m = 3 - t ∧ t ≤ 3 ∧ TS H' x e ∧ PermIn a b d e ∧ Rnd H' n ∧ Fr x.lies H H') ?_ 3 k _ H2 ⟨0,d,rfl,rfl,by decide,h2,Go.Sort.permIn_refl d a b,hr2,s2.fr.mono fun _ _ q => q.elim⟩ (by clear w0 w1 wq wm wa ws wp wM; omega)
    rintro m y H3 kn ⟨t,e,rfl,hm,ht,hT,hP,hR,fr⟩ next
    have hes : e.size = d.size := hP.1
    by_cases c : t < 3
    · have c' : ((a + q - 1 + t : Nat) : Int) ≤ ((a + q + 1 : Nat) : Int) := by clear w0 w1 wq wm wa ws wp wM; omega
      simp only [N34_2b,bin_quo _ _ _ _ _ _ n4,wq,wm,wa,wp,c',purK_some,condK_true,retK_none,bin_add,bin_sub,bin_mul,bin_leq,decide_true]
      refine Ret.bind (next_spec n hR (by clear w0 w1 wq wm wa ws wp wM; omega)) ?_
      rintro v H4 ⟨⟨r,rfl⟩,hR4,f4⟩
      obtain ⟨o,ho1,ho2⟩ := and_le r (M - 1) y9
      have hT4 : TS H4 x e := hT.frame _ f4 fun l hl q => hx (q ▸ hl)
      have y10 : o < 9223372036854775808 := by clear w0 w1 wq wm wa ws wp wM; omega
      have wo : wrapK .i64 (o : Int) = (o : Int) := wrap_nat o y10
      have fr4 : Fr x.lies H H4 := fr.trans' f4 fun l hl q => by clear w0 w1 wq wm wa ws wp wM wo; omega
      -- the exchange
      have sw : ∀ o2 : Nat,o2 < l → Ret (fun v H' => ∃ d',TS H' x d' ∧ PermIn a b d d' ∧ Fr x.lies H H') (N34_4 ρ (evCall (cx ρ) k) (evCY (cx ρ) k).2 0 k x (.int .i64 a) (.int .i64 l) (.ptr n 0 0) (.int .u64 M) (.int .i64 ((a + q - 1 + t : Nat) : Int)) (.int .i64 o2) H4 fun x9_1 H => N34_3 ρ (evCall (cx ρ) k) (evCY (cx ρ) k).2 0 k x (.int .i64 a) (.int .i64 l) (.ptr n 0 0) (.int .u64 M) x9_1 H fun x9 H => kn x9 H) := by
        clear w0 w1 wq wm wa ws wp wM wo
        intro o2 ho
        have i1 : a ≤ a + q - 1 + t := by omega
        have i2 : a + q - 1 + t < b := by omega
        have i3 : a + q - 1 + t < e.size := by omega
        have j1 : a ≤ a + o2 := by omega
        have j2 : a + o2 < b := by omega
        have j3 : a + o2 < e.size := by omega
        have j4 : a + o2 < 9223372036854775808 := by omega
        have be : b ≤ e.size := by omega
        have mm : 3 - (t + 1) < m := by omega
        have tt : t + 1 ≤ 3 := by omega
        have i4 : a + q - 1 + t + 1 < 9223372036854775808 := by omega
        have hne : ∀ l,x.lies l → ¬ l = n := fun l hl e => hx (e ▸ hl)
        have e1 := ts_ix hT4 (a + q - 1 + t) i3
        have e2 := ts_ld (ρ := ρ) hT4 (a + q - 1 + t) i3
        have e3 := ts_ix hT4 (a + o2) j3
        have e4 := ts_ld (ρ := ρ) hT4 (a + o2) j3
        have wo2 : wrapK .i64 ((a : Int) + (o2 : Int)) = ((a + o2 : Nat) : Int) := wrap_addN a o2 j4
        simp only [N34_4,wo2,e1,e2,e3,e4,purK_some,bin_add,Bool.and_true]
        refine ts_st hT4 (a + q - 1 + t) i3 _ fun H5 s5 f5 => ?_
        have n5 := ts_ix s5 (a + o2) (by simpa using j3)
        simp only [agI,cnd_true]
        clear wo2
        refine ts_st s5 (a + o2) (by simpa using j3) _ fun H6 s6 f6 => ?_
        have s6' : TS H6 x (swp e (a + q - 1 + t) (a + o2)) := s6
        have fr56 := f5.trans f6
        have hR6 : Rnd H6 n := by
          obtain ⟨g1,c,g2⟩ := hR4
          exact ⟨Nat.lt_of_lt_of_le g1 fr56.sz,c,by rw [fr56.get n g1 hx]; exact g2⟩
        have wi : wrapK .i64 (((a + q - 1 + t : Nat) : Int) + 1) = ((a + q - 1 + t + 1 : Nat) : Int) := wrap_succN _ i4
        simp only [N34_3,wi,purK_some,bin_add]
        clear wi
        exact next _ _ H6 mm ⟨t + 1,_,rfl,rfl,tt,s6',Go.Sort.permIn_trans _ _ _ a b hP (Go.Sort.swp_permIn e a b _ _ i1 i2 j1 j2 be),hR6,fr4.trans fr56⟩
      by_cases co : l ≤ o
      · have co' : (l : Int) ≤ (o : Int) := by clear w0 w1 wq wm wa ws wp wM wo; omega
        have wl : wrapK .i64 ((o : Int) - (l : Int)) = ((o - l : Nat) : Int) := wrap_subN o l co y10
        simp only [bin_and,wM,ho1,wo,co',wl,purK_some,condK_true,bin_sub,bin_geq,cvI_int,decide_true]
        exact sw (o - l) (by clear w0 w1 wq wm wa ws wp wM wo wl; omega)
      · have co' : ¬ (l : Int) ≤ (o : Int) := by clear w0 w1 wq wm wa ws wp wM wo; omega
        simp only [bin_and,wM,ho1,wo,co',purK_some,condK_false,bin_sub,bin_geq,cvI_int,decide_false]
        exact sw o (by clear w0 w1 wq wm wa ws wp wM wo; omega)
    · have c' : ¬ ((a + q - 1 + t : Nat) : Int) ≤ ((a + q + 1 : Nat) : Int) := by clear w0 w1 wq wm wa ws wp wM; omega
      simp only [N34_2b,bin_quo _ _ _ _ _ _ n4,wq,wm,wa,wp,c',purK_some,condK_false,retK_none,bin_add,bin_sub,bin_mul,bin_leq,decide_false]
      exact .intro ⟨e,hT,hP,fr⟩
  · have c8' : ¬ (8 : Int) ≤ (l : Int) := by clear w0; omega
    simp only [L34,w0,c8',purK_some,condK_false,retK_none,bin_sub,bin_geq,cvI_int,decide_false]
    exact .intro ⟨d,h,Go.Sort.permIn_refl d a b,Fr.refl ..⟩
end
end Go.Proofs.Ytkmohjddojpdjab
