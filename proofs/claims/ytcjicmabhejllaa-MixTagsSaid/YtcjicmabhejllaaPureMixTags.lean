/- MixTags: of any two numbers it is told whether they lead to one bucket with one tag. Conditions: none beyond Go's own kinds of the arguments. -/
import Derived.Test.YtcjicmabhejllaaPMixTagsx2
import Derived.Test.YtcjicmabhejllaaBits
namespace Go.Proofs.Ytcjicmabhejllaa.Pure
open Go.RowKit Go.Proofs.Ytcjicmabhejllaa.PMixTags Go.Proofs.YtcjicmabhejllaaW.PrintWords Go.Proofs.YtcjicmabhejllaaW.PrintLast Go.Proofs.YtcjicmabhejllaaBits

theorem bound64 {a : Int} (h : (Lit.int .u64 a).wf = true) : 0 ≤ a ∧ a < 18446744073709551616 := by
  simp only [Lit.wf, IntKind.min, IntKind.max, IntKind.signed, IntKind.bits, Bool.and_eq_true] at h
  simp at h; omega

theorem lift {α : Type} (f : Nat → Option α) (h : ∀ k, LeO (f k) (f (k + 1))) {r : α} (k d : Nat) (hk : f k = some r) : f (k + d) = some r := by
  induction d with
  | zero => exact hk
  | succ d ih => exact h _ _ ih

theorem may_in : ∀ n : Nat, n < 1025 → mix_May.f (n : Int) = haycroftref03_May.f 20 (n : Int) := by decide +kernel

theorem pow_in : ∀ n : Nat, n < 1025 → mix_May.f (n : Int) = some true → n = 1 ∨ n = 2 ∨ n = 4 ∨ n = 8 ∨ n = 16 ∨ n = 32 ∨ n = 64 ∨ n = 128 ∨ n = 256 ∨ n = 512 ∨ n = 1024 := by decide +kernel

theorem may_some : ∀ n : Nat, n < 1025 → (mix_May.f (n : Int)).isSome = true := by decide +kernel

theorem may_out (n : Int) (h : n < 1 ∨ 1024 < n) : mix_May.f n = some false := by
  unfold mix_May.f
  rcases h with h | h
  · rw [if_neg (by omega)]
  · rw [if_pos (by omega), if_neg (by omega)]

theorem ref_out (n : Int) (h : n < 1 ∨ 1024 < n) : haycroftref03_May.f 20 n = some false := by
  unfold haycroftref03_May.f
  have w : ∀ x : Int, 0 ≤ x → x ≤ 2000 → wrap64 (x * 2) = x * 2 := fun x a b => by unfold wrap64; omega
  simp only [haycroftref03_May.l0]
  rw [if_pos (by omega), if_neg (by omega), w _ (by omega) (by omega)]
  rw [if_pos (by omega), if_neg (by omega), w _ (by omega) (by omega)]
  rw [if_pos (by omega), if_neg (by omega), w _ (by omega) (by omega)]
  rw [if_pos (by omega), if_neg (by omega), w _ (by omega) (by omega)]
  rw [if_pos (by omega), if_neg (by omega), w _ (by omega) (by omega)]
  rw [if_pos (by omega), if_neg (by omega), w _ (by omega) (by omega)]
  rw [if_pos (by omega), if_neg (by omega), w _ (by omega) (by omega)]
  rw [if_pos (by omega), if_neg (by omega), w _ (by omega) (by omega)]
  rw [if_pos (by omega), if_neg (by omega), w _ (by omega) (by omega)]
  rw [if_pos (by omega), if_neg (by omega), w _ (by omega) (by omega)]
  rw [if_pos (by omega), if_neg (by omega), w _ (by omega) (by omega)]
  rw [if_neg (by omega)]

/-- Both ask the same of a number. -/
theorem may_same (n : Int) (d : Nat) : ∃ b, mix_May.f n = some b ∧ haycroftref03_May.f (20 + d) n = some b ∧ (b = true → n = 1 ∨ n = 2 ∨ n = 4 ∨ n = 8 ∨ n = 16 ∨ n = 32 ∨ n = 64 ∨ n = 128 ∨ n = 256 ∨ n = 512 ∨ n = 1024) := by
  by_cases h : n < 1 ∨ 1024 < n
  · exact ⟨false, may_out n h, lift (fun k => haycroftref03_May.f k n) (haycroftref03_May.mono n) 20 d (ref_out n h), fun h => by cases h⟩
  · obtain ⟨m, rfl⟩ := Int.eq_ofNat_of_zero_le (show 0 ≤ n by omega)
    have hm : m < 1025 := by omega
    obtain ⟨b, hb⟩ := Option.isSome_iff_exists.1 (may_some m hm)
    refine ⟨b, hb, lift (fun k => haycroftref03_May.f k m) (haycroftref03_May.mono m) 20 d ((may_in m hm).symm.trans hb), fun e => ?_⟩
    have := pow_in m hm (e ▸ hb)
    omega

theorem mask (x : Nat) (i : Nat) (hx : x < 18446744073709551616) (hi : i ≤ 10) (m : Int) (hm : m = ((2 ^ i - 1 : Nat) : Int)) : Go.bits .and .u64 (x : Int) m = ((x % 2 ^ i : Nat) : Int) := by
  subst hm
  have : 2 ^ i ≤ 2 ^ 10 := Nat.pow_le_pow_right (by omega) hi
  rw [u64_and_nat x _ hx (by omega), Nat.and_two_pow_sub_one_eq_mod]

theorem low_small (a n : Int) (n0 : 0 < n) (n1 : n ≤ 1024) : wrap64 (a % n) = a % n := by
  have := Int.emod_nonneg a (show n ≠ 0 by omega)
  have := Int.emod_lt_of_pos a n0
  unfold wrap64; omega

theorem mask_mod (a : Int) (a0 : 0 ≤ a) (a1 : a < 18446744073709551616) (n : Int) (hn : n = 1 ∨ n = 2 ∨ n = 4 ∨ n = 8 ∨ n = 16 ∨ n = 32 ∨ n = 64 ∨ n = 128 ∨ n = 256 ∨ n = 512 ∨ n = 1024) :
    wrap64 (Go.bits .and .u64 a (IntKind.u64.wrap (wrap64 (n - 1)))) = a % n := by
  obtain ⟨x, rfl⟩ := Int.eq_ofNat_of_zero_le a0
  have hx : x < 18446744073709551616 := by omega
  have key : ∀ i : Nat, i ≤ 10 → n = ((2 ^ i : Nat) : Int) → wrap64 (Go.bits .and .u64 (x : Int) (IntKind.u64.wrap (wrap64 (n - 1)))) = (x : Int) % n := by
    intro i hi e
    have h2 : 2 ^ i ≤ 2 ^ 10 := Nat.pow_le_pow_right (by omega) hi
    have h1 : 0 < 2 ^ i := Nat.two_pow_pos i
    have e1 : IntKind.u64.wrap (wrap64 (n - 1)) = ((2 ^ i - 1 : Nat) : Int) := by
      rw [u64w]; unfold wrap64; omega
    rw [e1, mask x i hx hi _ rfl, e, Int.natCast_emod]
    exact low_small _ _ (by omega) (by omega)
  rcases hn with h | h | h | h | h | h | h | h | h | h | h
  · exact key 0 (by omega) h
  · exact key 1 (by omega) h
  · exact key 2 (by omega) h
  · exact key 3 (by omega) h
  · exact key 4 (by omega) h
  · exact key 5 (by omega) h
  · exact key 6 (by omega) h
  · exact key 7 (by omega) h
  · exact key 8 (by omega) h
  · exact key 9 (by omega) h
  · exact key 10 (by omega) h

/-- A bucket: among so many, the rest; else 0. -/
theorem bucket_same (a n : Int) (d : Nat) (a0 : 0 ≤ a) (a1 : a < 18446744073709551616) :
    ∃ b, mix_May.f n = some b ∧ mix_Bucket.f a n = some (if b = true then a % n else 0) ∧ haycroftref03_Bucket.f (20 + d) a n = some (if b = true then a % n else 0)
      ∧ (b = true → n = 1 ∨ n = 2 ∨ n = 4 ∨ n = 8 ∨ n = 16 ∨ n = 32 ∨ n = 64 ∨ n = 128 ∨ n = 256 ∨ n = 512 ∨ n = 1024) := by
  obtain ⟨b, h1, h2, h3⟩ := may_same n d
  refine ⟨b, h1, ?_, ?_, h3⟩
  · unfold mix_Bucket.f
    rw [h1]; simp only [Option.bind_some]
    cases b with
    | false => simp
    | true => simp only [if_true]; rw [mask_mod a a0 a1 n (h3 rfl)]
  · unfold haycroftref03_Bucket.f
    rw [h2]; simp only [Option.bind_some]
    cases b with
    | false => simp
    | true =>
      simp only [if_true]
      have hn := h3 rfl
      have hw : IntKind.u64.wrap n = n := by rw [u64w]; omega
      rw [hw, if_neg (by omega), Int.tmod_eq_emod_of_nonneg a0, low_small a n (by omega) (by omega)]

theorem tag_same (a : Int) (a0 : 0 ≤ a) (a1 : a < 18446744073709551616) : mix_Tag.f a = some (a / 1125899906842624) ∧ haycroftref03_Tag.f a = some (a / 1125899906842624) := by
  have hd := Int.ediv_nonneg a0 (show (0 : Int) ≤ 1125899906842624 by omega)
  have hl : a / 1125899906842624 < 16384 := by omega
  constructor
  · have e1 : field_Right.f 50 14 = some true := by decide +kernel
    have e2 : field_Most.f 14 = some 16383 := by decide +kernel
    have e3 : shr .u64 a 50 = a / 1125899906842624 := rfl
    unfold mix_Tag.f field_Get.f
    rw [e1]; simp only [Option.bind_some, if_true]
    rw [if_pos (by omega), e2, e3]; simp only [Option.bind_some]
    obtain ⟨x, hx⟩ := Int.eq_ofNat_of_zero_le hd
    have hm : (16383 : Int) = ((2 ^ 14 - 1 : Nat) : Int) := rfl
    rw [hx, hm, u64_and_nat x _ (by omega) (by omega), Nat.and_two_pow_sub_one_eq_mod, Nat.mod_eq_of_lt (by omega)]
  · unfold haycroftref03_Tag.f
    rw [shr_tdiv a a0 a1 _ (by omega)]

theorem awake_f (d : Nat) : haycroftlaw03_awake.f (20 + d) = some true :=
  lift (fun k => haycroftlaw03_awake.f k) (haycroftlaw03_awake.mono) 20 d (by decide +kernel)

theorem half_mod (a : Int) (n : Int) (hn : n = 1 ∨ n = 2 ∨ n = 4 ∨ n = 8 ∨ n = 16 ∨ n = 32 ∨ n = 64 ∨ n = 128 ∨ n = 256 ∨ n = 512 ∨ n = 1024) (h1 : n ≠ 1) : n / 2 ≠ 0 ∧ a % (n / 2) = (a % n) % (n / 2) := by
  rcases hn with h | h | h | h | h | h | h | h | h | h | h <;> subst h <;> omega

theorem half_pow (n : Int) (hn : n = 1 ∨ n = 2 ∨ n = 4 ∨ n = 8 ∨ n = 16 ∨ n = 32 ∨ n = 64 ∨ n = 128 ∨ n = 256 ∨ n = 512 ∨ n = 1024) (h1 : n ≠ 1) : ∃ m : Nat, m < 1025 ∧ n / 2 = (m : Int) ∧ mix_May.f (m : Int) = some true := by
  rcases hn with h | h | h | h | h | h | h | h | h | h | h <;> subst h
  · exact absurd rfl h1
  · exact ⟨1, by omega, rfl, by decide +kernel⟩
  · exact ⟨2, by omega, rfl, by decide +kernel⟩
  · exact ⟨4, by omega, rfl, by decide +kernel⟩
  · exact ⟨8, by omega, rfl, by decide +kernel⟩
  · exact ⟨16, by omega, rfl, by decide +kernel⟩
  · exact ⟨32, by omega, rfl, by decide +kernel⟩
  · exact ⟨64, by omega, rfl, by decide +kernel⟩
  · exact ⟨128, by omega, rfl, by decide +kernel⟩
  · exact ⟨256, by omega, rfl, by decide +kernel⟩
  · exact ⟨512, by omega, rfl, by decide +kernel⟩

theorem rest_f (k : Nat) (a n : Int) (a0 : 0 ≤ a) (a1 : a < 18446744073709551616) : haycroftlaw03_MixTags.j0 (k + 1) a n false = some true := by
  simp only [haycroftlaw03_MixTags.j0]
  rw [if_neg (by simp)]
  obtain ⟨b, h1, h2, _, h4⟩ := bucket_same a n 0 a0 a1
  rw [h1]; simp only [Option.bind_some]
  cases b with
  | false => simp
  | true =>
    simp only [if_true] at h2 ⊢
    by_cases e : n = 1
    · rw [if_pos e]
    · rw [if_neg e]
      have hn := h4 rfl
      have hw : wrap64 (Int.tdiv n 2) = n / 2 := by rw [Int.tdiv_eq_ediv_of_nonneg (by omega)]; unfold wrap64; omega
      rw [hw, h2]
      obtain ⟨hz, hm⟩ := half_mod a n hn e
      obtain ⟨m, _, he, hmay⟩ := half_pow n hn e
      obtain ⟨b', g1, g2, _, _⟩ := bucket_same a (n / 2) 0 a0 a1
      have hb : b' = true := by rw [he, hmay] at g1; exact (Option.some.inj g1).symm
      subst hb
      simp only [if_true] at g2
      rw [g2]; simp only [Option.bind_some]
      rw [if_neg hz, Int.tmod_eq_emod_of_nonneg (Int.emod_nonneg a (by omega)), hm]
      simp

theorem MixTags : haycroftlaw03_MixTags.Pure := by
  intro a b n ha hb hn
  obtain ⟨a0, a1⟩ := bound64 ha
  obtain ⟨b0, b1⟩ := bound64 hb
  refine ⟨20 + 0, ?_⟩
  unfold haycroftlaw03_MixTags.f
  rw [awake_f]; simp only [Option.bind_some, if_true]
  obtain ⟨m, hm, hb1, hb2, _⟩ := bucket_same a n 0 a0 a1
  obtain ⟨m', hm', hc1, hc2, _⟩ := bucket_same b n 0 b0 b1
  have hbb : m' = m := by rw [hm] at hm'; exact (Option.some.inj hm').symm
  subst hbb
  obtain ⟨t1, t2⟩ := tag_same a a0 a1
  obtain ⟨t3, t4⟩ := tag_same b b0 b1
  unfold mix_Same.f
  rw [hb1, hb2, hc1, hc2, t1, t2, t3, t4]
  simp only [Option.bind_some]
  by_cases e : (if m' = true then a % n else 0) = (if m' = true then b % n else 0)
  · rw [if_pos e]; simp only [Option.bind_some]; rw [if_pos e, bne_self_eq_false]
    exact rest_f 19 a n a0 a1
  · rw [if_neg e]; simp only [Option.bind_some]; rw [if_neg e, bne_self_eq_false]
    exact rest_f 19 a n a0 a1

end Go.Proofs.Ytcjicmabhejllaa.Pure
