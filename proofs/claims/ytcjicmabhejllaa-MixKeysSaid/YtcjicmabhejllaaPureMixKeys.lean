/- MixKeys: any key's number, and where it leads among any number of buckets, are the chapter's. Conditions: none beyond Go's own kinds of the arguments. -/
import Derived.Test.YtcjicmabhejllaaPMixKeysx2
import Derived.Test.YtcjicmabhejllaaBits
namespace Go.Proofs.Ytcjicmabhejllaa.Pure
open Go.RowKit Go.Proofs.Ytcjicmabhejllaa.PMixKeys Go.Proofs.YtcjicmabhejllaaW.PrintWords Go.Proofs.YtcjicmabhejllaaW.PrintLast Go.Proofs.YtcjicmabhejllaaBits

theorem bound64 {a : Int} (h : (Lit.int .u64 a).wf = true) : 0 ≤ a ∧ a < 18446744073709551616 := by
  simp only [Lit.wf, IntKind.min, IntKind.max, IntKind.signed, IntKind.bits, Bool.and_eq_true] at h
  simp at h; omega

theorem lift {α : Type} (f : Nat → Option α) (h : ∀ k, LeO (f k) (f (k + 1))) {r : α} (k d : Nat) (hk : f k = some r) : f (k + d) = some r := by
  induction d with
  | zero => exact hk
  | succ d ih => exact h _ _ ih

theorem may_in : ∀ n : Nat, n < 1025 → mix_May.f (n : Int) = haycroftref03_May.f 20 (n : Int) := by decide +kernel

theorem pow_in : ∀ n : Nat, n < 1025 → mix_May.f (n : Int) = some true → n = 1 ∨ n = 2 ∨ n = 4 ∨ n = 8 ∨ n = 16 ∨ n = 32 ∨ n = 64 ∨ n = 128 ∨ n = 256 ∨ n = 512 ∨ n = 1024 := by decide +kernel

theorem may_some : ∀ n : Nat, n < 1025 → (mix_May.f (n : Int)).isSome = true := by decide +kernel

theorem may_out (n : Int) (h : n < 1 ∨ 1024 < n) : mix_May.f n = some false := by
  unfold mix_May.f
  rcases h with h | h
  · rw [if_neg (by omega)]
  · rw [if_pos (by omega), if_neg (by omega)]

theorem ref_out (n : Int) (h : n < 1 ∨ 1024 < n) : haycroftref03_May.f 20 n = some false := by
  unfold haycroftref03_May.f
  have w : ∀ x : Int, 0 ≤ x → x ≤ 2000 → wrap64 (x * 2) = x * 2 := fun x a b => by unfold wrap64; omega
  simp only [haycroftref03_May.l0]
  rw [if_pos (by omega), if_neg (by omega), w _ (by omega) (by omega)]
  rw [if_pos (by omega), if_neg (by omega), w _ (by omega) (by omega)]
  rw [if_pos (by omega), if_neg (by omega), w _ (by omega) (by omega)]
  rw [if_pos (by omega), if_neg (by omega), w _ (by omega) (by omega)]
  rw [if_pos (by omega), if_neg (by omega), w _ (by omega) (by omega)]
  rw [if_pos (by omega), if_neg (by omega), w _ (by omega) (by omega)]
  rw [if_pos (by omega), if_neg (by omega), w _ (by omega) (by omega)]
  rw [if_pos (by omega), if_neg (by omega), w _ (by omega) (by omega)]
  rw [if_pos (by omega), if_neg (by omega), w _ (by omega) (by omega)]
  rw [if_pos (by omega), if_neg (by omega), w _ (by omega) (by omega)]
  rw [if_pos (by omega), if_neg (by omega), w _ (by omega) (by omega)]
  rw [if_neg (by omega)]

/-- Both ask the same of a number. -/
theorem may_same (n : Int) (d : Nat) : ∃ b, mix_May.f n = some b ∧ haycroftref03_May.f (20 + d) n = some b ∧ (b = true → n = 1 ∨ n = 2 ∨ n = 4 ∨ n = 8 ∨ n = 16 ∨ n = 32 ∨ n = 64 ∨ n = 128 ∨ n = 256 ∨ n = 512 ∨ n = 1024) := by
  by_cases h : n < 1 ∨ 1024 < n
  · exact ⟨false, may_out n h, lift (fun k => haycroftref03_May.f k n) (haycroftref03_May.mono n) 20 d (ref_out n h), fun h => by cases h⟩
  · obtain ⟨m, rfl⟩ := Int.eq_ofNat_of_zero_le (show 0 ≤ n by omega)
    have hm : m < 1025 := by omega
    obtain ⟨b, hb⟩ := Option.isSome_iff_exists.1 (may_some m hm)
    refine ⟨b, hb, lift (fun k => haycroftref03_May.f k m) (haycroftref03_May.mono m) 20 d ((may_in m hm).symm.trans hb), fun e => ?_⟩
    have := pow_in m hm (e ▸ hb)
    omega

theorem mask (x : Nat) (i : Nat) (hx : x < 18446744073709551616) (hi : i ≤ 10) (m : Int) (hm : m = ((2 ^ i - 1 : Nat) : Int)) : Go.bits .and .u64 (x : Int) m = ((x % 2 ^ i : Nat) : Int) := by
  subst hm
  have : 2 ^ i ≤ 2 ^ 10 := Nat.pow_le_pow_right (by omega) hi
  rw [u64_and_nat x _ hx (by omega), Nat.and_two_pow_sub_one_eq_mod]

theorem low_small (a n : Int) (n0 : 0 < n) (n1 : n ≤ 1024) : wrap64 (a % n) = a % n := by
  have := Int.emod_nonneg a (show n ≠ 0 by omega)
  have := Int.emod_lt_of_pos a n0
  unfold wrap64; omega

theorem mask_mod (a : Int) (a0 : 0 ≤ a) (a1 : a < 18446744073709551616) (n : Int) (hn : n = 1 ∨ n = 2 ∨ n = 4 ∨ n = 8 ∨ n = 16 ∨ n = 32 ∨ n = 64 ∨ n = 128 ∨ n = 256 ∨ n = 512 ∨ n = 1024) :
    wrap64 (Go.bits .and .u64 a (IntKind.u64.wrap (wrap64 (n - 1)))) = a % n := by
  obtain ⟨x, rfl⟩ := Int.eq_ofNat_of_zero_le a0
  have hx : x < 18446744073709551616 := by omega
  have key : ∀ i : Nat, i ≤ 10 → n = ((2 ^ i : Nat) : Int) → wrap64 (Go.bits .and .u64 (x : Int) (IntKind.u64.wrap (wrap64 (n - 1)))) = (x : Int) % n := by
    intro i hi e
    have h2 : 2 ^ i ≤ 2 ^ 10 := Nat.pow_le_pow_right (by omega) hi
    have h1 : 0 < 2 ^ i := Nat.two_pow_pos i
    have e1 : IntKind.u64.wrap (wrap64 (n - 1)) = ((2 ^ i - 1 : Nat) : Int) := by
      rw [u64w]; unfold wrap64; omega
    rw [e1, mask x i hx hi _ rfl, e, Int.natCast_emod]
    exact low_small _ _ (by omega) (by omega)
  rcases hn with h | h | h | h | h | h | h | h | h | h | h
  · exact key 0 (by omega) h
  · exact key 1 (by omega) h
  · exact key 2 (by omega) h
  · exact key 3 (by omega) h
  · exact key 4 (by omega) h
  · exact key 5 (by omega) h
  · exact key 6 (by omega) h
  · exact key 7 (by omega) h
  · exact key 8 (by omega) h
  · exact key 9 (by omega) h
  · exact key 10 (by omega) h

/-- A bucket: among so many, the rest; else 0. -/
theorem bucket_same (a n : Int) (d : Nat) (a0 : 0 ≤ a) (a1 : a < 18446744073709551616) :
    ∃ b, mix_May.f n = some b ∧ mix_Bucket.f a n = some (if b = true then a % n else 0) ∧ haycroftref03_Bucket.f (20 + d) a n = some (if b = true then a % n else 0)
      ∧ (b = true → n = 1 ∨ n = 2 ∨ n = 4 ∨ n = 8 ∨ n = 16 ∨ n = 32 ∨ n = 64 ∨ n = 128 ∨ n = 256 ∨ n = 512 ∨ n = 1024) := by
  obtain ⟨b, h1, h2, h3⟩ := may_same n d
  refine ⟨b, h1, ?_, ?_, h3⟩
  · unfold mix_Bucket.f
    rw [h1]; simp only [Option.bind_some]
    cases b with
    | false => simp
    | true => simp only [if_true]; rw [mask_mod a a0 a1 n (h3 rfl)]
  · unfold haycroftref03_Bucket.f
    rw [h2]; simp only [Option.bind_some]
    cases b with
    | false => simp
    | true =>
      simp only [if_true]
      have hn := h3 rfl
      have hw : IntKind.u64.wrap n = n := by rw [u64w]; omega
      rw [hw, if_neg (by omega), Int.tmod_eq_emod_of_nonneg a0, low_small a n (by omega) (by omega)]

theorem tag_same (a : Int) (a0 : 0 ≤ a) (a1 : a < 18446744073709551616) : mix_Tag.f a = some (a / 1125899906842624) ∧ haycroftref03_Tag.f a = some (a / 1125899906842624) := by
  have hd := Int.ediv_nonneg a0 (show (0 : Int) ≤ 1125899906842624 by omega)
  have hl : a / 1125899906842624 < 16384 := by omega
  constructor
  · have e1 : field_Right.f 50 14 = some true := by decide +kernel
    have e2 : field_Most.f 14 = some 16383 := by decide +kernel
    have e3 : shr .u64 a 50 = a / 1125899906842624 := rfl
    unfold mix_Tag.f field_Get.f
    rw [e1]; simp only [Option.bind_some, if_true]
    rw [if_pos (by omega), e2, e3]; simp only [Option.bind_some]
    obtain ⟨x, hx⟩ := Int.eq_ofNat_of_zero_le hd
    have hm : (16383 : Int) = ((2 ^ 14 - 1 : Nat) : Int) := rfl
    rw [hx, hm, u64_and_nat x _ (by omega) (by omega), Nat.and_two_pow_sub_one_eq_mod, Nat.mod_eq_of_lt (by omega)]
  · unfold haycroftref03_Tag.f
    rw [shr_tdiv a a0 a1 _ (by omega)]

theorem awake_f (d : Nat) : haycroftlaw03_awake.f (20 + d) = some true :=
  lift (fun k => haycroftlaw03_awake.f k) (haycroftlaw03_awake.mono) 20 d (by decide +kernel)

theorem turn_f (a b : Int) : haycroftref03_Turn.f a b = some (Go.bits .xor .u64 a b) := by
  unfold haycroftref03_Turn.f; rw [turn_xor]

theorem u64_range (n : Int) : 0 ≤ IntKind.u64.wrap n ∧ IntKind.u64.wrap n < 18446744073709551616 := by rw [u64w]; omega

/-- What is done behind the last byte. -/
def ends (h : Int) : Int :=
  let x := Go.bits .xor .u64 h (h / 4294967296)
  let y := IntKind.u64.wrap (x * 15480190943371904987)
  let u := Go.bits .xor .u64 y (y / 4294967296)
  let v := IntKind.u64.wrap (u * 15480190943371904987)
  Go.bits .xor .u64 v (v / 4294967296)

theorem ends_mix (k : Nat) (h : Int) : mix_Key.l1 (k + 4) h 0 = some (ends h) := by
  have w : ∀ x : Int, 0 ≤ x → x ≤ 2000 → wrap64 (x + 1) = x + 1 := fun x a b => by unfold wrap64; omega
  unfold ends
  simp only [mix_Key.l1]
  rw [if_pos (by omega), if_pos (by omega), w _ (by omega) (by omega)]
  rw [if_pos (by omega), if_pos (by omega), w _ (by omega) (by omega)]
  rw [if_pos (by omega), if_neg (by omega), w _ (by omega) (by omega)]
  rw [if_neg (by omega)]

theorem ends_ref (h : Int) (h0 : 0 ≤ h) (h1 : h < 18446744073709551616) : ((haycroftref03_Turn.f h (IntKind.u64.wrap (Int.tdiv h 4294967296))).bind fun t106 => ((haycroftref03_Turn.f (IntKind.u64.wrap (t106 * 15480190943371904987)) (IntKind.u64.wrap (Int.tdiv (IntKind.u64.wrap (t106 * 15480190943371904987)) 4294967296))).bind fun t107 => ((haycroftref03_Turn.f (IntKind.u64.wrap (t107 * 15480190943371904987)) (IntKind.u64.wrap (Int.tdiv (IntKind.u64.wrap (t107 * 15480190943371904987)) 4294967296))).bind fun t108 => (some t108)))) = some (ends h) := by
  simp only [turn_f, Option.bind_some]
  rw [shr_tdiv h h0 h1 _ (by omega), shr_tdiv _ (u64_range _).1 (u64_range _).2 _ (by omega), shr_tdiv _ (u64_range _).1 (u64_range _).2 _ (by omega)]
  rfl

theorem key_same (s : ByteArray) (hs : s.size ≤ 2000) (d : Nat) : ∀ (k j : Nat) (i h : Int), 0 ≤ i → i ≤ s.size → (s.size : Int) - i = d → d < k → d < j → 0 ≤ h → h < 18446744073709551616 →
    ∃ r, mix_Key.l0 (k + 4) s h (s.size : Int) i = some r ∧ haycroftref03_Key.l0 j s h i = some r ∧ 0 ≤ r ∧ r < 18446744073709551616 := by
  induction d with
  | zero =>
    intro k j i h i0 i1 hd hk hj h0 h1
    obtain ⟨k, rfl⟩ : ∃ m, k = m + 1 := ⟨k - 1, by omega⟩
    obtain ⟨j, rfl⟩ : ∃ m, j = m + 1 := ⟨j - 1, by omega⟩
    refine ⟨ends h, ?_, ?_, ?_⟩
    · rw [show k + 1 + 4 = (k + 4) + 1 from by omega]
      simp only [mix_Key.l0]; rw [if_neg (by omega)]; exact ends_mix k h
    · simp only [haycroftref03_Key.l0]; rw [if_neg (by omega)]; exact ends_ref h h0 h1
    · exact xor_range _ _
  | succ d ih =>
    intro k j i h i0 i1 hd hk hj h0 h1
    obtain ⟨k, rfl⟩ : ∃ m, k = m + 1 := ⟨k - 1, by omega⟩
    obtain ⟨j, rfl⟩ : ∃ m, j = m + 1 := ⟨j - 1, by omega⟩
    have hw : wrap64 (i + 1) = i + 1 := by unfold wrap64; omega
    obtain ⟨r, h2, h3, h4⟩ := ih k j (i + 1) (IntKind.u64.wrap (Go.bits .xor .u64 h (IntKind.u64.wrap (bt s i)) * 1099511628211)) (by omega) (by omega) (by omega) (by omega) (by omega) (u64_range _).1 (u64_range _).2
    refine ⟨r, ?_, ?_, h4⟩
    · rw [show k + 1 + 4 = (k + 4) + 1 from by omega]
      simp only [mix_Key.l0]; rw [if_pos (by omega), if_pos (by omega), if_pos (by omega), hw]; exact h2
    · simp only [haycroftref03_Key.l0]; rw [if_pos (by omega), if_pos (by omega), turn_f]; simp only [Option.bind_some]; rw [hw]; exact h3

theorem MixKeys : haycroftlaw03_MixKeys.Pure := by
  intro s n hs hn
  refine ⟨20 + (s.size + 20), ?_⟩
  unfold haycroftlaw03_MixKeys.f
  rw [awake_f]; simp only [Option.bind_some, if_true]
  by_cases h : (s.size : Int) > 2000
  · rw [if_pos h]
  · rw [if_neg h]
    obtain ⟨r, h1, h2, r0, r1⟩ := key_same s (by omega) s.size (s.size + 36) (20 + (s.size + 20)) 0 14695981039346656037 (by omega) (by omega) (by omega) (by omega) (by omega) (by omega) (by omega)
    have e1 : mix_Key.f (20 + (s.size + 20)) s = some r := by unfold mix_Key.f; rw [show 20 + (s.size + 20) = s.size + 36 + 4 from by omega]; exact h1
    have e2 : haycroftref03_Key.f (20 + (s.size + 20)) s = some r := by unfold haycroftref03_Key.f; exact h2
    obtain ⟨b, hm, hb1, hb2, _⟩ := bucket_same r n (s.size + 20) r0 r1
    obtain ⟨b', hm1, hm2, _⟩ := may_same n (s.size + 20)
    have hbb : b' = b := by rw [hm] at hm1; exact (Option.some.inj hm1).symm
    subst hbb
    obtain ⟨t1, t2⟩ := tag_same r r0 r1
    rw [e1, e2, hm, hm2]; simp only [Option.bind_some, if_true]
    rw [hb1, hb2, t1, t2]
    simp

end Go.Proofs.Ytcjicmabhejllaa.Pure
