/- Plain laws on the bits of uint64, used by the claims of this seat. No condition on any program. -/
import Derived.Laws.BitsAllLaws
import Derived.RowKit
namespace Go.Proofs.YtcjicmabhejllaaBits
open Go.RowKit

theorem u64w (n : Int) : IntKind.u64.wrap n = n % 18446744073709551616 := by simp [IntKind.wrap, IntKind.bits, IntKind.signed]

theorem xor_add_and (a b : BitVec 64) : (a ^^^ b) + (a &&& b) = a ||| b := by
  have h : (a ^^^ b) &&& (a &&& b) = 0#64 := by
    ext i hi
    simp only [BitVec.getElem_and, BitVec.getElem_xor, BitVec.getElem_zero]
    cases a[i] <;> cases b[i] <;> rfl
  rw [BitVec.add_eq_or_of_and_eq_zero _ _ h]
  ext i hi
  simp only [BitVec.getElem_and, BitVec.getElem_xor, BitVec.getElem_or]
  cases a[i] <;> cases b[i] <;> rfl

theorem or_sub_and (a b : BitVec 64) : (a ||| b) - (a &&& b) = a ^^^ b := by
  rw [← xor_add_and, BitVec.add_sub_cancel]

theorem u64_nat (x : BitVec 64) : IntKind.u64.wrap (x.toNat : Int) = x.toNat := by
  have := x.isLt
  rw [u64w]; omega

theorem turn_xor (a b : Int) : IntKind.u64.wrap (Go.bits .or .u64 a b - Go.bits .and .u64 a b) = Go.bits .xor .u64 a b := by
  have h := congrArg BitVec.toNat (or_sub_and (BitVec.ofInt 64 a) (BitVec.ofInt 64 b))
  rw [BitVec.toNat_sub] at h
  have e1 : Go.bits .or .u64 a b = ((BitVec.ofInt 64 a ||| BitVec.ofInt 64 b).toNat : Int) := u64_nat (BitVec.ofInt 64 a ||| BitVec.ofInt 64 b)
  have e2 : Go.bits .and .u64 a b = ((BitVec.ofInt 64 a &&& BitVec.ofInt 64 b).toNat : Int) := u64_nat (BitVec.ofInt 64 a &&& BitVec.ofInt 64 b)
  have e3 : Go.bits .xor .u64 a b = ((BitVec.ofInt 64 a ^^^ BitVec.ofInt 64 b).toNat : Int) := u64_nat (BitVec.ofInt 64 a ^^^ BitVec.ofInt 64 b)
  rw [e1, e2, e3, ← h, u64w]
  have l1 := (BitVec.ofInt 64 a ||| BitVec.ofInt 64 b).isLt
  have l2 := (BitVec.ofInt 64 a &&& BitVec.ofInt 64 b).isLt
  omega

theorem xor_range (a b : Int) : 0 ≤ Go.bits .xor .u64 a b ∧ Go.bits .xor .u64 a b < 18446744073709551616 := by
  show 0 ≤ IntKind.u64.wrap _ ∧ IntKind.u64.wrap _ < _
  rw [u64w]; omega

theorem nat_xor_self {a b : Nat} (h : a ^^^ b = 0) : a = b := by
  have := congrArg (· ^^^ b) h
  simpa [Nat.xor_assoc] using this

theorem xor_zero {a b : Int} (a0 : 0 ≤ a) (a1 : a < 18446744073709551616) (b0 : 0 ≤ b) (b1 : b < 18446744073709551616) (h : Go.bits .xor .u64 a b = 0) : a = b := by
  rw [u64_xor a b a0 a1 b0 b1] at h
  have := nat_xor_self (a := a.toNat) (b := b.toNat) (by omega)
  omega

theorem shr_tdiv (x : Int) (h : 0 ≤ x) (h1 : x < 18446744073709551616) (k : Int) (hk : 0 < k) : IntKind.u64.wrap (Int.tdiv x k) = x / k := by
  rw [u64w, Int.tdiv_eq_ediv_of_nonneg h]
  have := Int.ediv_nonneg h (Int.le_of_lt hk)
  have := Int.ediv_le_self k h
  exact Int.emod_eq_of_lt (by omega) (by omega)

end Go.Proofs.YtcjicmabhejllaaBits
