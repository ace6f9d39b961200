/- BitsP, in plain Lean. -/
import Derived.Test.YtkgajbpkjdmfkaaLoomP
namespace Go.Proofs.Ytkgajbpkjdmfkaa
theorem nat_or_one (n : Nat) : n ||| 1 = n - n % 2 + 1 := by
  apply Nat.eq_of_testBit_eq
  intro i
  rw [Nat.testBit_or]
  cases i with
  | zero =>
    simp [Nat.testBit_zero]
    omega
  | succ i =>
    rw [Nat.testBit_succ, Nat.testBit_succ, Nat.testBit_succ]
    rw [show (n - n % 2 + 1) / 2 = n / 2 from by omega]
    simp
theorem nat_and_even (n : Nat) (hn : n < 18446744073709551616) : n &&& 18446744073709551614 = n - n % 2 := by
  apply Nat.eq_of_testBit_eq
  intro i
  rw [Nat.testBit_and]
  cases i with
  | zero =>
    simp [Nat.testBit_zero]
    omega
  | succ i =>
    rw [Nat.testBit_succ, Nat.testBit_succ, Nat.testBit_succ]
    rw [show (n - n % 2) / 2 = n / 2 from by omega, ← Nat.testBit_and]
    rw [show 18446744073709551614 / 2 = 2 ^ 63 - 1 from rfl, Nat.and_two_pow_sub_one_eq_mod]
    congr 1
    omega
theorem bits_or_one {v : Int} (hv : U64 v) : Go.bits .or .u64 v 1 = v - v % 2 + 1 := by
  unfold U64 at hv
  rw [Go.u64_or v 1 hv.1 (by omega) (by decide) (by decide)]
  show ((v.toNat ||| 1 : Nat) : Int) = _
  rw [nat_or_one]; omega
theorem bits_and_even {v : Int} (hv : U64 v) : Go.bits .and .u64 v 18446744073709551614 = v - v % 2 := by
  unfold U64 at hv
  rw [Go.u64_and v _ hv.1 (by omega) (by decide) (by decide)]
  show ((v.toNat &&& 18446744073709551614 : Nat) : Int) = _
  rw [nat_and_even _ (by omega)]; omega
end Go.Proofs.Ytkgajbpkjdmfkaa
