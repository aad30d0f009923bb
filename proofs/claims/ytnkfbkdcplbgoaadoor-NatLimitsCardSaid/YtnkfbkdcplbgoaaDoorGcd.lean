/-
  Contract of nat.Gcd: the greatest common divisor.
-/
import Derived.Test.YtnkfbkdcplbgoaaDoorLong
namespace Go.Proofs.YtnkfbkdcplbgoaaDoor
open Go.RowKit

theorem gcd_small {m : Nat} (h : (nf m).length ≤ 2) : m < 18446744073709551616 := by
  have := lt_of_nf_len h
  omega
theorem gcd_step {p q g : Nat} (hq : q ≠ 0) (h : Nat.gcd p q = g) : Nat.gcd q (p % q) = g ∧ p % q < q := by
  refine ⟨?_, Nat.mod_lt _ (by omega)⟩
  rw [← h, Nat.gcd_comm p q, Nat.gcd_rec q p, Nat.gcd_comm]
end Go.Proofs.YtnkfbkdcplbgoaaDoor
