/-
  The reference's Common and Root (package bspregionnum).
-/
import Derived.Test.YtnkfbkdcplbgoaaDoorNumDiv2
namespace Go.Proofs.YtnkfbkdcplbgoaaDoor
open Go.RowKit

theorem gcd_len {m n k : Nat} (h1 : (nf m).length ≤ k) (h2 : (nf n).length ≤ k) : (nf (Nat.gcd m n)).length ≤ k := by
  by_cases h0 : m = 0
  · subst h0; rw [Nat.gcd_zero_left]; exact h2
  · exact len_le (Nat.gcd_le_left _ (Nat.pos_of_ne_zero h0)) h1
theorem root_start (m : Nat) : m < (0 + 2 ^ ((nbits m + 1) / 2 + 1)) * (0 + 2 ^ ((nbits m + 1) / 2 + 1)) := by
  rw [Nat.zero_add, ← Nat.pow_add]
  exact Nat.lt_of_lt_of_le (nbits_lt m) (Nat.pow_le_pow_right (by omega) (by omega))
theorem root_len {r m k : Nat} (h : r * r ≤ m) (hk : (nf m).length ≤ k) : (nf r).length ≤ k := by
  refine len_le ?_ hk
  rcases Nat.eq_zero_or_pos r with h0 | h0
  · omega
  · exact Nat.le_trans (Nat.le_mul_of_pos_left r h0) h
/-- A root is returned. -/
def RetRoot (w : World) (m k : Nat) (e : Ending) (w' : World) : Prop := ∃ r, IsRoot m r ∧ RetN w r k e w'
end Go.Proofs.YtnkfbkdcplbgoaaDoor
