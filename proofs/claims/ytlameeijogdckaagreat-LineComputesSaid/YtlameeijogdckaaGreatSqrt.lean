/-
  Contract of nat.Sqrt: the greatest number whose square is at most a.
-/
import Derived.Test.YtlameeijogdckaaGreatLong
namespace Go.Proofs.YtlameeijogdckaaGreat
open Go.RowKit

/-- r is the root of m. -/
def IsRoot (m r : Nat) : Prop := r * r ≤ m ∧ m < (r + 1) * (r + 1)
theorem isRoot_one {m r s : Nat} (h : IsRoot m r) (k : IsRoot m s) : r = s := by
  rcases Nat.lt_trichotomy r s with h1 | h1 | h1
  · exfalso
    have := Nat.mul_le_mul (show r + 1 ≤ s from h1) (show r + 1 ≤ s from h1)
    have := h.2; have := k.1; omega
  · exact h1
  · exfalso
    have := Nat.mul_le_mul (show s + 1 ≤ r from h1) (show s + 1 ≤ r from h1)
    have := h.1; have := k.2; omega
theorem nbits_lt (m : Nat) : m < 2 ^ nbits m := by
  by_cases hm : m = 0
  · subst hm; exact Nat.pow_pos (by omega)
  · rw [nbits_pos hm]
    have hp := nf_len_pos hm
    have hd := dig_get (dig_nf m) ((nf m).length - 1)
    have hb := blen_lt (x := (nf m).getD ((nf m).length - 1) 0) (by omega)
    have h1 := val_take_drop (nf m) ((nf m).length - 1) (by omega)
    have h2 := val_lt ((nf m).take ((nf m).length - 1)) (dig_take (dig_nf m) _)
    rw [List.length_take, Nat.min_eq_left (by omega)] at h2
    rw [val_drop_cons _ ((nf m).length - 1) (by omega), List.drop_eq_nil_of_le (by omega), val_nil, val_nf, Nat.mul_zero, Nat.add_zero] at h1
    generalize (nf m).getD ((nf m).length - 1) 0 = x at *
    generalize (nf m).length - 1 = k at *
    have h3 : (4294967296 : Nat) ^ k = 2 ^ (32 * k) := by rw [Nat.pow_mul]
    rw [Nat.pow_add, ← h3]
    have h4 : 4294967296 ^ k * (x + 1) ≤ 4294967296 ^ k * 2 ^ blen x := Nat.mul_le_mul_left _ hb
    rw [Nat.mul_add] at h4
    omega
theorem nbits_le {m c : Nat} (h : (nf m).length ≤ c) : nbits m ≤ 32 * c := by
  unfold nbits
  split
  · omega
  · have := blen_le32 (dig_get (dig_nf m) ((nf m).length - 1))
    have : (nf m).length ≠ 0 := by
      intro h0
      have := nf_eq_nil.1 (List.eq_nil_of_length_eq_zero h0)
      omega
    omega
/-- The first guess is not less than the root. -/
theorem sqrt_start (m : Nat) : m < (2 ^ ((nbits m + 1) / 2) + 1) * (2 ^ ((nbits m + 1) / 2) + 1) := by
  have h1 := nbits_lt m
  have h2 : 2 ^ nbits m ≤ 2 ^ ((nbits m + 1) / 2) * 2 ^ ((nbits m + 1) / 2) := by
    rw [← Nat.pow_add]; exact Nat.pow_le_pow_right (by omega) (by omega)
  have h3 : 2 ^ ((nbits m + 1) / 2) * 2 ^ ((nbits m + 1) / 2) ≤ (2 ^ ((nbits m + 1) / 2) + 1) * (2 ^ ((nbits m + 1) / 2) + 1) := Nat.mul_le_mul (by omega) (by omega)
  omega
theorem sqrt_stop {m x : Nat} (hx : 0 < x) (h : m < (x + 1) * (x + 1)) (hy : x ≤ (x + m / x) / 2) : IsRoot m x := by
  refine ⟨?_, h⟩
  have h1 : x ≤ m / x := by omega
  exact (Nat.le_div_iff_mul_le hx).1 h1
theorem sqrt_next {m x : Nat} (hx : 0 < x) (hm : 0 < m) : 0 < (x + m / x) / 2 ∧ m < ((x + m / x) / 2 + 1) * ((x + m / x) / 2 + 1) := by
  have h1 : m < (m / x + 1) * x := by
    have := Nat.lt_mul_div_succ m hx
    rw [Nat.mul_comm]; exact this
  generalize m / x = q at *
  have h2 : 4 * ((q + 1) * x) ≤ (x + q + 1) * (x + q + 1) := by
    rcases Nat.le_total x (q + 1) with h | h
    · obtain ⟨d, e⟩ := Nat.le.dest h
      have e2 : x + q + 1 = 2 * x + d := by omega
      rw [e2, ← e]
      have a1 : 4 * ((x + d) * x) = 4 * (x * x) + 4 * (x * d) := by rw [Nat.add_mul, Nat.mul_comm d x]; omega
      have a2 : (2 * x + d) * (2 * x + d) = 4 * (x * x) + 4 * (x * d) + d * d := by
        rw [Nat.mul_add, Nat.add_mul, Nat.add_mul, Nat.mul_comm d (2 * x), Nat.mul_assoc 2 x d, Nat.mul_assoc 2 x (2 * x), Nat.mul_left_comm x 2 x]
        omega
      omega
    · obtain ⟨d, e⟩ := Nat.le.dest h
      have e2 : x + q + 1 = 2 * (q + 1) + d := by omega
      rw [e2, ← e]
      generalize q + 1 = y
      have a1 : 4 * (y * (y + d)) = 4 * (y * y) + 4 * (y * d) := by rw [Nat.mul_add]; omega
      have a2 : (2 * y + d) * (2 * y + d) = 4 * (y * y) + 4 * (y * d) + d * d := by
        rw [Nat.mul_add, Nat.add_mul, Nat.add_mul, Nat.mul_comm d (2 * y), Nat.mul_assoc 2 y d, Nat.mul_assoc 2 y (2 * y), Nat.mul_left_comm y 2 y]
        omega
      omega
  have h3 : x + q + 1 ≤ 2 * ((x + q) / 2 + 1) := by omega
  have h4 := Nat.mul_le_mul h3 h3
  generalize (x + q) / 2 = y at *
  have h5 : 2 * (y + 1) * (2 * (y + 1)) = 4 * ((y + 1) * (y + 1)) := by
    rw [Nat.mul_assoc, Nat.mul_left_comm (y + 1) 2 (y + 1)]; omega
  have h6 : m < (y + 1) * (y + 1) := by omega
  refine ⟨?_, h6⟩
  rcases Nat.eq_zero_or_pos y with h0 | h0
  · subst h0; omega
  · exact h0

end Go.Proofs.YtlameeijogdckaaGreat
