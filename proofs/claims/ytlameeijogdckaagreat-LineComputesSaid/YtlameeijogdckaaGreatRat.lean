/-
  Plain laws on rational numbers: numerator and denominator of sums, products, quotients; the greatest common divisor of two rational numbers. No program is in sight here.
-/
namespace Go.Proofs.YtlameeijogdckaaGreat

theorem mk_den (z : Int) {m : Nat} (hm : m ≠ 0) : (mkRat z m).den = m / Nat.gcd z.natAbs m := by
  rw [Rat.den_mkRat, if_neg hm, Nat.gcd_comm]
theorem mk_num (z : Int) {m : Nat} (hm : m ≠ 0) : (mkRat z m).num = z / ((Nat.gcd z.natAbs m : Nat) : Int) := by
  rw [Rat.num_mkRat, if_neg hm, Nat.gcd_comm]
theorem int_div_abs (z : Int) (g : Nat) (h : g ∣ z.natAbs) : (z / (g : Int)).natAbs = z.natAbs / g := by
  rcases Nat.eq_zero_or_pos g with h0 | h0
  · subst h0; simp
  · obtain ⟨k, hk⟩ := h
    have : z = (g : Int) * k ∨ z = -((g : Int) * k) := by
      rcases Int.natAbs_eq z with e | e
      · left; rw [e, hk]; simp
      · right; rw [e, hk]; simp
    have hg : (g : Int) ≠ 0 := by omega
    rw [hk, Nat.mul_div_cancel_left _ h0]
    rcases this with e | e
    · rw [e, Int.mul_ediv_cancel_left _ hg]; simp
    · rw [e, show -((g : Int) * k) = (g : Int) * (-(k : Int)) by simp [Int.mul_neg], Int.mul_ediv_cancel_left _ hg]; simp
theorem mk_abs (z : Int) {m : Nat} (hm : m ≠ 0) : (mkRat z m).num.natAbs = z.natAbs / Nat.gcd z.natAbs m := by
  rw [mk_num z hm, int_div_abs _ _ (Nat.gcd_dvd_left _ _)]
theorem mk_neg (z : Int) {m : Nat} (hm : m ≠ 0) : (mkRat z m).num < 0 ↔ z < 0 := by
  rw [mk_num z hm]
  have hg : 0 < Nat.gcd z.natAbs m := Nat.gcd_pos_of_pos_right _ (Nat.pos_of_ne_zero hm)
  constructor
  · intro h
    rcases Int.lt_or_le z 0 with h' | h'
    · exact h'
    · have := Int.ediv_nonneg h' (show (0 : Int) ≤ ((Nat.gcd z.natAbs m : Nat) : Int) by omega); omega
  · intro h
    exact Int.ediv_neg_of_neg_of_pos h (by omega)
theorem mk_eq0 (z : Int) {m : Nat} (hm : m ≠ 0) : mkRat z m = 0 ↔ z = 0 := by
  rw [Rat.mkRat_eq_zero hm]
theorem mk_zero (m : Nat) : mkRat 0 m = 0 := by simp
theorem mk_one (z : Int) : mkRat z 1 = (z : Rat) := Rat.mkRat_one z
theorem rat_add_mk (x y : Rat) : x + y = mkRat (x.num * (y.den : Int) + y.num * (x.den : Int)) (x.den * y.den) := by
  rw [Rat.add_def, Rat.normalize_eq_mkRat]
theorem rat_mul_mk (x y : Rat) : x * y = mkRat (x.num * y.num) (x.den * y.den) := by
  rw [Rat.mul_def, Rat.normalize_eq_mkRat]
theorem rat_add1 {x y : Rat} (hx : x.den = 1) (hy : y.den = 1) : x + y = ((x.num + y.num : Int) : Rat) := by
  rw [rat_add_mk, hx, hy, ← mk_one]; simp
theorem rat_mul1 {x y : Rat} (hx : x.den = 1) (hy : y.den = 1) : x * y = ((x.num * y.num : Int) : Rat) := by
  rw [rat_mul_mk, hx, hy, ← mk_one]
theorem rat_inv_mk (x : Rat) (h : x ≠ 0) : x⁻¹ = mkRat (if x.num < 0 then -(x.den : Int) else (x.den : Int)) x.num.natAbs := by
  have h0 : x.num ≠ 0 := fun e => h (Rat.num_eq_zero.1 e)
  rw [Rat.inv_def]
  split
  · rename_i hn
    rw [show x.num = -((x.num.natAbs : Nat) : Int) by omega, Rat.divInt_neg']
    rw [Rat.divInt_ofNat]; simp
  · rw [show x.num = ((x.num.natAbs : Nat) : Int) by omega, Rat.divInt_ofNat]; simp
theorem rat_div_mk (x y : Rat) (h : y ≠ 0) : x / y = mkRat (x.num * (if y.num < 0 then -(y.den : Int) else (y.den : Int))) (x.den * y.num.natAbs) := by
  have h0 : y.num ≠ 0 := fun e => h (Rat.num_eq_zero.1 e)
  rw [Rat.div_def, rat_inv_mk y h]
  conv => lhs; rw [← Rat.mkRat_self x]
  rw [Rat.mkRat_mul_mkRat]
theorem inv_num (x : Rat) : (x⁻¹).num = x.num.sign * x.den := Rat.num_inv x
theorem inv_den {x : Rat} (h : x.num ≠ 0) : (x⁻¹).den = x.num.natAbs := by rw [Rat.den_inv, if_neg h]
/-- The sign of a rational number. -/
def rsgn (x : Rat) : Int := if x.num < 0 then -1 else if x.num = 0 then 0 else 1
/-- How two rational numbers compare. -/
def rcmp (x y : Rat) : Int := rsgn (x - y)
theorem den_pos' (x : Rat) : 0 < x.den := Nat.pos_of_ne_zero x.den_nz
theorem sub_same_den {x y : Rat} (h : x.den = y.den) : rcmp x y = if x.num < y.num then -1 else if x.num = y.num then 0 else 1 := by
  unfold rcmp rsgn
  have hd := den_pos' y
  have e : x - y = mkRat ((x.num - y.num) * (y.den : Int)) (y.den * y.den) := by
    rw [Rat.sub_eq_add_neg, rat_add_mk, Rat.neg_num, Rat.neg_den, h]
    congr 1; rw [Int.sub_mul, Int.neg_mul]; omega
  have hdd : y.den * y.den ≠ 0 := Nat.mul_ne_zero (by omega) (by omega)
  rw [e]
  have h1 := mk_neg ((x.num - y.num) * (y.den : Int)) hdd
  have h2 := mk_eq0 ((x.num - y.num) * (y.den : Int)) hdd
  rw [← Rat.num_eq_zero] at h2
  have h3 : (x.num - y.num) * (y.den : Int) < 0 ↔ x.num < y.num := by
    constructor
    · intro h'
      rcases Int.lt_or_le x.num y.num with h'' | h''
      · exact h''
      · have := Int.mul_nonneg (show 0 ≤ x.num - y.num by omega) (show (0 : Int) ≤ y.den by omega); omega
    · intro h'; exact Int.mul_neg_of_neg_of_pos (by omega) (by omega)
  have h4 : (x.num - y.num) * (y.den : Int) = 0 ↔ x.num = y.num := by
    rw [Int.mul_eq_zero]; omega
  simp only [h1, h2, h3, h4]
theorem rsgn_zero {x : Rat} : rsgn x = 0 ↔ x = 0 := by
  unfold rsgn
  rw [← Rat.num_eq_zero]
  split
  · omega
  · split <;> omega
theorem rsgn_neg {x : Rat} : rsgn x < 0 ↔ x < 0 := by
  unfold rsgn
  rw [show x < 0 ↔ x.num < 0 by rw [← Rat.not_le, ← Rat.num_nonneg]; omega]
  split
  · omega
  · split <;> omega
theorem rsgn_pos {x : Rat} : 0 < rsgn x ↔ 0 < x := by
  unfold rsgn
  have e : 0 < x ↔ 0 < x.num := by
    have := @Rat.neg_le_neg_iff 0 x
    rw [show (-0 : Rat) = 0 from rfl] at this
    rw [← Rat.not_le, ← this, ← Rat.num_nonneg, Rat.neg_num]; omega
  rw [e]
  split
  · omega
  · split <;> omega
theorem rsgn_cases (x : Rat) : (rsgn x = -1 ∧ x < 0) ∨ (rsgn x = 0 ∧ x = 0) ∨ (rsgn x = 1 ∧ 0 < x) := by
  have h1 := @rsgn_neg x
  have h2 := @rsgn_zero x
  have h3 := @rsgn_pos x
  have h4 : rsgn x = -1 ∨ rsgn x = 0 ∨ rsgn x = 1 := by unfold rsgn; split; (left; rfl); split; (right; left; rfl); (right; right; rfl)
  rcases h4 with e | e | e
  · left; exact ⟨e, h1.1 (by omega)⟩
  · right; left; exact ⟨e, h2.1 e⟩
  · right; right; exact ⟨e, h3.1 (by omega)⟩
/-- The greatest number of which both are integer multiples. -/
def rgcd (x y : Rat) : Rat := mkRat ((Nat.gcd (x.num.natAbs * y.den) (y.num.natAbs * x.den) : Nat) : Int) (x.den * y.den)
theorem rgcd1 {x y : Rat} (hx : x.den = 1) (hy : y.den = 1) : rgcd x y = ((Nat.gcd x.num.natAbs y.num.natAbs : Nat) : Int) := by
  unfold rgcd; rw [hx, hy, ← mk_one]; simp
theorem floor_eq (x : Rat) : x.floor = x.num / (x.den : Int) := Rat.floor_def x
end Go.Proofs.YtlameeijogdckaaGreat
