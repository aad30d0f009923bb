/-
  Integers: the contracts of DivMod and Normal.
  Printed by a small program (mkint2.py).
-/
import Derived.Test.YtlameeijogdckaaGreatInt
namespace Go.Proofs.YtlameeijogdckaaGreat
open Go.RowKit

theorem dm_pos {g2 : Bool} {m n : Nat} : sgn g2 (m / n) = (m : Int) / sgn g2 n ∧ ((m % n : Nat) : Int) = (m : Int) % sgn g2 n := by
  cases g2
  · simp [sgn]
  · simp [sgn, Int.ediv_neg]
theorem dm_neg0 {g2 : Bool} {m n : Nat} (hn : n ≠ 0) (h : m % n = 0) : sgn (!g2) (m / n) = -(m : Int) / sgn g2 n ∧ ((m % n : Nat) : Int) = -(m : Int) % sgn g2 n := by
  have e1 : (m : Int) = n * ((m / n : Nat) : Int) := by
    have := Nat.div_add_mod m n
    rw [h, Nat.add_zero] at this
    rw [← Int.natCast_mul, this]
  have e2 : (-(m : Int)) / (n : Int) = -((m / n : Nat) : Int) ∧ (-(m : Int)) % (n : Int) = 0 := by
    have hu : (-(m : Int)) = (n : Int) * (-((m / n : Nat) : Int)) := by rw [Int.mul_neg, ← e1]
    rw [hu]
    exact ⟨Int.mul_ediv_cancel_left _ (by omega), Int.mul_emod_right _ _⟩
  rw [h]
  cases g2
  · simp only [sgn_false, Bool.not_false, sgn_true]
    exact ⟨e2.1.symm, e2.2.symm⟩
  · simp only [sgn_false, Bool.not_true, sgn_true, Int.ediv_neg, Int.emod_neg]
    exact ⟨by rw [e2.1, Int.neg_neg], e2.2.symm⟩
theorem dm_neg {g2 : Bool} {m n : Nat} (hn : n ≠ 0) (h : m % n ≠ 0) : sgn (!g2) (m / n + 1) = -(m : Int) / sgn g2 n ∧ ((n - m % n : Nat) : Int) = -(m : Int) % sgn g2 n := by
  have hlt := Nat.mod_lt m (Nat.pos_of_ne_zero hn)
  have e1 : (m : Int) = n * ((m / n : Nat) : Int) + ((m % n : Nat) : Int) := by
    have := Nat.div_add_mod m n
    rw [← Int.natCast_mul, ← Int.natCast_add, this]
  generalize m / n = q at *
  generalize m % n = r at *
  have e2 : (-(m : Int)) / (n : Int) = -((q : Int) + 1) ∧ (-(m : Int)) % (n : Int) = (n : Int) - r := by
    refine (Int.ediv_emod_unique (by omega)).2 ⟨?_, by omega, by omega⟩
    rw [e1, Int.mul_neg, Int.mul_add, Int.mul_one]
    omega
  cases g2
  · simp only [sgn_false, Bool.not_false, sgn_true]
    exact ⟨by rw [e2.1]; omega, by rw [e2.2]; omega⟩
  · simp only [sgn_false, Bool.not_true, sgn_true, Int.ediv_neg, Int.emod_neg]
    exact ⟨by rw [e2.1]; omega, by rw [e2.2]; omega⟩
/-- What DivMod returns. -/
def DivZ (w : World) (x y : Int) (k : Nat) (e : Ending) (w' : World) : Prop :=
  ∃ g a l c g2 a2 l2 c2, e = .returned (.tuple #[.agg #[.bool g, .slice a l c], .agg #[.bool g2, .slice a2 l2 c2], .bool (decide (y ≠ 0))]) ∧
    Zz w' g (.slice a l c) (x / y) k ∧ Zz w' g2 (.slice a2 l2 c2) (if y = 0 then 0 else x % y) k ∧ Below w.heap.size w w'
theorem Zz.zero (w : World) (k : Nat) : Zz w false (.slice none 0 0) 0 k := ⟨rfl, Nn.nil w k⟩
theorem sgn_eq0 {g : Bool} {n : Nat} : sgn g n = 0 ↔ n = 0 := by cases g <;> simp [sgn]

end Go.Proofs.YtlameeijogdckaaGreat
