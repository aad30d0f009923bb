/-
  Contracts of nat.Mul and num.Product: the product, in new memory.
-/
import Derived.Test.YtnkfbkdcplbgoaaDoorSub
namespace Go.Proofs.YtnkfbkdcplbgoaaDoor
open Go.RowKit

theorem mul_int {x y : Nat} (hx : x < 4294967296) (hy : y < 4294967296) : (0 : Int) ≤ (x : Int) * (y : Int) ∧ (x : Int) * (y : Int) ≤ 18446744065119617025 := by
  have h : x * y ≤ 4294967295 * 4294967295 := Nat.mul_le_mul (by omega) (by omega)
  rw [← Int.natCast_mul]
  omega
theorem mul_step {L : List Nat} {V i k c x y T m : Nat} (hi : i + m ≤ L.length) (hk : k < m) (hdL : Dig L) (hx : x < 4294967296) (hy : y < 4294967296) (hc : c < 4294967296)
    (hz : ∀ j, i + m ≤ j → L.getD j 0 = 0) (z : Nat) (hgz : L.getD (i + k) 0 = z) (h : val L + 4294967296 ^ (i + k) * c = V + 4294967296 ^ i * (x * T)) :
    Dig (L.set (i + k) ((c + x * y + z) % 4294967296)) ∧ (c + x * y + z) / 4294967296 < 4294967296 ∧ (∀ j, i + m ≤ j → (L.set (i + k) ((c + x * y + z) % 4294967296)).getD j 0 = 0) ∧
      val (L.set (i + k) ((c + x * y + z) % 4294967296)) + 4294967296 ^ (i + (k + 1)) * ((c + x * y + z) / 4294967296) = V + 4294967296 ^ i * (x * (T + 4294967296 ^ k * y)) := by
  subst hgz
  have hz' := dig_get hdL (i + k)
  have hb := mul_bound hx hy hc hz'
  exact ⟨dig_set hdL _ (by omega), by omega, fun j hj => by rw [set_getD_ne _ _ _ _ (by omega)]; exact hz j hj, mul_round (by omega) h⟩
theorem mul_last {L : List Nat} {A b i m c x : Nat} (hL : i + m < L.length) (hz : ∀ j, i + m ≤ j → L.getD j 0 = 0)
    (h : val L + 4294967296 ^ (i + m) * c = A * b + 4294967296 ^ i * (x * b)) :
    (∀ j, i + 1 + m ≤ j → (L.set (i + m) c).getD j 0 = 0) ∧ val (L.set (i + m) c) = (A + 4294967296 ^ i * x) * b := by
  refine ⟨fun j hj => by rw [set_getD_ne _ _ _ _ (by omega)]; exact hz j (by omega), ?_⟩
  rw [last_carry hL (hz _ (Nat.le_refl _)), h, mul_outer rfl]

end Go.Proofs.YtnkfbkdcplbgoaaDoor
