/-
  Plain laws on the digit loops: one round of addition, subtraction, multiplication, short division and shifting, as statements on lists of digits in base 2^32. No program is in sight here.
-/
import Derived.Test.YtlameeijogdckaaGreatNum
namespace Go.Proofs.YtlameeijogdckaaGreat

/-! ### lists with one digit replaced -/
theorem set_take_le (l : List Nat) (j k d : Nat) (h : k ≤ j) : (l.set j d).take k = l.take k := by
  rw [List.take_set, List.set_eq_of_length_le]
  rw [List.length_take]; omega
theorem set_drop_gt (l : List Nat) (j k d : Nat) (h : j < k) : (l.set j d).drop k = l.drop k := by
  apply List.ext_getElem?
  intro i
  rw [List.getElem?_drop, List.getElem?_drop, List.getElem?_set_ne (by omega)]
theorem set_getD_eq (l : List Nat) (j d : Nat) (h : j < l.length) : (l.set j d).getD j 0 = d := by
  rw [List.getD_eq_getElem?_getD, List.getElem?_set_self h]; rfl
theorem set_getD_ne (l : List Nat) (i j d : Nat) (h : i ≠ j) : (l.set i d).getD j 0 = l.getD j 0 := by
  rw [List.getD_eq_getElem?_getD, List.getElem?_set_ne h, ← List.getD_eq_getElem?_getD]
theorem dig_set {l : List Nat} (h : Dig l) (j : Nat) {d : Nat} (hd : d < 4294967296) : Dig (l.set j d) := by
  intro x hx
  rcases List.mem_or_eq_of_mem_set hx with hx | rfl
  · exact h _ hx
  · exact hd
theorem dig_replicate (n : Nat) : Dig (List.replicate n 0) := by
  intro x hx
  rw [List.eq_of_mem_replicate hx]; omega
theorem val_replicate : ∀ n, val (List.replicate n 0) = 0
  | 0 => rfl
  | n + 1 => by rw [List.replicate_succ, val_cons, val_replicate n]
theorem getD_replicate (n j : Nat) : (List.replicate n 0).getD j 0 = 0 := by
  rw [List.getD_eq_getElem?_getD, List.getElem?_replicate]
  split <;> rfl
/-- The value when digit j is replaced. -/
theorem val_set (l : List Nat) (j d : Nat) (h : j < l.length) : val (l.set j d) + 4294967296 ^ j * l.getD j 0 = val l + 4294967296 ^ j * d := by
  have h1 := val_take_drop l j (by omega)
  have h2 := val_take_drop (l.set j d) j (by simp; omega)
  rw [set_take_le l j j d (Nat.le_refl _)] at h2
  rw [val_drop_cons l j h] at h1
  rw [val_drop_cons (l.set j d) j (by simpa using h), set_getD_eq l j d h, set_drop_gt l j (j + 1) d (by omega)] at h2
  rw [h1, h2, Nat.mul_add, Nat.mul_add]
  omega
theorem val_take_eq_of_drop_zero (l : List Nat) (k : Nat) (h : ∀ j, k ≤ j → l.getD j 0 = 0) : val (l.take k) = val l := by
  suffices ∀ n, ∀ l : List Nat, l.length ≤ n → ∀ k, (∀ j, k ≤ j → l.getD j 0 = 0) → val (l.take k) = val l from this l.length l (Nat.le_refl _) k h
  intro n
  induction n with
  | zero =>
    intro l hl k _
    have : l = [] := List.eq_nil_of_length_eq_zero (by omega)
    subst this; simp
  | succ n ih =>
    intro l hl k h
    cases l with
    | nil => simp
    | cons d l =>
      cases k with
      | zero =>
        have h0 := h 0 (by omega)
        have := ih l (by simpa using hl) 0 (fun j _ => by simpa using h (j + 1) (by omega))
        simp only [List.take_zero, val_nil] at this ⊢
        rw [val_cons, ← this]
        simpa using h0.symm
      | succ k =>
        have := ih l (by simpa using hl) k (fun j hj => by simpa using h (j + 1) (by omega))
        rw [List.take_succ_cons, val_cons, val_cons, this]

/-! ### addition and subtraction -/
theorem pow_succ' (k : Nat) : 4294967296 ^ (k + 1) = 4294967296 * 4294967296 ^ k := by rw [Nat.pow_succ, Nat.mul_comm]

/-- Digit j takes the low part of a sum, the high part is carried on. -/
theorem carry_round {L : List Nat} {j c s t : Nat} (hj : j < L.length) (ht : t = c + s + L.getD j 0) :
    val (L.set j (t % 4294967296)) + 4294967296 ^ (j + 1) * (t / 4294967296) = val L + 4294967296 ^ j * c + 4294967296 ^ j * s := by
  have h1 := val_set L j (t % 4294967296) hj
  have e : 4294967296 ^ j * (t % 4294967296) + 4294967296 ^ (j + 1) * (t / 4294967296) = 4294967296 ^ j * c + 4294967296 ^ j * s + 4294967296 ^ j * L.getD j 0 := by
    rw [Nat.pow_succ, Nat.mul_assoc, ← Nat.mul_add, ← Nat.mul_add, ← Nat.mul_add, ← ht]
    congr 1
    exact Nat.mod_add_div _ _
  omega

/-- Digit j, which was 0, takes a difference, the borrow is carried on. -/
theorem borrow_round {L : List Nat} {A C j c c' d x y : Nat} (hj : j < L.length) (h0 : L.getD j 0 = 0) (h : val L + C = A + 4294967296 ^ j * c) (hd : d + y + c = x + 4294967296 * c') :
    val (L.set j d) + (C + 4294967296 ^ j * y) = (A + 4294967296 ^ j * x) + 4294967296 ^ (j + 1) * c' := by
  have h1 := val_set L j d hj
  rw [h0] at h1
  have e : 4294967296 ^ j * (d + y + c) = 4294967296 ^ j * x + 4294967296 ^ (j + 1) * c' := by
    rw [hd, Nat.mul_add, Nat.pow_succ, Nat.mul_assoc]
  rw [Nat.mul_add, Nat.mul_add] at e
  omega

/-- The last carry: digit j was 0. -/
theorem last_carry {L : List Nat} {j c : Nat} (hj : j < L.length) (h0 : L.getD j 0 = 0) : val (L.set j c) = val L + 4294967296 ^ j * c := by
  have h1 := val_set L j c hj
  rw [h0] at h1
  omega

/-! ### multiplication -/
theorem mul_bound {x y c z : Nat} (hx : x < 4294967296) (hy : y < 4294967296) (hc : c < 4294967296) (hz : z < 4294967296) : c + x * y + z < 18446744073709551616 := by
  have : x * y ≤ 4294967295 * 4294967295 := Nat.mul_le_mul (by omega) (by omega)
  omega
theorem mul_round {L : List Nat} {V i k c x y T : Nat} (hj : i + k < L.length) (h : val L + 4294967296 ^ (i + k) * c = V + 4294967296 ^ i * (x * T)) :
    val (L.set (i + k) ((c + x * y + L.getD (i + k) 0) % 4294967296)) + 4294967296 ^ (i + (k + 1)) * ((c + x * y + L.getD (i + k) 0) / 4294967296)
      = V + 4294967296 ^ i * (x * (T + 4294967296 ^ k * y)) := by
  have h1 := carry_round (L := L) (j := i + k) (c := c) (s := x * y) hj rfl
  have e : 4294967296 ^ i * (x * (T + 4294967296 ^ k * y)) = 4294967296 ^ i * (x * T) + 4294967296 ^ (i + k) * (x * y) := by
    rw [Nat.pow_add, Nat.mul_add, Nat.mul_add]
    congr 1
    rw [Nat.mul_assoc]
    congr 1
    rw [Nat.mul_left_comm]
  rw [← Nat.add_assoc i k 1, e, h1]
  omega
theorem mul_outer {V A x b i : Nat} (h : V = A * b) : V + 4294967296 ^ i * (x * b) = (A + 4294967296 ^ i * x) * b := by
  rw [h, Nat.add_mul, Nat.mul_assoc]

/-! ### division by one digit, from the top -/
theorem short_round {L : List Nat} {A r x d j : Nat} (hj : j < L.length) (h0 : L.getD j 0 = 0) (h : A = val L * d + 4294967296 ^ (j + 1) * r) :
    A + 4294967296 ^ j * x = val (L.set j ((r * 4294967296 + x) / d)) * d + 4294967296 ^ j * ((r * 4294967296 + x) % d) := by
  rw [last_carry hj h0, Nat.add_mul, h, Nat.pow_succ]
  have e := Nat.div_add_mod (r * 4294967296 + x) d
  generalize (r * 4294967296 + x) / d = q at *
  generalize (r * 4294967296 + x) % d = m at *
  have e2 : 4294967296 ^ j * (d * q + m) = 4294967296 ^ j * (r * 4294967296 + x) := by rw [e]
  rw [Nat.mul_add, Nat.mul_add] at e2
  have e3 : 4294967296 ^ j * q * d = 4294967296 ^ j * (d * q) := by rw [Nat.mul_assoc, Nat.mul_comm q d]
  have e4 : 4294967296 ^ j * 4294967296 * r = 4294967296 ^ j * (r * 4294967296) := by rw [Nat.mul_assoc, Nat.mul_comm r]
  rw [e3, e4]
  omega
theorem short_digit {r x d : Nat} (hr : r < d) (hx : x < 4294967296) : (r * 4294967296 + x) / d < 4294967296 := by
  apply Nat.div_lt_of_lt_mul
  have : (r + 1) * 4294967296 ≤ d * 4294967296 := Nat.mul_le_mul_right _ hr
  rw [Nat.add_mul] at this
  omega

/-! ### how long results are -/
theorem len_add {m n a b c : Nat} (h1 : (nf m).length ≤ a) (h2 : (nf n).length ≤ b) (h : a + b + 1 ≤ c) : (nf (m + n)).length ≤ c := by
  have h3 := lt_of_nf_len h1
  have h4 := lt_of_nf_len h2
  refine Nat.le_trans (nf_len_le (k := a + b + 1) ?_) h
  have h5 : 4294967296 ^ a ≤ 4294967296 ^ (a + b) := Nat.pow_le_pow_right (by omega) (by omega)
  have h6 : 4294967296 ^ b ≤ 4294967296 ^ (a + b) := Nat.pow_le_pow_right (by omega) (by omega)
  rw [Nat.pow_succ]
  omega
theorem len_mul {m n a b c : Nat} (h1 : (nf m).length ≤ a) (h2 : (nf n).length ≤ b) (h : a + b ≤ c) : (nf (m * n)).length ≤ c := by
  have h3 := lt_of_nf_len h1
  have h4 := lt_of_nf_len h2
  refine Nat.le_trans (nf_len_le (k := a + b) ?_) h
  rw [Nat.pow_add]
  exact Nat.mul_lt_mul'' h3 h4
theorem len_le {m n c : Nat} (h : m ≤ n) (h2 : (nf n).length ≤ c) : (nf m).length ≤ c := Nat.le_trans (nf_len_mono h) h2

end Go.Proofs.YtlameeijogdckaaGreat
