/-
  Texts of this claim, joined: Num, Arith, Knuth, Base, Trim, Cmp.
-/
import Derived.Test.YtdlnoeegboapkaaGreatDoorProg
import Derived.WalkKit
import Derived.Lib.Hide
import Derived.Maps.AppendAt
import Derived.Deep.QuietTactic
import Derived.BigQuiet
namespace Go.Proofs.YtdlnoeegboapkaaGreatDoor
open Go.RowKit
set_option maxHeartbeats 40000000
set_option maxRecDepth 100000
set_option synthInstance.maxHeartbeats 1000000
set_option synthInstance.maxSize 100000
section
def val : List Nat → Nat
  | [] => 0
  | d :: l => d + 4294967296 * val l
def Dig (l : List Nat) : Prop := ∀ d ∈ l, d < 4294967296
def nfF : Nat → Nat → List Nat
  | 0, _ => []
  | f + 1, n => if n = 0 then [] else (n % 4294967296) :: nfF f (n / 4294967296)
def nf (n : Nat) : List Nat := nfF n n
theorem nfF_fuel : ∀ f g n : Nat, n ≤ f → n ≤ g → nfF f n = nfF g n := by
  intro f
  induction f with
  | zero =>
    intro g n hf hg
    have : n = 0 := by omega
    subst this
    cases g <;> simp [nfF]
  | succ f ih =>
    intro g n hf hg
    cases g with
    | zero =>
      have : n = 0 := by omega
      subst this; simp [nfF]
    | succ g =>
      unfold nfF
      split
      · rfl
      · rw [ih g (n / 4294967296) (by omega) (by omega)]
theorem nf_zero : nf 0 = [] := rfl
theorem nf_pos {n : Nat} (h : n ≠ 0) : nf n = (n % 4294967296) :: nf (n / 4294967296) := by
  unfold nf
  cases n with
  | zero => exact absurd rfl h
  | succ n =>
    show (if n + 1 = 0 then [] else _) = _
    rw [if_neg h, nfF_fuel n ((n + 1) / 4294967296) ((n + 1) / 4294967296) (by omega) (Nat.le_refl _)]
theorem val_nil : val [] = 0 := rfl
theorem val_cons (d : Nat) (l : List Nat) : val (d :: l) = d + 4294967296 * val l := rfl
theorem dig_nil : Dig [] := by intro d h; cases h
theorem dig_cons {d : Nat} {l : List Nat} (h : d < 4294967296) (hl : Dig l) : Dig (d :: l) := by
  intro x hx
  rcases List.mem_cons.1 hx with rfl | hx
  · exact h
  · exact hl _ hx
theorem dig_append {l m : List Nat} (hl : Dig l) (hm : Dig m) : Dig (l ++ m) := by
  intro x hx
  rcases List.mem_append.1 hx with hx | hx
  · exact hl _ hx
  · exact hm _ hx
theorem dig_take {l : List Nat} (h : Dig l) (k : Nat) : Dig (l.take k) := fun d hd => h d (List.mem_of_mem_take hd)
theorem dig_drop {l : List Nat} (h : Dig l) (k : Nat) : Dig (l.drop k) := fun d hd => h d (List.mem_of_mem_drop hd)
theorem dig_get {l : List Nat} (h : Dig l) (k : Nat) : l.getD k 0 < 4294967296 := by
  rw [List.getD_eq_getElem?_getD]
  rcases Nat.lt_or_ge k l.length with hk | hk
  · rw [List.getElem?_eq_getElem hk]; exact h _ (List.getElem_mem hk)
  · rw [List.getElem?_eq_none hk]; simp
theorem nf_ind {P : Nat → Prop} (h0 : P 0) (hs : ∀ n, n ≠ 0 → P (n / 4294967296) → P n) : ∀ n, P n := by
  intro n
  induction n using Nat.strongRecOn with
  | _ n ih =>
    by_cases h : n = 0
    · subst h; exact h0
    · exact hs n h (ih _ (by omega))
theorem val_nf : ∀ n, val (nf n) = n := by
  refine nf_ind rfl fun n h ih => ?_
  rw [nf_pos h, val_cons, ih]; omega
theorem dig_nf : ∀ n, Dig (nf n) := by
  refine nf_ind dig_nil fun n h ih => ?_
  rw [nf_pos h]; exact dig_cons (by omega) ih
theorem nf_eq_nil {n : Nat} : nf n = [] ↔ n = 0 := by
  constructor
  · intro h
    have := val_nf n
    rw [h, val_nil] at this; exact this.symm
  · rintro rfl; rfl
theorem val_append : ∀ l m : List Nat, val (l ++ m) = val l + 4294967296 ^ l.length * val m
  | [], m => by simp [val_nil]
  | d :: l, m => by
    rw [List.cons_append, val_cons, val_cons, val_append l m, List.length_cons, Nat.pow_succ]; rw [Nat.mul_add, Nat.mul_comm (4294967296 ^ l.length) 4294967296, Nat.mul_assoc]; omega
theorem val_lt : ∀ l : List Nat, Dig l → val l < 4294967296 ^ l.length
  | [], _ => by simp [val_nil]
  | d :: l, h => by
    have h1 := val_lt l (fun x hx => h x (List.mem_cons_of_mem _ hx))
    have h2 := h d (List.mem_cons_self ..)
    rw [val_cons, List.length_cons, Nat.pow_succ]; omega
theorem val_snoc (l : List Nat) (d : Nat) : val (l ++ [d]) = val l + 4294967296 ^ l.length * d := by
  rw [val_append, val_cons, val_nil]; simp
theorem val_snoc_zero (l : List Nat) : val (l ++ [0]) = val l := by rw [val_snoc]; simp
theorem take_snoc (l : List Nat) (k : Nat) (h : k < l.length) : l.take (k + 1) = l.take k ++ [l.getD k 0] := by
  rw [List.take_add_one, List.getElem?_eq_getElem h, List.getD_eq_getElem?_getD, List.getElem?_eq_getElem h]; rfl
theorem val_take_snoc (l : List Nat) (k : Nat) (h : k < l.length) : val (l.take (k + 1)) = val (l.take k) + 4294967296 ^ k * l.getD k 0 := by
  rw [take_snoc l k h, val_snoc, List.length_take, Nat.min_eq_left (by omega)]
theorem val_drop_cons (l : List Nat) (k : Nat) (h : k < l.length) : val (l.drop k) = l.getD k 0 + 4294967296 * val (l.drop (k + 1)) := by
  rw [List.drop_eq_getElem_cons h, val_cons, List.getD_eq_getElem?_getD, List.getElem?_eq_getElem h]; rfl
theorem val_take_drop (l : List Nat) (k : Nat) (h : k ≤ l.length) : val l = val (l.take k) + 4294967296 ^ k * val (l.drop k) := by
  have := val_append (l.take k) (l.drop k)
  rw [List.take_append_drop, List.length_take, Nat.min_eq_left h] at this; exact this
theorem nf_val_cons {d : Nat} {l : List Nat} (hd : d < 4294967296) (h : nf (val l) = l) (hz : val (d :: l) ≠ 0) : nf (val (d :: l)) = d :: l := by
  rw [nf_pos hz, val_cons]; have e1 : (d + 4294967296 * val l) % 4294967296 = d := (by omega); have e2 : (d + 4294967296 * val l) / 4294967296 = val l := (by omega); rw [e1, e2, h]
theorem nf_val_of_last : ∀ (l : List Nat) (d : Nat), Dig l → d < 4294967296 → d ≠ 0 → nf (val (l ++ [d])) = l ++ [d]
  | [], d, _, hd, h0 => by
    rw [List.nil_append]
    exact nf_val_cons hd rfl (by rw [val_cons, val_nil]; omega)
  | x :: l, d, h, hd, h0 => by
    have ih := nf_val_of_last l d (fun y hy => h y (List.mem_cons_of_mem _ hy)) hd h0
    have hx := h x (List.mem_cons_self ..)
    have hp : 0 < 4294967296 ^ l.length * d := Nat.mul_pos (Nat.pow_pos (by omega)) (by omega)
    have hv := val_snoc l d
    exact nf_val_cons hx ih (by rw [val_cons]; show x + 4294967296 * val (l ++ [d]) ≠ 0; omega)
theorem nf_take {l : List Nat} (hl : Dig l) {k : Nat} (hk : k ≤ l.length) (hv : val (l.take k) = val l) (hz : k = 0 ∨ l.getD (k - 1) 0 ≠ 0) : nf (val l) = l.take k := by
  rcases Nat.eq_zero_or_pos k with h0 | h0
  · subst h0; rw [List.take_zero, val_nil] at hv; rw [← hv, nf_zero, List.take_zero]
  · obtain ⟨j, rfl⟩ : ∃ j, k = j + 1 := ⟨k - 1, by omega⟩
    have hz' : l.getD j 0 ≠ 0 := by
      rcases hz with hz | hz
      · omega
      · simpa using hz
    rw [← hv, take_snoc l j (by omega)]; exact nf_val_of_last _ _ (dig_take hl j) (dig_get hl j) hz'
theorem nf_len_le {n k : Nat} (h : n < 4294967296 ^ k) : (nf n).length ≤ k := by
  induction k generalizing n with
  | zero =>
    have : n = 0 := by simpa using h
    subst this; simp [nf_zero]
  | succ k ih =>
    by_cases h0 : n = 0
    · subst h0; simp [nf_zero]
    · rw [nf_pos h0, List.length_cons]
      have : n / 4294967296 < 4294967296 ^ k := by
        rw [Nat.pow_succ] at h
        exact Nat.div_lt_of_lt_mul (by rw [Nat.mul_comm]; exact h)
      have := ih this
      omega
theorem lt_of_nf_len {n k : Nat} (h : (nf n).length ≤ k) : n < 4294967296 ^ k := by
  have h1 := val_lt (nf n) (dig_nf n)
  rw [val_nf] at h1; exact Nat.lt_of_lt_of_le h1 (Nat.pow_le_pow_right (by omega) h)
theorem nf_len_mono {m n : Nat} (h : m ≤ n) : (nf m).length ≤ (nf n).length :=
  nf_len_le (Nat.lt_of_le_of_lt h (lt_of_nf_len (Nat.le_refl _)))
theorem nf_val_len {l : List Nat} (h : Dig l) : (nf (val l)).length ≤ l.length := nf_len_le (val_lt l h)
theorem nf_last : ∀ n, n ≠ 0 → (nf n).getD ((nf n).length - 1) 0 ≠ 0 := by
  refine nf_ind (fun h => absurd rfl h) fun n h ih _ => ?_
  rw [nf_pos h]
  by_cases h1 : n / 4294967296 = 0
  · rw [h1, nf_zero]; simp; omega
  · have := ih h1
    have hl : (nf (n / 4294967296)).length ≠ 0 := by
      intro e
      have := nf_eq_nil.1 (List.eq_nil_of_length_eq_zero e)
      exact h1 this
    obtain ⟨k, hk⟩ : ∃ k, (nf (n / 4294967296)).length = k + 1 := ⟨(nf (n / 4294967296)).length - 1, by omega⟩
    rw [hk] at this; rw [List.length_cons, hk]
    simpa using this
theorem nf_len_pos {n : Nat} (h : n ≠ 0) : 0 < (nf n).length := by
  rcases Nat.eq_zero_or_pos (nf n).length with h0 | h0
  · exact absurd (nf_eq_nil.1 (List.eq_nil_of_length_eq_zero h0)) h
  · exact h0
theorem nf_prefix {l : List Nat} (hl : Dig l) : nf (val l) = l.take (nf (val l)).length := by
  -- by induction from the end
  suffices h : ∀ k, k ≤ l.length → val (l.take k) = val l → nf (val l) = l.take (nf (val l)).length from h l.length (Nat.le_refl _) (by rw [List.take_length])
  intro k
  induction k with
  | zero =>
    intro _ hv; rw [List.take_zero, val_nil] at hv
    rw [← hv, nf_zero]; simp
  | succ k ih =>
    intro hk hv
    by_cases hz : l.getD k 0 = 0
    · refine ih (by omega) ?_
      rw [← hv, take_snoc l k (by omega), hz, val_snoc_zero]
    · have h1 := nf_take hl hk hv (.inr (by simpa using hz))
      rw [h1, List.length_take, Nat.min_eq_left hk]
theorem nf_of_normal {l : List Nat} (hl : Dig l) (h : l = [] ∨ l.getD (l.length - 1) 0 ≠ 0) : nf (val l) = l := by
  have := nf_take hl (k := l.length) (Nat.le_refl _) (by rw [List.take_length]) (by
    rcases h with h | h
    · left; rw [h]; rfl
    · right; exact h)
  rw [List.take_length] at this; exact this
theorem nf_len_lt {m n : Nat} (h : (nf m).length < (nf n).length) : m < n := by
  rcases Nat.lt_or_ge m n with h' | h'
  · exact h'
  · exact absurd (nf_len_mono h') (by omega)
end
section
theorem set_take_le (l : List Nat) (j k d : Nat) (h : k ≤ j) : (l.set j d).take k = l.take k := by
  rw [List.take_set, List.set_eq_of_length_le]
  rw [List.length_take]; omega
theorem set_drop_gt (l : List Nat) (j k d : Nat) (h : j < k) : (l.set j d).drop k = l.drop k := by
  apply List.ext_getElem?
  intro i; rw [List.getElem?_drop, List.getElem?_drop, List.getElem?_set_ne (by omega)]
theorem set_getD_eq (l : List Nat) (j d : Nat) (h : j < l.length) : (l.set j d).getD j 0 = d := by
  rw [List.getD_eq_getElem?_getD, List.getElem?_set_self h]; rfl
theorem set_getD_ne (l : List Nat) (i j d : Nat) (h : i ≠ j) : (l.set i d).getD j 0 = l.getD j 0 := by
  rw [List.getD_eq_getElem?_getD, List.getElem?_set_ne h, ← List.getD_eq_getElem?_getD]
theorem dig_set {l : List Nat} (h : Dig l) (j : Nat) {d : Nat} (hd : d < 4294967296) : Dig (l.set j d) := by
  intro x hx
  rcases List.mem_or_eq_of_mem_set hx with hx | rfl
  · exact h _ hx
  · exact hd
theorem dig_replicate (n : Nat) : Dig (List.replicate n 0) := by
  intro x hx
  rw [List.eq_of_mem_replicate hx]; omega
theorem val_replicate : ∀ n, val (List.replicate n 0) = 0
  | 0 => rfl
  | n + 1 => by rw [List.replicate_succ, val_cons, val_replicate n]
theorem getD_replicate (n j : Nat) : (List.replicate n 0).getD j 0 = 0 := by
  rw [List.getD_eq_getElem?_getD, List.getElem?_replicate]
  split <;> rfl
theorem val_set (l : List Nat) (j d : Nat) (h : j < l.length) : val (l.set j d) + 4294967296 ^ j * l.getD j 0 = val l + 4294967296 ^ j * d := by
  have h1 := val_take_drop l j (by omega)
  have h2 := val_take_drop (l.set j d) j (by simp; omega)
  rw [set_take_le l j j d (Nat.le_refl _)] at h2; rw [val_drop_cons l j h] at h1; rw [val_drop_cons (l.set j d) j (by simpa using h), set_getD_eq l j d h, set_drop_gt l j (j + 1) d (by omega)] at h2; rw [h1, h2, Nat.mul_add, Nat.mul_add]; omega
theorem val_take_eq_of_drop_zero (l : List Nat) (k : Nat) (h : ∀ j, k ≤ j → l.getD j 0 = 0) : val (l.take k) = val l := by
  suffices ∀ n, ∀ l : List Nat, l.length ≤ n → ∀ k, (∀ j, k ≤ j → l.getD j 0 = 0) → val (l.take k) = val l from this l.length l (Nat.le_refl _) k h
  intro n
  induction n with
  | zero =>
    intro l hl k _
    have : l = [] := List.eq_nil_of_length_eq_zero (by omega)
    subst this; simp
  | succ n ih =>
    intro l hl k h
    cases l with
    | nil => simp
    | cons d l =>
      cases k with
      | zero =>
        have h0 := h 0 (by omega)
        have := ih l (by simpa using hl) 0 (fun j _ => by simpa using h (j + 1) (by omega))
        simp only [List.take_zero, val_nil] at this ⊢; rw [val_cons, ← this]
        simpa using h0.symm
      | succ k =>
        have := ih l (by simpa using hl) k (fun j hj => by simpa using h (j + 1) (by omega))
        rw [List.take_succ_cons, val_cons, val_cons, this]
theorem carry_round {L : List Nat} {j c s t : Nat} (hj : j < L.length) (ht : t = c + s + L.getD j 0) :
    val (L.set j (t % 4294967296)) + 4294967296 ^ (j + 1) * (t / 4294967296) = val L + 4294967296 ^ j * c + 4294967296 ^ j * s := by
  have h1 := val_set L j (t % 4294967296) hj
  have e : 4294967296 ^ j * (t % 4294967296) + 4294967296 ^ (j + 1) * (t / 4294967296) = 4294967296 ^ j * c + 4294967296 ^ j * s + 4294967296 ^ j * L.getD j 0 := by
    rw [Nat.pow_succ, Nat.mul_assoc, ← Nat.mul_add, ← Nat.mul_add, ← Nat.mul_add, ← ht]
    congr 1
    exact Nat.mod_add_div _ _
  omega
theorem borrow_round {L : List Nat} {A C j c c' d x y : Nat} (hj : j < L.length) (h0 : L.getD j 0 = 0) (h : val L + C = A + 4294967296 ^ j * c) (hd : d + y + c = x + 4294967296 * c') :
    val (L.set j d) + (C + 4294967296 ^ j * y) = (A + 4294967296 ^ j * x) + 4294967296 ^ (j + 1) * c' := by
  have h1 := val_set L j d hj
  rw [h0] at h1
  have e : 4294967296 ^ j * (d + y + c) = 4294967296 ^ j * x + 4294967296 ^ (j + 1) * c' := by
    rw [hd, Nat.mul_add, Nat.pow_succ, Nat.mul_assoc]
  rw [Nat.mul_add, Nat.mul_add] at e; omega
theorem last_carry {L : List Nat} {j c : Nat} (hj : j < L.length) (h0 : L.getD j 0 = 0) : val (L.set j c) = val L + 4294967296 ^ j * c := by
  have h1 := val_set L j c hj
  rw [h0] at h1; omega
theorem mul_bound {x y c z : Nat} (hx : x < 4294967296) (hy : y < 4294967296) (hc : c < 4294967296) (hz : z < 4294967296) : c + x * y + z < 18446744073709551616 := by
  have : x * y ≤ 4294967295 * 4294967295 := Nat.mul_le_mul (by omega) (by omega)
  omega
theorem mul_round {L : List Nat} {V i k c x y T : Nat} (hj : i + k < L.length) (h : val L + 4294967296 ^ (i + k) * c = V + 4294967296 ^ i * (x * T)) :
    val (L.set (i + k) ((c + x * y + L.getD (i + k) 0) % 4294967296)) + 4294967296 ^ (i + (k + 1)) * ((c + x * y + L.getD (i + k) 0) / 4294967296)
      = V + 4294967296 ^ i * (x * (T + 4294967296 ^ k * y)) := by
  have h1 := carry_round (L := L) (j := i + k) (c := c) (s := x * y) hj rfl
  have e : 4294967296 ^ i * (x * (T + 4294967296 ^ k * y)) = 4294967296 ^ i * (x * T) + 4294967296 ^ (i + k) * (x * y) := by
    rw [Nat.pow_add, Nat.mul_add, Nat.mul_add]
    congr 1
    rw [Nat.mul_assoc]
    congr 1
    rw [Nat.mul_left_comm]
  rw [← Nat.add_assoc i k 1, e, h1]; omega
theorem mul_outer {V A x b i : Nat} (h : V = A * b) : V + 4294967296 ^ i * (x * b) = (A + 4294967296 ^ i * x) * b := by
  rw [h, Nat.add_mul, Nat.mul_assoc]
theorem short_round {L : List Nat} {A r x d j : Nat} (hj : j < L.length) (h0 : L.getD j 0 = 0) (h : A = val L * d + 4294967296 ^ (j + 1) * r) :
    A + 4294967296 ^ j * x = val (L.set j ((r * 4294967296 + x) / d)) * d + 4294967296 ^ j * ((r * 4294967296 + x) % d) := by
  rw [last_carry hj h0, Nat.add_mul, h, Nat.pow_succ]
  have e := Nat.div_add_mod (r * 4294967296 + x) d
  generalize (r * 4294967296 + x) / d = q at *
  generalize (r * 4294967296 + x) % d = m at *
  have e2 : 4294967296 ^ j * (d * q + m) = 4294967296 ^ j * (r * 4294967296 + x) := by rw [e]
  rw [Nat.mul_add, Nat.mul_add] at e2
  have e3 : 4294967296 ^ j * q * d = 4294967296 ^ j * (d * q) := by rw [Nat.mul_assoc, Nat.mul_comm q d]
  have e4 : 4294967296 ^ j * 4294967296 * r = 4294967296 ^ j * (r * 4294967296) := by rw [Nat.mul_assoc, Nat.mul_comm r]
  rw [e3, e4]; omega
theorem short_digit {r x d : Nat} (hr : r < d) (hx : x < 4294967296) : (r * 4294967296 + x) / d < 4294967296 := by
  apply Nat.div_lt_of_lt_mul
  have : (r + 1) * 4294967296 ≤ d * 4294967296 := Nat.mul_le_mul_right _ hr
  rw [Nat.add_mul] at this; omega
theorem len_mul {m n a b c : Nat} (h1 : (nf m).length ≤ a) (h2 : (nf n).length ≤ b) (h : a + b ≤ c) : (nf (m * n)).length ≤ c := by
  have h3 := lt_of_nf_len h1
  have h4 := lt_of_nf_len h2
  refine Nat.le_trans (nf_len_le (k := a + b) ?_) h
  rw [Nat.pow_add]; exact Nat.mul_lt_mul'' h3 h4
theorem len_le {m n c : Nat} (h : m ≤ n) (h2 : (nf n).length ≤ c) : (nf m).length ≤ c := Nat.le_trans (nf_len_mono h) h2
end
section
theorem kn_start {W V P top first : Nat} (hW : W < (first + 1) * P) (hV : top * P ≤ V) (ht : 0 < top) : W / V ≤ first / top := by
  rw [Nat.le_div_iff_mul_le ht]
  rcases Nat.lt_or_ge first (W / V * top) with h | h
  · exfalso
    have h1 : W / V * V ≤ W := Nat.div_mul_le_self W V
    have h2 : W / V * (top * P) ≤ W / V * V := Nat.mul_le_mul_left _ hV
    have h3 : (first + 1) * P ≤ (W / V * top) * P := Nat.mul_le_mul_right _ h
    rw [Nat.mul_assoc] at h3; omega
  · exact h
theorem kn_down {W V P guess rest first top second u2 : Nat} (hf : guess * top + rest = first) (h : rest * 4294967296 + u2 < guess * second)
    (hV : (top * 4294967296 + second) * P ≤ V) (hW : W < (first * 4294967296 + u2 + 1) * P) : W / V < guess := by
  have h1 : first * 4294967296 + u2 + 1 ≤ guess * (top * 4294967296 + second) := by
    rw [← hf, Nat.mul_add, ← Nat.mul_assoc, Nat.add_mul]; omega
  have h2 : (first * 4294967296 + u2 + 1) * P ≤ guess * (top * 4294967296 + second) * P := Nat.mul_le_mul_right _ h1
  have h3 : guess * (top * 4294967296 + second) * P ≤ guess * V := by
    rw [Nat.mul_assoc]; exact Nat.mul_le_mul_left _ hV
  rcases Nat.eq_zero_or_pos V with h0 | h0
  · subst h0; rw [Nat.mul_zero] at h3; omega
  · rw [Nat.div_lt_iff_lt_mul h0]; omega
theorem kn_exit_a {W V P guess rest first top second u2 : Nat} (hf : guess * top + rest = first) (h : guess * second ≤ rest * 4294967296 + u2) (hg : guess < 4294967296)
    (hV : V < (top * 4294967296 + second + 1) * P) (hV2 : 4294967296 * P ≤ V) (hW : (first * 4294967296 + u2) * P ≤ W) : guess ≤ W / V + 1 := by
  have h1 : guess * (top * 4294967296 + second) ≤ first * 4294967296 + u2 := by
    rw [← hf, Nat.mul_add, ← Nat.mul_assoc, Nat.add_mul]; omega
  have h2 : guess * (top * 4294967296 + second) * P ≤ W := Nat.le_trans (Nat.mul_le_mul_right _ h1) hW
  have h3 : guess * V ≤ guess * ((top * 4294967296 + second + 1) * P) := Nat.mul_le_mul_left _ (Nat.le_of_lt hV)
  have h4 : guess * ((top * 4294967296 + second + 1) * P) = guess * (top * 4294967296 + second) * P + guess * P := by
    rw [← Nat.mul_assoc, Nat.mul_add, Nat.add_mul, Nat.mul_one]
  have h5 : guess * P ≤ 4294967296 * P := Nat.mul_le_mul_right _ (by omega)
  have hV0 : 0 < V := by
    rcases Nat.eq_zero_or_pos V with h0 | h0
    · subst h0
      have : P = 0 := by omega
      subst this; simp at hV
    · exact h0
  have h6 : guess ≤ (W + V) / V := by
    rw [Nat.le_div_iff_mul_le hV0]; omega
  rw [Nat.add_div_right _ hV0] at h6; exact h6
theorem kn_exit_b {W V P guess rest first top : Nat} (hf : guess * top + rest = first) (h : 4294967296 ≤ rest) (hg : guess < 4294967296)
    (hV : V < (top + 1) * P) (hW : first * P ≤ W) (hV0 : 0 < V) : guess ≤ W / V + 1 := by
  have h1 : guess * V ≤ guess * ((top + 1) * P) := Nat.mul_le_mul_left _ (Nat.le_of_lt hV)
  have h2 : guess * ((top + 1) * P) = (guess * top + guess) * P := by rw [← Nat.mul_assoc, Nat.mul_add, Nat.mul_one]
  have h3 : (guess * top + guess) * P ≤ first * P := Nat.mul_le_mul_right _ (by omega)
  have : guess ≤ W / V := by
    rw [Nat.le_div_iff_mul_le hV0]; omega
  omega
theorem val_eq_take {D : List Nat} {k : Nat} (hz : ∀ i, k ≤ i → D.getD i 0 = 0) : val (D.take k) = val D := val_take_eq_of_drop_zero D k hz
theorem top2 {D : List Nat} {N : Nat} (hd : Dig D) (hN : D.length = N + 2) : ∃ lo, lo < 4294967296 ^ N ∧ val D = lo + 4294967296 ^ N * (D.getD N 0 + 4294967296 * D.getD (N + 1) 0) := by
  have h1 := val_take_drop D N (by omega)
  have h2 := val_lt (D.take N) (dig_take hd N)
  rw [List.length_take, Nat.min_eq_left (by omega)] at h2; rw [val_drop_cons D N (by omega), val_drop_cons D (N + 1) (by omega), List.drop_eq_nil_of_le (by omega), val_nil] at h1
  exact ⟨_, h2, by rw [h1]; simp⟩
theorem top3 {D : List Nat} {N : Nat} (hd : Dig D) (hN : N + 2 < D.length) (hz : ∀ i, N + 3 ≤ i → D.getD i 0 = 0) :
    ∃ lo, lo < 4294967296 ^ N ∧ val D = lo + 4294967296 ^ N * (D.getD N 0 + 4294967296 * (D.getD (N + 1) 0 + 4294967296 * D.getD (N + 2) 0)) := by
  have h1 := val_take_drop D N (by omega)
  have h2 := val_lt (D.take N) (dig_take hd N)
  rw [List.length_take, Nat.min_eq_left (by omega)] at h2
  have h3 : val (D.drop (N + 2 + 1)) = 0 := by
    have := val_take_eq_of_drop_zero (D.drop (N + 2 + 1)) 0 (fun i _ => by
      rw [List.getD_eq_getElem?_getD, List.getElem?_drop, ← List.getD_eq_getElem?_getD]
      exact hz _ (by omega))
    rw [← this]; rfl
  rw [val_drop_cons D N (by omega), val_drop_cons D (N + 1) (by omega), val_drop_cons D (N + 2) (by omega), h3] at h1
  exact ⟨_, h2, by rw [h1]; simp⟩
theorem drop_getD (U : List Nat) (j i : Nat) : (U.drop j).getD i 0 = U.getD (j + i) 0 := by
  rw [List.getD_eq_getElem?_getD, List.getElem?_drop, ← List.getD_eq_getElem?_getD]
theorem val_drop_div {U : List Nat} (hd : Dig U) {j : Nat} (hj : j ≤ U.length) : val (U.drop j) = val U / 4294967296 ^ j := by
  have h1 := val_take_drop U j hj
  have h2 := val_lt (U.take j) (dig_take hd j)
  rw [List.length_take, Nat.min_eq_left hj] at h2; rw [h1, Nat.add_mul_div_left _ _ (Nat.pow_pos (by omega)), Nat.div_eq_of_lt h2, Nat.zero_add]
theorem zero_above {U : List Nat} {k : Nat} (h : val U < 4294967296 ^ k) : ∀ i, k ≤ i → U.getD i 0 = 0 := by
  intro i hi
  rcases Nat.lt_or_ge i U.length with hl | hl
  · rcases Nat.eq_zero_or_pos (U.getD i 0) with h0 | h0
    · exact h0
    · exfalso
      have h1 := val_take_drop U i (by omega)
      rw [val_drop_cons U i hl] at h1
      have h2 : 4294967296 ^ i * 1 ≤ 4294967296 ^ i * (U.getD i 0 + 4294967296 * val (U.drop (i + 1))) := Nat.mul_le_mul_left _ (by omega)
      have h3 : 4294967296 ^ k ≤ 4294967296 ^ i := Nat.pow_le_pow_right (by omega) hi
      omega
  · rw [List.getD_eq_getElem?_getD, List.getElem?_eq_none hl]; rfl
structure KnTop (W V top second h1 h0 u2 : Nat) where
  P : Nat
  hW1 : W < ((h0 + 4294967296 * h1) * 4294967296 + u2 + 1) * P
  hW2 : ((h0 + 4294967296 * h1) * 4294967296 + u2) * P ≤ W
  hV1 : V < (top * 4294967296 + second + 1) * P
  hV2 : (top * 4294967296 + second) * P ≤ V
  hP : 0 < P
theorem kn_top {U ys : List Nat} {N j : Nat} (hdU : Dig U) (hdy : Dig ys) (hN : ys.length = N + 2) (hj : j + (N + 2) < U.length) (hz : ∀ i, j + (N + 2) + 1 ≤ i → U.getD i 0 = 0) :
    Nonempty (KnTop (val U / 4294967296 ^ j) (val ys) (ys.getD (N + 1) 0) (ys.getD N 0) (U.getD (j + (N + 2)) 0) (U.getD (j + (N + 1)) 0) (U.getD (j + N) 0)) := by
  obtain ⟨lo, hlo, hv⟩ := top2 hdy hN
  obtain ⟨lo2, hlo2, hv2⟩ := top3 (D := U.drop j) (N := N) (dig_drop hdU j) (by simp; omega) (fun i hi => by rw [drop_getD]; exact hz _ (by omega))
  rw [drop_getD, drop_getD, drop_getD, val_drop_div hdU (by omega)] at hv2
  refine ⟨⟨4294967296 ^ N, ?_, ?_, ?_, ?_, Nat.pow_pos (by omega)⟩⟩
  · rw [hv2, Nat.add_mul, Nat.one_mul]
    have e : ∀ a b c p : Nat, p * (c + 4294967296 * (b + 4294967296 * a)) = ((b + 4294967296 * a) * 4294967296 + c) * p := fun a b c p => by
      rw [Nat.mul_comm p, Nat.mul_comm 4294967296 (b + 4294967296 * a), Nat.add_comm c]
    rw [e]; omega
  · rw [hv2]
    have e : ∀ a b c p : Nat, p * (c + 4294967296 * (b + 4294967296 * a)) = ((b + 4294967296 * a) * 4294967296 + c) * p := fun a b c p => by
      rw [Nat.mul_comm p, Nat.mul_comm 4294967296 (b + 4294967296 * a), Nat.add_comm c]
    rw [e]; omega
  · rw [hv, Nat.add_mul, Nat.one_mul]
    have e : ∀ b c p : Nat, p * (c + 4294967296 * b) = (b * 4294967296 + c) * p := fun b c p => by
      rw [Nat.mul_comm p, Nat.mul_comm 4294967296 b, Nat.add_comm c]
    rw [e]; omega
  · rw [hv]
    have e : ∀ b c p : Nat, p * (c + 4294967296 * b) = (b * 4294967296 + c) * p := fun b c p => by
      rw [Nat.mul_comm p, Nat.mul_comm 4294967296 b, Nat.add_comm c]
    rw [e]; omega
def KnG (q top first guess rest : Nat) : Prop := guess * top + rest = first ∧ q ≤ guess
theorem kng_start {W V top second h1 h0 u2 : Nat} (K : KnTop W V top second h1 h0 u2) (ht : 0 < top) (hu : u2 < 4294967296) :
    KnG (W / V) top (h0 + 4294967296 * h1) ((h0 + 4294967296 * h1) / top) ((h0 + 4294967296 * h1) % top) := by
  refine ⟨?_, kn_start (P := 4294967296 * K.P) ?_ ?_ ht⟩
  · rw [Nat.mul_comm]; exact Nat.div_add_mod _ _
  · have h := K.hW1
    have h2 : ((h0 + 4294967296 * h1) * 4294967296 + u2 + 1) * K.P ≤ (h0 + 4294967296 * h1 + 1) * (4294967296 * K.P) := by
      rw [← Nat.mul_assoc]; exact Nat.mul_le_mul_right _ (by omega)
    omega
  · have h := K.hV2
    have : top * (4294967296 * K.P) = top * 4294967296 * K.P := by rw [Nat.mul_assoc]
    rw [this]
    refine Nat.le_trans (Nat.mul_le_mul_right _ ?_) h
    omega
theorem kng_less {q top first guess rest : Nat} (h : KnG q top first guess rest) (hq : q < guess) : KnG q top first (guess - 1) (rest + top) := by
  obtain ⟨h1, h2⟩ := h
  refine ⟨?_, by omega⟩
  have : (guess - 1) * top + top = guess * top := by
    rw [← Nat.succ_mul]; congr 1; omega
  omega
theorem kng_down {W V top second h1 h0 u2 guess rest : Nat} (K : KnTop W V top second h1 h0 u2) (h : KnG (W / V) top (h0 + 4294967296 * h1) guess rest)
    (hq : W / V < 4294967296) (ht : 4294967296 ≤ guess ∨ rest * 4294967296 + u2 < guess * second) : W / V < guess := by
  rcases ht with ht | ht
  · omega
  · exact kn_down h.1 ht K.hV2 K.hW1
theorem kng_a {W V top second h1 h0 u2 guess rest : Nat} (K : KnTop W V top second h1 h0 u2) (h : KnG (W / V) top (h0 + 4294967296 * h1) guess rest)
    (ht : 0 < top) (hg : guess < 4294967296) (hn : guess * second ≤ rest * 4294967296 + u2) : guess ≤ W / V + 1 := by
  have h0 : 4294967296 ≤ top * 4294967296 + second := (by omega)
  have h2 := Nat.mul_le_mul_right K.P h0
  exact kn_exit_a h.1 hn hg K.hV1 (Nat.le_trans h2 K.hV2) K.hW2
theorem kng_b {W V top second h1 h0 u2 guess rest : Nat} (K : KnTop W V top second h1 h0 u2) (h : KnG (W / V) top (h0 + 4294967296 * h1) guess rest)
    (hg : guess < 4294967296) (hs : second < 4294967296) (hr : 4294967296 ≤ rest) (hV : 0 < V) : guess ≤ W / V + 1 := by
  refine kn_exit_b (P := 4294967296 * K.P) h.1 hr hg ?_ ?_ hV
  · have h1 := K.hV1
    have : (top * 4294967296 + second + 1) * K.P ≤ (top + 1) * (4294967296 * K.P) := by
      rw [← Nat.mul_assoc]; exact Nat.mul_le_mul_right _ (by omega)
    omega
  · have h1 := K.hW2
    refine Nat.le_trans ?_ h1
    rw [← Nat.mul_assoc]; exact Nat.mul_le_mul_right _ (by omega)
theorem kng_one {q top first h1 h0 guess rest : Nat} (h : KnG q top first guess rest) (hf : first = h0 + 4294967296 * h1) (h0l : h0 < 4294967296) (h1l : h1 ≤ top) (hr : 4294967296 ≤ rest) : guess < 4294967296 := by
  obtain ⟨h1', _⟩ := h
  rcases Nat.lt_or_ge guess 4294967296 with hg | hg
  · exact hg
  · exfalso
    have a : 4294967296 * top ≤ guess * top := Nat.mul_le_mul_right _ hg
    omega
theorem kn_sub {U ys : List Nat} {X j i guess b c u x d b' : Nat} (hp : j + i < U.length) (hu : U.getD (j + i) 0 = u) (hd : val (ys.take (i + 1)) = val (ys.take i) + 4294967296 ^ i * d)
    (he : x + (c + guess * d) % 4294967296 + b = u + 4294967296 * b') (h : val U + 4294967296 ^ j * (guess * val (ys.take i)) = X + 4294967296 ^ (j + i) * (b + c)) :
    val (U.set (j + i) x) + 4294967296 ^ j * (guess * val (ys.take (i + 1))) = X + 4294967296 ^ (j + (i + 1)) * (b' + (c + guess * d) / 4294967296) := by
  have h1 := val_set U (j + i) x hp
  rw [hu] at h1; rw [hd]
  generalize val (ys.take i) = T at *
  generalize val (U.set (j + i) x) = vs at *
  have e1 : 4294967296 ^ j * (guess * (T + 4294967296 ^ i * d)) = 4294967296 ^ j * (guess * T) + 4294967296 ^ (j + i) * (guess * d) := by
    rw [Nat.pow_add, Nat.mul_add, Nat.mul_add]
    congr 1
    rw [Nat.mul_assoc]
    congr 1
    rw [Nat.mul_left_comm]
  have e2 : 4294967296 ^ (j + (i + 1)) * (b' + (c + guess * d) / 4294967296) = 4294967296 ^ (j + i) * (4294967296 * (b' + (c + guess * d) / 4294967296)) := by
    rw [← Nat.add_assoc, Nat.pow_succ, Nat.mul_assoc]
  rw [e1, e2]
  generalize guess * d = gd at *
  generalize 4294967296 ^ (j + i) = R at *
  generalize 4294967296 ^ j * (guess * T) = pgt at *
  have e3 : R * (u + 4294967296 * (b' + (c + gd) / 4294967296)) = R * (x + b + (c + gd)) := by
    congr 1
    omega
  rw [Nat.mul_add R u, Nat.mul_add R (x + b), Nat.mul_add R x, Nat.mul_add R c] at e3; rw [Nat.mul_add] at h; omega
theorem kn_add {U ys : List Nat} {X j i k u d : Nat} (hp : j + i < U.length) (hu : U.getD (j + i) 0 = u) (hd : val (ys.take (i + 1)) = val (ys.take i) + 4294967296 ^ i * d)
    (h : val U + 4294967296 ^ (j + i) * k = X + 4294967296 ^ j * val (ys.take i)) :
    val (U.set (j + i) ((k + (u + d)) % 4294967296)) + 4294967296 ^ (j + (i + 1)) * ((k + (u + d)) / 4294967296) = X + 4294967296 ^ j * val (ys.take (i + 1)) := by
  have h1 := carry_round (L := U) (j := j + i) (c := k) (s := d) (t := k + (u + d)) hp (by rw [hu]; omega)
  rw [hd, Nat.mul_add, ← Nat.mul_assoc, ← Nat.pow_add, ← Nat.add_assoc j i 1, h1]; omega
theorem kn_split (X j : Nat) : X = X % 4294967296 ^ j + 4294967296 ^ j * (X / 4294967296 ^ j) := by
  rw [Nat.add_comm]; exact (Nat.div_add_mod _ _).symm
theorem kn_right {X Y V j guess : Nat} (h : Y + 4294967296 ^ j * (guess * V) = X) (hV : 0 < V) (hge : X / 4294967296 ^ j / V ≤ guess) :
    X / 4294967296 ^ j / V = guess := by
  refine Nat.le_antisymm hge ?_
  rw [Nat.le_div_iff_mul_le hV, Nat.le_div_iff_mul_le (Nat.pow_pos (by omega)), Nat.mul_comm]; omega
theorem kn_wrong {X Y V j M guess : Nat} (h : Y + 4294967296 ^ j * (guess * V) = X + M) (hY : Y < M) (hle : guess ≤ X / 4294967296 ^ j / V + 1) (hge : X / 4294967296 ^ j / V ≤ guess) :
    guess = X / 4294967296 ^ j / V + 1 := by
  rcases Nat.lt_or_ge (X / 4294967296 ^ j / V) guess with h1 | h1
  · omega
  · exfalso
    have h2 := Nat.mul_le_mul_left (4294967296 ^ j) (Nat.le_trans (Nat.mul_le_mul_right V h1) (Nat.div_mul_le_self _ V))
    have h3 := kn_split X j
    omega
theorem kn_back {X Y Z V j M q e : Nat} (h : Y + 4294967296 ^ j * ((q + 1) * V) = X + M) (h2 : Z + M * e = Y + 4294967296 ^ j * V) (hZ : Z < M) (hq : q = X / 4294967296 ^ j / V) (hV : 0 < V)
    (hM : 4294967296 ^ j * V ≤ M) : Z + 4294967296 ^ j * (q * V) = X := by
  have h3 := kn_split X j
  have h4 : q * V ≤ X / 4294967296 ^ j := by rw [hq]; exact Nat.div_mul_le_self _ V
  have h5 : X / 4294967296 ^ j < (q + 1) * V := by
    rw [← Nat.div_lt_iff_lt_mul hV, hq]; omega
  have h6 : X % 4294967296 ^ j < 4294967296 ^ j := Nat.mod_lt _ (Nat.pow_pos (by omega))
  generalize X / 4294967296 ^ j = W at *
  generalize X % 4294967296 ^ j = lo at *
  have h7 : 4294967296 ^ j * (q * V) ≤ 4294967296 ^ j * W := Nat.mul_le_mul_left _ h4
  have h8 : 4294967296 ^ j * (W + 1) ≤ 4294967296 ^ j * ((q + 1) * V) := Nat.mul_le_mul_left _ h5
  rw [Nat.add_mul, Nat.one_mul, Nat.mul_add, Nat.mul_add] at h8; rw [Nat.add_mul, Nat.one_mul, Nat.mul_add] at h
  generalize 4294967296 ^ j = P at *
  generalize P * (q * V) = a at *
  generalize P * V = b at *
  generalize P * W = c at *
  match e, h2 with
  | 0, h2 => omega
  | 1, h2 => omega
  | e + 2, h2 =>
    have : M * 2 ≤ M * (e + 2) := Nat.mul_le_mul_left _ (by omega)
    omega
theorem kn_left {X Z V j q : Nat} (h : Z + 4294967296 ^ j * (q * V) = X) (hq : q = X / 4294967296 ^ j / V) (hV : 0 < V) : Z / 4294967296 ^ j < V := by
  have h3 := kn_split X j
  have h6 : X % 4294967296 ^ j < 4294967296 ^ j := Nat.mod_lt _ (Nat.pow_pos (by omega))
  have h4 := Nat.div_add_mod (X / 4294967296 ^ j) V
  have h5 := Nat.mod_lt (X / 4294967296 ^ j) hV
  rw [← hq, Nat.mul_comm] at h4
  generalize X / 4294967296 ^ j = W at *
  generalize X % 4294967296 ^ j = lo at *
  generalize W % V = r at *
  rw [Nat.div_lt_iff_lt_mul (Nat.pow_pos (by omega)), Nat.mul_comm]
  have h8 : 4294967296 ^ j * (r + 1) ≤ 4294967296 ^ j * V := Nat.mul_le_mul_left _ h5
  rw [← h4] at h3; rw [Nat.mul_add] at h3 h8; omega
structure KnOut (M V : Nat) (Q U : List Nat) (k : Nat) : Prop where
  sum : val Q * V + val U = M
  zero : ∀ i, i < k → Q.getD i 0 = 0
  small : val U / 4294967296 ^ k < V
theorem kn_small {M V N : Nat} {Q U : List Nat} {j : Nat} (h : KnOut M V Q U (j + 1)) (hV : V ≤ 4294967296 ^ N) : val U < 4294967296 ^ (j + N + 1) := by
  have h1 := h.small
  rw [Nat.div_lt_iff_lt_mul (Nat.pow_pos (by omega))] at h1
  have h2 : V * 4294967296 ^ (j + 1) ≤ 4294967296 ^ N * 4294967296 ^ (j + 1) := Nat.mul_le_mul_right _ hV
  rw [← Nat.pow_add] at h2; have e : N + (j + 1) = j + N + 1 := (by omega); rw [e] at h2; omega
theorem kn_digit {M V : Nat} {Q U : List Nat} {j : Nat} (h : KnOut M V Q U (j + 1)) (hV : 0 < V) : val U / 4294967296 ^ j / V < 4294967296 := by
  have h1 := h.small
  rw [Nat.pow_succ, ← Nat.div_div_eq_div_mul] at h1; rw [Nat.div_lt_iff_lt_mul hV]; omega
theorem kn_next {M V : Nat} {Q U U' : List Nat} {j q : Nat} (h : KnOut M V Q U (j + 1)) (hj : j < Q.length) (hV : 0 < V) (hq : q = val U / 4294967296 ^ j / V)
    (hU : val U' + 4294967296 ^ j * (q * V) = val U) : KnOut M V (Q.set j q) U' j := by
  refine ⟨?_, fun i hi => ?_, kn_left hU hq hV⟩
  · rw [last_carry hj (h.zero j (by omega)), Nat.add_mul, Nat.mul_assoc, ← h.sum]; omega
  · rw [set_getD_ne _ _ _ _ (by omega)]; exact h.zero i (by omega)
theorem kn_end {m n S : Nat} {Q U : List Nat} (h : KnOut (m * S) (n * S) Q U 0) (hS : 0 < S) : val Q = m / n ∧ val U / S = m % n ∧ val U < n * S := by
  have h1 := h.sum
  have h2 := h.small
  rw [Nat.pow_zero, Nat.div_one] at h2
  have hn : 0 < n := by
    rcases Nat.eq_zero_or_pos n with h0 | h0
    · subst h0; simp at h2
    · exact h0
  have e1 : m * S / (n * S) = val Q := by
    rw [← h1, Nat.add_comm, Nat.add_mul_div_right _ _ (by omega), Nat.div_eq_of_lt h2, Nat.zero_add]
  have e2 : m * S % (n * S) = val U := by
    rw [← h1, Nat.add_comm, Nat.add_mul_mod_self_right, Nat.mod_eq_of_lt h2]
  rw [Nat.mul_div_mul_right _ _ hS] at e1; rw [Nat.mul_mod_mul_right] at e2
  refine ⟨e1.symm, ?_, h2⟩
  rw [← e2, Nat.mul_div_cancel _ hS]
theorem kn_begin {m n S la N : Nat} {Q U : List Nat} (hQ : val Q = 0) (hU : val U = m * S) (hm : m < 4294967296 ^ la) (hN : N ≤ la) (hS : S ≤ 2147483648) (hn : 2147483648 * 4294967296 ^ (N - 1) ≤ n * S) (hN1 : 0 < N)
    (hz : ∀ i, Q.getD i 0 = 0) : KnOut (m * S) (n * S) Q U (la + 1 - N) := by
  refine ⟨by rw [hQ, hU]; omega, fun i _ => hz i, ?_⟩
  rw [Nat.div_lt_iff_lt_mul (Nat.pow_pos (by omega)), hU]
  have hP : 0 < 4294967296 ^ la := Nat.pow_pos (by omega)
  have h1 : m * S < 4294967296 ^ la * 2147483648 := by
    have a : (m + 1) * S ≤ 4294967296 ^ la * S := Nat.mul_le_mul_right _ hm
    have b : 4294967296 ^ la * S ≤ 4294967296 ^ la * 2147483648 := Nat.mul_le_mul_left _ hS
    rcases Nat.eq_zero_or_pos S with h0 | h0
    · subst h0; simp; omega
    · rw [Nat.add_mul, Nat.one_mul] at a; omega
  have h2 : 2147483648 * 4294967296 ^ (N - 1) * 4294967296 ^ (la + 1 - N) ≤ n * S * 4294967296 ^ (la + 1 - N) := Nat.mul_le_mul_right _ hn
  rw [Nat.mul_assoc, ← Nat.pow_add] at h2; have e : N - 1 + (la + 1 - N) = la := (by omega); rw [e] at h2; omega
end
section
def lenOf : Value → Nat | .slice _ n _ => n | _ => 0
theorem info_u32 : (Tryz.prog.info? 106).map (fun i => (i.zero, i.size, i.bytes)) = some (some (.int .u32 0), 1, 4) := by kernel_rfl
def dv (d : Nat) : Value := .int .u32 (d : Int)
def Cells (w : World) (a : Option Addr) (l : List Nat) : Prop :=
  0 < l.length → ∃ b off, a = some ⟨b, off, none⟩ ∧ ∀ i, i < l.length → w.cell? ⟨b, off + i, none⟩ = some (.int .u32 ((l.getD i 0 : Nat) : Int))
def Rd (w : World) (v : Value) (l : List Nat) : Prop :=
  ∃ a cap, v = .slice a l.length cap ∧ l.length ≤ cap ∧ cap ≤ 9223372036854775807 ∧ Dig l ∧ Cells w a l
def Own (w : World) (base : Nat) (v : Value) (l : List Nat) : Prop :=
  Dig l ∧ w.ownsRow base 106 1 v l.length (l.map dv)
theorem lt_of_cell {w : World} {a : Addr} {v : Value} (h : w.cell? a = some v) : a.block < w.heap.size := by
  rcases Nat.lt_or_ge a.block w.heap.size with hlt | hge
  · exact hlt
  · simp [World.cell?, Array.getElem?_eq_none hge] at h
theorem Cells.keep {w w' : World} {a : Option Addr} {l : List Nat} (h : Cells w a l) (hb : Below w.heap.size w w') : Cells w' a l := by
  intro h0; obtain ⟨b, off, rfl, hc⟩ := h h0
  exact ⟨b, off, rfl, fun i hi => (hb.cell (lt_of_cell (hc i hi))).trans (hc i hi)⟩
theorem Rd.keep {w w' : World} {v : Value} {l : List Nat} (h : Rd w v l) (hb : Below w.heap.size w w') : Rd w' v l := by
  obtain ⟨a, cap, rfl, h1, h2, h3, h4⟩ := h; exact ⟨a, cap, rfl, h1, h2, h3, h4.keep hb⟩
theorem Rd.dig {w : World} {v : Value} {l : List Nat} (h : Rd w v l) : Dig l := by
  obtain ⟨a, cap, rfl, h1, h2, h3, h4⟩ := h; exact h3
theorem Rd.nil (w : World) : Rd w (.slice none 0 0) [] := ⟨none, 0, rfl, Nat.le_refl _, by omega, dig_nil, fun h => absurd h (by simp)⟩
theorem map_dv_get (l : List Nat) (j : Nat) (h : j < l.length) : (l.map dv)[j]? = some (.int .u32 ((l.getD j 0 : Nat) : Int)) := by
  rw [List.getElem?_map, List.getElem?_eq_getElem h, List.getD_eq_getElem?_getD, List.getElem?_eq_getElem h]; rfl
theorem Own.shape {w : World} {base : Nat} {v : Value} {l : List Nat} (h : Own w base v l) :
    (v = .slice none 0 0 ∧ l = []) ∨ ∃ g cap, v = .slice (some ⟨g, 0, none⟩) l.length cap ∧ base ≤ g ∧ g < w.heap.size ∧ l.length ≤ cap ∧ cap ≤ 9223372036854775807 ∧
      (∀ i, i < l.length → w.cell? ⟨g, i, none⟩ = some (.int .u32 ((l.getD i 0 : Nat) : Int))) ∧ (∀ i, w.frozen? ⟨g, i, none⟩ = false) := by
  have h' := h.2
  rcases h.2.2 with ⟨rfl, h0⟩ | ⟨g, cap, cur, rfl, hb, hg, hnc, hcm, hcs, htake⟩
  · exact .inl ⟨rfl, List.eq_nil_of_length_eq_zero h0⟩
  · refine .inr ⟨g, cap, rfl, hb, ?_, hnc, hcm, fun i hi => ?_, fun i => h'.frozenAt i⟩
    · rcases Nat.lt_or_ge g w.heap.size with hlt | hge
      · exact hlt
      · rw [Array.getElem?_eq_none hge] at hg; cases hg
    · rw [h'.cellAt i (by omega), map_dv_get l i hi]
theorem Own.rd {w : World} {base : Nat} {v : Value} {l : List Nat} (h : Own w base v l) : Rd w v l := by
  rcases h.shape with ⟨rfl, rfl⟩ | ⟨g, cap, rfl, _, _, h1, h2, hc, _⟩
  · exact Rd.nil w
  · exact ⟨_, cap, rfl, h1, h2, h.1, fun _ => ⟨g, 0, rfl, fun i hi => by rw [Nat.zero_add]; exact hc i hi⟩⟩
theorem Own.mono {w : World} {base base' : Nat} {v : Value} {l : List Nat} (h : Own w base v l) (hb : base' ≤ base) : Own w base' v l := by
  refine ⟨h.1, h.2.1, ?_⟩
  rcases h.2.2 with h0 | ⟨g, cap, cur, e, hg, rest⟩
  · exact .inl h0
  · exact .inr ⟨g, cap, cur, e, Nat.le_trans hb hg, rest⟩
theorem Own.keep {w w' : World} {base : Nat} {v : Value} {l : List Nat} (h : Own w base v l) (hb : Below w.heap.size w w') : Own w' base v l := by
  refine ⟨h.1, h.2.1, ?_⟩
  rcases h.2.2 with h0 | ⟨g, cap, cur, e, hg, hh, rest⟩
  · exact .inl h0
  · refine .inr ⟨g, cap, cur, e, hg, ?_, rest⟩
    have : g < w.heap.size := by
      rcases Nat.lt_or_ge g w.heap.size with hlt | hge
      · exact hlt
      · rw [Array.getElem?_eq_none hge] at hh; cases hh
    rw [hb.block g this, hh]
theorem Own.nil (w : World) (base : Nat) : Own w base (.slice none 0 0) [] := ⟨dig_nil, World.ownsRow_nil _ _ _ _⟩
theorem Own.take {w : World} {base g cap : Nat} {l : List Nat} (h : Own w base (.slice (some ⟨g, 0, none⟩) l.length cap) l) (k : Nat) (hk : k ≤ l.length) :
    Own w base (.slice (some ⟨g, 0, none⟩) k cap) (l.take k) := by
  refine ⟨dig_take h.1 k, by simp, ?_⟩
  rcases h.2.2 with ⟨h0, _⟩ | ⟨g', cap', cur, e, hg, hh, hnc, hcm, hcs, htake⟩
  · simp at h0
  · simp only [Value.slice.injEq, Option.some.injEq, Addr.mk.injEq, and_true, true_and] at e; obtain ⟨rfl, rfl⟩ := e
    have e1 : (l.take k).length = k := by rw [List.length_take]; omega
    refine .inr ⟨g, cap, cur, by rw [e1], hg, hh, by omega, hcm, hcs, ?_⟩
    rw [List.map_take, ← htake, List.take_take]
    congr 1
    omega
def Row (w : World) (base g cap : Nat) (l : List Nat) : Prop := Own w base (.slice (some ⟨g, 0, none⟩) l.length cap) l
theorem Row.lt {w : World} {base g cap : Nat} {l : List Nat} (h : Row w base g cap l) : base ≤ g ∧ g < w.heap.size := by
  rcases Own.shape h with ⟨e, _⟩ | ⟨g', cap', e, h1, h2, _⟩
  · simp at e
  · simp only [Value.slice.injEq, Option.some.injEq, Addr.mk.injEq, and_true, true_and] at e; obtain ⟨rfl, rfl⟩ := e; exact ⟨h1, h2⟩
theorem Row.cap {w : World} {base g cap : Nat} {l : List Nat} (h : Row w base g cap l) : l.length ≤ cap ∧ cap ≤ 9223372036854775807 := by
  rcases Own.shape h with ⟨e, _⟩ | ⟨g', cap', e, _, _, h1, h2, _⟩
  · simp at e
  · simp only [Value.slice.injEq, Option.some.injEq, Addr.mk.injEq, and_true, true_and] at e; obtain ⟨rfl, rfl⟩ := e; exact ⟨h1, h2⟩
theorem Row.dig {w : World} {base g cap : Nat} {l : List Nat} (h : Row w base g cap l) : Dig l := h.1
theorem Row.cell {w : World} {base g cap : Nat} {l : List Nat} (h : Row w base g cap l) {j : Nat} (hj : j < l.length) : w.cell? ⟨g, j, none⟩ = some (.int .u32 ((l.getD j 0 : Nat) : Int)) := by
  rw [World.ownsRow.cellAt h.2 j (by omega), map_dv_get l j hj]
theorem Row.free {w : World} {base g cap : Nat} {l : List Nat} (h : Row w base g cap l) (j : Nat) : w.frozen? ⟨g, j, none⟩ = false := World.ownsRow.frozenAt h.2 j
theorem Row.set {w : World} {base g cap : Nat} {l : List Nat} (h : Row w base g cap l) (j : Nat) {d : Nat} (hd : d < 4294967296) :
    Row (w.setCell ⟨g, j, none⟩ (.int .u32 (d : Int))) base g cap (l.set j d) := by
  have h1 := (World.ownsRow.stored h.2 j (.int .u32 (d : Int))).1
  refine ⟨dig_set h.1 j hd, ?_⟩
  rw [List.length_set, List.map_set]; exact h1
theorem Row.keep {w w' : World} {base g cap : Nat} {l : List Nat} (h : Row w base g cap l) (hb : Below w.heap.size w w') : Row w' base g cap l := Own.keep h hb
theorem Row.rd {w : World} {base g cap : Nat} {l : List Nat} (h : Row w base g cap l) : Rd w (.slice (some ⟨g, 0, none⟩) l.length cap) l := Own.rd h
theorem row_made {w : World} {base g n : Nat} (h : w.ownsRow base 106 1 (.slice (some ⟨g, 0, none⟩) n n) n (madeCells (Value.cells (.int .u32 0)) (n * 1)).toList) : Row w base g n (List.replicate n 0) := by
  refine ⟨dig_replicate n, ?_⟩
  have e : (madeCells (Value.cells (.int .u32 0)) (n * 1)).toList = (List.replicate n 0).map dv := by
    rw [Nat.mul_one]
    show (madeCells #[.int .u32 0] n).toList = _
    rw [toList_madeCells_one, List.map_replicate]; rfl
  rw [e] at h
  simpa using h
theorem make_u32 (w : World) {ops : Array Oper} {rest : List Oper} {o : Oper} {a : Act} {Q : Exit → Act → World → Prop}
    (hg : o.guard = none) (l c : Operand) (t : TypeId) (hop : o.op = Op.makeSlice t l c) (h1 : Tryz.prog.underlying t = some (.slice 106))
    (L C : Int) (n : Nat) (hl : a.eval l = .int .i64 L) (hc : a.eval c = .int .i64 C) (hL : L = (n : Int)) (hC : C = (n : Int)) (hn : n ≤ 1000000000)
    (hK : ∀ w', Row w' w.heap.size w.heap.size n (List.replicate n 0) → Below w.heap.size w w' → wpList Tryz.prog ops Q rest (a.put o.dst (.slice (some ⟨w.heap.size, 0, none⟩) n n)) w') :
    wpList Tryz.prog ops Q (o :: rest) a w := by
  obtain ⟨i0, hi, hz0, hz1, hz2⟩ := info_parts info_u32
  exact wpList_make_full w hg l c t hop w.heap.size 106 i0 (.int .u32 0) 1 h1 hi hz0 hz1 .i64 .i64 L C n hl hc hL hC (by rw [hz2]; omega) (by unfold maxLen; omega) (Nat.le_refl _)
    fun w' r g => hK w' (row_made r) ((Below.refl w.heap.size w).grown g (Nat.le_refl _) (by simp))
theorem Cells.below {w : World} {a : Option Addr} {l : List Nat} (h : Cells w a l) (h0 : 0 < l.length) : ∀ b off, a = some ⟨b, off, none⟩ → b < w.heap.size := fun b off e => by
  obtain ⟨b2, off2, e2, hc⟩ := h h0
  rw [e] at e2; injection e2 with e2; injection e2 with e3 e4; subst e3; subst e4
  exact lt_of_cell (hc 0 h0)
theorem Cells.at {w wr : World} {a : Option Addr} {l : List Nat} (h : Cells w a l) (hb : Below w.heap.size w wr) {k : Nat} (hk : k < l.length) :
    ∃ b off, a = some ⟨b, off, none⟩ ∧ wr.cell? ⟨b, off + k, none⟩ = some (.int .u32 ((l.getD k 0 : Nat) : Int)) := by
  obtain ⟨b, off, rfl, hc⟩ := h (by omega); exact ⟨b, off, rfl, (hb.cell (h.below (by omega) b off rfl)).trans (hc k hk)⟩
theorem blw_drewN {B : Nat} {a w : World} (h : Below B a w) (n : Nat) : Below B a (w.drewN n) := ⟨h.os, h.tape, h.output, h.size, h.block⟩
theorem addr_plain (b off j : Nat) : (⟨b, off, none⟩ : Addr).add j = ⟨b, off + j, none⟩ := by
  unfold Addr.add
  split
  · rename_i h; subst h; rfl
  · rfl
theorem run_append_types {P : Program} (t t' ty e : TypeId) (ht : P.underlying t = some (.slice e)) (ht' : P.underlying t' = some (.slice e)) (a x : Option Addr) (n c m d : Nat) (w : World) :
    (Builtin.append_ #[t, t'] ty #[.slice a n c, .slice x m d]).run P w = (Builtin.append_ #[t, t] ty #[.slice a n c, .slice x m d]).run P w := by
  simp [Builtin.append_, run_underlying ht, run_underlying ht']
theorem run_app (t t' ty : TypeId) (ht : Tryz.prog.underlying t = some (.slice 106)) (ht' : Tryz.prog.underlying t' = some (.slice 106)) (w : World) (base : Nat) (v x : Value) (l m : List Nat)
    (ho : Own w base v l) (hx : Rd w x m) (hlen : l.length + m.length ≤ 1000000000) (hbase : base ≤ w.heap.size) :
    ∃ v' w', (Builtin.append_ #[t, t'] ty #[v, x]).run Tryz.prog w = .ok v' w' ∧ Own w' base v' (l ++ m) ∧ w.grownBy w' v.ownBlock ∧ (v'.ownBlock = v.ownBlock ∨ v'.ownBlock = some w.heap.size) := by
  obtain ⟨i0, hi, hz0, hz1, hz2⟩ := info_parts info_u32; obtain ⟨a, cap, rfl, hc, hcm, hd, hr⟩ := hx
  have hsh : ∃ a n c, v = .slice a n c := by
    rcases ho.2.2 with ⟨rfl, _⟩ | ⟨g, cap', cur, rfl, _⟩
    · exact ⟨_, _, _, rfl⟩
    · exact ⟨_, _, _, rfl⟩
  have htt : (Builtin.append_ #[t, t'] ty #[v, .slice a m.length cap]).run Tryz.prog w = (Builtin.append_ #[t, t] ty #[v, .slice a m.length cap]).run Tryz.prog w := by
    obtain ⟨a', n', c', rfl⟩ := hsh; exact run_append_types t t' ty 106 ht ht' _ _ _ _ _ _ w
  rw [htt]; clear htt hsh
  have nilCase : m = [] → (Builtin.append_ #[t, t] ty #[v, .slice none 0 cap]).run Tryz.prog w = .ok v w := by
    intro _
    rcases ho.2.2 with ⟨rfl, h0⟩ | ⟨g, cap', cur, rfl, _, _, hnc, _⟩
    · simp [Builtin.append_, run_underlying ht, sizeOf, typeInfo, hi, Builtin.lenOf, Builtin.firstCells]
    · simp [Builtin.append_, run_underlying ht, sizeOf, typeInfo, hi, Builtin.lenOf, Builtin.firstCells, hnc, storeCells]
  rcases a with _ | ad
  · have hm : m = [] := by
      rcases Nat.eq_zero_or_pos m.length with h0 | h0
      · exact List.eq_nil_of_length_eq_zero h0
      · obtain ⟨b, off, e, _⟩ := hr h0
        cases e
    subst hm
    exact ⟨v, w, nilCase rfl, by simpa using ho, ⟨rfl, rfl, rfl, Nat.le_refl _, fun _ _ _ => rfl⟩, .inl rfl⟩
  · obtain ⟨v', w', hrun, h2, h3, _, h5⟩ := run_append_own_at (P := Tryz.prog) w base t ty 106 i0 (.int .u32 0) 1 4 ht hi hz0 hz1 hz2 rfl (by omega) v l.length (l.map dv) ho.2 ad m.length cap (m.map dv)
      (by simp) (fun j u hu => by
        have hj : j < m.length := by
          rcases Nat.lt_or_ge j m.length with h | h
          · exact h
          · rw [List.getElem?_eq_none (by simpa using h)] at hu; cases hu
        obtain ⟨b, off, e, hcell⟩ := hr (by omega)
        have e2 := Option.some.inj e
        subst e2; rw [map_dv_get m j hj] at hu; rw [← hu, addr_plain]
        exact hcell j hj) (fun u hu => by
        obtain ⟨d, _, rfl⟩ := List.mem_map.1 hu
        rfl) (by unfold maxLen; omega) (by omega) hbase
    refine ⟨v', w', hrun, ⟨dig_append ho.1 hd, ?_⟩, h3, h5⟩
    rw [List.length_append, List.map_append]; exact h2
theorem app_u32 (w : World) {ops : Array Oper} {rest : List Oper} {o : Oper} {a : Act} {Q : Exit → Act → World → Prop} (hg : o.guard = none) (s x : Operand) (t t' : TypeId)
    (hop : o.op = .call { callee := .builtin .append, args := #[s, x], argTypes := #[t, t'] })
    (ht : Tryz.prog.underlying t = some (.slice 106)) (ht' : Tryz.prog.underlying t' = some (.slice 106)) (base : Nat) (v xv : Value) (l m : List Nat) (hs : a.eval s = v) (hx : a.eval x = xv)
    (ho : Own w base v l) (hr : Rd w xv m) (hlen : l.length + m.length ≤ 1000000000) (hbase : base ≤ w.heap.size)
    (hK : ∀ v' w', Own w' base v' (l ++ m) → w.grownBy w' v.ownBlock → (v'.ownBlock = v.ownBlock ∨ v'.ownBlock = some w.heap.size) → wpList Tryz.prog ops Q rest (a.put o.dst v') w') : wpList Tryz.prog ops Q (o :: rest) a w := by
  obtain ⟨v', w', hrun, h2, h3, h4⟩ := run_app t t' o.type ht ht' w base v xv l m ho hr hlen hbase
  refine wpList_plain hg fun K hK' => ?_
  unfold Oper.wp execOp
  simp only [hop, resolve, invoke, builtin, Sem.run_bind, Sem.run_pure, Result.andThen_ok, List.map_toArray, List.map_cons, List.map_nil, hs, hx, hrun]; exact hK' _ _ (hK v' w' h2 h3 h4)
theorem own_grown {w0 w w' : World} {base : Nat} {v : Value} {l : List Nat} (ho : Own w base v l) (hB : Below w0.heap.size w0 w) (hg : w.grownBy w' v.ownBlock) (hb : w0.heap.size ≤ base) : Below w0.heap.size w0 w' := by
  refine hB.grown hg hB.size fun k hk => ?_
  have := ho.2.lt k hk
  omega
theorem own_lit (w : World) (l : List Nat) (hd : Dig l) (hl : l.length ≤ 1000000) (cs : Array Value) (hcs : cs = (l.map dv).toArray) : Own (w.alloc (.cells cs 106)) w.heap.size (.slice (some ⟨w.heap.size, 0, none⟩) l.length l.length) l := by
  subst hcs
  refine ⟨hd, ?_⟩
  have := World.ownsRow_lit (base := w.heap.size) (e := 106) (size := 1) w (l.map dv).toArray l.length (Nat.le_refl _) (by unfold maxLen; omega) (by simp)
  simpa using this
def rdList (w : World) (b off n : Nat) : List Nat := (List.range n).map fun i => match w.cell? ⟨b, off + i, none⟩ with | some (.int _ k) => k.toNat | _ => 0
def rdVal (w : World) : Value → Nat
  | .slice (some a) n _ => val (rdList w a.block a.off n)
  | _ => 0
theorem rdVal_eq {w : World} {v : Value} {l : List Nat} (h : Rd w v l) : rdVal w v = val l := by
  obtain ⟨a, cap, rfl, h1, h2, h3, h4⟩ := h
  rcases Nat.eq_zero_or_pos l.length with h0 | h0
  · have : l = [] := List.eq_nil_of_length_eq_zero h0
    subst this
    cases a <;> rfl
  · obtain ⟨b, off, rfl, hc⟩ := h4 h0
    show val (rdList w b off l.length) = val l
    congr 1
    apply List.ext_getElem (by simp [rdList])
    intro i h1 h2; simp only [rdList, List.getElem_map, List.getElem_range, hc i h2]; rw [List.getD_eq_getElem?_getD, List.getElem?_eq_getElem h2]; simp
end
section
theorem i32_eq_zero {d : Nat} (h : d = 0) : (((d : Nat) : Int) == 0) = true := by simp [h]
theorem i32_ne_zero {d : Nat} (h : ¬ d = 0) : (((d : Nat) : Int) == 0) = false := by simpa using h
theorem trim_raw (w : World) (a : Option Addr) (cap : Nat) (l : List Nat) (hc : l.length ≤ cap) (hcm : cap ≤ 9223372036854775807) (hd : Dig l) (hr : Cells w a l) :
    Calls Tryz.prog 191 #[.slice a l.length cap] w fun e w' => e = .returned (.slice a (nf (val l)).length cap) ∧ w = w' := by
  go_enter Tryz.func191, Tryz.ntmps191; go_wp2
  go_loop [0] (fun v => ∃ k : Nat, k ≤ l.length ∧ v = .slice a k cap ∧ Hid (val (l.take k) = val l)) (fun v => lenOf v)
  case atStart => exact ⟨l.length, Nat.le_refl _, rfl, by show _ = _; rw [List.take_length]⟩
  case round =>
    obtain ⟨k, hk, rfl, hv⟩ := hrel
    by_cases h0 : k = 0
    · subst h0
      have e := nf_take hd hk hv.out (.inl rfl)
      have e2 : (nf (val l)).length = 0 := by rw [e]; simp
      have E2 := Lib.hid e2; clear e e2; go_wp2; go_ret
      exact ⟨by rw [E2.out]; rfl, rfl⟩
    · obtain ⟨b, off, rfl, hcell⟩ := hr (by omega); have h1 : 0 < k := (by omega)
      have hc1 := hcell (k - 1) (by omega)
      clear hcell
      by_cases hz : l.getD (k - 1) 0 = 0
      · have hv2 : val (l.take (k - 1)) = val l := by
          have := val_take_snoc l (k - 1) (by omega)
          rw [Nat.sub_add_cancel h1, hz, Nat.mul_zero, Nat.add_zero, hv.out] at this; exact this.symm
        have HV := Lib.hid hv2
        generalize l.getD (k - 1) 0 = d at *
        have hz' := i32_eq_zero hz
        clear hz hv hv2; go_wp2
        go_round
        case rel => exact ⟨k - 1, by omega, by go_num, HV⟩
        case measure => show k - 1 < k; omega
      · have e := nf_take hd hk hv.out (.inr hz)
        have e2 : (nf (val l)).length = k := by rw [e, List.length_take]; omega
        have E2 := Lib.hid e2
        generalize l.getD (k - 1) 0 = d at *
        have hz' := i32_ne_zero hz
        clear e e2 hz hv; go_wp2; go_ret
        exact ⟨by rw [E2.out]; rfl, rfl⟩
theorem trim_any (w : World) (v : Value) (l : List Nat) (h : Rd w v l) :
    Calls Tryz.prog 191 #[v] w fun e w' => ∃ v', e = .returned v' ∧ Rd w v' (nf (val l)) ∧ w = w' := by
  obtain ⟨a, cap, rfl, hc, hcm, hd, hr⟩ := h
  refine (trim_raw w a cap l hc hcm hd hr).mono ?_
  rintro e w' ⟨rfl, rfl⟩
  have hle := nf_val_len hd
  refine ⟨_, rfl, ⟨a, cap, rfl, by omega, hcm, dig_nf _, fun h0 => ?_⟩, rfl⟩
  obtain ⟨b, off, rfl, hc⟩ := hr (by omega)
  refine ⟨b, off, rfl, fun i hi => ?_⟩
  rw [hc i (by omega), nf_prefix hd]; rw [List.getD_eq_getElem?_getD, List.getD_eq_getElem?_getD, List.getElem?_take, if_pos hi]
theorem trim_row (w : World) (base g cap n : Nat) (l : List Nat) (h : Row w base g cap l) (hn : l.length = n) :
    Calls Tryz.prog 191 #[.slice (some ⟨g, 0, none⟩) n cap] w fun e w' => ∃ v, e = .returned v ∧ Own w base v (nf (val l)) ∧ w = w' := by
  subst hn
  have hc := h.cap
  refine (trim_raw w _ cap l hc.1 hc.2 h.dig (fun _ => ⟨g, 0, rfl, fun i hi => by rw [Nat.zero_add]; exact h.cell hi⟩)).mono ?_
  rintro e w' ⟨rfl, rfl⟩
  refine ⟨_, rfl, ?_, rfl⟩
  have := Own.take h (nf (val l)).length (nf_val_len h.dig)
  rw [← nf_prefix h.dig] at this; exact this
end
section
theorem int_bne_true {x y : Nat} (h : x ≠ y) : ((x : Int) != (y : Int)) = true := by
  rw [bne_iff_ne]; omega
theorem int_bne_false {x y : Nat} (h : x = y) : ((x : Int) != (y : Int)) = false := by
  subst h; simp
theorem list_ext_getD {l m : List Nat} (h : l.length = m.length) (hh : ∀ j, j < l.length → l.getD j 0 = m.getD j 0) : l = m := by
  apply List.ext_getElem h
  intro i h1 h2
  have := hh i h1
  rw [List.getD_eq_getElem?_getD, List.getD_eq_getElem?_getD, List.getElem?_eq_getElem h1, List.getElem?_eq_getElem h2] at this; exact this
def cmpN (m n : Nat) : Int := if m < n then -1 else if n < m then 1 else 0
theorem cmpN_lt {m n : Nat} (h : m < n) : cmpN m n = -1 := by unfold cmpN; rw [if_pos h]
theorem cmpN_gt {m n : Nat} (h : n < m) : cmpN m n = 1 := by unfold cmpN; rw [if_neg (by omega), if_pos h]
theorem cmpN_eq {m n : Nat} (h : m = n) : cmpN m n = 0 := by unfold cmpN; rw [if_neg (by omega), if_neg (by omega)]
theorem digit_lt {la lb : List Nat} {k : Nat} (hl : la.length = lb.length) (hda : Dig la) (hk : k < la.length) (hE : ∀ j, k + 1 ≤ j → j < la.length → la.getD j 0 = lb.getD j 0)
    (h : la.getD k 0 < lb.getD k 0) : val la < val lb := by
  have e : la.drop (k + 1) = lb.drop (k + 1) := by
    refine list_ext_getD (by simp [hl]) fun j hj => ?_
    rw [List.length_drop] at hj; rw [List.getD_eq_getElem?_getD, List.getD_eq_getElem?_getD, List.getElem?_drop, List.getElem?_drop, ← List.getD_eq_getElem?_getD, ← List.getD_eq_getElem?_getD]; exact hE _ (by omega) (by omega)
  have h1 := val_take_drop la k (by omega)
  have h2 := val_take_drop lb k (by omega)
  rw [val_drop_cons la k hk] at h1; rw [val_drop_cons lb k (by omega), ← e] at h2
  have h3 := val_lt (la.take k) (dig_take hda k)
  rw [List.length_take, Nat.min_eq_left (by omega)] at h3
  generalize la.getD k 0 = x at *
  generalize lb.getD k 0 = y at *
  generalize val (la.drop (k + 1)) = D at *
  have h4 : 4294967296 ^ k * (x + 1) ≤ 4294967296 ^ k * y := Nat.mul_le_mul_left _ h
  rw [Nat.mul_add] at h1 h2 h4; omega
theorem natCmp_any (w : World) (u v : Value) (la lb : List Nat) (hu : Rd w u la) (hv : Rd w v lb) :
    Calls Tryz.prog 281 #[u, v] w fun e w' => e = .returned (.int .i64 (cmpN (val la) (val lb))) ∧ Below w.heap.size w w' := by
  go_enter Tryz.func281, Tryz.ntmps281; go_wp2_with fail
  refine (trim_any _ _ _ hu).mono ?_
  rintro e w1 ⟨u', rfl, hu', rfl⟩
  go_wp2_with fail
  refine (trim_any _ _ _ hv).mono ?_
  rintro e w1 ⟨v', rfl, hv', rfl⟩
  have hlt2 := @nf_len_lt (val la) (val lb)
  have hgt2 := @nf_len_lt (val lb) (val la)
  have hva := val_nf (val la)
  have hvb := val_nf (val lb)
  generalize nf (val la) = xs at *
  generalize nf (val lb) = ys at *
  have hcv : cmpN (val xs) (val ys) = cmpN (val la) (val lb) := by rw [hva, hvb]
  have HCV := Lib.hid hcv; clear hva hvb hu hv hcv; obtain ⟨a, capa, rfl, h1, h2, hda, hra⟩ := hu'; obtain ⟨b, capb, rfl, h3, h4, hdb, hrb⟩ := hv'
  by_cases hl : xs.length < ys.length
  · have HN := Lib.hid (cmpN_lt (hlt2 hl))
    have hne := int_bne_true (x := xs.length) (y := ys.length) (by omega)
    clear hlt2 hgt2; go_wp2; go_ret
    exact ⟨by rw [HN.out]; rfl, Below.refl _ _⟩
  by_cases hg : ys.length < xs.length
  · have HN := Lib.hid (cmpN_gt (hgt2 hg))
    have hne := int_bne_true (x := xs.length) (y := ys.length) (by omega)
    clear hlt2 hgt2; go_wp2; go_ret
    exact ⟨by rw [HN.out]; rfl, Below.refl _ _⟩
  have hlen : xs.length = ys.length := (by omega)
  have hne := int_bne_false hlen
  have HL := Lib.hid hlen; have hle : ys.length ≤ xs.length := (by omega); clear hlt2 hgt2 hlen hl hg; go_wp2
  go_loopw [5] (fun i wr => ∃ k : Nat, k ≤ xs.length ∧ i = .int .i64 ((k : Int) - 1) ∧ Below w.heap.size w wr ∧ Hid (∀ j, k ≤ j → j < xs.length → xs.getD j 0 = ys.getD j 0)) (fun i _ => (intOf i + 1).toNat)
  case atStart => exact ⟨xs.length, Nat.le_refl _, rfl, Below.refl _ _, fun j h h' => absurd h' (by omega)⟩
  case round =>
    obtain ⟨k, hk, rfl, hB, hE⟩ := hrel
    by_cases hk1 : 1 ≤ k
    · have hka : k - 1 < xs.length := by omega
      have hkb : k - 1 < ys.length := by have := HL.out; omega
      obtain ⟨ba, offa, rfl, cA⟩ := hra.at hB hka; obtain ⟨bb, offb, rfl, cB⟩ := hrb.at hB hkb
      have hlt2 : xs.getD (k - 1) 0 < ys.getD (k - 1) 0 → Hid (cmpN (val la) (val lb) = -1) := fun h => HCV.out.symm.trans <| cmpN_lt (digit_lt HL.out hda hka (fun j h1 h2 => hE.out j (by omega) h2) h)
      have hgt2 : ys.getD (k - 1) 0 < xs.getD (k - 1) 0 → Hid (cmpN (val la) (val lb) = 1) := fun h => HCV.out.symm.trans <| cmpN_gt (digit_lt HL.out.symm hdb hkb (fun j h1 h2 => (hE.out j (by omega) (by have := HL.out; omega)).symm) h)
      have heq2 : xs.getD (k - 1) 0 = ys.getD (k - 1) 0 → Hid (∀ j, k - 1 ≤ j → j < xs.length → xs.getD j 0 = ys.getD j 0) := fun h j h1 h2 => by
        by_cases hj : j = k - 1
        · rw [hj]; exact h
        · exact hE.out j (by omega) h2
      have hx := dig_get hda (k - 1)
      have hy := dig_get hdb (k - 1)
      generalize xs.getD (k - 1) 0 = x at *
      generalize ys.getD (k - 1) 0 = y at *
      have b0 : (0 : Int) ≤ (k : Int) - 1 := (by omega); have b1 : (k : Int) - 1 < (xs.length : Int) := (by omega); have b2 : (k : Int) - 1 < (ys.length : Int) := (by omega)
      by_cases hl : x < y
      · have HN := hlt2 hl
        clear hlt2 hgt2 heq2 hra hrb; go_wp2
        go_quiet (fail)
        go_wp2; go_ret
        exact ⟨by rw [HN.out]; rfl, blw_drewN hB _⟩
      by_cases hg : y < x
      · have HN := hgt2 hg
        clear hlt2 hgt2 heq2 hra hrb; go_wp2
        go_quiet (fail)
        go_wp2
        go_quiet (fail)
        go_wp2; go_ret
        exact ⟨by rw [HN.out]; rfl, blw_drewN (blw_drewN hB _) _⟩
      · have HN := heq2 (by omega)
        clear hlt2 hgt2 heq2 hra hrb; go_wp2
        go_quiet (fail)
        go_wp2
        go_quiet (fail)
        go_wp2
        go_roundw
        case rel => exact ⟨k - 1, by omega, by go_num, blw_drewN hB _, HN⟩
        case measure => simp [intOf]; omega
    · have HN := Lib.hid (HCV.out.symm.trans (cmpN_eq (m := val xs) (n := val ys) (by rw [list_ext_getD HL.out (fun j hj => hE.out j (by omega) hj)]))); go_wp2; go_ret
      exact ⟨by rw [HN.out]; rfl, hB⟩
theorem numCmp_any (w : World) (u v : Value) (m n : Nat) (hu : Rd w u (nf m)) (hv : Rd w v (nf n)) :
    Calls Tryz.prog 139 #[u, v] w fun e w' => e = .returned (.int .i64 (cmpN m n)) ∧ Below w.heap.size w w' := by
  have hlt2 := @nf_len_lt m n
  have hgt2 := @nf_len_lt n m
  have hva := val_nf m
  have hvb := val_nf n
  generalize nf m = xs at *
  generalize nf n = ys at *
  have hcv : cmpN (val xs) (val ys) = cmpN m n := by rw [hva, hvb]
  have HCV := Lib.hid hcv; clear hva hvb hcv; obtain ⟨a, capa, rfl, h1, h2, hda, hra⟩ := hu; obtain ⟨b, capb, rfl, h3, h4, hdb, hrb⟩ := hv; go_enter Tryz.func139, Tryz.ntmps139
  by_cases hl : xs.length < ys.length
  · have HN := Lib.hid (cmpN_lt (hlt2 hl))
    have hne := int_bne_true (x := xs.length) (y := ys.length) (by omega)
    clear hlt2 hgt2; go_wp2; go_ret
    exact ⟨by rw [HN.out]; rfl, Below.refl _ _⟩
  by_cases hg : ys.length < xs.length
  · have HN := Lib.hid (cmpN_gt (hgt2 hg))
    have hne := int_bne_true (x := xs.length) (y := ys.length) (by omega)
    clear hlt2 hgt2; go_wp2; go_ret
    exact ⟨by rw [HN.out]; rfl, Below.refl _ _⟩
  have hlen : xs.length = ys.length := (by omega)
  have hne := int_bne_false hlen
  have HL := Lib.hid hlen; have hle : ys.length ≤ xs.length := (by omega); clear hlt2 hgt2 hlen hl hg; go_wp2
  go_loopw [5] (fun i wr => ∃ k : Nat, k ≤ xs.length ∧ i = .int .i64 ((k : Int) - 1) ∧ Below w.heap.size w wr ∧ Hid (∀ j, k ≤ j → j < xs.length → xs.getD j 0 = ys.getD j 0)) (fun i _ => (intOf i + 1).toNat)
  case atStart => exact ⟨xs.length, Nat.le_refl _, rfl, Below.refl _ _, fun j h h' => absurd h' (by omega)⟩
  case round =>
    obtain ⟨k, hk, rfl, hB, hE⟩ := hrel
    by_cases hk1 : 1 ≤ k
    · have hka : k - 1 < xs.length := by omega
      have hkb : k - 1 < ys.length := by have := HL.out; omega
      obtain ⟨ba, offa, rfl, cA⟩ := hra.at hB hka; obtain ⟨bb, offb, rfl, cB⟩ := hrb.at hB hkb
      have hlt2 : xs.getD (k - 1) 0 < ys.getD (k - 1) 0 → Hid (cmpN m n = -1) := fun h => HCV.out.symm.trans <| cmpN_lt (digit_lt HL.out hda hka (fun j h1 h2 => hE.out j (by omega) h2) h)
      have hgt2 : ys.getD (k - 1) 0 < xs.getD (k - 1) 0 → Hid (cmpN m n = 1) := fun h => HCV.out.symm.trans <| cmpN_gt (digit_lt HL.out.symm hdb hkb (fun j h1 h2 => (hE.out j (by omega) (by have := HL.out; omega)).symm) h)
      have heq2 : xs.getD (k - 1) 0 = ys.getD (k - 1) 0 → Hid (∀ j, k - 1 ≤ j → j < xs.length → xs.getD j 0 = ys.getD j 0) := fun h j h1 h2 => by
        by_cases hj : j = k - 1
        · rw [hj]; exact h
        · exact hE.out j (by omega) h2
      have hx := dig_get hda (k - 1)
      have hy := dig_get hdb (k - 1)
      generalize xs.getD (k - 1) 0 = x at *
      generalize ys.getD (k - 1) 0 = y at *
      have b0 : (0 : Int) ≤ (k : Int) - 1 := (by omega); have b1 : (k : Int) - 1 < (xs.length : Int) := (by omega); have b2 : (k : Int) - 1 < (ys.length : Int) := (by omega)
      by_cases hl : y < x
      · have HN := hgt2 hl
        clear hlt2 hgt2 heq2 hra hrb; go_wp2
        go_quiet (fail)
        go_wp2; go_ret
        exact ⟨by rw [HN.out]; rfl, blw_drewN hB _⟩
      by_cases hg : x < y
      · have HN := hlt2 hg
        clear hlt2 hgt2 heq2 hra hrb; go_wp2
        go_quiet (fail)
        go_wp2
        go_quiet (fail)
        go_wp2; go_ret
        exact ⟨by rw [HN.out]; rfl, blw_drewN (blw_drewN hB _) _⟩
      · have HN := heq2 (by omega)
        clear hlt2 hgt2 heq2 hra hrb; go_wp2
        go_quiet (fail)
        go_wp2
        go_quiet (fail)
        go_wp2
        go_roundw
        case rel => exact ⟨k - 1, by omega, by go_num, blw_drewN hB _, HN⟩
        case measure => simp [intOf]; omega
    · have HN := Lib.hid (HCV.out.symm.trans (cmpN_eq (m := val xs) (n := val ys) (by rw [list_ext_getD HL.out (fun j hj => hE.out j (by omega) hj)]))); go_wp2; go_ret
      exact ⟨by rw [HN.out]; rfl, hB⟩
end
end Go.Proofs.YtdlnoeegboapkaaGreatDoor
