/-
  Decimal digits: plain laws. 'dl n': the decimal digits of n, the least significant one first; 'decStr n': what a number is written as.
-/
import Derived.Test.YtlameeijogdckaaGreatNum
namespace Go.Proofs.YtlameeijogdckaaGreat

def dlF : Nat → Nat → List Nat
  | 0, _ => []
  | f + 1, n => if n = 0 then [] else (n % 10) :: dlF f (n / 10)
/-- The decimal digits of a number, the least significant one first; none for 0. -/
def dl (n : Nat) : List Nat := dlF n n
theorem dlF_fuel : ∀ f g n : Nat, n ≤ f → n ≤ g → dlF f n = dlF g n := by
  intro f
  induction f with
  | zero =>
    intro g n hf hg
    have : n = 0 := by omega
    subst this
    cases g <;> simp [dlF]
  | succ f ih =>
    intro g n hf hg
    cases g with
    | zero =>
      have : n = 0 := by omega
      subst this
      simp [dlF]
    | succ g =>
      unfold dlF
      split
      · rfl
      · rw [ih g (n / 10) (by omega) (by omega)]
theorem dl_zero : dl 0 = [] := rfl
theorem dl_pos {n : Nat} (h : n ≠ 0) : dl n = (n % 10) :: dl (n / 10) := by
  unfold dl
  cases n with
  | zero => exact absurd rfl h
  | succ n =>
    show (if n + 1 = 0 then [] else _) = _
    rw [if_neg h, dlF_fuel n ((n + 1) / 10) ((n + 1) / 10) (by omega) (Nat.le_refl _)]
theorem dl_ind {P : Nat → Prop} (h0 : P 0) (hs : ∀ n, n ≠ 0 → P (n / 10) → P n) : ∀ n, P n := by
  intro n
  induction n using Nat.strongRecOn with
  | _ n ih =>
    by_cases h : n = 0
    · subst h; exact h0
    · exact hs n h (ih _ (by omega))
theorem dl_eq_nil {n : Nat} : dl n = [] ↔ n = 0 := by
  constructor
  · intro h
    by_cases h0 : n = 0
    · exact h0
    · rw [dl_pos h0] at h; cases h
  · rintro rfl; rfl
theorem dl_lt : ∀ n, ∀ d ∈ dl n, d < 10 := by
  refine dl_ind (by simp [dl_zero]) fun n h ih d hd => ?_
  rw [dl_pos h] at hd
  rcases List.mem_cons.1 hd with rfl | hd
  · omega
  · exact ih d hd
/-- The number that decimal digits, the least significant one first, stand for. -/
def dval : List Nat → Nat
  | [] => 0
  | d :: l => d + 10 * dval l
theorem dval_dl : ∀ n, dval (dl n) = n := by
  refine dl_ind rfl fun n h ih => ?_
  rw [dl_pos h]
  show n % 10 + 10 * dval (dl (n / 10)) = n
  rw [ih]; omega
theorem dl_len {n k : Nat} (h : n < 10 ^ k) : (dl n).length ≤ k := by
  induction k generalizing n with
  | zero =>
    have : n = 0 := by simpa using h
    subst this; simp [dl_zero]
  | succ k ih =>
    by_cases h0 : n = 0
    · subst h0; simp [dl_zero]
    · rw [dl_pos h0, List.length_cons]
      have : n / 10 < 10 ^ k := by
        rw [Nat.pow_succ] at h
        exact Nat.div_lt_of_lt_mul (by rw [Nat.mul_comm]; exact h)
      have := ih this
      omega

/-- The bytes that a number is written as. -/
def decBytes (n : Nat) : List Nat := if n = 0 then [48] else ((dl n).map (fun d => 48 + d)).reverse
/-- The text of a number. -/
def decStr (n : Nat) : ByteArray := ⟨((decBytes n).map UInt8.ofNat).toArray⟩
theorem decBytes_zero : decBytes 0 = [48] := rfl
theorem decBytes_pos {n : Nat} (h : n ≠ 0) : decBytes n = ((dl n).map (fun d => 48 + d)).reverse := by unfold decBytes; rw [if_neg h]
end Go.Proofs.YtlameeijogdckaaGreat
