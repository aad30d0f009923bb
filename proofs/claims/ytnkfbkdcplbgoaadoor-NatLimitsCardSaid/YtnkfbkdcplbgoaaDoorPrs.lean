/-
  Reading decimal digits: plain laws. 'bvalF a l': the number that the bytes l, behind the number a, stand for; 'isD b': the byte is a digit.
-/
import Derived.Test.YtnkfbkdcplbgoaaDoorDec
namespace Go.Proofs.YtnkfbkdcplbgoaaDoor

def bdig (b : UInt8) : Nat := b.toNat - 48
def isD (b : UInt8) : Bool := decide (48 ≤ b.toNat) && decide (b.toNat ≤ 57)
/-- The number that bytes stand for, behind the number a. -/
def bvalF (a : Nat) (l : List UInt8) : Nat := l.foldl (fun a b => 10 * a + bdig b) a
def bval (l : List UInt8) : Nat := bvalF 0 l
theorem bvalF_nil (a : Nat) : bvalF a [] = a := by unfold bvalF; rw [List.foldl_nil]
theorem bvalF_cons (a : Nat) (b : UInt8) (l : List UInt8) : bvalF a (b :: l) = bvalF (10 * a + bdig b) l := by unfold bvalF; rw [List.foldl_cons]
theorem bvalF_append (a : Nat) (l m : List UInt8) : bvalF a (l ++ m) = bvalF (bvalF a l) m := by unfold bvalF; rw [List.foldl_append]
theorem bvalF_snoc (a : Nat) (l : List UInt8) (b : UInt8) : bvalF a (l ++ [b]) = 10 * bvalF a l + bdig b := by rw [bvalF_append, bvalF_cons, bvalF_nil]
theorem bvalF_eq (l : List UInt8) : ∀ a, bvalF a l = a * 10 ^ l.length + bvalF 0 l := by
  induction l with
  | nil => intro a; simp [bvalF_nil]
  | cons b l ih =>
    intro a
    rw [bvalF_cons, bvalF_cons, ih, ih (10 * 0 + bdig b), List.length_cons, Nat.pow_succ]
    have : (10 * a + bdig b) * 10 ^ l.length = a * (10 ^ l.length * 10) + bdig b * 10 ^ l.length := by
      rw [Nat.add_mul, Nat.mul_comm 10 a, Nat.mul_assoc, Nat.mul_comm 10 (10 ^ l.length)]
    have e2 : (10 * 0 + bdig b) * 10 ^ l.length = bdig b * 10 ^ l.length := by rw [Nat.mul_zero, Nat.zero_add]
    rw [this, e2]
    omega
theorem isD_bd {b : UInt8} (h : isD b = true) : bdig b < 10 ∧ 48 ≤ b.toNat ∧ b.toNat ≤ 57 := by
  unfold isD at h
  simp only [Bool.and_eq_true, decide_eq_true_eq] at h
  unfold bdig
  omega
theorem bval_lt : ∀ l : List UInt8, (∀ b ∈ l, isD b = true) → bval l < 10 ^ l.length := by
  intro l
  induction l with
  | nil => intro _; decide
  | cons b l ih =>
    intro h
    have h1 := ih (fun x hx => h x (List.mem_cons_of_mem _ hx))
    have h2 := (isD_bd (h b (List.mem_cons_self ..))).1
    unfold bval at *
    rw [bvalF_cons, bvalF_eq, List.length_cons, Nat.pow_succ]
    have e2 : (10 * 0 + bdig b) * 10 ^ l.length = bdig b * 10 ^ l.length := by rw [Nat.mul_zero, Nat.zero_add]
    have : bdig b * 10 ^ l.length ≤ 9 * 10 ^ l.length := Nat.mul_le_mul_right _ (by omega)
    omega
theorem isD_of (d : Nat) (h : d < 10) : isD (UInt8.ofNat (48 + d)) = true ∧ bdig (UInt8.ofNat (48 + d)) = d := by
  have : (UInt8.ofNat (48 + d)).toNat = 48 + d := by
    rw [UInt8.toNat_ofNat']; omega
  unfold isD bdig
  rw [this]
  constructor
  · simp; omega
  · omega
theorem foldr_dval : ∀ l : List Nat, (∀ d ∈ l, d < 10) → ((l.map (fun d => UInt8.ofNat (48 + d))).foldr (fun b a => 10 * a + bdig b) 0) = dval l := by
  intro l
  induction l with
  | nil => intro _; rfl
  | cons d l ih =>
    intro h
    rw [List.map_cons, List.foldr_cons, ih (fun x hx => h x (List.mem_cons_of_mem _ hx)), (isD_of d (h d (List.mem_cons_self ..))).2]
    show _ = d + 10 * dval l
    omega
/-- The bytes of a number's text. -/
def decL (n : Nat) : List UInt8 := (decBytes n).map UInt8.ofNat
theorem decStr_data (n : Nat) : (decStr n).data.toList = decL n := rfl
theorem decL_pos {n : Nat} (h : n ≠ 0) : decL n = ((dl n).map (fun d => UInt8.ofNat (48 + d))).reverse := by
  unfold decL
  rw [decBytes_pos h, List.map_reverse, List.map_map]; rfl
theorem decL_isD (n : Nat) : ∀ b ∈ decL n, isD b = true := by
  by_cases h : n = 0
  · subst h
    intro b hb
    have : b = 48 := by simpa [decL, decBytes_zero] using hb
    subst this; decide
  · rw [decL_pos h]
    intro b hb
    obtain ⟨d, hd, rfl⟩ := List.mem_map.1 (List.mem_reverse.1 hb)
    exact (isD_of d (dl_lt n d hd)).1
theorem bval_decL (n : Nat) : bval (decL n) = n := by
  by_cases h : n = 0
  · subst h; rfl
  · rw [decL_pos h]
    unfold bval bvalF
    rw [List.foldl_reverse, foldr_dval _ (dl_lt n), dval_dl]
theorem decL_ne (n : Nat) : decL n ≠ [] := by
  by_cases h : n = 0
  · subst h; decide
  · rw [decL_pos h]
    intro e
    have := congrArg List.length e
    simp at this
    exact h (dl_eq_nil.1 this)
theorem decL_len (n : Nat) : (decL n).length ≤ 1 + (dl n).length := by
  by_cases h : n = 0
  · subst h; decide
  · rw [decL_pos h]; simp
end Go.Proofs.YtnkfbkdcplbgoaaDoor
