/-
  Plain laws on lists of digits in base 2^32, the least significant one first: the value of a list, and the list without zeros at the end that has a given value. No program is in sight here.
-/
namespace Go.Proofs.YtlameeijogdckaaGreat

/-- The value of a list of digits. -/
def val : List Nat → Nat
  | [] => 0
  | d :: l => d + 4294967296 * val l
/-- All digits are less than 2^32. -/
def Dig (l : List Nat) : Prop := ∀ d ∈ l, d < 4294967296
def nfF : Nat → Nat → List Nat
  | 0, _ => []
  | f + 1, n => if n = 0 then [] else (n % 4294967296) :: nfF f (n / 4294967296)
/-- The digits of a number, without zeros at the end. -/
def nf (n : Nat) : List Nat := nfF n n

theorem nfF_fuel : ∀ f g n : Nat, n ≤ f → n ≤ g → nfF f n = nfF g n := by
  intro f
  induction f with
  | zero =>
    intro g n hf hg
    have : n = 0 := by omega
    subst this
    cases g <;> simp [nfF]
  | succ f ih =>
    intro g n hf hg
    cases g with
    | zero =>
      have : n = 0 := by omega
      subst this
      simp [nfF]
    | succ g =>
      unfold nfF
      split
      · rfl
      · rw [ih g (n / 4294967296) (by omega) (by omega)]

theorem nf_zero : nf 0 = [] := rfl
theorem nf_pos {n : Nat} (h : n ≠ 0) : nf n = (n % 4294967296) :: nf (n / 4294967296) := by
  unfold nf
  cases n with
  | zero => exact absurd rfl h
  | succ n =>
    show (if n + 1 = 0 then [] else _) = _
    rw [if_neg h, nfF_fuel n ((n + 1) / 4294967296) ((n + 1) / 4294967296) (by omega) (Nat.le_refl _)]

theorem val_nil : val [] = 0 := rfl
theorem val_cons (d : Nat) (l : List Nat) : val (d :: l) = d + 4294967296 * val l := rfl
theorem dig_nil : Dig [] := by intro d h; cases h
theorem dig_cons {d : Nat} {l : List Nat} (h : d < 4294967296) (hl : Dig l) : Dig (d :: l) := by
  intro x hx
  rcases List.mem_cons.1 hx with rfl | hx
  · exact h
  · exact hl _ hx
theorem dig_append {l m : List Nat} (hl : Dig l) (hm : Dig m) : Dig (l ++ m) := by
  intro x hx
  rcases List.mem_append.1 hx with hx | hx
  · exact hl _ hx
  · exact hm _ hx
theorem dig_take {l : List Nat} (h : Dig l) (k : Nat) : Dig (l.take k) := fun d hd => h d (List.mem_of_mem_take hd)
theorem dig_drop {l : List Nat} (h : Dig l) (k : Nat) : Dig (l.drop k) := fun d hd => h d (List.mem_of_mem_drop hd)
theorem dig_get {l : List Nat} (h : Dig l) (k : Nat) : l.getD k 0 < 4294967296 := by
  rw [List.getD_eq_getElem?_getD]
  rcases Nat.lt_or_ge k l.length with hk | hk
  · rw [List.getElem?_eq_getElem hk]; exact h _ (List.getElem_mem hk)
  · rw [List.getElem?_eq_none hk]; simp

theorem nf_ind {P : Nat → Prop} (h0 : P 0) (hs : ∀ n, n ≠ 0 → P (n / 4294967296) → P n) : ∀ n, P n := by
  intro n
  induction n using Nat.strongRecOn with
  | _ n ih =>
    by_cases h : n = 0
    · subst h; exact h0
    · exact hs n h (ih _ (by omega))

theorem val_nf : ∀ n, val (nf n) = n := by
  refine nf_ind rfl fun n h ih => ?_
  rw [nf_pos h, val_cons, ih]
  omega
theorem dig_nf : ∀ n, Dig (nf n) := by
  refine nf_ind dig_nil fun n h ih => ?_
  rw [nf_pos h]
  exact dig_cons (by omega) ih
theorem nf_eq_nil {n : Nat} : nf n = [] ↔ n = 0 := by
  constructor
  · intro h
    have := val_nf n
    rw [h, val_nil] at this
    exact this.symm
  · rintro rfl; rfl

theorem val_append : ∀ l m : List Nat, val (l ++ m) = val l + 4294967296 ^ l.length * val m
  | [], m => by simp [val_nil]
  | d :: l, m => by
    rw [List.cons_append, val_cons, val_cons, val_append l m, List.length_cons, Nat.pow_succ]
    rw [Nat.mul_add, Nat.mul_comm (4294967296 ^ l.length) 4294967296, Nat.mul_assoc]
    omega
theorem val_lt : ∀ l : List Nat, Dig l → val l < 4294967296 ^ l.length
  | [], _ => by simp [val_nil]
  | d :: l, h => by
    have h1 := val_lt l (fun x hx => h x (List.mem_cons_of_mem _ hx))
    have h2 := h d (List.mem_cons_self ..)
    rw [val_cons, List.length_cons, Nat.pow_succ]
    omega

theorem val_snoc (l : List Nat) (d : Nat) : val (l ++ [d]) = val l + 4294967296 ^ l.length * d := by
  rw [val_append, val_cons, val_nil]
  simp
theorem val_snoc_zero (l : List Nat) : val (l ++ [0]) = val l := by rw [val_snoc]; simp

theorem take_snoc (l : List Nat) (k : Nat) (h : k < l.length) : l.take (k + 1) = l.take k ++ [l.getD k 0] := by
  rw [List.take_add_one, List.getElem?_eq_getElem h, List.getD_eq_getElem?_getD, List.getElem?_eq_getElem h]; rfl
theorem val_take_snoc (l : List Nat) (k : Nat) (h : k < l.length) : val (l.take (k + 1)) = val (l.take k) + 4294967296 ^ k * l.getD k 0 := by
  rw [take_snoc l k h, val_snoc, List.length_take, Nat.min_eq_left (by omega)]
theorem val_drop_cons (l : List Nat) (k : Nat) (h : k < l.length) : val (l.drop k) = l.getD k 0 + 4294967296 * val (l.drop (k + 1)) := by
  rw [List.drop_eq_getElem_cons h, val_cons, List.getD_eq_getElem?_getD, List.getElem?_eq_getElem h]; rfl
theorem val_take_drop (l : List Nat) (k : Nat) (h : k ≤ l.length) : val l = val (l.take k) + 4294967296 ^ k * val (l.drop k) := by
  have := val_append (l.take k) (l.drop k)
  rw [List.take_append_drop, List.length_take, Nat.min_eq_left h] at this
  exact this

theorem nf_val_cons {d : Nat} {l : List Nat} (hd : d < 4294967296) (h : nf (val l) = l) (hz : val (d :: l) ≠ 0) : nf (val (d :: l)) = d :: l := by
  rw [nf_pos hz, val_cons]
  have e1 : (d + 4294967296 * val l) % 4294967296 = d := by omega
  have e2 : (d + 4294967296 * val l) / 4294967296 = val l := by omega
  rw [e1, e2, h]

/-- A list of digits whose last one is not 0 is the list of its value. -/
theorem nf_val_of_last : ∀ (l : List Nat) (d : Nat), Dig l → d < 4294967296 → d ≠ 0 → nf (val (l ++ [d])) = l ++ [d]
  | [], d, _, hd, h0 => by
    rw [List.nil_append]
    exact nf_val_cons hd rfl (by rw [val_cons, val_nil]; omega)
  | x :: l, d, h, hd, h0 => by
    have ih := nf_val_of_last l d (fun y hy => h y (List.mem_cons_of_mem _ hy)) hd h0
    have hx := h x (List.mem_cons_self ..)
    have hp : 0 < 4294967296 ^ l.length * d := Nat.mul_pos (Nat.pow_pos (by omega)) (by omega)
    have hv := val_snoc l d
    exact nf_val_cons hx ih (by rw [val_cons]; show x + 4294967296 * val (l ++ [d]) ≠ 0; omega)

/-- Where the digits from k on are 0 and the one below k is not, the first k ones are the normal form. -/
theorem nf_take {l : List Nat} (hl : Dig l) {k : Nat} (hk : k ≤ l.length) (hv : val (l.take k) = val l) (hz : k = 0 ∨ l.getD (k - 1) 0 ≠ 0) : nf (val l) = l.take k := by
  rcases Nat.eq_zero_or_pos k with h0 | h0
  · subst h0
    rw [List.take_zero, val_nil] at hv
    rw [← hv, nf_zero, List.take_zero]
  · obtain ⟨j, rfl⟩ : ∃ j, k = j + 1 := ⟨k - 1, by omega⟩
    have hz' : l.getD j 0 ≠ 0 := by
      rcases hz with hz | hz
      · omega
      · simpa using hz
    rw [← hv, take_snoc l j (by omega)]
    exact nf_val_of_last _ _ (dig_take hl j) (dig_get hl j) hz'

theorem nf_len_le {n k : Nat} (h : n < 4294967296 ^ k) : (nf n).length ≤ k := by
  induction k generalizing n with
  | zero =>
    have : n = 0 := by simpa using h
    subst this; simp [nf_zero]
  | succ k ih =>
    by_cases h0 : n = 0
    · subst h0; simp [nf_zero]
    · rw [nf_pos h0, List.length_cons]
      have : n / 4294967296 < 4294967296 ^ k := by
        rw [Nat.pow_succ] at h
        exact Nat.div_lt_of_lt_mul (by rw [Nat.mul_comm]; exact h)
      have := ih this
      omega
theorem lt_of_nf_len {n k : Nat} (h : (nf n).length ≤ k) : n < 4294967296 ^ k := by
  have h1 := val_lt (nf n) (dig_nf n)
  rw [val_nf] at h1
  exact Nat.lt_of_lt_of_le h1 (Nat.pow_le_pow_right (by omega) h)
theorem nf_len_mono {m n : Nat} (h : m ≤ n) : (nf m).length ≤ (nf n).length :=
  nf_len_le (Nat.lt_of_le_of_lt h (lt_of_nf_len (Nat.le_refl _)))
theorem nf_inj {m n : Nat} (h : nf m = nf n) : m = n := by rw [← val_nf m, h, val_nf]
theorem nf_val_len {l : List Nat} (h : Dig l) : (nf (val l)).length ≤ l.length := nf_len_le (val_lt l h)

/-- The last digit of a normal form is not 0. -/
theorem nf_last : ∀ n, n ≠ 0 → (nf n).getD ((nf n).length - 1) 0 ≠ 0 := by
  refine nf_ind (fun h => absurd rfl h) fun n h ih _ => ?_
  rw [nf_pos h]
  by_cases h1 : n / 4294967296 = 0
  · rw [h1, nf_zero]
    simp
    omega
  · have := ih h1
    have hl : (nf (n / 4294967296)).length ≠ 0 := by
      intro e
      have := nf_eq_nil.1 (List.eq_nil_of_length_eq_zero e)
      exact h1 this
    obtain ⟨k, hk⟩ : ∃ k, (nf (n / 4294967296)).length = k + 1 := ⟨(nf (n / 4294967296)).length - 1, by omega⟩
    rw [hk] at this
    rw [List.length_cons, hk]
    simpa using this
theorem nf_len_pos {n : Nat} (h : n ≠ 0) : 0 < (nf n).length := by
  rcases Nat.eq_zero_or_pos (nf n).length with h0 | h0
  · exact absurd (nf_eq_nil.1 (List.eq_nil_of_length_eq_zero h0)) h
  · exact h0
theorem nf_prefix {l : List Nat} (hl : Dig l) : nf (val l) = l.take (nf (val l)).length := by
  -- by induction from the end
  suffices h : ∀ k, k ≤ l.length → val (l.take k) = val l → nf (val l) = l.take (nf (val l)).length from h l.length (Nat.le_refl _) (by rw [List.take_length])
  intro k
  induction k with
  | zero =>
    intro _ hv
    rw [List.take_zero, val_nil] at hv
    rw [← hv, nf_zero]; simp
  | succ k ih =>
    intro hk hv
    by_cases hz : l.getD k 0 = 0
    · refine ih (by omega) ?_
      rw [← hv, take_snoc l k (by omega), hz, val_snoc_zero]
    · have h1 := nf_take hl hk hv (.inr (by simpa using hz))
      rw [h1, List.length_take, Nat.min_eq_left hk]
theorem nf_of_normal {l : List Nat} (hl : Dig l) (h : l = [] ∨ l.getD (l.length - 1) 0 ≠ 0) : nf (val l) = l := by
  have := nf_take hl (k := l.length) (Nat.le_refl _) (by rw [List.take_length]) (by
    rcases h with h | h
    · left; rw [h]; rfl
    · right; exact h)
  rw [List.take_length] at this
  exact this

/-- Comparing numbers by their normal forms: a longer list is greater. -/
theorem nf_len_lt {m n : Nat} (h : (nf m).length < (nf n).length) : m < n := by
  rcases Nat.lt_or_ge m n with h' | h'
  · exact h'
  · exact absurd (nf_len_mono h') (by omega)

end Go.Proofs.YtlameeijogdckaaGreat
