/-
  Plain laws of long division: the guess of a quotient digit from the leading digits is at least the digit and at most one too great; what subtracting and adding back do to the number that is left.
-/
import Derived.Test.YtlameeijogdckaaGreatArith
namespace Go.Proofs.YtlameeijogdckaaGreat

theorem kn_start {W V P top first : Nat} (hW : W < (first + 1) * P) (hV : top * P ≤ V) (ht : 0 < top) : W / V ≤ first / top := by
  rw [Nat.le_div_iff_mul_le ht]
  rcases Nat.lt_or_ge first (W / V * top) with h | h
  · exfalso
    have h1 : W / V * V ≤ W := Nat.div_mul_le_self W V
    have h2 : W / V * (top * P) ≤ W / V * V := Nat.mul_le_mul_left _ hV
    have h3 : (first + 1) * P ≤ (W / V * top) * P := Nat.mul_le_mul_right _ h
    rw [Nat.mul_assoc] at h3
    omega
  · exact h
/-- The guess is too great where its product with the second digit is. -/
theorem kn_down {W V P guess rest first top second u2 : Nat} (hf : guess * top + rest = first) (h : rest * 4294967296 + u2 < guess * second)
    (hV : (top * 4294967296 + second) * P ≤ V) (hW : W < (first * 4294967296 + u2 + 1) * P) : W / V < guess := by
  have h1 : first * 4294967296 + u2 + 1 ≤ guess * (top * 4294967296 + second) := by
    rw [← hf, Nat.mul_add, ← Nat.mul_assoc, Nat.add_mul]; omega
  have h2 : (first * 4294967296 + u2 + 1) * P ≤ guess * (top * 4294967296 + second) * P := Nat.mul_le_mul_right _ h1
  have h3 : guess * (top * 4294967296 + second) * P ≤ guess * V := by
    rw [Nat.mul_assoc]; exact Nat.mul_le_mul_left _ hV
  rcases Nat.eq_zero_or_pos V with h0 | h0
  · subst h0
    rw [Nat.mul_zero] at h3
    omega
  · rw [Nat.div_lt_iff_lt_mul h0]
    omega
theorem kn_exit_a {W V P guess rest first top second u2 : Nat} (hf : guess * top + rest = first) (h : guess * second ≤ rest * 4294967296 + u2) (hg : guess < 4294967296)
    (hV : V < (top * 4294967296 + second + 1) * P) (hV2 : 4294967296 * P ≤ V) (hW : (first * 4294967296 + u2) * P ≤ W) : guess ≤ W / V + 1 := by
  have h1 : guess * (top * 4294967296 + second) ≤ first * 4294967296 + u2 := by
    rw [← hf, Nat.mul_add, ← Nat.mul_assoc, Nat.add_mul]; omega
  have h2 : guess * (top * 4294967296 + second) * P ≤ W := Nat.le_trans (Nat.mul_le_mul_right _ h1) hW
  have h3 : guess * V ≤ guess * ((top * 4294967296 + second + 1) * P) := Nat.mul_le_mul_left _ (Nat.le_of_lt hV)
  have h4 : guess * ((top * 4294967296 + second + 1) * P) = guess * (top * 4294967296 + second) * P + guess * P := by
    rw [← Nat.mul_assoc, Nat.mul_add, Nat.add_mul, Nat.mul_one]
  have h5 : guess * P ≤ 4294967296 * P := Nat.mul_le_mul_right _ (by omega)
  have hV0 : 0 < V := by
    rcases Nat.eq_zero_or_pos V with h0 | h0
    · subst h0
      have : P = 0 := by omega
      subst this
      simp at hV
    · exact h0
  have h6 : guess ≤ (W + V) / V := by
    rw [Nat.le_div_iff_mul_le hV0]; omega
  rw [Nat.add_div_right _ hV0] at h6
  exact h6
theorem kn_exit_b {W V P guess rest first top : Nat} (hf : guess * top + rest = first) (h : 4294967296 ≤ rest) (hg : guess < 4294967296)
    (hV : V < (top + 1) * P) (hW : first * P ≤ W) (hV0 : 0 < V) : guess ≤ W / V + 1 := by
  have h1 : guess * V ≤ guess * ((top + 1) * P) := Nat.mul_le_mul_left _ (Nat.le_of_lt hV)
  have h2 : guess * ((top + 1) * P) = (guess * top + guess) * P := by rw [← Nat.mul_assoc, Nat.mul_add, Nat.mul_one]
  have h3 : (guess * top + guess) * P ≤ first * P := Nat.mul_le_mul_right _ (by omega)
  have : guess ≤ W / V := by
    rw [Nat.le_div_iff_mul_le hV0]; omega
  omega

/-! ### the leading digits -/
theorem val_eq_take {D : List Nat} {k : Nat} (hz : ∀ i, k ≤ i → D.getD i 0 = 0) : val (D.take k) = val D := val_take_eq_of_drop_zero D k hz
theorem top2 {D : List Nat} {N : Nat} (hd : Dig D) (hN : D.length = N + 2) : ∃ lo, lo < 4294967296 ^ N ∧ val D = lo + 4294967296 ^ N * (D.getD N 0 + 4294967296 * D.getD (N + 1) 0) := by
  have h1 := val_take_drop D N (by omega)
  have h2 := val_lt (D.take N) (dig_take hd N)
  rw [List.length_take, Nat.min_eq_left (by omega)] at h2
  rw [val_drop_cons D N (by omega), val_drop_cons D (N + 1) (by omega), List.drop_eq_nil_of_le (by omega), val_nil] at h1
  exact ⟨_, h2, by rw [h1]; simp⟩
theorem top3 {D : List Nat} {N : Nat} (hd : Dig D) (hN : N + 2 < D.length) (hz : ∀ i, N + 3 ≤ i → D.getD i 0 = 0) :
    ∃ lo, lo < 4294967296 ^ N ∧ val D = lo + 4294967296 ^ N * (D.getD N 0 + 4294967296 * (D.getD (N + 1) 0 + 4294967296 * D.getD (N + 2) 0)) := by
  have h1 := val_take_drop D N (by omega)
  have h2 := val_lt (D.take N) (dig_take hd N)
  rw [List.length_take, Nat.min_eq_left (by omega)] at h2
  have h3 : val (D.drop (N + 2 + 1)) = 0 := by
    have := val_take_eq_of_drop_zero (D.drop (N + 2 + 1)) 0 (fun i _ => by
      rw [List.getD_eq_getElem?_getD, List.getElem?_drop, ← List.getD_eq_getElem?_getD]
      exact hz _ (by omega))
    rw [← this]; rfl
  rw [val_drop_cons D N (by omega), val_drop_cons D (N + 1) (by omega), val_drop_cons D (N + 2) (by omega), h3] at h1
  exact ⟨_, h2, by rw [h1]; simp⟩
theorem drop_getD (U : List Nat) (j i : Nat) : (U.drop j).getD i 0 = U.getD (j + i) 0 := by
  rw [List.getD_eq_getElem?_getD, List.getElem?_drop, ← List.getD_eq_getElem?_getD]
theorem val_drop_div {U : List Nat} (hd : Dig U) {j : Nat} (hj : j ≤ U.length) : val (U.drop j) = val U / 4294967296 ^ j := by
  have h1 := val_take_drop U j hj
  have h2 := val_lt (U.take j) (dig_take hd j)
  rw [List.length_take, Nat.min_eq_left hj] at h2
  rw [h1, Nat.add_mul_div_left _ _ (Nat.pow_pos (by omega)), Nat.div_eq_of_lt h2, Nat.zero_add]
/-- Above a bound on the value all digits are 0. -/
theorem zero_above {U : List Nat} {k : Nat} (h : val U < 4294967296 ^ k) : ∀ i, k ≤ i → U.getD i 0 = 0 := by
  intro i hi
  rcases Nat.lt_or_ge i U.length with hl | hl
  · rcases Nat.eq_zero_or_pos (U.getD i 0) with h0 | h0
    · exact h0
    · exfalso
      have h1 := val_take_drop U i (by omega)
      rw [val_drop_cons U i hl] at h1
      have h2 : 4294967296 ^ i * 1 ≤ 4294967296 ^ i * (U.getD i 0 + 4294967296 * val (U.drop (i + 1))) := Nat.mul_le_mul_left _ (by omega)
      have h3 : 4294967296 ^ k ≤ 4294967296 ^ i := Nat.pow_le_pow_right (by omega) hi
      omega
  · rw [List.getD_eq_getElem?_getD, List.getElem?_eq_none hl]; rfl

/-- All that the guess of digit j needs: W is the number from digit j on, V the divisor. -/
structure KnTop (W V top second h1 h0 u2 : Nat) where
  P : Nat
  hW1 : W < ((h0 + 4294967296 * h1) * 4294967296 + u2 + 1) * P
  hW2 : ((h0 + 4294967296 * h1) * 4294967296 + u2) * P ≤ W
  hV1 : V < (top * 4294967296 + second + 1) * P
  hV2 : (top * 4294967296 + second) * P ≤ V
  hP : 0 < P
theorem kn_top {U ys : List Nat} {N j : Nat} (hdU : Dig U) (hdy : Dig ys) (hN : ys.length = N + 2) (hj : j + (N + 2) < U.length) (hz : ∀ i, j + (N + 2) + 1 ≤ i → U.getD i 0 = 0) :
    Nonempty (KnTop (val U / 4294967296 ^ j) (val ys) (ys.getD (N + 1) 0) (ys.getD N 0) (U.getD (j + (N + 2)) 0) (U.getD (j + (N + 1)) 0) (U.getD (j + N) 0)) := by
  obtain ⟨lo, hlo, hv⟩ := top2 hdy hN
  obtain ⟨lo2, hlo2, hv2⟩ := top3 (D := U.drop j) (N := N) (dig_drop hdU j) (by simp; omega) (fun i hi => by rw [drop_getD]; exact hz _ (by omega))
  rw [drop_getD, drop_getD, drop_getD, val_drop_div hdU (by omega)] at hv2
  refine ⟨⟨4294967296 ^ N, ?_, ?_, ?_, ?_, Nat.pow_pos (by omega)⟩⟩
  · rw [hv2, Nat.add_mul, Nat.one_mul]
    have e : ∀ a b c p : Nat, p * (c + 4294967296 * (b + 4294967296 * a)) = ((b + 4294967296 * a) * 4294967296 + c) * p := fun a b c p => by
      rw [Nat.mul_comm p, Nat.mul_comm 4294967296 (b + 4294967296 * a), Nat.add_comm c]
    rw [e]; omega
  · rw [hv2]
    have e : ∀ a b c p : Nat, p * (c + 4294967296 * (b + 4294967296 * a)) = ((b + 4294967296 * a) * 4294967296 + c) * p := fun a b c p => by
      rw [Nat.mul_comm p, Nat.mul_comm 4294967296 (b + 4294967296 * a), Nat.add_comm c]
    rw [e]; omega
  · rw [hv, Nat.add_mul, Nat.one_mul]
    have e : ∀ b c p : Nat, p * (c + 4294967296 * b) = (b * 4294967296 + c) * p := fun b c p => by
      rw [Nat.mul_comm p, Nat.mul_comm 4294967296 b, Nat.add_comm c]
    rw [e]; omega
  · rw [hv]
    have e : ∀ b c p : Nat, p * (c + 4294967296 * b) = (b * 4294967296 + c) * p := fun b c p => by
      rw [Nat.mul_comm p, Nat.mul_comm 4294967296 b, Nat.add_comm c]
    rw [e]; omega

/-! ### the state of the search for a digit -/
/-- guess and rest belong together, and the guess is not below the digit. -/
def KnG (q top first guess rest : Nat) : Prop := guess * top + rest = first ∧ q ≤ guess
theorem kng_start {W V top second h1 h0 u2 : Nat} (K : KnTop W V top second h1 h0 u2) (ht : 0 < top) (hu : u2 < 4294967296) :
    KnG (W / V) top (h0 + 4294967296 * h1) ((h0 + 4294967296 * h1) / top) ((h0 + 4294967296 * h1) % top) := by
  refine ⟨?_, kn_start (P := 4294967296 * K.P) ?_ ?_ ht⟩
  · rw [Nat.mul_comm]; exact Nat.div_add_mod _ _
  · have h := K.hW1
    have h2 : ((h0 + 4294967296 * h1) * 4294967296 + u2 + 1) * K.P ≤ (h0 + 4294967296 * h1 + 1) * (4294967296 * K.P) := by
      rw [← Nat.mul_assoc]
      exact Nat.mul_le_mul_right _ (by omega)
    omega
  · have h := K.hV2
    have : top * (4294967296 * K.P) = top * 4294967296 * K.P := by rw [Nat.mul_assoc]
    rw [this]
    refine Nat.le_trans (Nat.mul_le_mul_right _ ?_) h
    omega
/-- One less. -/
theorem kng_less {q top first guess rest : Nat} (h : KnG q top first guess rest) (hq : q < guess) : KnG q top first (guess - 1) (rest + top) := by
  obtain ⟨h1, h2⟩ := h
  refine ⟨?_, by omega⟩
  have : (guess - 1) * top + top = guess * top := by
    rw [← Nat.succ_mul]; congr 1; omega
  omega
theorem kng_down {W V top second h1 h0 u2 guess rest : Nat} (K : KnTop W V top second h1 h0 u2) (h : KnG (W / V) top (h0 + 4294967296 * h1) guess rest)
    (hq : W / V < 4294967296) (ht : 4294967296 ≤ guess ∨ rest * 4294967296 + u2 < guess * second) : W / V < guess := by
  rcases ht with ht | ht
  · omega
  · exact kn_down h.1 ht K.hV2 K.hW1
theorem kng_a {W V top second h1 h0 u2 guess rest : Nat} (K : KnTop W V top second h1 h0 u2) (h : KnG (W / V) top (h0 + 4294967296 * h1) guess rest)
    (ht : 0 < top) (hg : guess < 4294967296) (hn : guess * second ≤ rest * 4294967296 + u2) : guess ≤ W / V + 1 := by
  have h0 : 4294967296 ≤ top * 4294967296 + second := by omega
  have h2 := Nat.mul_le_mul_right K.P h0
  exact kn_exit_a h.1 hn hg K.hV1 (Nat.le_trans h2 K.hV2) K.hW2
theorem kng_b {W V top second h1 h0 u2 guess rest : Nat} (K : KnTop W V top second h1 h0 u2) (h : KnG (W / V) top (h0 + 4294967296 * h1) guess rest)
    (hg : guess < 4294967296) (hs : second < 4294967296) (hr : 4294967296 ≤ rest) (hV : 0 < V) : guess ≤ W / V + 1 := by
  refine kn_exit_b (P := 4294967296 * K.P) h.1 hr hg ?_ ?_ hV
  · have h1 := K.hV1
    have : (top * 4294967296 + second + 1) * K.P ≤ (top + 1) * (4294967296 * K.P) := by
      rw [← Nat.mul_assoc]
      exact Nat.mul_le_mul_right _ (by omega)
    omega
  · have h1 := K.hW2
    refine Nat.le_trans ?_ h1
    rw [← Nat.mul_assoc]
    exact Nat.mul_le_mul_right _ (by omega)
/-- The loop is left by its 'break' with a guess of one digit. -/
theorem kng_one {q top first h1 h0 guess rest : Nat} (h : KnG q top first guess rest) (hf : first = h0 + 4294967296 * h1) (h0l : h0 < 4294967296) (h1l : h1 ≤ top) (hr : 4294967296 ≤ rest) : guess < 4294967296 := by
  obtain ⟨h1', _⟩ := h
  rcases Nat.lt_or_ge guess 4294967296 with hg | hg
  · exact hg
  · exfalso
    have a : 4294967296 * top ≤ guess * top := Nat.mul_le_mul_right _ hg
    omega

/-! ### taking away, giving back -/
theorem kn_sub {U ys : List Nat} {X j i guess b c u x d b' : Nat} (hp : j + i < U.length) (hu : U.getD (j + i) 0 = u) (hd : val (ys.take (i + 1)) = val (ys.take i) + 4294967296 ^ i * d)
    (he : x + (c + guess * d) % 4294967296 + b = u + 4294967296 * b') (h : val U + 4294967296 ^ j * (guess * val (ys.take i)) = X + 4294967296 ^ (j + i) * (b + c)) :
    val (U.set (j + i) x) + 4294967296 ^ j * (guess * val (ys.take (i + 1))) = X + 4294967296 ^ (j + (i + 1)) * (b' + (c + guess * d) / 4294967296) := by
  have h1 := val_set U (j + i) x hp
  rw [hu] at h1
  rw [hd]
  generalize val (ys.take i) = T at *
  generalize val (U.set (j + i) x) = vs at *
  have e1 : 4294967296 ^ j * (guess * (T + 4294967296 ^ i * d)) = 4294967296 ^ j * (guess * T) + 4294967296 ^ (j + i) * (guess * d) := by
    rw [Nat.pow_add, Nat.mul_add, Nat.mul_add]
    congr 1
    rw [Nat.mul_assoc]
    congr 1
    rw [Nat.mul_left_comm]
  have e2 : 4294967296 ^ (j + (i + 1)) * (b' + (c + guess * d) / 4294967296) = 4294967296 ^ (j + i) * (4294967296 * (b' + (c + guess * d) / 4294967296)) := by
    rw [← Nat.add_assoc, Nat.pow_succ, Nat.mul_assoc]
  rw [e1, e2]
  generalize guess * d = gd at *
  generalize 4294967296 ^ (j + i) = R at *
  generalize 4294967296 ^ j * (guess * T) = pgt at *
  have e3 : R * (u + 4294967296 * (b' + (c + gd) / 4294967296)) = R * (x + b + (c + gd)) := by
    congr 1
    omega
  rw [Nat.mul_add R u, Nat.mul_add R (x + b), Nat.mul_add R x, Nat.mul_add R c] at e3
  rw [Nat.mul_add] at h
  omega
theorem kn_add {U ys : List Nat} {X j i k u d : Nat} (hp : j + i < U.length) (hu : U.getD (j + i) 0 = u) (hd : val (ys.take (i + 1)) = val (ys.take i) + 4294967296 ^ i * d)
    (h : val U + 4294967296 ^ (j + i) * k = X + 4294967296 ^ j * val (ys.take i)) :
    val (U.set (j + i) ((k + (u + d)) % 4294967296)) + 4294967296 ^ (j + (i + 1)) * ((k + (u + d)) / 4294967296) = X + 4294967296 ^ j * val (ys.take (i + 1)) := by
  have h1 := carry_round (L := U) (j := j + i) (c := k) (s := d) (t := k + (u + d)) hp (by rw [hu]; omega)
  rw [hd, Nat.mul_add, ← Nat.mul_assoc, ← Nat.pow_add, ← Nat.add_assoc j i 1, h1]
  omega
/-- The number from digit j on, taken apart. -/
theorem kn_split (X j : Nat) : X = X % 4294967296 ^ j + 4294967296 ^ j * (X / 4294967296 ^ j) := by
  rw [Nat.add_comm]; exact (Nat.div_add_mod _ _).symm
/-- Without a borrow the guess was right. -/
theorem kn_right {X Y V j guess : Nat} (h : Y + 4294967296 ^ j * (guess * V) = X) (hV : 0 < V) (hge : X / 4294967296 ^ j / V ≤ guess) :
    X / 4294967296 ^ j / V = guess := by
  refine Nat.le_antisymm hge ?_
  rw [Nat.le_div_iff_mul_le hV, Nat.le_div_iff_mul_le (Nat.pow_pos (by omega)), Nat.mul_comm]
  omega
/-- With a borrow it was one too great. -/
theorem kn_wrong {X Y V j M guess : Nat} (h : Y + 4294967296 ^ j * (guess * V) = X + M) (hY : Y < M) (hle : guess ≤ X / 4294967296 ^ j / V + 1) (hge : X / 4294967296 ^ j / V ≤ guess) :
    guess = X / 4294967296 ^ j / V + 1 := by
  rcases Nat.lt_or_ge (X / 4294967296 ^ j / V) guess with h1 | h1
  · omega
  · exfalso
    have h2 := Nat.mul_le_mul_left (4294967296 ^ j) (Nat.le_trans (Nat.mul_le_mul_right V h1) (Nat.div_mul_le_self _ V))
    have h3 := kn_split X j
    omega
/-- Giving the divisor back ends the borrow. -/
theorem kn_back {X Y Z V j M q e : Nat} (h : Y + 4294967296 ^ j * ((q + 1) * V) = X + M) (h2 : Z + M * e = Y + 4294967296 ^ j * V) (hZ : Z < M) (hq : q = X / 4294967296 ^ j / V) (hV : 0 < V)
    (hM : 4294967296 ^ j * V ≤ M) : Z + 4294967296 ^ j * (q * V) = X := by
  have h3 := kn_split X j
  have h4 : q * V ≤ X / 4294967296 ^ j := by rw [hq]; exact Nat.div_mul_le_self _ V
  have h5 : X / 4294967296 ^ j < (q + 1) * V := by
    rw [← Nat.div_lt_iff_lt_mul hV, hq]; omega
  have h6 : X % 4294967296 ^ j < 4294967296 ^ j := Nat.mod_lt _ (Nat.pow_pos (by omega))
  generalize X / 4294967296 ^ j = W at *
  generalize X % 4294967296 ^ j = lo at *
  have h7 : 4294967296 ^ j * (q * V) ≤ 4294967296 ^ j * W := Nat.mul_le_mul_left _ h4
  have h8 : 4294967296 ^ j * (W + 1) ≤ 4294967296 ^ j * ((q + 1) * V) := Nat.mul_le_mul_left _ h5
  rw [Nat.add_mul, Nat.one_mul, Nat.mul_add, Nat.mul_add] at h8
  rw [Nat.add_mul, Nat.one_mul, Nat.mul_add] at h
  generalize 4294967296 ^ j = P at *
  generalize P * (q * V) = a at *
  generalize P * V = b at *
  generalize P * W = c at *
  match e, h2 with
  | 0, h2 => omega
  | 1, h2 => omega
  | e + 2, h2 =>
    have : M * 2 ≤ M * (e + 2) := Nat.mul_le_mul_left _ (by omega)
    omega
/-- What is left behind digit j. -/
theorem kn_left {X Z V j q : Nat} (h : Z + 4294967296 ^ j * (q * V) = X) (hq : q = X / 4294967296 ^ j / V) (hV : 0 < V) : Z / 4294967296 ^ j < V := by
  have h3 := kn_split X j
  have h6 : X % 4294967296 ^ j < 4294967296 ^ j := Nat.mod_lt _ (Nat.pow_pos (by omega))
  have h4 := Nat.div_add_mod (X / 4294967296 ^ j) V
  have h5 := Nat.mod_lt (X / 4294967296 ^ j) hV
  rw [← hq, Nat.mul_comm] at h4
  generalize X / 4294967296 ^ j = W at *
  generalize X % 4294967296 ^ j = lo at *
  generalize W % V = r at *
  rw [Nat.div_lt_iff_lt_mul (Nat.pow_pos (by omega)), Nat.mul_comm]
  have h8 : 4294967296 ^ j * (r + 1) ≤ 4294967296 ^ j * V := Nat.mul_le_mul_left _ h5
  rw [← h4] at h3
  rw [Nat.mul_add] at h3 h8
  omega

/-! ### the run over the digits -/
/-- Head of the outer loop: the digits of the quotient below k are still to come. -/
structure KnOut (M V : Nat) (Q U : List Nat) (k : Nat) : Prop where
  sum : val Q * V + val U = M
  zero : ∀ i, i < k → Q.getD i 0 = 0
  small : val U / 4294967296 ^ k < V
theorem kn_small {M V N : Nat} {Q U : List Nat} {j : Nat} (h : KnOut M V Q U (j + 1)) (hV : V ≤ 4294967296 ^ N) : val U < 4294967296 ^ (j + N + 1) := by
  have h1 := h.small
  rw [Nat.div_lt_iff_lt_mul (Nat.pow_pos (by omega))] at h1
  have h2 : V * 4294967296 ^ (j + 1) ≤ 4294967296 ^ N * 4294967296 ^ (j + 1) := Nat.mul_le_mul_right _ hV
  rw [← Nat.pow_add] at h2
  have e : N + (j + 1) = j + N + 1 := by omega
  rw [e] at h2
  omega
theorem kn_digit {M V : Nat} {Q U : List Nat} {j : Nat} (h : KnOut M V Q U (j + 1)) (hV : 0 < V) : val U / 4294967296 ^ j / V < 4294967296 := by
  have h1 := h.small
  rw [Nat.pow_succ, ← Nat.div_div_eq_div_mul] at h1
  rw [Nat.div_lt_iff_lt_mul hV]
  omega
theorem kn_next {M V : Nat} {Q U U' : List Nat} {j q : Nat} (h : KnOut M V Q U (j + 1)) (hj : j < Q.length) (hV : 0 < V) (hq : q = val U / 4294967296 ^ j / V)
    (hU : val U' + 4294967296 ^ j * (q * V) = val U) : KnOut M V (Q.set j q) U' j := by
  refine ⟨?_, fun i hi => ?_, kn_left hU hq hV⟩
  · rw [last_carry hj (h.zero j (by omega)), Nat.add_mul, Nat.mul_assoc, ← h.sum]
    omega
  · rw [set_getD_ne _ _ _ _ (by omega)]
    exact h.zero i (by omega)
theorem kn_end {m n S : Nat} {Q U : List Nat} (h : KnOut (m * S) (n * S) Q U 0) (hS : 0 < S) : val Q = m / n ∧ val U / S = m % n ∧ val U < n * S := by
  have h1 := h.sum
  have h2 := h.small
  rw [Nat.pow_zero, Nat.div_one] at h2
  have hn : 0 < n := by
    rcases Nat.eq_zero_or_pos n with h0 | h0
    · subst h0; simp at h2
    · exact h0
  have e1 : m * S / (n * S) = val Q := by
    rw [← h1, Nat.add_comm, Nat.add_mul_div_right _ _ (by omega), Nat.div_eq_of_lt h2, Nat.zero_add]
  have e2 : m * S % (n * S) = val U := by
    rw [← h1, Nat.add_comm, Nat.add_mul_mod_self_right, Nat.mod_eq_of_lt h2]
  rw [Nat.mul_div_mul_right _ _ hS] at e1
  rw [Nat.mul_mod_mul_right] at e2
  refine ⟨e1.symm, ?_, h2⟩
  rw [← e2, Nat.mul_div_cancel _ hS]
theorem kn_begin {m n S la N : Nat} {Q U : List Nat} (hQ : val Q = 0) (hU : val U = m * S) (hm : m < 4294967296 ^ la) (hN : N ≤ la) (hS : S ≤ 2147483648) (hn : 2147483648 * 4294967296 ^ (N - 1) ≤ n * S) (hN1 : 0 < N)
    (hz : ∀ i, Q.getD i 0 = 0) : KnOut (m * S) (n * S) Q U (la + 1 - N) := by
  refine ⟨by rw [hQ, hU]; omega, fun i _ => hz i, ?_⟩
  rw [Nat.div_lt_iff_lt_mul (Nat.pow_pos (by omega)), hU]
  have hP : 0 < 4294967296 ^ la := Nat.pow_pos (by omega)
  have h1 : m * S < 4294967296 ^ la * 2147483648 := by
    have a : (m + 1) * S ≤ 4294967296 ^ la * S := Nat.mul_le_mul_right _ hm
    have b : 4294967296 ^ la * S ≤ 4294967296 ^ la * 2147483648 := Nat.mul_le_mul_left _ hS
    rcases Nat.eq_zero_or_pos S with h0 | h0
    · subst h0; simp; omega
    · rw [Nat.add_mul, Nat.one_mul] at a
      omega
  have h2 : 2147483648 * 4294967296 ^ (N - 1) * 4294967296 ^ (la + 1 - N) ≤ n * S * 4294967296 ^ (la + 1 - N) := Nat.mul_le_mul_right _ hn
  rw [Nat.mul_assoc, ← Nat.pow_add] at h2
  have e : N - 1 + (la + 1 - N) = la := by omega
  rw [e] at h2
  omega
end Go.Proofs.YtlameeijogdckaaGreat
