import Derived.Test.YtpnpnlmlamfpmaaGreatDoorS03
namespace Go.Proofs.YtpnpnlmlamfpmaaGreatDoor
open Go.RowKit
set_option maxHeartbeats 40000000
set_option maxRecDepth 100000
set_option synthInstance.maxHeartbeats 1000000
set_option synthInstance.maxSize 100000
section
variable {M N S V W X Y Z d first guess h0 h1 i j k m n q rest second top u u2 : Nat}
theorem Qjv {P : Nat} (hW : W < (first + 1) * P) (hV : top * P ≤ V) (ht : 0 < top) : W / V ≤ first / top := by
 rw [Nat.le_div_iff_mul_le ht]
 rcases Nat.lt_or_ge first (W / V * top) with h | h
 ·exfalso
  have h1 : W / V * V ≤ W := Nat.div_mul_le_self W V
  have h2 : W / V * (top * P) ≤ W / V * V := Nat.mul_le_mul_left _ hV
  have h3 : (first + 1) * P ≤ (W / V * top) * P := Nat.mul_le_mul_right _ h
  rw [Nat.mul_assoc] at h3; omega
 ·exact h
theorem Qkt {P : Nat} (hf : guess * top + rest = first) (h : rest * 4294967296 + u2 < guess * second)
  (hV : (top * 4294967296 + second) * P ≤ V) (hW : W < (first * 4294967296 + u2 + 1) * P) : W / V < guess := by
 have h1 : first * 4294967296 + u2 + 1 ≤ guess * (top * 4294967296 + second) := by
  rw [← hf, Nat.mul_add, ← Nat.mul_assoc, Nat.add_mul]; omega
 have h2 : (first * 4294967296 + u2 + 1) * P ≤ guess * (top * 4294967296 + second) * P := Nat.mul_le_mul_right _ h1
 have h3 : guess * (top * 4294967296 + second) * P ≤ guess * V := by
  rw [Nat.mul_assoc]; exact Nat.mul_le_mul_left _ hV
 rcases Nat.eq_zero_or_pos V with h0 | h0
 ·subst h0; rw [Nat.mul_zero] at h3; omega
 ·rw [Nat.div_lt_iff_lt_mul h0]; omega
theorem Qb2 {P : Nat} (hf : guess * top + rest = first) (h : guess * second ≤ rest * 4294967296 + u2) (hg : guess < 4294967296)
  (hV : V < (top * 4294967296 + second + 1) * P) (hV2 : 4294967296 * P ≤ V) (hW : (first * 4294967296 + u2) * P ≤ W) : guess ≤ W / V + 1 := by
 have h1 : guess * (top * 4294967296 + second) ≤ first * 4294967296 + u2 := by
  rw [← hf, Nat.mul_add, ← Nat.mul_assoc, Nat.add_mul]; omega
 have h2 : guess * (top * 4294967296 + second) * P ≤ W := Nat.le_trans (Nat.mul_le_mul_right _ h1) hW
 have h3 : guess * V ≤ guess * ((top * 4294967296 + second + 1) * P) := Nat.mul_le_mul_left _ (Nat.le_of_lt hV)
 have h4 : guess * ((top * 4294967296 + second + 1) * P) = guess * (top * 4294967296 + second) * P + guess * P := by
  rw [← Nat.mul_assoc, Nat.mul_add, Nat.add_mul, Nat.mul_one]
 have h5 : guess * P ≤ 4294967296 * P := Nat.mul_le_mul_right _ (by omega)
 have hV0 : 0 < V := by
  rcases Nat.eq_zero_or_pos V with h0 | h0
  ·subst h0
   have : P = 0 := by omega
   subst this; simp at hV
  ·exact h0
 have h6 : guess ≤ (W + V) / V := by
  rw [Nat.le_div_iff_mul_le hV0]; omega
 rw [Nat.add_div_right _ hV0] at h6; exact h6
theorem Qb9 {P : Nat} (hf : guess * top + rest = first) (h : 4294967296 ≤ rest) (hg : guess < 4294967296)
  (hV : V < (top + 1) * P) (hW : first * P ≤ W) (hV0 : 0 < V) : guess ≤ W / V + 1 := by
 have h1 : guess * V ≤ guess * ((top + 1) * P) := Nat.mul_le_mul_left _ (Nat.le_of_lt hV)
 have h2 : guess * ((top + 1) * P) = (guess * top + guess) * P := by rw [← Nat.mul_assoc, Nat.mul_add, Nat.mul_one]
 have h3 : (guess * top + guess) * P ≤ first * P := Nat.mul_le_mul_right _ (by omega)
 have : guess ≤ W / V := by
  rw [Nat.le_div_iff_mul_le hV0]; omega
 omega
variable {D Q U ys : List Nat}
theorem Om (hz : ∀ i, k ≤ i → D.getD i 0 = 0) : val (D.take k) = val D := X5 D k hz
theorem Qd2 (hd : Dig D) (hN : D.length = N + 2) : ∃ lo, lo < 4294967296 ^ N ∧ val D = lo + 4294967296 ^ N * (D.getD N 0 + 4294967296 * D.getD (N + 1) 0) := by
 have h1 := Dt D N (by omega)
 have h2 := C9 (D.take N) (E7 hd N)
 rw [List.length_take, Nat.min_eq_left (by omega)] at h2; rw [Ck D N (by omega), Ck D (N + 1) (by omega), List.drop_eq_nil_of_le (by omega), Ay] at h1
 exact ⟨_, h2, by rw [h1]; simp⟩
theorem Qjg (hd : Dig D) (hN : N + 2 < D.length) (hz : ∀ i, N + 3 ≤ i → D.getD i 0 = 0) :
  ∃ lo, lo < 4294967296 ^ N ∧ val D = lo + 4294967296 ^ N * (D.getD N 0 + 4294967296 * (D.getD (N + 1) 0 + 4294967296 * D.getD (N + 2) 0)) := by
 have h1 := Dt D N (by omega)
 have h2 := C9 (D.take N) (E7 hd N)
 rw [List.length_take, Nat.min_eq_left (by omega)] at h2
 have h3 : val (D.drop (N + 2 + 1)) = 0 := by
  have := X5 (D.drop (N + 2 + 1)) 0 (fun i _ => by
   rw [List.getD_eq_getElem?_getD, List.getElem?_drop, ← List.getD_eq_getElem?_getD]
   exact hz _ (by omega))
  rw [← this]; rfl
 rw [Ck D N (by omega), Ck D (N + 1) (by omega), Ck D (N + 2) (by omega), h3] at h1
 exact ⟨_, h2, by rw [h1]; simp⟩
theorem M0 (U : List Nat) (j i : Nat) : (U.drop j).getD i 0 = U.getD (j + i) 0 := by
 rw [List.getD_eq_getElem?_getD, List.getElem?_drop, ← List.getD_eq_getElem?_getD]
theorem Qaw (hd : Dig U) (hj : j ≤ U.length) : val (U.drop j) = val U / 4294967296 ^ j := by
 have h1 := Dt U j hj
 have h2 := C9 (U.take j) (E7 hd j)
 rw [List.length_take, Nat.min_eq_left hj] at h2; rw [h1, Nat.add_mul_div_left _ _ (Nat.pow_pos (by omega)), Nat.div_eq_of_lt h2, Nat.zero_add]
theorem Y5 (h : val U < 4294967296 ^ k) : ∀ i, k ≤ i → U.getD i 0 = 0 := by
 intro i hi
 rcases Nat.lt_or_ge i U.length with hl | hl
 ·rcases Nat.eq_zero_or_pos (U.getD i 0) with h0 | h0
  ·exact h0
  ·exfalso
   have h1 := Dt U i (by omega)
   rw [Ck U i hl] at h1
   have h2 : 4294967296 ^ i * 1 ≤ 4294967296 ^ i * (U.getD i 0 + 4294967296 * val (U.drop (i + 1))) := Nat.mul_le_mul_left _ (by omega)
   have h3 : 4294967296 ^ k ≤ 4294967296 ^ i := Nat.pow_le_pow_right (by omega) hi
   omega
 ·rw [List.getD_eq_getElem?_getD, List.getElem?_eq_none hl]; rfl
structure KnTop (W V top second h1 h0 u2 : Nat) where
 P : Nat
 hW1 : W < ((h0 + 4294967296 * h1) * 4294967296 + u2 + 1) * P
 hW2 : ((h0 + 4294967296 * h1) * 4294967296 + u2) * P ≤ W
 hV1 : V < (top * 4294967296 + second + 1) * P
 hV2 : (top * 4294967296 + second) * P ≤ V
 hP : 0 < P
theorem Qeq (hdU : Dig U) (hdy : Dig ys) (hN : ys.length = N + 2) (hj : j + (N + 2) < U.length) (hz : ∀ i, j + (N + 2) + 1 ≤ i → U.getD i 0 = 0) :
  Nonempty (KnTop (val U / 4294967296 ^ j) (val ys) (ys.getD (N + 1) 0) (ys.getD N 0) (U.getD (j + (N + 2)) 0) (U.getD (j + (N + 1)) 0) (U.getD (j + N) 0)) := by
 obtain ⟨lo, hlo, hv⟩ := Qd2 hdy hN
 obtain ⟨lo2, hlo2, hv2⟩ := Qjg (D := U.drop j) (N := N) (Qhg hdU j) (by simp; omega) (fun i hi => by rw [M0]; exact hz _ (by omega))
 rw [M0, M0, M0, Qaw hdU (by omega)] at hv2
 refine ⟨⟨4294967296 ^ N, ?_, ?_, ?_, ?_, Nat.pow_pos (by omega)⟩⟩
 ·rw [hv2, Nat.add_mul, Nat.one_mul]
  have e : ∀ a b c p : Nat, p * (c + 4294967296 * (b + 4294967296 * a)) = ((b + 4294967296 * a) * 4294967296 + c) * p := fun a b c p => by
   rw [Nat.mul_comm p, Nat.mul_comm 4294967296 (b + 4294967296 * a), Nat.add_comm c]
  rw [e]; omega
 ·rw [hv2]
  have e : ∀ a b c p : Nat, p * (c + 4294967296 * (b + 4294967296 * a)) = ((b + 4294967296 * a) * 4294967296 + c) * p := fun a b c p => by
   rw [Nat.mul_comm p, Nat.mul_comm 4294967296 (b + 4294967296 * a), Nat.add_comm c]
  rw [e]; omega
 ·rw [hv, Nat.add_mul, Nat.one_mul]
  have e : ∀ b c p : Nat, p * (c + 4294967296 * b) = (b * 4294967296 + c) * p := fun b c p => by
   rw [Nat.mul_comm p, Nat.mul_comm 4294967296 b, Nat.add_comm c]
  rw [e]; omega
 ·rw [hv]
  have e : ∀ b c p : Nat, p * (c + 4294967296 * b) = (b * 4294967296 + c) * p := fun b c p => by
   rw [Nat.mul_comm p, Nat.mul_comm 4294967296 b, Nat.add_comm c]
  rw [e]; omega
def KnG (q top first guess rest : Nat) : Prop := guess * top + rest = first ∧ q ≤ guess
theorem Qdi (K : KnTop W V top second h1 h0 u2) (ht : 0 < top) (hu : u2 < 4294967296) :
  KnG (W / V) top (h0 + 4294967296 * h1) ((h0 + 4294967296 * h1) / top) ((h0 + 4294967296 * h1) % top) := by
 refine ⟨?_, Qjv (P := 4294967296 * K.P) ?_ ?_ ht⟩
 ·rw [Nat.mul_comm]; exact Nat.div_add_mod _ _
 ·have h := K.hW1
  have h2 : ((h0 + 4294967296 * h1) * 4294967296 + u2 + 1) * K.P ≤ (h0 + 4294967296 * h1 + 1) * (4294967296 * K.P) := by
   rw [← Nat.mul_assoc]; exact Nat.mul_le_mul_right _ (by omega)
  omega
 ·have h := K.hV2
  have : top * (4294967296 * K.P) = top * 4294967296 * K.P := by rw [Nat.mul_assoc]
  rw [this]
  refine Nat.le_trans (Nat.mul_le_mul_right _ ?_) h
  omega
theorem Yv (h : KnG q top first guess rest) (hq : q < guess) : KnG q top first (guess - 1) (rest + top) := by
 obtain ⟨h1, h2⟩ := h
 refine ⟨?_, by omega⟩
 have : (guess - 1) * top + top = guess * top := by
  rw [← Nat.succ_mul]; congr 1; omega
 omega
theorem Tp (K : KnTop W V top second h1 h0 u2) (h : KnG (W / V) top (h0 + 4294967296 * h1) guess rest)
  (hq : W / V < 4294967296) (ht : 4294967296 ≤ guess ∨ rest * 4294967296 + u2 < guess * second) : W / V < guess := by
 rcases ht with ht | ht
 ·omega
 ·exact Qkt h.1 ht K.hV2 K.hW1
theorem Qgg (K : KnTop W V top second h1 h0 u2) (h : KnG (W / V) top (h0 + 4294967296 * h1) guess rest)
  (ht : 0 < top) (hg : guess < 4294967296) (hn : guess * second ≤ rest * 4294967296 + u2) : guess ≤ W / V + 1 := by
 have h0 : 4294967296 ≤ top * 4294967296 + second := (by omega)
 have h2 := Nat.mul_le_mul_right K.P h0
 exact Qb2 h.1 hn hg K.hV1 (Nat.le_trans h2 K.hV2) K.hW2
theorem Ur (K : KnTop W V top second h1 h0 u2) (h : KnG (W / V) top (h0 + 4294967296 * h1) guess rest)
  (hg : guess < 4294967296) (hs : second < 4294967296) (hr : 4294967296 ≤ rest) (hV : 0 < V) : guess ≤ W / V + 1 := by
 refine Qb9 (P := 4294967296 * K.P) h.1 hr hg ?_ ?_ hV
 ·have h1 := K.hV1
  have : (top * 4294967296 + second + 1) * K.P ≤ (top + 1) * (4294967296 * K.P) := by
   rw [← Nat.mul_assoc]; exact Nat.mul_le_mul_right _ (by omega)
  omega
 ·have h1 := K.hW2
  refine Nat.le_trans ?_ h1
  rw [← Nat.mul_assoc]; exact Nat.mul_le_mul_right _ (by omega)
theorem Ya (h : KnG q top first guess rest) (hf : first = h0 + 4294967296 * h1) (h0l : h0 < 4294967296) (h1l : h1 ≤ top) (hr : 4294967296 ≤ rest) : guess < 4294967296 := by
 obtain ⟨h1', _⟩ := h
 rcases Nat.lt_or_ge guess 4294967296 with hg | hg
 ·exact hg
 ·exfalso
  have a : 4294967296 * top ≤ guess * top := Nat.mul_le_mul_right _ hg
  omega
theorem Sr {b c x b' : Nat} (hp : j + i < U.length) (hu : U.getD (j + i) 0 = u) (hd : val (ys.take (i + 1)) = val (ys.take i) + 4294967296 ^ i * d)
  (he : x + (c + guess * d) % 4294967296 + b = u + 4294967296 * b') (h : val U + 4294967296 ^ j * (guess * val (ys.take i)) = X + 4294967296 ^ (j + i) * (b + c)) :
  val (U.set (j + i) x) + 4294967296 ^ j * (guess * val (ys.take (i + 1))) = X + 4294967296 ^ (j + (i + 1)) * (b' + (c + guess * d) / 4294967296) := by
 have h1 := J8 U (j + i) x hp
 rw [hu] at h1; rw [hd]
 generalize val (ys.take i) = T, val (U.set (j + i) x) = vs at *
 have e1 : 4294967296 ^ j * (guess * (T + 4294967296 ^ i * d)) = 4294967296 ^ j * (guess * T) + 4294967296 ^ (j + i) * (guess * d) := by
  rw [Nat.pow_add, Nat.mul_add, Nat.mul_add]
  congr 1
  rw [Nat.mul_assoc]
  congr 1
  rw [Nat.mul_left_comm]
 have e2 : 4294967296 ^ (j + (i + 1)) * (b' + (c + guess * d) / 4294967296) = 4294967296 ^ (j + i) * (4294967296 * (b' + (c + guess * d) / 4294967296)) := by
  rw [← Nat.add_assoc, Nat.pow_succ, Nat.mul_assoc]
 rw [e1, e2]
 generalize guess * d = gd, 4294967296 ^ (j + i) = R, 4294967296 ^ j * (guess * T) = pgt at *
 have e3 : R * (u + 4294967296 * (b' + (c + gd) / 4294967296)) = R * (x + b + (c + gd)) := by
  congr 1
  omega
 rw [Nat.mul_add R u, Nat.mul_add R (x + b), Nat.mul_add R x, Nat.mul_add R c] at e3; rw [Nat.mul_add] at h; omega
theorem Vs (hp : j + i < U.length) (hu : U.getD (j + i) 0 = u) (hd : val (ys.take (i + 1)) = val (ys.take i) + 4294967296 ^ i * d)
  (h : val U + 4294967296 ^ (j + i) * k = X + 4294967296 ^ j * val (ys.take i)) :
  val (U.set (j + i) ((k + (u + d)) % 4294967296)) + 4294967296 ^ (j + (i + 1)) * ((k + (u + d)) / 4294967296) = X + 4294967296 ^ j * val (ys.take (i + 1)) := by
 have h1 := Nc (L := U) (j := j + i) (c := k) (s := d) (t := k + (u + d)) hp (by rw [hu]; omega)
 rw [hd, Nat.mul_add, ← Nat.mul_assoc, ← Nat.pow_add, ← Nat.add_assoc j i 1, h1]; omega
theorem Sa (X j : Nat) : X = X % 4294967296 ^ j + 4294967296 ^ j * (X / 4294967296 ^ j) := by
 rw [Nat.add_comm]; exact (Nat.div_add_mod _ _).symm
theorem Qdf (h : Y + 4294967296 ^ j * (guess * V) = X) (hV : 0 < V) (hge : X / 4294967296 ^ j / V ≤ guess) :
  X / 4294967296 ^ j / V = guess := by
 refine Nat.le_antisymm hge ?_
 rw [Nat.le_div_iff_mul_le hV, Nat.le_div_iff_mul_le (Nat.pow_pos (by omega)), Nat.mul_comm]; omega
theorem Qgo (h : Y + 4294967296 ^ j * (guess * V) = X + M) (hY : Y < M) (hle : guess ≤ X / 4294967296 ^ j / V + 1) (hge : X / 4294967296 ^ j / V ≤ guess) :
  guess = X / 4294967296 ^ j / V + 1 := by
 rcases Nat.lt_or_ge (X / 4294967296 ^ j / V) guess with h1 | h1
 ·omega
 ·exfalso
  have h2 := Nat.mul_le_mul_left (4294967296 ^ j) (Nat.le_trans (Nat.mul_le_mul_right V h1) (Nat.div_mul_le_self _ V))
  have h3 := Sa X j
  omega
theorem Qez {e : Nat} (h : Y + 4294967296 ^ j * ((q + 1) * V) = X + M) (h2 : Z + M * e = Y + 4294967296 ^ j * V) (hZ : Z < M) (hq : q = X / 4294967296 ^ j / V) (hV : 0 < V)
  (hM : 4294967296 ^ j * V ≤ M) : Z + 4294967296 ^ j * (q * V) = X := by
 have h3 := Sa X j
 have h4 : q * V ≤ X / 4294967296 ^ j := by rw [hq]; exact Nat.div_mul_le_self _ V
 have h5 : X / 4294967296 ^ j < (q + 1) * V := by
  rw [← Nat.div_lt_iff_lt_mul hV, hq]; omega
 have h6 : X % 4294967296 ^ j < 4294967296 ^ j := Nat.mod_lt _ (Nat.pow_pos (by omega))
 generalize X / 4294967296 ^ j = W, X % 4294967296 ^ j = lo at *
 have h7 : 4294967296 ^ j * (q * V) ≤ 4294967296 ^ j * W := Nat.mul_le_mul_left _ h4
 have h8 : 4294967296 ^ j * (W + 1) ≤ 4294967296 ^ j * ((q + 1) * V) := Nat.mul_le_mul_left _ h5
 rw [Nat.add_mul, Nat.one_mul, Nat.mul_add, Nat.mul_add] at h8; rw [Nat.add_mul, Nat.one_mul, Nat.mul_add] at h
 generalize 4294967296 ^ j = P at *; generalize P * (q * V) = a, P * V = b, P * W = c at *
 match e, h2 with
 | 0, h2 => omega
 | 1, h2 => omega
 | e + 2, h2 =>
  have : M * 2 ≤ M * (e + 2) := Nat.mul_le_mul_left _ (by omega)
  omega
theorem Qjf (h : Z + 4294967296 ^ j * (q * V) = X) (hq : q = X / 4294967296 ^ j / V) (hV : 0 < V) : Z / 4294967296 ^ j < V := by
 have h3 := Sa X j
 have h6 : X % 4294967296 ^ j < 4294967296 ^ j := Nat.mod_lt _ (Nat.pow_pos (by omega))
 have h4 := Nat.div_add_mod (X / 4294967296 ^ j) V
 have h5 := Nat.mod_lt (X / 4294967296 ^ j) hV
 rw [← hq, Nat.mul_comm] at h4
 generalize X / 4294967296 ^ j = W, X % 4294967296 ^ j = lo at *; generalize W % V = r at *
 rw [Nat.div_lt_iff_lt_mul (Nat.pow_pos (by omega)), Nat.mul_comm]
 have h8 : 4294967296 ^ j * (r + 1) ≤ 4294967296 ^ j * V := Nat.mul_le_mul_left _ h5
 rw [← h4] at h3; rw [Nat.mul_add] at h3 h8; omega
structure KnOut (M V : Nat) (Q U : List Nat) (k : Nat) : Prop where
 sum : val Q * V + val U = M
 zero : ∀ i, i < k → Q.getD i 0 = 0
 small : val U / 4294967296 ^ k < V
theorem Qds (h : KnOut M V Q U (j + 1)) (hV : V ≤ 4294967296 ^ N) : val U < 4294967296 ^ (j + N + 1) := by
 have h1 := h.small
 rw [Nat.div_lt_iff_lt_mul (Nat.pow_pos (by omega))] at h1
 have h2 : V * 4294967296 ^ (j + 1) ≤ 4294967296 ^ N * 4294967296 ^ (j + 1) := Nat.mul_le_mul_right _ hV
 rw [← Nat.pow_add] at h2; have e : N + (j + 1) = j + N + 1 := (by omega); rw [e] at h2; omega
theorem Qfo (h : KnOut M V Q U (j + 1)) (hV : 0 < V) : val U / 4294967296 ^ j / V < 4294967296 := by
 have h1 := h.small
 rw [Nat.pow_succ, ← Nat.div_div_eq_div_mul] at h1; rw [Nat.div_lt_iff_lt_mul hV]; omega
theorem Yo {U' : List Nat} (h : KnOut M V Q U (j + 1)) (hj : j < Q.length) (hV : 0 < V) (hq : q = val U / 4294967296 ^ j / V)
  (hU : val U' + 4294967296 ^ j * (q * V) = val U) : KnOut M V (Q.set j q) U' j := by
 refine ⟨?_, fun i hi => ?_, Qjf hU hq hV⟩
 ·rw [Gz hj (h.zero j (by omega)), Nat.add_mul, Nat.mul_assoc, ← h.sum]; omega
 ·rw [Cq _ _ _ _ (by omega)]; exact h.zero i (by omega)
theorem Qgv (h : KnOut (m * S) (n * S) Q U 0) (hS : 0 < S) : val Q = m / n ∧ val U / S = m % n ∧ val U < n * S := by
 have h1 := h.sum
 have h2 := h.small
 rw [Nat.pow_zero, Nat.div_one] at h2
 have hn : 0 < n := by
  rcases Nat.eq_zero_or_pos n with h0 | h0
  ·subst h0; simp at h2
  ·exact h0
 have e1 : m * S / (n * S) = val Q := by
  rw [← h1, Nat.add_comm, Nat.add_mul_div_right _ _ (by omega), Nat.div_eq_of_lt h2, Nat.zero_add]
 have e2 : m * S % (n * S) = val U := by
  rw [← h1, Nat.add_comm, Nat.add_mul_mod_self_right, Nat.mod_eq_of_lt h2]
 rw [Nat.mul_div_mul_right _ _ hS] at e1; rw [Nat.mul_mod_mul_right] at e2
 refine ⟨e1.symm, ?_, h2⟩
 rw [← e2, Nat.mul_div_cancel _ hS]
theorem Qcf {la : Nat} (hQ : val Q = 0) (hU : val U = m * S) (hm : m < 4294967296 ^ la) (hN : N ≤ la) (hS : S ≤ 2147483648) (hn : 2147483648 * 4294967296 ^ (N - 1) ≤ n * S) (hN1 : 0 < N)
  (hz : ∀ i, Q.getD i 0 = 0) : KnOut (m * S) (n * S) Q U (la + 1 - N) := by
 refine ⟨by rw [hQ, hU]; omega, fun i _ => hz i, ?_⟩
 rw [Nat.div_lt_iff_lt_mul (Nat.pow_pos (by omega)), hU]
 have hP : 0 < 4294967296 ^ la := Nat.pow_pos (by omega)
 have h1 : m * S < 4294967296 ^ la * 2147483648 := by
  have a : (m + 1) * S ≤ 4294967296 ^ la * S := Nat.mul_le_mul_right _ hm
  have b : 4294967296 ^ la * S ≤ 4294967296 ^ la * 2147483648 := Nat.mul_le_mul_left _ hS
  rcases Nat.eq_zero_or_pos S with h0 | h0
  ·subst h0; simp; omega
  ·rw [Nat.add_mul, Nat.one_mul] at a; omega
 have h2 : 2147483648 * 4294967296 ^ (N - 1) * 4294967296 ^ (la + 1 - N) ≤ n * S * 4294967296 ^ (la + 1 - N) := Nat.mul_le_mul_right _ hn
 rw [Nat.mul_assoc, ← Nat.pow_add] at h2; have e : N - 1 + (la + 1 - N) = la := (by omega); rw [e] at h2; omega
end
theorem Nt {la L : List Nat} {d r x j : Nat} (hj : j < la.length) (hL : L.length = la.length) (hx : la.getD j 0 = x) (hd : 0 < d) (hr : r < d) (hdL : Dig L) (hda : Dig la)
  (hz : ∀ i, i < j + 1 → L.getD i 0 = 0) (h : 4294967296 ^ (j + 1) * val (la.drop (j + 1)) = val L * d + 4294967296 ^ (j + 1) * r) :
  (x + 4294967296 * r) / d < 4294967296 ∧ (x + 4294967296 * r) % d < d ∧ Dig (L.set j ((x + 4294967296 * r) / d)) ∧ (∀ i, i < j → (L.set j ((x + 4294967296 * r) / d)).getD i 0 = 0) ∧
   4294967296 ^ j * val (la.drop j) = val (L.set j ((x + 4294967296 * r) / d)) * d + 4294967296 ^ j * ((x + 4294967296 * r) % d) := by
 have hx2 := An hda j
 rw [hx] at hx2
 have hq : (r * 4294967296 + x) / d < 4294967296 := Qhm hr hx2
 have e : r * 4294967296 + x = x + 4294967296 * r := (by omega)
 have h1 := Qb8 (L := L) (A := 4294967296 ^ (j + 1) * val (la.drop (j + 1))) (r := r) (x := x) (d := d) (j := j) (by omega) (hz j (by omega)) h
 rw [e] at hq h1
 refine ⟨hq, Nat.mod_lt _ hd, G6 hdL _ hq, fun i hi => by rw [Cq _ _ _ _ (by omega)]; exact hz i (by omega), ?_⟩
 rw [Ck la j hj, hx, ← h1, Nat.mul_add, Nat.pow_succ, Nat.mul_assoc]; omega
theorem R5 {la L : List Nat} {d r : Nat} (hr : r < d) (h : 4294967296 ^ 0 * val (la.drop 0) = val L * d + 4294967296 ^ 0 * r) : val L = val la / d ∧ r = val la % d := by
 rw [Nat.pow_zero, Nat.one_mul, Nat.one_mul, List.drop_zero] at h; rw [h]; constructor
 ·rw [Nat.mul_comm, Nat.mul_add_div (by omega), Nat.div_eq_of_lt hr]; rfl
 ·rw [Nat.mul_comm, Nat.mul_add_mod, Nat.mod_eq_of_lt hr]
def U1 (w : World) (m d : Nat) (e : Ending) (w' : World) : Prop :=
 ∃ z, e = .returned (.tuple #[z, .int .u32 ((m % d : Nat) : Int)]) ∧ Own w' w.heap.size z (nf (m / d)) ∧ Below w.heap.size w w'
theorem Qhl (w : World) (u : Value) (la : List Nat) (d : Nat) (hu : Rd w u la) (hla : la.length ≤ 1000000) (hd : 0 < d) (hdl : d < 4294967296) :
  Calls Tryz.prog 224 #[u, .int .u32 (d : Int)] w (U1 w (val la) d) := by
 obtain ⟨a, capa, rfl, _, _, hda, hra⟩ := hu; go_enter Tryz.func224, Tryz.ntmps224
 go_wp2_with (at_make; go_loud (refine Dg _ rfl (.tmp 11) (.tmp 11) 45 rfl Tryz.underlying45 _ _ la.length rfl rfl (by omega) (by omega) (by omega) ?_); intro w1 R0 B0)
 go_loopw [7, 8] (fun c i wr => ∃ (k r : Nat) (L : List Nat), k ≤ la.length ∧ i = .int .i64 ((k : Int) - 1) ∧ c = .int .u64 r ∧ r < d ∧ Row wr w.heap.size w.heap.size la.length L ∧ Hid (L.length = la.length) ∧ Below w.heap.size w wr ∧
   Hid (∀ j, j < k → L.getD j 0 = 0) ∧ Hid (4294967296 ^ k * val (la.drop k) = val L * d + 4294967296 ^ k * r)) (fun _ i _ => (intOf i + 1).toNat)
 case atStart => exact ⟨la.length, 0, _, Nat.le_refl _, rfl, rfl, hd, R0, by show _ = _; simp, B0, fun j _ => C3 _ _, by show _ = _; simp [Dc, Ay]⟩
 case round =>
  obtain ⟨k, r, L, hk, rfl, rfl, hr, hR, hL, hB, hz, hv⟩ := hrel
  have hRl := hR.lt
  have hRc := hR.cap
  by_cases hk1 : 1 ≤ k
  ·obtain ⟨j, rfl⟩ : ∃ j, k = j + 1 := ⟨k - 1, by omega⟩
   obtain ⟨ba, offa, rfl, cA⟩ := hra.at hB (k := j) (by omega)
   have hx := An hda j
   have hst := fun x hx => @Nt la L d r x j (by omega) hL.out hx hd hr hR.dig hda hz.out hv.out
   have hst := hst _ rfl
   generalize la.getD j 0 = x at *
   have cR := hR.cell (j := j) (by rw [hL.out]; omega)
   have fR := hR.free j
   generalize L.getD j 0 = z at *
   have hor := Ii x r hx (by omega)
   have b0 : (0 : Int) ≤ (j : Int) := (by omega); have b1 : (j : Int) < (la.length : Int) := (by omega)
   have e1 : ((x : Int) + 4294967296 * (r : Int)) / (d : Int) = (((x + 4294967296 * r) / d : Nat) : Int) := by rw [Int.natCast_ediv, Int.natCast_add, Int.natCast_mul]; rfl
   have e2 : ((x : Int) + 4294967296 * (r : Int)) % (d : Int) = (((x + 4294967296 * r) % d : Nat) : Int) := by rw [Int.natCast_emod, Int.natCast_add, Int.natCast_mul]; rfl
   have q1 : ((x : Int) + 4294967296 * (r : Int)) / (d : Int) < 4294967296 := by rw [e1]; have := hst.1; omega
   have q2 : (0 : Int) ≤ ((x : Int) + 4294967296 * (r : Int)) / (d : Int) := by rw [e1]; exact Int.natCast_nonneg _
   have q3 : (0 : Int) ≤ ((x : Int) + 4294967296 * (r : Int)) % (d : Int) := by rw [e2]; exact Int.natCast_nonneg _
   have q4 : ((x : Int) + 4294967296 * (r : Int)) % (d : Int) < (d : Int) := by rw [e2]; have := hst.2.1; omega
   have E1 := Lib.hid e1; have E2 := Lib.hid e2; clear e1 e2; have HST := Lib.hid hst; clear hst hra; go_wp2
   go_roundw
   case rel =>
    obtain ⟨s1, s2, s3, s4, s5⟩ := HST.out; rw [E1.out, E2.out]
    exact ⟨j, (x + 4294967296 * r) % d, _, by omega, by go_num, rfl, s2, hR.set j s1, by show _ = _; rw [List.length_set]; exact hL.out, hB.setCell (Nat.le_refl _) _, s4, s5⟩
   case measure => simp [intOf]
  ·obtain rfl : k = 0 := by omega
   have hst := R5 hr hv.out
   have HST := Lib.hid hst; clear hst hra
   go_wp2_with (go_at_call 206; refine (Gi _ _ _ _ _ _ hR hL.out).mono ?_; rintro e w2 ⟨v, rfl, ho, rfl⟩)
   go_ret2; obtain ⟨s1, s2⟩ := HST.out; rw [s1] at ho
   refine ⟨v, ?_, ho, hB⟩
   rw [← s2]; rfl
end Go.Proofs.YtpnpnlmlamfpmaaGreatDoor
