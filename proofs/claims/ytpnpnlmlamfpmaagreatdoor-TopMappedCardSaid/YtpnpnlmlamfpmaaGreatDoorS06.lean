import Derived.Test.YtpnpnlmlamfpmaaGreatDoorS05
namespace Go.Proofs.YtpnpnlmlamfpmaaGreatDoor
section
namespace Wn
def crs (a b : Rat × Rat) : Rat := a.1 * b.2 - a.2 * b.1
def cr (a b : Rat × Rat) : Int := if a.2 ≤ 0 ∧ 0 < b.2 ∧ 0 < crs a b then 1 else if 0 < a.2 ∧ b.2 ≤ 0 ∧ crs a b < 0 then -1 else 0
def onS (a b : Rat × Rat) : Prop := crs a b = 0 ∧ a.1 * b.1 + a.2 * b.2 ≤ 0
def sw (a : Rat × Rat) : Rat × Rat := (a.2, a.1)
def gq (a : Rat × Rat) : Int := if 0 < a.1 ∧ 0 < a.2 then 1 else 0
variable {A B D E N c x y : Rat}
theorem mpos (h : 0 < x) (k : 0 < y) : 0 < x * y := Rat.mul_pos h k
theorem mnn (h : x ≤ 0) (k : y ≤ 0) : 0 ≤ x * y := by
 have := Rat.mul_nonneg (a := -x) (b := -y) (by grind) (by grind)
 grind
theorem mpn (h : 0 ≤ x) (k : y ≤ 0) : x * y ≤ 0 := by
 have := Rat.mul_nonneg (a := x) (b := -y) h (by grind)
 grind
theorem mpp (h : 0 ≤ x) (k : 0 ≤ y) : 0 ≤ x * y := Rat.mul_nonneg h k
variable {a b : Rat × Rat}
theorem Qlv (h : ¬ onS a b) : cr (sw a) (sw b) + cr a b = gq b - gq a := by
 obtain ⟨ax, ay⟩ := a; obtain ⟨bx, by_⟩ := b; unfold onS at h; unfold cr gq sw; simp only [crs] at *
 by_cases h1 : 0 < ax <;> by_cases h2 : 0 < ay <;> by_cases h3 : 0 < bx <;> by_cases h4 : 0 < by_
 all_goals
  first
   | (have q1 := mpos (x := ax) (y := by_) (by assumption) (by assumption))
   | (have q1 := mpn (x := ax) (y := by_) (by grind) (by grind))
   | (have q1 := mpn (x := by_) (y := ax) (by grind) (by grind))
   | (have q1 := mnn (x := ax) (y := by_) (by grind) (by grind))
  first
   | (have q2 := mpos (x := ay) (y := bx) (by assumption) (by assumption))
   | (have q2 := mpn (x := ay) (y := bx) (by grind) (by grind))
   | (have q2 := mpn (x := bx) (y := ay) (by grind) (by grind))
   | (have q2 := mnn (x := ay) (y := bx) (by grind) (by grind))
  first
   | (have q3 := mpos (x := ax) (y := bx) (by assumption) (by assumption))
   | (have q3 := mpn (x := ax) (y := bx) (by grind) (by grind))
   | (have q3 := mpn (x := bx) (y := ax) (by grind) (by grind))
   | (have q3 := mnn (x := ax) (y := bx) (by grind) (by grind))
  first
   | (have q4 := mpos (x := ay) (y := by_) (by assumption) (by assumption))
   | (have q4 := mpn (x := ay) (y := by_) (by grind) (by grind))
   | (have q4 := mpn (x := by_) (y := ay) (by grind) (by grind))
   | (have q4 := mnn (x := ay) (y := by_) (by grind) (by grind))
 all_goals grind
def xn (a : Rat × Rat) : Rat × Rat := (-a.1, a.2)
def gy (a : Rat × Rat) : Int := if 0 < a.2 then 1 else 0
theorem mneg (h : 0 < x) (k : y < 0) : x * y < 0 := by
 have := Rat.mul_pos (a := x) (b := -y) h (by grind)
 grind
theorem axis {ax ay bx b_y : Rat} (hc : ax * b_y - ay * bx = 0) (h1 : ay ≤ 0) (h2 : 0 < b_y) : ax * bx + ay * b_y ≤ 0 := by
 have e : ax = ay * bx * b_y⁻¹ := by
  have := Rat.mul_inv_cancel b_y (by grind)
  have : ax * b_y = ay * bx := by grind
  grind
 have hi : 0 < b_y⁻¹ := by
  rcases (Rat.le_total : b_y⁻¹ ≤ 0 ∨ _) with h | h
  ·have := mpn (x := b_y) (y := b_y⁻¹) (by grind) h
   rw [Rat.mul_inv_cancel b_y (by grind)] at this
   grind
  ·have h3 : b_y⁻¹ ≠ 0 := fun h4 => by
    have := Rat.mul_inv_cancel b_y (by grind)
    rw [h4] at this; grind
   grind
 have q1 : 0 ≤ bx * bx := by
  rcases (Rat.le_total : bx ≤ 0 ∨ _) with h | h
  ·have := Rat.mul_nonneg (a := -bx) (b := -bx) (by grind) (by grind); grind
  ·exact Rat.mul_nonneg h h
 have q2 : 0 ≤ bx * bx * b_y⁻¹ := Rat.mul_nonneg q1 (by grind)
 have q3 := mpn q2 h1
 have q4 := mpn (x := b_y) (y := ay) (by grind) h1
 rw [e]
 have : ay * bx * b_y⁻¹ * bx = bx * bx * b_y⁻¹ * ay := by grind
 grind
theorem Qae (h : ¬ onS a b) : cr (xn a) (xn b) + cr a b = gy b - gy a := by
 obtain ⟨ax, ay⟩ := a; obtain ⟨bx, b_y⟩ := b; unfold onS at h; unfold cr gy xn; simp only [crs] at *
 by_cases h2 : 0 < ay <;> by_cases h4 : 0 < b_y
 ·grind
 ·have := @axis bx b_y ax ay
  grind
 ·have := @axis ax ay bx b_y
  grind
 ·grind
theorem Qcs : cr (a.1 + c * a.2, a.2) (b.1 + c * b.2, b.2) = cr a b := by
 have : crs (a.1 + c * a.2, a.2) (b.1 + c * b.2, b.2) = crs a b := by unfold crs; grind
 unfold cr; rw [this]
theorem Qhe (h : 0 < c) : cr (c * a.1, a.2) (c * b.1, b.2) = cr a b := by
 have e : crs (c * a.1, a.2) (c * b.1, b.2) = c * crs a b := by unfold crs; grind
 have h1 : 0 < c * crs a b ↔ 0 < crs a b := by
  constructor
  ·intro h2
   rcases (Rat.le_total : crs a b ≤ 0 ∨ _) with h3 | h3
   ·have := mpn (x := c) (by grind) h3; grind
   ·rcases (by grind : crs a b = 0 ∨ 0 < crs a b) with h4 | h4
    ·rw [h4] at h2; grind
    ·exact h4
  ·exact mpos h
 have h1' : c * crs a b < 0 ↔ crs a b < 0 := by
  constructor
  ·intro h2
   rcases (Rat.le_total : crs a b ≤ 0 ∨ _) with h3 | h3
   ·rcases (by grind : crs a b = 0 ∨ crs a b < 0) with h4 | h4
    ·rw [h4] at h2; grind
    ·exact h4
   ·have := Rat.mul_nonneg (a := c) (b := crs a b) (by grind) h3; grind
  ·exact mneg h
 unfold cr; rw [e]; simp only [h1, h1']
def sumI : Nat → (Nat → Int) → Int
 | 0, _ => 0
 | n + 1, f => sumI n f + f n
variable {f g : Nat → Int} {n : Nat}
theorem sumI_congr (h : ∀ i, i < n → f i = g i) : sumI n f = sumI n g := by
 induction n with
 | zero => rfl
 | succ n ih =>
  show sumI n f + f n = sumI n g + g n
  rw [ih (fun i hi => h i (by omega)), h n (by omega)]
theorem Yg : sumI n (fun i => f i - g i) = sumI n f - sumI n g := by
 induction n with
 | zero => rfl
 | succ n ih => show sumI n _ + (f n - g n) = (sumI n f + f n) - (sumI n g + g n); rw [ih]; omega
theorem Qkd {c : Int} : sumI n (fun i => c * f i) = c * sumI n f := by
 induction n with
 | zero => simp [sumI]
 | succ n ih => show sumI n _ + c * f n = c * (sumI n f + f n); rw [ih, Int.mul_add]
theorem sumI_shift : sumI n (fun i => f (i + 1)) + f 0 = sumI (n + 1) f := by
 induction n with
 | zero => simp [sumI]
 | succ n ih => show sumI n _ + f (n + 1) + f 0 = sumI (n + 1) f + f (n + 1); rw [← ih]; omega
theorem Qgd : sumI n (fun i => f ((i + 1) % n)) = sumI n f := by
 cases n with
 | zero => rfl
 | succ n =>
  refine Eq.trans ?_ sumI_shift
  show sumI n _ + f ((n + 1) % (n + 1)) = _
  rw [Nat.mod_self, sumI_congr (n := n) (g := fun i => f (i + 1)) (fun i hi => by show f ((i + 1) % (n + 1)) = f (i + 1); rw [Nat.mod_eq_of_lt (by omega)])]
theorem Qiq {h : Nat → Int} (e : ∀ i, i < n → f i = g i + (h ((i + 1) % n) - h i)) : sumI n f = sumI n g := by
 have h1 : sumI n (fun i => f i - g i) = sumI n (fun i => h ((i + 1) % n) - h i) := sumI_congr (fun i hi => by rw [e i hi]; omega)
 rw [Yg, Yg (f := fun i => h ((i + 1) % n)), Qgd (f := h)] at h1; omega
def On (a b : Rat × Rat) : Prop := ∃ t : Rat, 0 ≤ t ∧ t ≤ 1 ∧ a.1 + t * (b.1 - a.1) = 0 ∧ a.2 + t * (b.2 - a.2) = 0
theorem Lx (x : Rat) : 0 ≤ x * x := by
 rcases (Rat.le_total : x ≤ 0 ∨ _) with h | h
 ·have := Rat.mul_nonneg (a := -x) (b := -x) (by grind) (by grind); grind
 ·exact Rat.mul_nonneg h h
theorem Mn (h : x ≠ 0) : 0 < x * x := by
 rcases (Rat.le_total : x ≤ 0 ∨ _) with h1 | h1
 ·have := Rat.mul_pos (a := -x) (b := -x) (by grind) (by grind); grind
 ·exact Rat.mul_pos (by grind) (by grind)
theorem Eu (h : 0 < x) : 0 < x⁻¹ := by
 have e := Rat.mul_inv_cancel x (by grind)
 rcases (Rat.le_total : x⁻¹ ≤ 0 ∨ _) with h1 | h1
 ·have := mpn (x := x) (y := x⁻¹) (by grind) h1; grind
 ·rcases (by grind : x⁻¹ = 0 ∨ 0 < x⁻¹) with h2 | h2
  ·rw [h2] at e; grind
  ·exact h2
theorem Uk (h : onS a b) : On a b := by
 obtain ⟨ax, ay⟩ := a; obtain ⟨bx, b_y⟩ := b; unfold onS at h; simp only [crs] at h
 by_cases h0 : ax = 0 ∧ ay = 0
 ·obtain ⟨rfl, rfl⟩ := h0
  exact ⟨0, by grind, by grind, by grind, by grind⟩
 ·have q1 := Lx ax
  have q2 := Lx ay
  have hp : 0 < ax * ax + ay * ay := by
   by_cases h1 : ax = 0
   ·have := Mn (x := ay) (by grind); grind
   ·have := Mn h1; grind
  have hN : 0 < (ax * ax + ay * ay) - (ax * bx + ay * b_y) := by grind
  have hi := Rat.mul_inv_cancel _ (Rat.ne_of_gt hN)
  have hj := Eu hN
  refine ⟨(ax * ax + ay * ay) * ((ax * ax + ay * ay) - (ax * bx + ay * b_y))⁻¹, ?_, ?_, ?_, ?_⟩
  ·exact Rat.mul_nonneg (by grind) (by grind)
  ·generalize ((ax * ax + ay * ay) - (ax * bx + ay * b_y))⁻¹ = I at *
   have := mpn (x := I) (y := ax * bx + ay * b_y) (by grind) h.2
   grind
  ·generalize ((ax * ax + ay * ay) - (ax * bx + ay * b_y))⁻¹ = I at *
   have h1 := h.1
   show ax + (ax * ax + ay * ay) * I * (bx - ax) = 0
   grind
  ·generalize ((ax * ax + ay * ay) - (ax * bx + ay * b_y))⁻¹ = I at *
   have h1 := h.1
   show ay + (ax * ax + ay * ay) * I * (b_y - ay) = 0
   grind
def wd (n : Nat) (A : Nat → Rat × Rat) : Int := sumI n (fun i => cr (A i) (A ((i + 1) % n)))
def Off (n : Nat) (A : Nat → Rat × Rat) : Prop := ∀ i, i < n → ¬ On (A i) (A ((i + 1) % n))
def Dm (M : Rat × Rat → Rat × Rat) (s : Int) : Prop := ∀ n A, Off n A → Off n (fun i => M (A i)) ∧ wd n (fun i => M (A i)) = s * wd n A
variable {M : Rat × Rat → Rat × Rat} {s t : Int}
theorem Dm.comp {N : Rat × Rat → Rat × Rat} (h : Dm M s) (k : Dm N t) : Dm (fun a => M (N a)) (s * t) := fun n A hA => by
 obtain ⟨k1, k2⟩ := k n A hA; obtain ⟨h1, h2⟩ := h n _ k1
 exact ⟨h1, by rw [h2, k2, Int.mul_assoc]⟩
theorem Dm.eq {N : Rat × Rat → Rat × Rat} (h : Dm M s) (e : ∀ a, M a = N a) (e2 : s = t) : Dm N t := by
 obtain rfl : M = N := funext e; exact e2 ▸ h
theorem M5 {g : Rat × Rat → Int} (h1 : ∀ a b, On (M a) (M b) → On a b) (h2 : ∀ a b, ¬ On a b → cr (M a) (M b) = s * cr a b + (g b - g a)) : Dm M s := fun n A hA => by
 refine ⟨fun i hi h => hA i hi (h1 _ _ h), ?_⟩
 unfold wd; rw [← Qkd]; exact Qiq (h := fun i => g (A i)) (fun i hi => h2 _ _ (hA i hi))
theorem Pd : Dm sw (-1) := M5 (g := gq) (fun a b ⟨t, h1, h2, h3, h4⟩ => ⟨t, h1, h2, h4, h3⟩) (fun a b h => by
 have := Qlv (a := a) (b := b) (fun k => h (Uk k)); omega)
theorem Qn4 : Dm xn (-1) := M5 (g := gy) (fun a b ⟨t, h1, h2, h3, h4⟩ => ⟨t, h1, h2, by simp only [xn] at h3; grind, h4⟩) (fun a b h => by
 have := Qae (a := a) (b := b) (fun k => h (Uk k)); omega)
theorem Ux (c : Rat) : Dm (fun a => (a.1 + c * a.2, a.2)) 1 := M5 (g := fun _ => 0) (fun a b ⟨t, h1, h2, h3, h4⟩ => ⟨t, h1, h2, by
  have h3' : a.1 + c * a.2 + t * (b.1 + c * b.2 - (a.1 + c * a.2)) = 0 := h3
  have h4' : a.2 + t * (b.2 - a.2) = 0 := h4
  have : a.1 + c * a.2 + t * (b.1 + c * b.2 - (a.1 + c * a.2)) = a.1 + t * (b.1 - a.1) + c * (a.2 + t * (b.2 - a.2)) := by grind
  rw [this, h4'] at h3'
  grind, h4⟩) (fun a b _ => by rw [Qcs]; omega)
theorem Vt (hc : 0 < c) : Dm (fun a => (c * a.1, a.2)) 1 := M5 (g := fun _ => 0) (fun a b ⟨t, h1, h2, h3, h4⟩ => ⟨t, h1, h2, by
  have h3' : c * a.1 + t * (c * b.1 - c * a.1) = 0 := h3
  have : c * (a.1 + t * (b.1 - a.1)) = 0 := by grind
  rcases Rat.mul_eq_zero.1 this with h | h
  ·grind
  ·exact h, h4⟩) (fun a b _ => by rw [Qhe hc]; omega)
def sg (c : Rat) : Int := if 0 < c then 1 else -1
theorem Y3 (hc : c ≠ 0) : Dm (fun a => (c * a.1, a.2)) (sg c) := by
 unfold sg
 by_cases h : 0 < c
 ·rw [if_pos h]; exact Vt h
 ·rw [if_neg h]
  refine (Qn4.comp (Vt (c := -c) (by grind))).eq (fun a => ?_) (by decide)
  show (-(-c * a.1), a.2) = (c * a.1, a.2)
  congr 1; grind
theorem Qcy (hc : c ≠ 0) : Dm (fun a => (a.1, c * a.2)) (sg c) :=
 (Pd.comp ((Y3 hc).comp Pd)).eq (fun a => rfl) (by omega)
theorem Qmt (c : Rat) : Dm (fun a => (a.1, a.2 + c * a.1)) 1 :=
 (Pd.comp ((Ux c).comp Pd)).eq (fun a => rfl) (by decide)
theorem Og (hx : x ≠ 0) (hy : y ≠ 0) : sg x * sg y = sg (x * y) := by
 unfold sg
 by_cases h1 : 0 < x <;> by_cases h2 : 0 < y
 ·have := mpos h1 h2; simp [h1, h2, this]
 ·have := mneg h1 (y := y) (by grind); rw [if_pos h1, if_neg h2, if_neg (by grind)]; decide
 ·have := mneg h2 (y := x) (by grind); rw [if_neg h1, if_pos h2, if_neg (by grind)]; decide
 ·have := mpos (x := -x) (y := -y) (by grind) (by grind); rw [if_neg h1, if_neg h2, if_pos (by grind)]; decide
theorem Vr (hA : A ≠ 0) (h : A * E - B * D ≠ 0) : Dm (fun a => (A * a.1 + B * a.2, D * a.1 + E * a.2)) (sg (A * E - B * D)) := by
 have hi := Rat.mul_inv_cancel A hA
 have hd : (A * E - B * D) * A⁻¹ ≠ 0 := fun e => by
  rcases Rat.mul_eq_zero.1 e with e | e
  ·exact h e
  ·rw [e] at hi; grind
 refine ((Qmt (D * A⁻¹)).comp ((Y3 hA).comp ((Qcy hd).comp (Ux (B * A⁻¹))))).eq (fun a => ?_) ?_
 ·show (A * (a.1 + B * A⁻¹ * a.2), (A * E - B * D) * A⁻¹ * a.2 + D * A⁻¹ * (A * (a.1 + B * A⁻¹ * a.2))) = _
  generalize A⁻¹ = I at *
  congr 1 <;> grind
 ·rw [Int.mul_one, Int.one_mul, Og hA hd]
  congr 1
  generalize A⁻¹ = I at *
  grind
theorem good_lin (h : A * E - B * D ≠ 0) : Dm (fun a => (A * a.1 + B * a.2, D * a.1 + E * a.2)) (sg (A * E - B * D)) := by
 by_cases hA : A = 0
 ·subst hA
  have hB : B ≠ 0 := fun e => h (by rw [e]; grind)
  have hD : D ≠ 0 := fun e => h (by rw [e]; grind)
  refine ((Vr (A := B) (B := 0) (D := E) (E := D) hB (by intro e; rcases Rat.mul_eq_zero.1 (show B * D = 0 by grind) with e | e; exact hB e; exact hD e)).comp Pd).eq (fun a => ?_) ?_
  ·show (B * a.2 + 0 * a.1, E * a.2 + D * a.1) = _
   congr 1 <;> grind
  ·have e1 : B * D - 0 * E = B * D := by grind
   have e2 : 0 * E - B * D = -(B * D) := by grind
   rw [e1, e2]; unfold sg
   by_cases h1 : 0 < B * D
   ·rw [if_pos h1, if_neg (by grind)]; decide
   ·rw [if_neg h1, if_pos (by grind)]; decide
 ·exact Vr hA h
def Hit (N : Rat) (a b : Rat × Rat) : Prop := ∃ t : Rat, 0 ≤ t ∧ t ≤ 1 ∧ a.2 + t * (b.2 - a.2) = 0 ∧ 0 ≤ a.1 + t * (b.1 - a.1) ∧ a.1 + t * (b.1 - a.1) ≤ N
theorem Vx {ax ay bx b_y : Rat} (hN : 0 < N) (h1 : ay ≤ 0) (h2 : 0 < b_y) (h : ¬ Hit N (ax, ay) (bx, b_y)) : (0 < ax * b_y - ay * bx ↔ 0 < (ax - N) * b_y - ay * (bx - N)) := by
 have hd : 0 < b_y - ay := by grind
 have hi := Rat.mul_inv_cancel _ (Rat.ne_of_gt hd)
 have hj := Eu hd
 have hx : ∀ t : Rat, t = -ay * (b_y - ay)⁻¹ → ax + t * (bx - ax) = (ax * b_y - ay * bx) * (b_y - ay)⁻¹ := fun t e => by
  subst e
  generalize (b_y - ay)⁻¹ = I at *
  have : ax = ax * ((b_y - ay) * I) := by rw [hi]; grind
  grind
 have h3 : ¬ (0 ≤ (ax * b_y - ay * bx) * (b_y - ay)⁻¹ ∧ (ax * b_y - ay * bx) * (b_y - ay)⁻¹ ≤ N) := by
  rintro ⟨k1, k2⟩
  refine h ⟨-ay * (b_y - ay)⁻¹, Rat.mul_nonneg (by grind) (by grind), ?_, ?_, ?_, ?_⟩
  ·generalize (b_y - ay)⁻¹ = I at *
   have := Rat.mul_nonneg (a := b_y) (b := I) (by grind) (by grind)
   grind
  ·show ay + -ay * (b_y - ay)⁻¹ * (b_y - ay) = 0
   generalize (b_y - ay)⁻¹ = I at *
   grind
  ·show 0 ≤ ax + -ay * (b_y - ay)⁻¹ * (bx - ax)
   rw [hx _ rfl]; exact k1
  ·show ax + -ay * (b_y - ay)⁻¹ * (bx - ax) ≤ N
   rw [hx _ rfl]; exact k2
 have e : (ax - N) * b_y - ay * (bx - N) = (ax * b_y - ay * bx) - N * (b_y - ay) := by grind
 rw [e]
 generalize hc : ax * b_y - ay * bx = c, hdd : b_y - ay = d at *
 clear hx e h hc
 generalize d⁻¹ = I at *
 constructor
 ·intro k
  have k1 := mpos k hj
  have k2 : N < c * I := by
   rcases (Rat.le_total : c * I ≤ N ∨ _) with k3 | k3
   ·exact absurd ⟨by grind, k3⟩ h3
   ·grind
  have k4 := mpos (x := c * I - N) (y := d) (by grind) hd
  have k5 : (c * I - N) * d = c * (d * I) - N * d := by grind
  rw [k5, hi] at k4
  grind
 ·intro k
  have := mpos hN hd
  grind
theorem Qen (hN : 0 < N) (h : ¬ Hit N a b) : cr (a.1 - N, a.2) (b.1 - N, b.2) = cr a b := by
 obtain ⟨ax, ay⟩ := a; obtain ⟨bx, b_y⟩ := b; unfold cr; simp only [crs]
 by_cases h1 : ay ≤ 0 ∧ 0 < b_y
 ·have := Vx hN h1.1 h1.2 h
  grind
 ·by_cases h2 : 0 < ay ∧ b_y ≤ 0
  ·have h3 : ¬ Hit N (bx, b_y) (ax, ay) := fun ⟨t, t1, t2, t3, t4, t5⟩ => h ⟨1 - t, by grind, by grind, by
    have : ay + (1 - t) * (b_y - ay) = b_y + t * (ay - b_y) := by grind
    show ay + (1 - t) * (b_y - ay) = 0
    rw [this]; exact t3, by
    have : ax + (1 - t) * (bx - ax) = bx + t * (ax - bx) := by grind
    show 0 ≤ ax + (1 - t) * (bx - ax)
    rw [this]; exact t4, by
    have : ax + (1 - t) * (bx - ax) = bx + t * (ax - bx) := by grind
    show ax + (1 - t) * (bx - ax) ≤ N
    rw [this]; exact t5⟩
   have := Vx hN h2.2 h2.1 h3
   have e1 : ax * b_y - ay * bx = -(bx * ay - b_y * ax) := by grind
   have e2 : (ax - N) * b_y - ay * (bx - N) = -((bx - N) * ay - b_y * (ax - N)) := by grind
   have hne : bx * ay - b_y * ax ≠ 0 := fun e => h3 ⟨-b_y * (ay - b_y)⁻¹, by
    have := Eu (x := ay - b_y) (by grind)
    exact Rat.mul_nonneg (by grind) (by grind), by
    have hi := Rat.mul_inv_cancel (ay - b_y) (by grind)
    have hj := Eu (x := ay - b_y) (by grind)
    generalize (ay - b_y)⁻¹ = I at *
    have := Rat.mul_nonneg (a := ay) (b := I) (by grind) (by grind)
    grind, by
    have hi := Rat.mul_inv_cancel (ay - b_y) (by grind)
    show b_y + -b_y * (ay - b_y)⁻¹ * (ay - b_y) = 0
    generalize (ay - b_y)⁻¹ = I at *
    grind, by
    have hi := Rat.mul_inv_cancel (ay - b_y) (by grind)
    show 0 ≤ bx + -b_y * (ay - b_y)⁻¹ * (ax - bx)
    generalize (ay - b_y)⁻¹ = I at *
    have : bx + -b_y * I * (ax - bx) = (bx * ay - b_y * ax) * I := by
     have : bx = bx * ((ay - b_y) * I) := by rw [hi]; grind
     grind
    rw [this, e]; grind, by
    have hi := Rat.mul_inv_cancel (ay - b_y) (by grind)
    show bx + -b_y * (ay - b_y)⁻¹ * (ax - bx) ≤ N
    generalize (ay - b_y)⁻¹ = I at *
    have : bx + -b_y * I * (ax - bx) = (bx * ay - b_y * ax) * I := by
     have : bx = bx * ((ay - b_y) * I) := by rw [hi]; grind
     grind
    rw [this, e]; grind⟩
   grind
  ·grind
theorem Qk3 (hN : 0 < N) {A : Nat → Rat × Rat} (h : ∀ i, i < n → ¬ Hit N (A i) (A ((i + 1) % n))) : wd n (fun i => ((A i).1 - N, (A i).2)) = wd n A :=
 sumI_congr (fun i hi => Qen hN (h i hi))
def Qcb (a b p q : Rat × Rat) : Prop := ∃ s t : Rat, 0 ≤ s ∧ s ≤ 1 ∧ 0 ≤ t ∧ t ≤ 1 ∧ a.1 + t * (b.1 - a.1) = p.1 + s * (q.1 - p.1) ∧ a.2 + t * (b.2 - a.2) = p.2 + s * (q.2 - p.2)
def rel (p a : Rat × Rat) : Rat × Rat := (a.1 - p.1, a.2 - p.2)
theorem wd_const {A : Nat → Rat × Rat} {p q : Rat × Rat} (h : ∀ i, i < n → ¬ Qcb (A i) (A ((i + 1) % n)) p q) : wd n (fun i => rel p (A i)) = wd n (fun i => rel q (A i)) := by
 by_cases hpq : q.1 - p.1 = 0 ∧ q.2 - p.2 = 0
 ·have : q = p := by
   obtain ⟨a, b⟩ := p; obtain ⟨c, d⟩ := q; simp only [Prod.mk.injEq]
   exact ⟨by have := hpq.1; grind, by have := hpq.2; grind⟩
  rw [this]
 ·obtain ⟨dx, hdx⟩ : ∃ dx, q.1 - p.1 = dx := ⟨_, rfl⟩; obtain ⟨dy, hdy⟩ : ∃ dy, q.2 - p.2 = dy := ⟨_, rfl⟩; rw [hdx, hdy] at hpq
  have q1 := Lx dx
  have q2 := Lx dy
  have hN : 0 < dx * dx - dy * -dy := by
   by_cases h1 : dx = 0
   ·have := Mn (x := dy) (by grind); grind
   ·have := Mn h1; grind
  have hg := good_lin (A := dx) (B := dy) (D := -dy) (E := dx) (Rat.ne_of_gt hN)
  have hs : sg (dx * dx - dy * -dy) = 1 := if_pos hN
  rw [hs] at hg
  have o1 : Off n (fun i => rel p (A i)) := fun i hi ⟨t, t1, t2, t3, t4⟩ => h i hi ⟨0, t, by grind, by grind, t1, t2, by simp only [rel] at t3; grind, by simp only [rel] at t4; grind⟩
  have o2 : Off n (fun i => rel q (A i)) := fun i hi ⟨t, t1, t2, t3, t4⟩ => h i hi ⟨1, t, by grind, by grind, t1, t2, by simp only [rel] at t3; grind, by simp only [rel] at t4; grind⟩
  have e1 := (hg n _ o1).2
  have e2 := (hg n _ o2).2
  rw [Int.one_mul] at e1 e2; rw [← e1, ← e2, ← Qk3 hN (A := fun i => (dx * (rel p (A i)).1 + dy * (rel p (A i)).2, -dy * (rel p (A i)).1 + dx * (rel p (A i)).2))]
  ·unfold wd
   refine sumI_congr (fun i hi => ?_)
   have e : ∀ a : Rat × Rat, (dx * (rel p a).1 + dy * (rel p a).2 - (dx * dx - dy * -dy), -dy * (rel p a).1 + dx * (rel p a).2) = (dx * (rel q a).1 + dy * (rel q a).2, -dy * (rel q a).1 + dx * (rel q a).2) := fun a => by
    simp only [rel]
    have b1 : q.1 = p.1 + dx := by grind
    have b2 : q.2 = p.2 + dy := by grind
    rw [b1, b2]
    congr 1 <;> grind
   exact congr (congrArg cr (e (A i))) (e (A ((i + 1) % n)))
  ·rintro i hi ⟨t, t1, t2, t3, t4, t5⟩
   simp only [rel] at t3 t4 t5
   have hi' := Rat.mul_inv_cancel _ (Rat.ne_of_gt hN)
   have hj := Eu hN
   generalize hU : (A i).1 - p.1 + t * ((A ((i + 1) % n)).1 - p.1 - ((A i).1 - p.1)) = U
   generalize hV : (A i).2 - p.2 + t * ((A ((i + 1) % n)).2 - p.2 - ((A i).2 - p.2)) = V
   have c1 : -dy * U + dx * V = 0 := by rw [← hU, ← hV]; grind
   have c2 : 0 ≤ dx * U + dy * V := by rw [← hU, ← hV]; grind
   have c3 : dx * U + dy * V ≤ dx * dx - dy * -dy := by rw [← hU, ← hV]; grind
   clear t3 t4 t5
   have s2 := Rat.mul_nonneg (a := dx * U + dy * V) (b := (dx * dx - dy * -dy)⁻¹) c2 (by grind)
   have s3 := Rat.mul_nonneg (a := (dx * dx - dy * -dy) - (dx * U + dy * V)) (b := (dx * dx - dy * -dy)⁻¹) (by grind) (by grind)
   refine h i hi ⟨(dx * U + dy * V) * (dx * dx - dy * -dy)⁻¹, t, s2, ?_, t1, t2, ?_, ?_⟩
   ·generalize (dx * dx - dy * -dy)⁻¹ = I at *
    grind
   ·rw [hdx]
    have : dx * U * dx + dy * V * dx = U * (dx * dx - dy * -dy) := by grind
    generalize (dx * dx - dy * -dy)⁻¹ = I at *
    have k : (dx * U + dy * V) * I * dx = U * ((dx * dx - dy * -dy) * I) := by grind
    rw [k, hi', ← hU]; grind
   ·rw [hdy]
    generalize (dx * dx - dy * -dy)⁻¹ = I at *
    have k : (dx * U + dy * V) * I * dy = V * ((dx * dx - dy * -dy) * I) := by grind
    rw [k, hi', ← hV]; grind
end Wn
end
section
namespace Cel
open Go.Proofs.YtpnpnlmlamfpmaaGreatDoor (Wn.rel Wn.cr Wn.crs Wn.wd Wn.On Wn.Off)
structure EdgeOf (e : FQ) (a b : Rat × Rat) : Prop where
 ok : e.l.ok
 fin : e.v.nl = false ∧ e.v.nh = false
 lt : e.v.lo < e.v.hi
 st : e.l.at' e.v.lo = a
 en : e.l.at' e.v.hi = b
variable {a b p q : Rat × Rat} {e : FQ}
theorem EdgeOf.ne (h : EdgeOf e a b) : e.v.empty = false := by
 have := h.lt
 unfold IQ.empty
 rw [h.fin.1, h.fin.2, decide_eq_false (by grind)]; rfl
theorem EdgeOf.diff (h : EdgeOf e a b) : b.1 - a.1 = (e.v.hi - e.v.lo) * e.l.b ∧ b.2 - a.2 = (e.v.hi - e.v.lo) * -e.l.a := by
 rw [← h.st, ← h.en]
 unfold LQ.at'
 constructor <;> grind
theorem EdgeOf.val (h : EdgeOf e a b) (p : Rat × Rat) : e.l.val p * (e.v.hi - e.v.lo) = Wn.crs (Wn.rel p a) (Wn.rel p b) := by
 obtain ⟨h1, h2⟩ := h.diff
 have h3 : e.l.val a = 0 := by rw [← h.st]; exact LQ.on_at h.ok _
 unfold Wn.crs Wn.rel LQ.val at *
 simp only
 generalize e.v.hi - e.v.lo = d at *
 have e1 : b.1 = a.1 + d * e.l.b := by grind
 have e2 : b.2 = a.2 + d * -e.l.a := by grind
 rw [e1, e2]
 have e3 : e.l.c = -(e.l.a * a.1 + e.l.b * a.2) := by grind
 rw [e3]
 grind
theorem EdgeOf.mid (h : EdgeOf e a b) (t : Rat) : e.l.at' (e.v.lo + t * (e.v.hi - e.v.lo)) = (a.1 + t * (b.1 - a.1), a.2 + t * (b.2 - a.2)) := by
 obtain ⟨h1, h2⟩ := h.diff; rw [h1, h2, ← h.st]
 unfold LQ.at'
 simp only [Prod.mk.injEq]
 constructor <;> grind
def Eb (e : FQ) (p : Rat × Rat) : Int :=
 if sgn' (-e.l.a) = 0 ∨ sgn' (e.l.val p) ≠ sgn' (-e.l.a) then 0
 else if sgn' (-e.l.a) < 0 then (if p.2 < (e.l.at' e.v.hi).2 then 0 else if (e.l.at' e.v.lo).2 ≤ p.2 then 0 else sgn' (-e.l.a))
 else (if p.2 < (e.l.at' e.v.lo).2 then 0 else if (e.l.at' e.v.hi).2 ≤ p.2 then 0 else sgn' (-e.l.a))
theorem P9 {x y d : Rat} (hd : 0 < d) (h : x * d = y) : (0 < x ↔ 0 < y) ∧ (x < 0 ↔ y < 0) := by
 subst h
 refine ⟨⟨fun h => mpos h hd, fun h => ?_⟩, ⟨fun h => ?_, fun h => ?_⟩⟩
 ·rcases (by grind : 0 < x ∨ x ≤ 0) with h1 | h1
  ·exact h1
  ·have := Rat.mul_nonneg (a := -x) (b := d) (by grind) (by grind); grind
 ·have := mpos (x := -x) (y := d) (by grind) hd; grind
 ·rcases (by grind : x < 0 ∨ 0 ≤ x) with h1 | h1
  ·exact h1
  ·have := Rat.mul_nonneg (a := x) (b := d) h1 (by grind); grind
theorem Qbp (h : EdgeOf e a b) (p : Rat × Rat) : Eb e p = Wn.cr (Wn.rel p a) (Wn.rel p b) := by
 have h1 := h.diff.2
 have h2 := h.val p
 have hd : 0 < e.v.hi - e.v.lo := by have := h.lt; grind
 obtain ⟨a1, a2⟩ := P9 hd h2
 obtain ⟨b1, b2⟩ := P9 (x := -e.l.a) (y := b.2 - a.2) hd (by rw [Rat.mul_comm]; exact h1.symm)
 unfold Eb Wn.cr
 rw [h.st, h.en]
 have r1 : (Wn.rel p a).2 = a.2 - p.2 := rfl
 have r2 : (Wn.rel p b).2 = b.2 - p.2 := rfl
 rw [r1, r2]
 generalize Wn.crs (Wn.rel p a) (Wn.rel p b) = X, e.l.val p = Y, -e.l.a = Z at *
 clear h1 h2 r1 r2 h; unfold sgn'
 grind
def Ao (E : List FQ) (p : Rat × Rat) : Int := (E.map fun e => Eb e p).sum
def onF (e : FQ) (p : Rat × Rat) : Prop := e.l.val p = 0 ∧ e.v.Has (e.l.par p)
theorem Tx (h : EdgeOf e a b) : onF e p ↔ Wn.On (Wn.rel p a) (Wn.rel p b) := by
 have hd : 0 < e.v.hi - e.v.lo := by have := h.lt; grind
 constructor
 ·rintro ⟨h1, h2⟩
  have h3 := LQ.at_par h.ok h1
  generalize e.l.par p = s at *
  obtain ⟨k1, k2⟩ := h2; rw [h.fin.1] at k1; rw [h.fin.2] at k2
  have k1 : e.v.lo ≤ s := by simpa using k1
  have k2 : s ≤ e.v.hi := by simpa using k2
  have hi := Rat.mul_inv_cancel _ (Rat.ne_of_gt hd)
  have hj := Eu hd
  have e1 : s = e.v.lo + ((s - e.v.lo) * (e.v.hi - e.v.lo)⁻¹) * (e.v.hi - e.v.lo) := by
   have : (s - e.v.lo) * (e.v.hi - e.v.lo)⁻¹ * (e.v.hi - e.v.lo) = (s - e.v.lo) * ((e.v.hi - e.v.lo) * (e.v.hi - e.v.lo)⁻¹) := by
    generalize (e.v.hi - e.v.lo)⁻¹ = I at *; grind
   rw [this, hi]; grind
  have e2 := h.mid ((s - e.v.lo) * (e.v.hi - e.v.lo)⁻¹)
  rw [← e1, h3] at e2
  refine ⟨(s - e.v.lo) * (e.v.hi - e.v.lo)⁻¹, Rat.mul_nonneg (by grind) (by grind), ?_, ?_, ?_⟩
  ·have := Rat.mul_nonneg (a := e.v.hi - s) (b := (e.v.hi - e.v.lo)⁻¹) (by grind) (by grind)
   generalize (e.v.hi - e.v.lo)⁻¹ = I at *
   have : (e.v.hi - s) * I = (e.v.hi - e.v.lo) * I - (s - e.v.lo) * I := by grind
   grind
  ·have := congrArg Prod.fst e2
   simp only [Wn.rel] at this ⊢
   grind
  ·have := congrArg Prod.snd e2
   simp only [Wn.rel] at this ⊢
   grind
 ·rintro ⟨t, t0, t1, h1, h2⟩
  have e2 := h.mid t
  have e3 : e.l.at' (e.v.lo + t * (e.v.hi - e.v.lo)) = p := by
   rw [e2]; simp only [Wn.rel] at h1 h2; obtain ⟨x, y⟩ := p; simp only [Prod.mk.injEq]
   simp only at h1 h2
   constructor <;> grind
  have h0 : e.l.val p = 0 := by rw [← e3]; exact LQ.on_at h.ok _
  have e4 : e.l.par p = e.v.lo + t * (e.v.hi - e.v.lo) := LQ.at_inj h.ok (by rw [LQ.at_par h.ok h0, e3])
  refine ⟨h0, ?_⟩
  rw [e4]
  have m1 := Rat.mul_nonneg (a := t) (b := e.v.hi - e.v.lo) t0 (by grind)
  have m2 := Rat.mul_nonneg (a := 1 - t) (b := e.v.hi - e.v.lo) (by grind) (by grind)
  exact ⟨.inr (by grind), .inr (by grind)⟩
structure EdgesOf (E : List FQ) (L : List (Rat × Rat)) : Prop where
 len : E.length = L.length
 edge : ∀ i, i < L.length → EdgeOf (sd E i) (L.getD i (0, 0)) (L.getD ((i + 1) % L.length) (0, 0))
theorem Qdl (E : List FQ) (f : FQ → Int) : (E.map f).sum = Wn.sumI E.length (fun i => f (sd E i)) := by
 induction E with
 | nil => rfl
 | cons e E ih =>
  have h1 := Wn.sumI_shift (n := E.length) (f := fun i => f (sd (e :: E) i))
  rw [List.map_cons, List.sum_cons, List.length_cons, ← h1, ih, Int.add_comm]; rfl
variable {L : List (Rat × Rat)}
theorem Lg {E : List FQ} (h : EdgesOf E L) (p : Rat × Rat) : Ao E p = Wn.wd L.length (fun i => Wn.rel p (L.getD i (0, 0))) := by
 unfold Ao; rw [Qdl, h.len]; exact Wn.sumI_congr (fun i hi => Qbp (h.edge i hi) p)
theorem Wt {E : List FQ} {i : Nat} (h : i < E.length) : sd E i ∈ E := by
 unfold sd; rw [List.getD_eq_getElem?_getD, List.getElem?_eq_getElem h]; exact List.getElem_mem h
theorem Tg {E : List FQ} (h : e ∈ E) : ∃ i, i < E.length ∧ sd E i = e := by
 obtain ⟨i, hi, rfl⟩ := List.getElem_of_mem h
 exact ⟨i, hi, by unfold sd; rw [List.getD_eq_getElem?_getD, List.getElem?_eq_getElem hi]; rfl⟩
theorem Qiv {E : List FQ} (h : EdgesOf E L) (hc : M7 E p q) : Ao E p = Ao E q := by
 rw [Lg h, Lg h]
 refine Wn.wd_const (A := fun i => L.getD i (0, 0)) (fun i hi => ?_)
 rintro ⟨s, t, s0, s1, t0, t1, e1, e2⟩
 have he := h.edge i hi
 refine hc s s0 s1 ⟨sd E i, Wt (by rw [h.len]; exact hi), _, ?_, (he.mid t).trans ?_⟩
 ·have hd : 0 < (sd E i).v.hi - (sd E i).v.lo := by have := he.lt; grind
  have m1 := Rat.mul_nonneg (a := t) (b := (sd E i).v.hi - (sd E i).v.lo) t0 (by grind)
  have m2 := Rat.mul_nonneg (a := 1 - t) (b := (sd E i).v.hi - (sd E i).v.lo) (by grind) (by grind)
  exact ⟨.inr (by grind), .inr (by grind)⟩
 ·unfold btw; rw [e1, e2]
inductive RingsOf : List FQ → List (List (Rat × Rat)) → Prop
 | nil : RingsOf [] []
 | cons {E F : List FQ} {L : List (Rat × Rat)} {R : List (List (Rat × Rat))} : EdgesOf E L → RingsOf F R → RingsOf (E ++ F) (L :: R)
theorem Jt (E F : List FQ) (p : Rat × Rat) : Ao (E ++ F) p = Ao E p + Ao F p := by unfold Ao; rw [List.map_append, List.sum_append]
variable {R : List (List (Rat × Rat))}
theorem RingsOf.const {E : List FQ} (h : RingsOf E R) (hc : M7 E p q) : Ao E p = Ao E q := by
 induction h with
 | nil => rfl
 | @cons E F L R h1 _ ih =>
  rw [Jt, Jt, Qiv h1 (fun u a b ⟨f, hf, k⟩ => hc u a b ⟨f, List.mem_append.2 (.inl hf), k⟩), ih (fun u a b ⟨f, hf, k⟩ => hc u a b ⟨f, List.mem_append.2 (.inr hf), k⟩)]
theorem RingsOf.ne {E : List FQ} (h : RingsOf E R) : ∀ e ∈ E, e.v.empty = false := by
 induction h with
 | nil => exact fun e he => by simp at he
 | @cons E F L R h1 _ ih =>
  intro e he
  rcases List.mem_append.1 he with he | he
  ·obtain ⟨i, hi, rfl⟩ := Tg he
   exact (h1.edge i (by rw [← h1.len]; exact hi)).ne
  ·exact ih e he
structure Aff where
 A : Rat
 B : Rat
 C : Rat
 D : Rat
 E : Rat
 F : Rat
namespace Aff
variable (m : Aff)
def det : Rat := m.A * m.E - m.D * m.B
def to (p : Rat × Rat) : Rat × Rat := (m.A * p.1 + m.B * p.2 + m.C, m.D * p.1 + m.E * p.2 + m.F)
theorem rel_to (p a : Rat × Rat) : Wn.rel (m.to p) (m.to a) = (m.A * (Wn.rel p a).1 + m.B * (Wn.rel p a).2, m.D * (Wn.rel p a).1 + m.E * (Wn.rel p a).2) := by
 unfold Wn.rel to
 simp only [Prod.mk.injEq]
 constructor <;> grind
theorem onto (h : m.det ≠ 0) (p : Rat × Rat) : ∃ q, m.to q = p := by
 have hi := Rat.mul_inv_cancel _ h
 refine ⟨((m.E * (p.1 - m.C) - m.B * (p.2 - m.F)) * m.det⁻¹, (m.A * (p.2 - m.F) - m.D * (p.1 - m.C)) * m.det⁻¹), ?_⟩
 obtain ⟨x, y⟩ := p; unfold to; simp only [Prod.mk.injEq]
 generalize m.det⁻¹ = I at *
 unfold det at hi; constructor
 ·have : m.A * ((m.E * (x - m.C) - m.B * (y - m.F)) * I) + m.B * ((m.A * (y - m.F) - m.D * (x - m.C)) * I) + m.C = (x - m.C) * ((m.A * m.E - m.D * m.B) * I) + m.C := by grind
  rw [this, hi]; grind
 ·have : m.D * ((m.E * (x - m.C) - m.B * (y - m.F)) * I) + m.E * ((m.A * (y - m.F) - m.D * (x - m.C)) * I) + m.F = (y - m.F) * ((m.A * m.E - m.D * m.B) * I) + m.F := by grind
  rw [this, hi]; grind
end Aff
variable {L : List (Rat × Rat)}
theorem Wb {E : List FQ} (h : EdgesOf E L) {p : Rat × Rat} : (∃ e ∈ E, onF e p) ↔ ¬ Wn.Off L.length (fun i => Wn.rel p (L.getD i (0, 0))) := by
 constructor
 ·rintro ⟨e, he, ho⟩ hoff
  obtain ⟨i, hi, rfl⟩ := Tg he; rw [h.len] at hi; exact hoff i hi ((Tx (h.edge i hi)).1 ho)
 ·intro hn
  exact Classical.byContradiction fun hno => hn (fun i hi ho => hno ⟨sd E i, Wt (by rw [h.len]; exact hi), (Tx (h.edge i hi)).2 ho⟩)
theorem Qj4 {f : Rat × Rat → Rat × Rat} {i : Nat} (hi : i < L.length) : (L.map f).getD i (0, 0) = f (L.getD i (0, 0)) := by
 rw [List.getD_eq_getElem?_getD, List.getD_eq_getElem?_getD, List.getElem?_map, List.getElem?_eq_getElem hi]; rfl
variable {A B : Nat → Rat × Rat} {n : Nat}
theorem Qci (h : ∀ i, i < n → A i = B i) : Wn.wd n A = Wn.wd n B := by
 refine Wn.sumI_congr (fun i hi => ?_)
 rw [h i hi, h _ (Nat.mod_lt _ (by omega))]
theorem Qcl (h : ∀ i, i < n → A i = B i) : Wn.Off n A ↔ Wn.Off n B := by
 constructor <;> intro ho i hi
 ·rw [← h i hi, ← h _ (Nat.mod_lt _ (by omega))]; exact ho i hi
 ·rw [h i hi, h _ (Nat.mod_lt _ (by omega))]; exact ho i hi
section
variable {m : Aff} (hm : m.det ≠ 0)
include hm
theorem Qg6 {E E' : List FQ} {L : List (Rat × Rat)} (h : EdgesOf E L) (h' : EdgesOf E' (L.map m.to)) (p : Rat × Rat) :
  ((∃ e ∈ E', onF e (m.to p)) ↔ ∃ e ∈ E, onF e p) ∧ ((¬ ∃ e ∈ E, onF e p) → Ao E' (m.to p) = Wn.sg m.det * Ao E p) := by
 have hd : m.A * m.E - m.B * m.D ≠ 0 := by unfold Aff.det at hm; grind
 have hdd : m.A * m.E - m.B * m.D = m.det := by unfold Aff.det; grind
 have hg := Wn.good_lin (A := m.A) (B := m.B) (D := m.D) (E := m.E) hd
 rw [hdd] at hg
 have hA : ∀ i, i < (L.map m.to).length → Wn.rel (m.to p) ((L.map m.to).getD i (0, 0)) = (m.A * (Wn.rel p (L.getD i (0, 0))).1 + m.B * (Wn.rel p (L.getD i (0, 0))).2, m.D * (Wn.rel p (L.getD i (0, 0))).1 + m.E * (Wn.rel p (L.getD i (0, 0))).2) := fun i hi => by
  rw [List.length_map] at hi; rw [Qj4 hi, Aff.rel_to]
 have hlen : (L.map m.to).length = L.length := List.length_map ..
 rw [Wb h', Wb h, Qcl hA, hlen]
 have key : Wn.Off L.length (fun i => Wn.rel p (L.getD i (0, 0))) → Wn.Off L.length (fun i => (m.A * (Wn.rel p (L.getD i (0, 0))).1 + m.B * (Wn.rel p (L.getD i (0, 0))).2, m.D * (Wn.rel p (L.getD i (0, 0))).1 + m.E * (Wn.rel p (L.getD i (0, 0))).2)) ∧ Wn.wd L.length (fun i => (m.A * (Wn.rel p (L.getD i (0, 0))).1 + m.B * (Wn.rel p (L.getD i (0, 0))).2, m.D * (Wn.rel p (L.getD i (0, 0))).1 + m.E * (Wn.rel p (L.getD i (0, 0))).2)) = Wn.sg m.det * Wn.wd L.length (fun i => Wn.rel p (L.getD i (0, 0))) := fun ho => hg L.length (fun i => Wn.rel p (L.getD i (0, 0))) ho
 refine ⟨⟨fun h1 h2 => h1 (key h2).1, fun h1 h2 => h1 (fun i hi ho => h2 i hi ?_)⟩, fun h1 => ?_⟩
 ·obtain ⟨t, t0, t1, k1, k2⟩ := ho
  refine ⟨t, t0, t1, ?_, ?_⟩
  ·show m.A * _ + m.B * _ + t * (m.A * _ + m.B * _ - (m.A * _ + m.B * _)) = 0
   grind
  ·show m.D * _ + m.E * _ + t * (m.D * _ + m.E * _ - (m.D * _ + m.E * _)) = 0
   grind
 ·rw [Classical.not_not] at h1; rw [Lg h', Lg h, Qci hA, hlen]; exact (key h1).2
theorem Xi {E : List FQ} {R : List (List (Rat × Rat))} (h : RingsOf E R) : ∀ {E' : List FQ}, RingsOf E' (R.map (List.map m.to)) → ∀ p : Rat × Rat,
  ((∃ e ∈ E', onF e (m.to p)) ↔ ∃ e ∈ E, onF e p) ∧ ((¬ ∃ e ∈ E, onF e p) → Ao E' (m.to p) = Wn.sg m.det * Ao E p) := by
 induction h with
 | nil =>
  intro E' h' p
  cases h'
  exact ⟨by simp, fun _ => by simp [Ao]⟩
 | @cons E F L R h1 h2 ih =>
  intro E' h' p; rw [List.map_cons] at h'
  cases h' with
  | @cons E1 F1 _ _ k1 k2 =>
   obtain ⟨a1, a2⟩ := Qg6 hm h1 k1 p; obtain ⟨b1, b2⟩ := ih k2 p
   have e1 : ∀ (X Y : List FQ) (q : Rat × Rat), (∃ e ∈ X ++ Y, onF e q) ↔ (∃ e ∈ X, onF e q) ∨ ∃ e ∈ Y, onF e q := fun X Y q => by
    constructor
    ·rintro ⟨e, he, h⟩
     rcases List.mem_append.1 he with he | he
     ·exact .inl ⟨e, he, h⟩
     ·exact .inr ⟨e, he, h⟩
    ·rintro (⟨e, he, h⟩ | ⟨e, he, h⟩)
     ·exact ⟨e, List.mem_append.2 (.inl he), h⟩
     ·exact ⟨e, List.mem_append.2 (.inr he), h⟩
   refine ⟨by rw [e1, e1, a1, b1], fun hn => ?_⟩
   rw [e1] at hn; rw [Jt, Jt, a2 (fun h => hn (.inl h)), b2 (fun h => hn (.inr h)), Int.mul_add]
end
def Ba (fill n : Int) : Bool := if fill = 1 then decide (Int.tmod n 2 ≠ 0) else if fill = 2 then decide (n ≠ 0) else false
theorem Qkb {fill n : Int} {c : Rat} : Ba fill (Wn.sg c * n) = Ba fill n := by
 unfold Ba Wn.sg
 by_cases h : 0 < c
 ·rw [if_pos h, Int.one_mul]
 ·rw [if_neg h]
  have : (-1 : Int) * n = -n := by omega
  rw [this]
  have e1 : decide (Int.tmod (-n) 2 ≠ 0) = decide (Int.tmod n 2 ≠ 0) := by rw [Int.neg_tmod]; simp
  have e2 : decide (-n ≠ 0) = decide (n ≠ 0) := by simp
  rw [e1, e2]
theorem mapped {S : LQ → Prop} (hS : Fam S) {m : Aff} (hm : m.det ≠ 0) {fill : Int} {E E' : List FQ} {R : List (List (Rat × Rat))} (hR : RingsOf E R) (hR' : RingsOf E' (R.map (List.map m.to)))
  (hE : ∀ e ∈ E, S e.l) (hE' : ∀ e ∈ E', S e.l) {f : LQ → LQ} (hf : ∀ l, S l → S (f l) ∧ ∃ g : Rat, 0 < g ∧ ∀ p, (f l).val (m.to p) = g * l.val p) :
  ((bpart (fun p => Ba fill (Ao E' p)) E'.length E' []).restrict []).merge (((bpart (fun p => Ba fill (Ao E p)) E.length E []).restrict []).img f) [] = .leaf false := by
 have la := L5 (acc := fun p => Ba fill (Ao E p)) (n := E.length) (C := []) hE
 have lb := L5 (acc := fun p => Ba fill (Ao E' p)) (n := E'.length) (C := []) hE'
 have va := fun p => Wo hS (acc := fun p => Ba fill (Ao E p)) (Nat.le_refl E.length) CellS.nil hE hR.ne (fun x y _ _ hc => by rw [hR.const hc]) p (fun s hs => by simp [lns] at hs)
 have vb := fun p => Wo hS (acc := fun p => Ba fill (Ao E' p)) (Nat.le_refl E'.length) CellS.nil hE' hR'.ne (fun x y _ _ hc => by rw [hR'.const hc]) p (fun s hs => by simp [lns] at hs)
 generalize bpart (fun p => Ba fill (Ao E p)) E.length E [] = ta, bpart (fun p => Ba fill (Ao E' p)) E'.length E' [] = tb at *
 have la2 := Tr.reduce_lines hS la
 have hlc : ∀ l ∈ ((ta.restrict []).img f).lines, S l := fun l hl => by
  obtain ⟨k, k1, rfl⟩ := Tr.img_lines l hl; exact (hf k (la2 k k1)).1
 refine Tr.merge_leaf hS (Tr.reduce_lines hS lb) hlc (tb.lines ++ (ta.lines.map f ++ E.map (fun e => f e.l))) (fun l hl => ?_) (fun p hp => ?_)
 ·rcases List.mem_append.1 hl with hl | hl
  ·exact hS.ok l (lb l hl)
  ·rcases List.mem_append.1 hl with hl | hl
   ·obtain ⟨k, k1, rfl⟩ := List.mem_map.1 hl; exact hS.ok _ (hf k (la k k1)).1
   ·obtain ⟨e, k1, rfl⟩ := List.mem_map.1 hl; exact hS.ok _ (hf e.l (hE e k1)).1
 ·obtain ⟨q, rfl⟩ := m.onto hm p
  have nz : ∀ l, S l → (f l).val (m.to q) ≠ 0 → l.val q ≠ 0 := fun l hl h0 h1 => by
   obtain ⟨g, _, h2⟩ := (hf l hl).2
   rw [h2, h1] at h0; grind
  have hob : tb.Off (m.to q) := fun l hl => hp l (List.mem_append.2 (.inl hl))
  have hoa : ta.Off q := fun l hl => nz l (la l hl) (hp _ (List.mem_append.2 (.inr (List.mem_append.2 (.inl (List.mem_map.2 ⟨l, hl, rfl⟩))))))
  have hon : ¬ ∃ e ∈ E, onF e q := fun ⟨e, he, h1, _⟩ => nz e.l (hE e he) (hp _ (List.mem_append.2 (.inr (List.mem_append.2 (.inr (List.mem_map.2 ⟨e, he, rfl⟩)))))) h1
  rw [Tr.reduce_at hS lb hob, vb _ hob, Tr.img_at (M := m.to) (fun l hl x => by
   obtain ⟨g, g0, h2⟩ := (hf l (la2 l hl)).2; rw [h2]
   exact ⟨fun h => (P9 g0 (Rat.mul_comm (l.val x) g)).1.2 h, fun h => mpos g0 h⟩), Tr.reduce_at hS la hoa, va _ hoa, ((Xi hm hR hR' q).2 hon), Qkb]
end Cel
end
end Go.Proofs.YtpnpnlmlamfpmaaGreatDoor
