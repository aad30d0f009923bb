import Derived.BigQuiet
import Derived.Deep.QuietTactic
import Derived.Lib.Hide
import Derived.Maps.AppendAt
import Derived.Test.YtpnpnlmlamfpmaaGreatDoorProg
import Derived.WalkKit
namespace Go.Proofs.YtpnpnlmlamfpmaaGreatDoor
open Go.RowKit
section
def val : List Nat → Nat
 | [] => 0
 | d :: l => d + 4294967296 * val l
def Dig (l : List Nat) : Prop := ∀ d ∈ l, d < 4294967296
def nfF : Nat → Nat → List Nat
 | 0, _ => []
 | f + 1, n => if n = 0 then [] else (n % 4294967296) :: nfF f (n / 4294967296)
def nf (n : Nat) : List Nat := nfF n n
theorem Qmm : ∀ f g n : Nat, n ≤ f → n ≤ g → nfF f n = nfF g n := by
 intro f
 induction f with
 | zero =>
  intro g n hf hg
  have : n = 0 := by omega
  subst this
  cases g <;> simp [nfF]
 | succ f ih =>
  intro g n hf hg
  cases g with
  | zero =>
   have : n = 0 := by omega
   subst this; simp [nfF]
  | succ g =>
   unfold nfF
   split
   ·rfl
   ·rw [ih g (n / 4294967296) (by omega) (by omega)]
theorem Ef : nf 0 = [] := rfl
variable {d k n : Nat}
theorem Gr (h : n ≠ 0) : nf n = (n % 4294967296) :: nf (n / 4294967296) := by
 unfold nf
 cases n with
 | zero => exact absurd rfl h
 | succ n =>
  show (if n + 1 = 0 then [] else _) = _
  rw [if_neg h, Qmm n ((n + 1) / 4294967296) ((n + 1) / 4294967296) (by omega) (Nat.le_refl _)]
theorem Ay : val [] = 0 := rfl
theorem Bp (d : Nat) (l : List Nat) : val (d :: l) = d + 4294967296 * val l := rfl
theorem Bv : Dig [] := by intro d h; cases h
variable {l : List Nat}
theorem Jm (h : d < 4294967296) (hl : Dig l) : Dig (d :: l) := by
 intro x hx
 rcases List.mem_cons.1 hx with rfl | hx
 ·exact h
 ·exact hl _ hx
theorem Qh0 {m : List Nat} (hl : Dig l) (hm : Dig m) : Dig (l ++ m) := by
 intro x hx
 rcases List.mem_append.1 hx with hx | hx
 ·exact hl _ hx
 ·exact hm _ hx
theorem E7 (h : Dig l) (k : Nat) : Dig (l.take k) := fun d hd => h d (List.mem_of_mem_take hd)
theorem Qhg (h : Dig l) (k : Nat) : Dig (l.drop k) := fun d hd => h d (List.mem_of_mem_drop hd)
theorem An (h : Dig l) (k : Nat) : l.getD k 0 < 4294967296 := by
 rw [List.getD_eq_getElem?_getD]
 rcases Nat.lt_or_ge k l.length with hk | hk
 ·rw [List.getElem?_eq_getElem hk]; exact h _ (List.getElem_mem hk)
 ·rw [List.getElem?_eq_none hk]; simp
theorem Ov {P : Nat → Prop} (h0 : P 0) (hs : ∀ n, n ≠ 0 → P (n / 4294967296) → P n) : ∀ n, P n := by
 intro n
 induction n using Nat.strongRecOn with
 | _ n ih =>
  by_cases h : n = 0
  ·subst h; exact h0
  ·exact hs n h (ih _ (by omega))
theorem Ah : ∀ n, val (nf n) = n := by
 refine Ov rfl fun n h ih => ?_
 rw [Gr h, Bp, ih]; omega
theorem B9 : ∀ n, Dig (nf n) := by
 refine Ov Bv fun n h ih => ?_
 rw [Gr h]; exact Jm (by omega) ih
theorem Qm8 : nf n = [] ↔ n = 0 := by
 constructor
 ·intro h
  have := Ah n
  rw [h, Ay] at this; exact this.symm
 ·rintro rfl; rfl
theorem Mf : ∀ l m : List Nat, val (l ++ m) = val l + 4294967296 ^ l.length * val m
 | [], m => by simp [Ay]
 | d :: l, m => by
  rw [List.cons_append, Bp, Bp, Mf l m, List.length_cons, Nat.pow_succ]; rw [Nat.mul_add, Nat.mul_comm (4294967296 ^ l.length) 4294967296, Nat.mul_assoc]; omega
theorem C9 : ∀ l : List Nat, Dig l → val l < 4294967296 ^ l.length
 | [], _ => by simp [Ay]
 | d :: l, h => by
  have h1 := C9 l (fun x hx => h x (List.mem_cons_of_mem _ hx))
  have h2 := h d (List.mem_cons_self ..)
  rw [Bp, List.length_cons, Nat.pow_succ]; omega
theorem Pu (l : List Nat) (d : Nat) : val (l ++ [d]) = val l + 4294967296 ^ l.length * d := by
 rw [Mf, Bp, Ay]; simp
theorem Qa2 (l : List Nat) : val (l ++ [0]) = val l := by rw [Pu]; simp
theorem Qe (l : List Nat) (k : Nat) (h : k < l.length) : l.take (k + 1) = l.take k ++ [l.getD k 0] := by
 rw [List.take_add_one, List.getElem?_eq_getElem h, List.getD_eq_getElem?_getD, List.getElem?_eq_getElem h]; rfl
theorem Ds (l : List Nat) (k : Nat) (h : k < l.length) : val (l.take (k + 1)) = val (l.take k) + 4294967296 ^ k * l.getD k 0 := by
 rw [Qe l k h, Pu, List.length_take, Nat.min_eq_left (by omega)]
theorem Ck (l : List Nat) (k : Nat) (h : k < l.length) : val (l.drop k) = l.getD k 0 + 4294967296 * val (l.drop (k + 1)) := by
 rw [List.drop_eq_getElem_cons h, Bp, List.getD_eq_getElem?_getD, List.getElem?_eq_getElem h]; rfl
theorem Dt (l : List Nat) (k : Nat) (h : k ≤ l.length) : val l = val (l.take k) + 4294967296 ^ k * val (l.drop k) := by
 have := Mf (l.take k) (l.drop k)
 rw [List.take_append_drop, List.length_take, Nat.min_eq_left h] at this; exact this
theorem Ze (hd : d < 4294967296) (h : nf (val l) = l) (hz : val (d :: l) ≠ 0) : nf (val (d :: l)) = d :: l := by
 rw [Gr hz, Bp]; have e1 : (d + 4294967296 * val l) % 4294967296 = d := (by omega); have e2 : (d + 4294967296 * val l) / 4294967296 = val l := (by omega); rw [e1, e2, h]
theorem Z2 : ∀ (l : List Nat) (d : Nat), Dig l → d < 4294967296 → d ≠ 0 → nf (val (l ++ [d])) = l ++ [d]
 | [], d, _, hd, h0 => by
  rw [List.nil_append]
  exact Ze hd rfl (by rw [Bp, Ay]; omega)
 | x :: l, d, h, hd, h0 => by
  have ih := Z2 l d (fun y hy => h y (List.mem_cons_of_mem _ hy)) hd h0
  have hx := h x (List.mem_cons_self ..)
  have hp : 0 < 4294967296 ^ l.length * d := Nat.mul_pos (Nat.pow_pos (by omega)) (by omega)
  have hv := Pu l d
  exact Ze hx ih (by rw [Bp]; show x + 4294967296 * val (l ++ [d]) ≠ 0; omega)
theorem Ig (hl : Dig l) (hk : k ≤ l.length) (hv : val (l.take k) = val l) (hz : k = 0 ∨ l.getD (k - 1) 0 ≠ 0) : nf (val l) = l.take k := by
 rcases Nat.eq_zero_or_pos k with h0 | h0
 ·subst h0; rw [List.take_zero, Ay] at hv; rw [← hv, Ef, List.take_zero]
 ·obtain ⟨j, rfl⟩ : ∃ j, k = j + 1 := ⟨k - 1, by omega⟩
  have hz' : l.getD j 0 ≠ 0 := by
   rcases hz with hz | hz
   ·omega
   ·simpa using hz
  rw [← hv, Qe l j (by omega)]; exact Z2 _ _ (E7 hl j) (An hl j) hz'
theorem Bi (h : n < 4294967296 ^ k) : (nf n).length ≤ k := by
 induction k generalizing n with
 | zero =>
  have : n = 0 := by simpa using h
  subst this; simp [Ef]
 | succ k ih =>
  by_cases h0 : n = 0
  ·subst h0; simp [Ef]
  ·rw [Gr h0, List.length_cons]
   have : n / 4294967296 < 4294967296 ^ k := by
    rw [Nat.pow_succ] at h
    exact Nat.div_lt_of_lt_mul (by rw [Nat.mul_comm]; exact h)
   have := ih this
   omega
theorem Eh (h : (nf n).length ≤ k) : n < 4294967296 ^ k := by
 have h1 := C9 (nf n) (B9 n)
 rw [Ah] at h1; exact Nat.lt_of_lt_of_le h1 (Nat.pow_le_pow_right (by omega) h)
theorem D4 {m : Nat} (h : m ≤ n) : (nf m).length ≤ (nf n).length :=
 Bi (Nat.lt_of_le_of_lt h (Eh (Nat.le_refl _)))
theorem Dr (h : Dig l) : (nf (val l)).length ≤ l.length := Bi (C9 l h)
theorem Ic : ∀ n, n ≠ 0 → (nf n).getD ((nf n).length - 1) 0 ≠ 0 := by
 refine Ov (fun h => absurd rfl h) fun n h ih _ => ?_
 rw [Gr h]
 by_cases h1 : n / 4294967296 = 0
 ·rw [h1, Ef]; simp; omega
 ·have := ih h1
  have hl : (nf (n / 4294967296)).length ≠ 0 := by
   intro e
   have := Qm8.1 (List.eq_nil_of_length_eq_zero e)
   exact h1 this
  obtain ⟨k, hk⟩ : ∃ k, (nf (n / 4294967296)).length = k + 1 := ⟨(nf (n / 4294967296)).length - 1, by omega⟩
  rw [hk] at this; rw [List.length_cons, hk]
  simpa using this
theorem Bw (h : n ≠ 0) : 0 < (nf n).length := by
 rcases Nat.eq_zero_or_pos (nf n).length with h0 | h0
 ·exact absurd (Qm8.1 (List.eq_nil_of_length_eq_zero h0)) h
 ·exact h0
theorem Sd (hl : Dig l) : nf (val l) = l.take (nf (val l)).length := by
 suffices h : ∀ k, k ≤ l.length → val (l.take k) = val l → nf (val l) = l.take (nf (val l)).length from h l.length (Nat.le_refl _) (by rw [List.take_length])
 intro k
 induction k with
 | zero =>
  intro _ hv; rw [List.take_zero, Ay] at hv
  rw [← hv, Ef]; simp
 | succ k ih =>
  intro hk hv
  by_cases hz : l.getD k 0 = 0
  ·refine ih (by omega) ?_
   rw [← hv, Qe l k (by omega), hz, Qa2]
  ·have h1 := Ig hl hk hv (.inr (by simpa using hz))
   rw [h1, List.length_take, Nat.min_eq_left hk]
theorem Qe6 (hl : Dig l) (h : l = [] ∨ l.getD (l.length - 1) 0 ≠ 0) : nf (val l) = l := by
 have := Ig hl (k := l.length) (Nat.le_refl _) (by rw [List.take_length]) (by
  rcases h with h | h
  ·left; rw [h]; rfl
  ·right; exact h)
 rw [List.take_length] at this; exact this
theorem Lh {m n : Nat} (h : (nf m).length < (nf n).length) : m < n := by
 rcases Nat.lt_or_ge m n with h' | h'
 ·exact h'
 ·exact absurd (D4 h') (by omega)
end
section
theorem Qdu (l : List Nat) (j k d : Nat) (h : k ≤ j) : (l.set j d).take k = l.take k := by
 rw [List.take_set, List.set_eq_of_length_le]
 rw [List.length_take]; omega
theorem Qbl (l : List Nat) (j k d : Nat) (h : j < k) : (l.set j d).drop k = l.drop k := by
 apply List.ext_getElem?
 intro i; rw [List.getElem?_drop, List.getElem?_drop, List.getElem?_set_ne (by omega)]
theorem Ml (l : List Nat) (j d : Nat) (h : j < l.length) : (l.set j d).getD j 0 = d := by
 rw [List.getD_eq_getElem?_getD, List.getElem?_set_self h]; rfl
theorem Cq (l : List Nat) (i j d : Nat) (h : i ≠ j) : (l.set i d).getD j 0 = l.getD j 0 := by
 rw [List.getD_eq_getElem?_getD, List.getElem?_set_ne h, ← List.getD_eq_getElem?_getD]
variable {A V b c d i j m n r x y : Nat}
theorem G6 {l : List Nat} (h : Dig l) (j : Nat) (hd : d < 4294967296) : Dig (l.set j d) := by
 intro x hx
 rcases List.mem_or_eq_of_mem_set hx with hx | rfl
 ·exact h _ hx
 ·exact hd
theorem Qf2 (n : Nat) : Dig (List.replicate n 0) := by
 intro x hx
 rw [List.eq_of_mem_replicate hx]; omega
theorem Dc : ∀ n, val (List.replicate n 0) = 0
 | 0 => rfl
 | n + 1 => by rw [List.replicate_succ, Bp, Dc n]
theorem C3 (n j : Nat) : (List.replicate n 0).getD j 0 = 0 := by
 rw [List.getD_eq_getElem?_getD, List.getElem?_replicate]
 split <;> rfl
theorem J8 (l : List Nat) (j d : Nat) (h : j < l.length) : val (l.set j d) + 4294967296 ^ j * l.getD j 0 = val l + 4294967296 ^ j * d := by
 have h1 := Dt l j (by omega)
 have h2 := Dt (l.set j d) j (by simp; omega)
 rw [Qdu l j j d (Nat.le_refl _)] at h2; rw [Ck l j h] at h1; rw [Ck (l.set j d) j (by simpa using h), Ml l j d h, Qbl l j (j + 1) d (by omega)] at h2; rw [h1, h2, Nat.mul_add, Nat.mul_add]; omega
theorem X5 (l : List Nat) (k : Nat) (h : ∀ j, k ≤ j → l.getD j 0 = 0) : val (l.take k) = val l := by
 suffices ∀ n, ∀ l : List Nat, l.length ≤ n → ∀ k, (∀ j, k ≤ j → l.getD j 0 = 0) → val (l.take k) = val l from this l.length l (Nat.le_refl _) k h
 intro n
 induction n with
 | zero =>
  intro l hl k _
  have : l = [] := List.eq_nil_of_length_eq_zero (by omega)
  subst this; simp
 | succ n ih =>
  intro l hl k h
  cases l with
  | nil => simp
  | cons d l =>
   cases k with
   | zero =>
    have h0 := h 0 (by omega)
    have := ih l (by simpa using hl) 0 (fun j _ => by simpa using h (j + 1) (by omega))
    simp only [List.take_zero, Ay] at this ⊢; rw [Bp, ← this]
    simpa using h0.symm
   | succ k =>
    have := ih l (by simpa using hl) k (fun j hj => by simpa using h (j + 1) (by omega))
    rw [List.take_succ_cons, Bp, Bp, this]
variable {L : List Nat}
theorem Nc {s t : Nat} (hj : j < L.length) (ht : t = c + s + L.getD j 0) :
  val (L.set j (t % 4294967296)) + 4294967296 ^ (j + 1) * (t / 4294967296) = val L + 4294967296 ^ j * c + 4294967296 ^ j * s := by
 have h1 := J8 L j (t % 4294967296) hj
 have e : 4294967296 ^ j * (t % 4294967296) + 4294967296 ^ (j + 1) * (t / 4294967296) = 4294967296 ^ j * c + 4294967296 ^ j * s + 4294967296 ^ j * L.getD j 0 := by
  rw [Nat.pow_succ, Nat.mul_assoc, ← Nat.mul_add, ← Nat.mul_add, ← Nat.mul_add, ← ht]
  congr 1
  exact Nat.mod_add_div _ _
 omega
theorem Qfd {C c' : Nat} (hj : j < L.length) (h0 : L.getD j 0 = 0) (h : val L + C = A + 4294967296 ^ j * c) (hd : d + y + c = x + 4294967296 * c') :
  val (L.set j d) + (C + 4294967296 ^ j * y) = (A + 4294967296 ^ j * x) + 4294967296 ^ (j + 1) * c' := by
 have h1 := J8 L j d hj
 rw [h0] at h1
 have e : 4294967296 ^ j * (d + y + c) = 4294967296 ^ j * x + 4294967296 ^ (j + 1) * c' := by
  rw [hd, Nat.mul_add, Nat.pow_succ, Nat.mul_assoc]
 rw [Nat.mul_add, Nat.mul_add] at e; omega
theorem Gz (hj : j < L.length) (h0 : L.getD j 0 = 0) : val (L.set j c) = val L + 4294967296 ^ j * c := by
 have h1 := J8 L j c hj
 rw [h0] at h1; omega
theorem Yc {z : Nat} (hx : x < 4294967296) (hy : y < 4294967296) (hc : c < 4294967296) (hz : z < 4294967296) : c + x * y + z < 18446744073709551616 := by
 have : x * y ≤ 4294967295 * 4294967295 := Nat.mul_le_mul (by omega) (by omega)
 omega
theorem Qap {k T : Nat} (hj : i + k < L.length) (h : val L + 4294967296 ^ (i + k) * c = V + 4294967296 ^ i * (x * T)) :
  val (L.set (i + k) ((c + x * y + L.getD (i + k) 0) % 4294967296)) + 4294967296 ^ (i + (k + 1)) * ((c + x * y + L.getD (i + k) 0) / 4294967296)
   = V + 4294967296 ^ i * (x * (T + 4294967296 ^ k * y)) := by
 have h1 := Nc (L := L) (j := i + k) (c := c) (s := x * y) hj rfl
 have e : 4294967296 ^ i * (x * (T + 4294967296 ^ k * y)) = 4294967296 ^ i * (x * T) + 4294967296 ^ (i + k) * (x * y) := by
  rw [Nat.pow_add, Nat.mul_add, Nat.mul_add]
  congr 1
  rw [Nat.mul_assoc]
  congr 1
  rw [Nat.mul_left_comm]
 rw [← Nat.add_assoc i k 1, e, h1]; omega
theorem Qj6 (h : V = A * b) : V + 4294967296 ^ i * (x * b) = (A + 4294967296 ^ i * x) * b := by
 rw [h, Nat.add_mul, Nat.mul_assoc]
theorem Qb8 (hj : j < L.length) (h0 : L.getD j 0 = 0) (h : A = val L * d + 4294967296 ^ (j + 1) * r) :
  A + 4294967296 ^ j * x = val (L.set j ((r * 4294967296 + x) / d)) * d + 4294967296 ^ j * ((r * 4294967296 + x) % d) := by
 rw [Gz hj h0, Nat.add_mul, h, Nat.pow_succ]
 have e := Nat.div_add_mod (r * 4294967296 + x) d
 generalize (r * 4294967296 + x) / d = q, (r * 4294967296 + x) % d = m at *
 have e2 : 4294967296 ^ j * (d * q + m) = 4294967296 ^ j * (r * 4294967296 + x) := by rw [e]
 rw [Nat.mul_add, Nat.mul_add] at e2
 have e3 : 4294967296 ^ j * q * d = 4294967296 ^ j * (d * q) := by rw [Nat.mul_assoc, Nat.mul_comm q d]
 have e4 : 4294967296 ^ j * 4294967296 * r = 4294967296 ^ j * (r * 4294967296) := by rw [Nat.mul_assoc, Nat.mul_comm r]
 rw [e3, e4]; omega
theorem Qhm (hr : r < d) (hx : x < 4294967296) : (r * 4294967296 + x) / d < 4294967296 := by
 apply Nat.div_lt_of_lt_mul
 have : (r + 1) * 4294967296 ≤ d * 4294967296 := Nat.mul_le_mul_right _ hr
 rw [Nat.add_mul] at this; omega
theorem F3 {a : Nat} (h1 : (nf m).length ≤ a) (h2 : (nf n).length ≤ b) (h : a + b ≤ c) : (nf (m * n)).length ≤ c := by
 have h3 := Eh h1
 have h4 := Eh h2
 refine Nat.le_trans (Bi (k := a + b) ?_) h
 rw [Nat.pow_add]; exact Nat.mul_lt_mul'' h3 h4
theorem E5 (h : m ≤ n) (h2 : (nf n).length ≤ c) : (nf m).length ≤ c := Nat.le_trans (D4 h) h2
end
section
def lenOf : Value → Nat | .slice _ n _ => n | _ => 0
theorem Wa : (Tryz.prog.info? 204).map (fun i => (i.zero, i.size, i.bytes)) = some (some (.int .u32 0), 1, 4) := by kernel_rfl
def dv (d : Nat) : Value := .int .u32 (d : Int)
def C5 (w : World) (a : Option Addr) (l : List Nat) : Prop :=
 0 < l.length → ∃ b off, a = some ⟨b, off, none⟩ ∧ ∀ i, i < l.length → w.cell? ⟨b, off + i, none⟩ = some (.int .u32 ((l.getD i 0 : Nat) : Int))
def Rd (w : World) (v : Value) (l : List Nat) : Prop :=
 ∃ a cap, v = .slice a l.length cap ∧ l.length ≤ cap ∧ cap ≤ 9223372036854775807 ∧ Dig l ∧ C5 w a l
def Own (w : World) (base : Nat) (v : Value) (l : List Nat) : Prop :=
 Dig l ∧ w.ownsRow base 204 1 v l.length (l.map dv)
variable {v : Value} {w w' : World}
theorem El {a : Addr} (h : w.cell? a = some v) : a.block < w.heap.size := by
 rcases Nat.lt_or_ge a.block w.heap.size with hlt | hge
 ·exact hlt
 ·simp [World.cell?, Array.getElem?_eq_none hge] at h
variable {a : Option Addr} {l : List Nat}
theorem C5.keep (h : C5 w a l) (hb : Below w.heap.size w w') : C5 w' a l := by
 intro h0; obtain ⟨b, off, rfl, hc⟩ := h h0
 exact ⟨b, off, rfl, fun i hi => (hb.cell (El (hc i hi))).trans (hc i hi)⟩
theorem Rd.keep (h : Rd w v l) (hb : Below w.heap.size w w') : Rd w' v l := by
 obtain ⟨a, cap, rfl, h1, h2, h3, h4⟩ := h; exact ⟨a, cap, rfl, h1, h2, h3, h4.keep hb⟩
theorem Rd.dig (h : Rd w v l) : Dig l := by
 obtain ⟨a, cap, rfl, h1, h2, h3, h4⟩ := h; exact h3
theorem Rd.nil (w : World) : Rd w (.slice none 0 0) [] := ⟨none, 0, rfl, Nat.le_refl _, by omega, Bv, fun h => absurd h (by simp)⟩
theorem N6 (l : List Nat) (j : Nat) (h : j < l.length) : (l.map dv)[j]? = some (.int .u32 ((l.getD j 0 : Nat) : Int)) := by
 rw [List.getElem?_map, List.getElem?_eq_getElem h, List.getD_eq_getElem?_getD, List.getElem?_eq_getElem h]; rfl
theorem Own.shape {base : Nat} (h : Own w base v l) :
  (v = .slice none 0 0 ∧ l = []) ∨ ∃ g cap, v = .slice (some ⟨g, 0, none⟩) l.length cap ∧ base ≤ g ∧ g < w.heap.size ∧ l.length ≤ cap ∧ cap ≤ 9223372036854775807 ∧
   (∀ i, i < l.length → w.cell? ⟨g, i, none⟩ = some (.int .u32 ((l.getD i 0 : Nat) : Int))) ∧ (∀ i, w.frozen? ⟨g, i, none⟩ = false) := by
 have h' := h.2
 rcases h.2.2 with ⟨rfl, h0⟩ | ⟨g, cap, cur, rfl, hb, hg, hnc, hcm, hcs, htake⟩
 ·exact .inl ⟨rfl, List.eq_nil_of_length_eq_zero h0⟩
 ·refine .inr ⟨g, cap, rfl, hb, ?_, hnc, hcm, fun i hi => ?_, fun i => h'.frozenAt i⟩
  ·rcases Nat.lt_or_ge g w.heap.size with hlt | hge
   ·exact hlt
   ·rw [Array.getElem?_eq_none hge] at hg; cases hg
  ·rw [h'.cellAt i (by omega), N6 l i hi]
theorem Own.rd {base : Nat} (h : Own w base v l) : Rd w v l := by
 rcases h.shape with ⟨rfl, rfl⟩ | ⟨g, cap, rfl, _, _, h1, h2, hc, _⟩
 ·exact Rd.nil w
 ·exact ⟨_, cap, rfl, h1, h2, h.1, fun _ => ⟨g, 0, rfl, fun i hi => by rw [Nat.zero_add]; exact hc i hi⟩⟩
theorem Own.mono {base base' : Nat} (h : Own w base v l) (hb : base' ≤ base) : Own w base' v l := by
 refine ⟨h.1, h.2.1, ?_⟩
 rcases h.2.2 with h0 | ⟨g, cap, cur, e, hg, rest⟩
 ·exact .inl h0
 ·exact .inr ⟨g, cap, cur, e, Nat.le_trans hb hg, rest⟩
theorem Own.keep {base : Nat} (h : Own w base v l) (hb : Below w.heap.size w w') : Own w' base v l := by
 refine ⟨h.1, h.2.1, ?_⟩
 rcases h.2.2 with h0 | ⟨g, cap, cur, e, hg, hh, rest⟩
 ·exact .inl h0
 ·refine .inr ⟨g, cap, cur, e, hg, ?_, rest⟩
  have : g < w.heap.size := by
   rcases Nat.lt_or_ge g w.heap.size with hlt | hge
   ·exact hlt
   ·rw [Array.getElem?_eq_none hge] at hh; cases hh
  rw [hb.block g this, hh]
theorem Own.nil (w : World) (base : Nat) : Own w base (.slice none 0 0) [] := ⟨Bv, World.ownsRow_nil _ _ _ _⟩
variable {g : Nat}
theorem Own.take {base cap : Nat} (h : Own w base (.slice (some ⟨g, 0, none⟩) l.length cap) l) (k : Nat) (hk : k ≤ l.length) :
  Own w base (.slice (some ⟨g, 0, none⟩) k cap) (l.take k) := by
 refine ⟨E7 h.1 k, by simp, ?_⟩
 rcases h.2.2 with ⟨h0, _⟩ | ⟨g', cap', cur, e, hg, hh, hnc, hcm, hcs, htake⟩
 ·simp at h0
 ·simp only [Value.slice.injEq, Option.some.injEq, Addr.mk.injEq, and_true, true_and] at e; obtain ⟨rfl, rfl⟩ := e
  have e1 : (l.take k).length = k := by rw [List.length_take]; omega
  refine .inr ⟨g, cap, cur, by rw [e1], hg, hh, by omega, hcm, hcs, ?_⟩
  rw [List.map_take, ← htake, List.take_take]
  congr 1
  omega
def Row (w : World) (base g cap : Nat) (l : List Nat) : Prop := Own w base (.slice (some ⟨g, 0, none⟩) l.length cap) l
theorem Row.lt {base cap : Nat} (h : Row w base g cap l) : base ≤ g ∧ g < w.heap.size := by
 rcases Own.shape h with ⟨e, _⟩ | ⟨g', cap', e, h1, h2, _⟩
 ·simp at e
 ·simp only [Value.slice.injEq, Option.some.injEq, Addr.mk.injEq, and_true, true_and] at e; obtain ⟨rfl, rfl⟩ := e; exact ⟨h1, h2⟩
theorem Row.cap {base cap : Nat} (h : Row w base g cap l) : l.length ≤ cap ∧ cap ≤ 9223372036854775807 := by
 rcases Own.shape h with ⟨e, _⟩ | ⟨g', cap', e, _, _, h1, h2, _⟩
 ·simp at e
 ·simp only [Value.slice.injEq, Option.some.injEq, Addr.mk.injEq, and_true, true_and] at e; obtain ⟨rfl, rfl⟩ := e; exact ⟨h1, h2⟩
theorem Row.dig {base cap : Nat} (h : Row w base g cap l) : Dig l := h.1
theorem Row.cell {base cap : Nat} (h : Row w base g cap l) {j : Nat} (hj : j < l.length) : w.cell? ⟨g, j, none⟩ = some (.int .u32 ((l.getD j 0 : Nat) : Int)) := by
 rw [World.ownsRow.cellAt h.2 j (by omega), N6 l j hj]
theorem Row.free {base cap : Nat} (h : Row w base g cap l) (j : Nat) : w.frozen? ⟨g, j, none⟩ = false := World.ownsRow.frozenAt h.2 j
theorem Row.set {base cap : Nat} (h : Row w base g cap l) (j : Nat) {d : Nat} (hd : d < 4294967296) :
  Row (w.setCell ⟨g, j, none⟩ (.int .u32 (d : Int))) base g cap (l.set j d) := by
 have h1 := (World.ownsRow.stored h.2 j (.int .u32 (d : Int))).1
 refine ⟨G6 h.1 j hd, ?_⟩
 rw [List.length_set, List.map_set]; exact h1
theorem Row.keep {base cap : Nat} (h : Row w base g cap l) (hb : Below w.heap.size w w') : Row w' base g cap l := Own.keep h hb
theorem Row.rd {base cap : Nat} (h : Row w base g cap l) : Rd w (.slice (some ⟨g, 0, none⟩) l.length cap) l := Own.rd h
theorem Qll {base n : Nat} (h : w.ownsRow base 204 1 (.slice (some ⟨g, 0, none⟩) n n) n (madeCells (Value.cells (.int .u32 0)) (n * 1)).toList) : Row w base g n (List.replicate n 0) := by
 refine ⟨Qf2 n, ?_⟩
 have e : (madeCells (Value.cells (.int .u32 0)) (n * 1)).toList = (List.replicate n 0).map dv := by
  rw [Nat.mul_one]
  show (madeCells #[.int .u32 0] n).toList = _
  rw [toList_madeCells_one, List.map_replicate]; rfl
 rw [e] at h
 simpa using h
variable {Q : Exit → Act → World → Prop} {o : Oper} {ops : Array Oper} {rest : List Oper}
theorem Dg (w : World) {a : Act}
  (hg : o.guard = none) (l c : Operand) (t : TypeId) (hop : o.op = Op.makeSlice t l c) (h1 : Tryz.prog.underlying t = some (.slice 204))
  (L C : Int) (n : Nat) (hl : a.eval l = .int .i64 L) (hc : a.eval c = .int .i64 C) (hL : L = (n : Int)) (hC : C = (n : Int)) (hn : n ≤ 1000000000)
  (hK : ∀ w', Row w' w.heap.size w.heap.size n (List.replicate n 0) → Below w.heap.size w w' → wpList Tryz.prog ops Q rest (a.put o.dst (.slice (some ⟨w.heap.size, 0, none⟩) n n)) w') :
  wpList Tryz.prog ops Q (o :: rest) a w := by
 obtain ⟨i0, hi, hz0, hz1, hz2⟩ := info_parts Wa
 exact wpList_make_full w hg l c t hop w.heap.size 204 i0 (.int .u32 0) 1 h1 hi hz0 hz1 .i64 .i64 L C n hl hc hL hC (by rw [hz2]; omega) (by unfold maxLen; omega) (Nat.le_refl _)
  fun w' r g => hK w' (Qll r) ((Below.refl w.heap.size w).grown g (Nat.le_refl _) (by simp))
theorem C5.below (h : C5 w a l) (h0 : 0 < l.length) : ∀ b off, a = some ⟨b, off, none⟩ → b < w.heap.size := fun b off e => by
 obtain ⟨b2, off2, e2, hc⟩ := h h0
 rw [e] at e2; injection e2 with e2; injection e2 with e3 e4; subst e3; subst e4
 exact El (hc 0 h0)
theorem C5.at {wr : World} (h : C5 w a l) (hb : Below w.heap.size w wr) {k : Nat} (hk : k < l.length) :
  ∃ b off, a = some ⟨b, off, none⟩ ∧ wr.cell? ⟨b, off + k, none⟩ = some (.int .u32 ((l.getD k 0 : Nat) : Int)) := by
 obtain ⟨b, off, rfl, hc⟩ := h (by omega); exact ⟨b, off, rfl, (hb.cell (h.below (by omega) b off rfl)).trans (hc k hk)⟩
theorem Be {B : Nat} {a : World} (h : Below B a w) (n : Nat) : Below B a (w.drewN n) := ⟨h.os, h.tape, h.output, h.size, h.block⟩
theorem Vn (b off j : Nat) : (⟨b, off, none⟩ : Addr).add j = ⟨b, off + j, none⟩ := by
 unfold Addr.add
 split
 ·rename_i h; subst h; rfl
 ·rfl
theorem Qc5 {P : Program} (t t' ty e : TypeId) (ht : P.underlying t = some (.slice e)) (ht' : P.underlying t' = some (.slice e)) (a x : Option Addr) (n c m d : Nat) (w : World) :
  (Builtin.append_ #[t, t'] ty #[.slice a n c, .slice x m d]).run P w = (Builtin.append_ #[t, t] ty #[.slice a n c, .slice x m d]).run P w := by
 simp [Builtin.append_, run_underlying ht, run_underlying ht']
theorem Qa8 (t t' ty : TypeId) (ht : Tryz.prog.underlying t = some (.slice 204)) (ht' : Tryz.prog.underlying t' = some (.slice 204)) (w : World) (base : Nat) (v x : Value) (l m : List Nat)
  (ho : Own w base v l) (hx : Rd w x m) (hlen : l.length + m.length ≤ 1000000000) (hbase : base ≤ w.heap.size) :
  ∃ v' w', (Builtin.append_ #[t, t'] ty #[v, x]).run Tryz.prog w = .ok v' w' ∧ Own w' base v' (l ++ m) ∧ w.grownBy w' v.ownBlock ∧ (v'.ownBlock = v.ownBlock ∨ v'.ownBlock = some w.heap.size) := by
 obtain ⟨i0, hi, hz0, hz1, hz2⟩ := info_parts Wa; obtain ⟨a, cap, rfl, hc, hcm, hd, hr⟩ := hx
 have hsh : ∃ a n c, v = .slice a n c := by
  rcases ho.2.2 with ⟨rfl, _⟩ | ⟨g, cap', cur, rfl, _⟩
  ·exact ⟨_, _, _, rfl⟩
  ·exact ⟨_, _, _, rfl⟩
 have htt : (Builtin.append_ #[t, t'] ty #[v, .slice a m.length cap]).run Tryz.prog w = (Builtin.append_ #[t, t] ty #[v, .slice a m.length cap]).run Tryz.prog w := by
  obtain ⟨a', n', c', rfl⟩ := hsh; exact Qc5 t t' ty 204 ht ht' _ _ _ _ _ _ w
 rw [htt]; clear htt hsh
 have nilCase : m = [] → (Builtin.append_ #[t, t] ty #[v, .slice none 0 cap]).run Tryz.prog w = .ok v w := by
  intro _
  rcases ho.2.2 with ⟨rfl, h0⟩ | ⟨g, cap', cur, rfl, _, _, hnc, _⟩
  ·simp [Builtin.append_, run_underlying ht, sizeOf, typeInfo, hi, Builtin.lenOf, Builtin.firstCells]
  ·simp [Builtin.append_, run_underlying ht, sizeOf, typeInfo, hi, Builtin.lenOf, Builtin.firstCells, hnc, storeCells]
 rcases a with _ | ad
 ·have hm : m = [] := by
   rcases Nat.eq_zero_or_pos m.length with h0 | h0
   ·exact List.eq_nil_of_length_eq_zero h0
   ·obtain ⟨b, off, e, _⟩ := hr h0
    cases e
  subst hm
  exact ⟨v, w, nilCase rfl, by simpa using ho, ⟨rfl, rfl, rfl, Nat.le_refl _, fun _ _ _ => rfl⟩, .inl rfl⟩
 ·obtain ⟨v', w', hrun, h2, h3, _, h5⟩ := run_append_own_at (P := Tryz.prog) w base t ty 204 i0 (.int .u32 0) 1 4 ht hi hz0 hz1 hz2 rfl (by omega) v l.length (l.map dv) ho.2 ad m.length cap (m.map dv)
   (by simp) (fun j u hu => by
    have hj : j < m.length := by
     rcases Nat.lt_or_ge j m.length with h | h
     ·exact h
     ·rw [List.getElem?_eq_none (by simpa using h)] at hu; cases hu
    obtain ⟨b, off, e, hcell⟩ := hr (by omega)
    have e2 := Option.some.inj e
    subst e2; rw [N6 m j hj] at hu; rw [← hu, Vn]
    exact hcell j hj) (fun u hu => by
    obtain ⟨d, _, rfl⟩ := List.mem_map.1 hu
    rfl) (by unfold maxLen; omega) (by omega) hbase
  refine ⟨v', w', hrun, ⟨Qh0 ho.1 hd, ?_⟩, h3, h5⟩
  rw [List.length_append, List.map_append]; exact h2
theorem Gx (w : World) {a : Act} (hg : o.guard = none) (s x : Operand) (t t' : TypeId)
  (hop : o.op = .call { callee := .builtin .append, args := #[s, x], argTypes := #[t, t'] })
  (ht : Tryz.prog.underlying t = some (.slice 204)) (ht' : Tryz.prog.underlying t' = some (.slice 204)) (base : Nat) (v xv : Value) (l m : List Nat) (hs : a.eval s = v) (hx : a.eval x = xv)
  (ho : Own w base v l) (hr : Rd w xv m) (hlen : l.length + m.length ≤ 1000000000) (hbase : base ≤ w.heap.size)
  (hK : ∀ v' w', Own w' base v' (l ++ m) → w.grownBy w' v.ownBlock → (v'.ownBlock = v.ownBlock ∨ v'.ownBlock = some w.heap.size) → wpList Tryz.prog ops Q rest (a.put o.dst v') w') : wpList Tryz.prog ops Q (o :: rest) a w := by
 obtain ⟨v', w', hrun, h2, h3, h4⟩ := Qa8 t t' o.type ht ht' w base v xv l m ho hr hlen hbase
 refine wpList_plain hg fun K hK' => ?_
 unfold Oper.wp execOp
 simp only [hop, resolve, invoke, builtin, Sem.run_bind, Sem.run_pure, Result.andThen_ok, List.map_toArray, List.map_cons, List.map_nil, hs, hx, hrun]; exact hK' _ _ (hK v' w' h2 h3 h4)
theorem Gh {w0 : World} {base : Nat} (ho : Own w base v l) (hB : Below w0.heap.size w0 w) (hg : w.grownBy w' v.ownBlock) (hb : w0.heap.size ≤ base) : Below w0.heap.size w0 w' := by
 refine hB.grown hg hB.size fun k hk => ?_
 have := ho.2.lt k hk
 omega
theorem Ca (w : World) (l : List Nat) (hd : Dig l) (hl : l.length ≤ 1000000) (cs : Array Value) (hcs : cs = (l.map dv).toArray) : Own (w.alloc (.cells cs 204)) w.heap.size (.slice (some ⟨w.heap.size, 0, none⟩) l.length l.length) l := by
 subst hcs
 refine ⟨hd, ?_⟩
 have := World.ownsRow_lit (base := w.heap.size) (e := 204) (size := 1) w (l.map dv).toArray l.length (Nat.le_refl _) (by unfold maxLen; omega) (by simp)
 simpa using this
def My (w : World) (b off n : Nat) : List Nat := (List.range n).map fun i => match w.cell? ⟨b, off + i, none⟩ with | some (.int _ k) => k.toNat | _ => 0
def Ir (w : World) : Value → Nat
 | .slice (some a) n _ => val (My w a.block a.off n)
 | _ => 0
theorem I1 (h : Rd w v l) : Ir w v = val l := by
 obtain ⟨a, cap, rfl, h1, h2, h3, h4⟩ := h
 rcases Nat.eq_zero_or_pos l.length with h0 | h0
 ·have : l = [] := List.eq_nil_of_length_eq_zero h0
  subst this
  cases a <;> rfl
 ·obtain ⟨b, off, rfl, hc⟩ := h4 h0
  show val (My w b off l.length) = val l
  congr 1
  apply List.ext_getElem (by simp [My])
  intro i h1 h2; simp only [My, List.getElem_map, List.getElem_range, hc i h2]; rw [List.getD_eq_getElem?_getD, List.getElem?_eq_getElem h2]; simp
end
section
variable {d : Nat}
theorem Zu (h : d = 0) : (((d : Nat) : Int) == 0) = true := by simp [h]
theorem Tf (h : ¬ d = 0) : (((d : Nat) : Int) == 0) = false := by simpa using h
theorem Qt (w : World) (a : Option Addr) (cap : Nat) (l : List Nat) (hc : l.length ≤ cap) (hcm : cap ≤ 9223372036854775807) (hd : Dig l) (hr : C5 w a l) :
  Calls Tryz.prog 206 #[.slice a l.length cap] w fun e w' => e = .returned (.slice a (nf (val l)).length cap) ∧ w = w' := by
 go_enter Tryz.func206, Tryz.ntmps206; go_wp2
 go_loop [0] (fun v => ∃ k : Nat, k ≤ l.length ∧ v = .slice a k cap ∧ Hid (val (l.take k) = val l)) (fun v => lenOf v)
 case atStart => exact ⟨l.length, Nat.le_refl _, rfl, by show _ = _; rw [List.take_length]⟩
 case round =>
  obtain ⟨k, hk, rfl, hv⟩ := hrel
  by_cases h0 : k = 0
  ·subst h0
   have e := Ig hd hk hv.out (.inl rfl)
   have e2 : (nf (val l)).length = 0 := by rw [e]; simp
   have E2 := Lib.hid e2; clear e e2; go_wp2; go_ret
   exact ⟨by rw [E2.out]; rfl, rfl⟩
  ·obtain ⟨b, off, rfl, hcell⟩ := hr (by omega); have h1 : 0 < k := (by omega)
   have hc1 := hcell (k - 1) (by omega)
   clear hcell
   by_cases hz : l.getD (k - 1) 0 = 0
   ·have hv2 : val (l.take (k - 1)) = val l := by
     have := Ds l (k - 1) (by omega)
     rw [Nat.sub_add_cancel h1, hz, Nat.mul_zero, Nat.add_zero, hv.out] at this; exact this.symm
    have HV := Lib.hid hv2
    generalize l.getD (k - 1) 0 = d at *
    have hz' := Zu hz
    clear hz hv hv2; go_wp2
    go_round
    case rel => exact ⟨k - 1, by omega, by go_num, HV⟩
    case measure => show k - 1 < k; omega
   ·have e := Ig hd hk hv.out (.inr hz)
    have e2 : (nf (val l)).length = k := by rw [e, List.length_take]; omega
    have E2 := Lib.hid e2
    generalize l.getD (k - 1) 0 = d at *
    have hz' := Tf hz
    clear e e2 hz hv; go_wp2; go_ret
    exact ⟨by rw [E2.out]; rfl, rfl⟩
theorem D3 (w : World) (v : Value) (l : List Nat) (h : Rd w v l) :
  Calls Tryz.prog 206 #[v] w fun e w' => ∃ v', e = .returned v' ∧ Rd w v' (nf (val l)) ∧ w = w' := by
 obtain ⟨a, cap, rfl, hc, hcm, hd, hr⟩ := h
 refine (Qt w a cap l hc hcm hd hr).mono ?_
 rintro e w' ⟨rfl, rfl⟩
 have hle := Dr hd
 refine ⟨_, rfl, ⟨a, cap, rfl, by omega, hcm, B9 _, fun h0 => ?_⟩, rfl⟩
 obtain ⟨b, off, rfl, hc⟩ := hr (by omega)
 refine ⟨b, off, rfl, fun i hi => ?_⟩
 rw [hc i (by omega), Sd hd]; rw [List.getD_eq_getElem?_getD, List.getD_eq_getElem?_getD, List.getElem?_take, if_pos hi]
theorem Gi (w : World) (base g cap n : Nat) (l : List Nat) (h : Row w base g cap l) (hn : l.length = n) :
  Calls Tryz.prog 206 #[.slice (some ⟨g, 0, none⟩) n cap] w fun e w' => ∃ v, e = .returned v ∧ Own w base v (nf (val l)) ∧ w = w' := by
 subst hn
 have hc := h.cap
 refine (Qt w _ cap l hc.1 hc.2 h.dig (fun _ => ⟨g, 0, rfl, fun i hi => by rw [Nat.zero_add]; exact h.cell hi⟩)).mono ?_
 rintro e w' ⟨rfl, rfl⟩
 refine ⟨_, rfl, ?_, rfl⟩
 have := Own.take h (nf (val l)).length (Dr h.dig)
 rw [← Sd h.dig] at this; exact this
end
end Go.Proofs.YtpnpnlmlamfpmaaGreatDoor
