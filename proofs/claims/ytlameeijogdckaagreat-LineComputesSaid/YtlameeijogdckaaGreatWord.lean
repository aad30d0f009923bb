/-
  Numbers in memory, said in one word each: a slice that reads as a normal number (Nn), a slice that reads as a number, perhaps with zeros at the end (Rr); the contracts of layer 1 said so.
-/
import Derived.Test.YtlameeijogdckaaGreatGcd
import Derived.Test.YtlameeijogdckaaGreatMul
import Derived.Test.YtlameeijogdckaaGreatSub
import Derived.Test.YtlameeijogdckaaGreatShr
namespace Go.Proofs.YtlameeijogdckaaGreat
open Go.RowKit

/-- The slice v reads as the digits of n, in normal form, and these are at most k. -/
def Nn (w : World) (v : Value) (n k : Nat) : Prop := Rd w v (nf n) ∧ (nf n).length ≤ k
/-- The slice v reads as the number n, in at most k digits, perhaps with zeros at the end. -/
def Rr (w : World) (v : Value) (n k : Nat) : Prop := ∃ l, Rd w v l ∧ val l = n ∧ l.length ≤ k
theorem Nn.rr {w : World} {v : Value} {n k : Nat} (h : Nn w v n k) : Rr w v n k := ⟨_, h.1, val_nf _, h.2⟩
theorem Nn.keep {w w' : World} {v : Value} {n k : Nat} (h : Nn w v n k) (hb : Below w.heap.size w w') : Nn w' v n k := ⟨h.1.keep hb, h.2⟩
theorem Rr.keep {w w' : World} {v : Value} {n k : Nat} (h : Rr w v n k) (hb : Below w.heap.size w w') : Rr w' v n k := by
  obtain ⟨l, h1, h2⟩ := h
  exact ⟨l, h1.keep hb, h2⟩
theorem Nn.rrk {w w' : World} {v : Value} {n k : Nat} (h : Nn w v n k) (hb : Below w.heap.size w w') : Rr w' v n k := (h.keep hb).rr
theorem Nn.mono {w : World} {v : Value} {n k k' : Nat} (h : Nn w v n k) (hk : k ≤ k') : Nn w v n k' := ⟨h.1, Nat.le_trans h.2 hk⟩
theorem Rr.mono {w : World} {v : Value} {n k k' : Nat} (h : Rr w v n k) (hk : k ≤ k') : Rr w v n k' := by
  obtain ⟨l, h1, h2, h3⟩ := h
  exact ⟨l, h1, h2, Nat.le_trans h3 hk⟩
theorem Nn.cast {w : World} {v : Value} {n n' k k' : Nat} (h : Nn w v n k) (e : n = n') (hk : k ≤ k') : Nn w v n' k' := by
  subst e; exact h.mono hk
theorem Nn.nil (w : World) (k : Nat) : Nn w (.slice none 0 0) 0 k := ⟨Rd.nil w, by simp [nf_zero]⟩
theorem Nn.of_own {w : World} {base : Nat} {v : Value} {n k : Nat} (h : Own w base v (nf n)) (hk : (nf n).length ≤ k) : Nn w v n k := ⟨h.rd, hk⟩
theorem Rr.of_rd {w : World} {v : Value} {l : List Nat} {k : Nat} (h : Rd w v l) (hk : l.length ≤ k) : Rr w v (val l) k := ⟨l, h, rfl, hk⟩
theorem Nn.lit {w : World} {v : Value} {n k : Nat} {l : List Nat} (h : Rd w v l) (e : nf n = l) (hk : l.length ≤ k) : Nn w v n k := by
  subst e; exact ⟨h, hk⟩
/-- What is known of the shape of a normal number. -/
theorem Nn.shape {w : World} {v : Value} {n k : Nat} (h : Nn w v n k) : ∃ a cap, v = .slice a (nf n).length cap ∧ (nf n).length ≤ cap ∧ cap ≤ 9223372036854775807 ∧ (nf n).length ≤ k := by
  obtain ⟨⟨a, cap, e, h1, h2, _⟩, hk⟩ := h
  exact ⟨a, cap, e, h1, h2, hk⟩
theorem nflen_pos {n : Nat} : 0 < (nf n).length ↔ n ≠ 0 := by
  constructor
  · intro h e; subst e; simp [nf_zero] at h
  · exact nf_len_pos
theorem nflen_zero {n : Nat} : (nf n).length = 0 ↔ n = 0 := by
  constructor
  · intro h; exact nf_eq_nil.1 (List.eq_nil_of_length_eq_zero h)
  · rintro rfl; rfl

/-- A normal number is returned, in memory that need not be new; nothing that was there has changed. -/
def RetN (w : World) (n k : Nat) (e : Ending) (w' : World) : Prop := ∃ a l c, e = .returned (.slice a l c) ∧ Nn w' (.slice a l c) n k ∧ Below w.heap.size w w'
theorem RetN.mk {w w' : World} {n k : Nat} {v : Value} (h : Nn w' v n k) (hb : Below w.heap.size w w') : RetN w n k (.returned v) w' := by
  obtain ⟨a, c, rfl, _⟩ := h.shape
  exact ⟨a, _, c, rfl, h, hb⟩
theorem Rr.shape {w : World} {v : Value} {n k : Nat} (h : Rr w v n k) : ∃ a l c, v = .slice a l c := by
  obtain ⟨l, ⟨a, cap, rfl, _⟩, _⟩ := h
  exact ⟨_, _, _, rfl⟩
/-- The length of a normal number's slice. -/
theorem Nn.len {w : World} {a : Option Addr} {l c n k : Nat} (h : Nn w (.slice a l c) n k) : l = (nf n).length := by
  obtain ⟨a', c', e, _⟩ := h.shape
  injection e

/-! ### the contracts of layer 1 -/
section
variable {w : World} {u v : Value} {m n km kn : Nat}
theorem normW (hu : Rr w u m km) (hk : km ≤ 900000) : Calls Tryz.prog 208 #[u] w (RetN w m km) := by
  obtain ⟨l, h, rfl, hl⟩ := hu
  refine (norm_any _ _ _ h (by omega)).mono ?_
  rintro e w' ⟨z, rfl, hz, hb⟩
  exact .mk (.of_own hz (Nat.le_trans (nf_val_len h.dig) hl)) hb
theorem len_addM {m n a b : Nat} (h1 : (nf m).length ≤ a) (h2 : (nf n).length ≤ b) : (nf (m + n)).length ≤ max a b + 1 := by
  have h3 := lt_of_nf_len (Nat.le_trans h1 (Nat.le_max_left a b))
  have h4 := lt_of_nf_len (Nat.le_trans h2 (Nat.le_max_right a b))
  refine nf_len_le ?_
  rw [Nat.pow_succ]
  omega
theorem Rr.nflen {w : World} {v : Value} {n k : Nat} (h : Rr w v n k) : (nf n).length ≤ k := by
  obtain ⟨l, h, rfl, hl⟩ := h
  exact Nat.le_trans (nf_val_len h.dig) hl
theorem addW (hu : Rr w u m km) (hv : Rr w v n kn) (hk : km ≤ 900000) (hk2 : kn ≤ 900000) : Calls Tryz.prog 237 #[u, v] w (RetN w (m + n) (max km kn + 1)) := by
  have h1 := hu.nflen
  have h3 := hv.nflen
  obtain ⟨la, h, rfl, hl⟩ := hu
  obtain ⟨lb, h2, rfl, hl2⟩ := hv
  refine (add_any _ _ _ _ _ h h2 (by omega) (by omega)).mono ?_
  rintro e w' ⟨z, rfl, hz, hb⟩
  exact .mk (.of_own hz (len_addM h1 h3)) hb
theorem mulW (hu : Rr w u m km) (hv : Rr w v n kn) (hk : km ≤ 900000) (hk2 : kn ≤ 900000) : Calls Tryz.prog 212 #[u, v] w (RetN w (m * n) (km + kn)) := by
  have h1 := hu.nflen
  have h3 := hv.nflen
  obtain ⟨la, h, rfl, hl⟩ := hu
  obtain ⟨lb, h2, rfl, hl2⟩ := hv
  refine (mul_any _ _ _ _ _ h h2 (by omega) (by omega)).mono ?_
  rintro e w' ⟨z, rfl, hz, hb⟩
  exact .mk (.of_own hz (len_mul h1 h3 (Nat.le_refl _))) hb
theorem subW (hu : Rr w u m km) (hv : Rr w v n kn) (hk : km ≤ 900000) : Calls Tryz.prog 238 #[u, v] w fun e w' => ∃ a l c, e = .returned (.tuple #[.slice a l c, .bool (decide (n ≤ m))]) ∧ Nn w' (.slice a l c) (m - n) km ∧ Below w.heap.size w w' := by
  have h1 := hu.nflen
  obtain ⟨la, h, rfl, hl⟩ := hu
  obtain ⟨lb, h2, rfl, hl2⟩ := hv
  refine (sub_any _ _ _ _ _ h h2 (by omega)).mono ?_
  rintro e w' ⟨z, rfl, hz, hb⟩
  have hn := Nn.of_own hz (len_le (Nat.sub_le _ _) h1)
  obtain ⟨a, c, rfl, _⟩ := hn.shape
  exact ⟨_, _, _, rfl, hn, hb⟩
theorem divmodW (hu : Rr w u m km) (hv : Rr w v n kn) (hk : km ≤ 900000) : Calls Tryz.prog 204 #[u, v] w fun e w' => ∃ a l c a2 l2 c2, e = .returned (.tuple #[.slice a l c, .slice a2 l2 c2, .bool (decide (n ≠ 0))]) ∧ Nn w' (.slice a l c) (m / n) km ∧ Nn w' (.slice a2 l2 c2) (if n = 0 then 0 else m % n) km ∧ Below w.heap.size w w' := by
  have h1 := hu.nflen
  obtain ⟨la, h, rfl, hl⟩ := hu
  obtain ⟨lb, h2, rfl, hl2⟩ := hv
  refine (divmod_any _ _ _ _ _ h h2 (by omega) (.inr long_any)).mono ?_
  rintro e w' ⟨q, r, rfl, hq, hr, hb⟩
  have hn := Nn.of_own hq (len_le (Nat.div_le_self _ _) h1)
  have hn2 := Nn.of_own hr (k := km) (by
    split
    · simp [nf_zero]
    · exact len_le (Nat.mod_le _ _) h1)
  obtain ⟨a, c, rfl, _⟩ := hn.shape
  obtain ⟨a2, c2, rfl, _⟩ := hn2.shape
  exact ⟨_, _, _, _, _, _, rfl, hn, hn2, hb⟩
theorem gcdW (hu : Rr w u m km) (hv : Rr w v n kn) (hk : km ≤ 900000) (hk2 : kn ≤ 900000) : Calls Tryz.prog 202 #[u, v] w (RetN w (Nat.gcd m n) (max km kn)) := by
  have h1 := hu.nflen
  have h3 := hv.nflen
  obtain ⟨la, h, rfl, hl⟩ := hu
  obtain ⟨lb, h2, rfl, hl2⟩ := hv
  refine (gcd_any _ _ _ _ _ h h2 (by omega) (by omega)).mono ?_
  rintro e w' ⟨z, rfl, hz, hb⟩
  refine .mk (.of_own hz ?_) hb
  by_cases h0 : val la = 0
  · rw [h0, Nat.gcd_zero_left]; exact Nat.le_trans h3 (Nat.le_max_right _ _)
  · exact Nat.le_trans (len_le (Nat.gcd_le_left _ (by omega)) h1) (Nat.le_max_left _ _)
theorem cmpW (hu : Rr w u m km) (hv : Rr w v n kn) : Calls Tryz.prog 228 #[u, v] w fun e w' => e = .returned (.int .i64 (cmpN m n)) ∧ Below w.heap.size w w' := by
  obtain ⟨la, h, rfl, hl⟩ := hu
  obtain ⟨lb, h2, rfl, hl2⟩ := hv
  exact natCmp_any _ _ _ _ _ h h2
theorem bitsW (hu : Rr w u m km) (hk : km ≤ 900000) : Calls Tryz.prog 201 #[u] w fun e w' => e = .returned (.int .i64 ((nbits m : Nat) : Int)) ∧ w = w' := by
  obtain ⟨la, h, rfl, hl⟩ := hu
  exact natBits_any _ _ _ h (by omega)
theorem uintW (hu : Rr w u m km) : Calls Tryz.prog 206 #[u] w fun e w' => e = .returned (uintV m) ∧ w = w' := by
  obtain ⟨la, h, rfl, hl⟩ := hu
  exact uint_any _ _ _ h
theorem fromUintW {x : Nat} (hx : x < 18446744073709551616) : Calls Tryz.prog 209 #[.int .u64 (x : Int)] w (RetN w x 2) := by
  refine (fromUint_any _ x hx).mono ?_
  rintro e w' ⟨z, rfl, hz, hb⟩
  exact .mk (.of_own hz (nf_len_le (by omega))) hb
theorem refNW (hu : Rr w u m km) (hk : km ≤ 900000) : Calls Tryz.prog 103 #[u] w (RetN w m km) := by
  have h1 := hu.nflen
  obtain ⟨la, h, rfl, hl⟩ := hu
  refine (refN_any _ _ _ h (by omega)).mono ?_
  rintro e w' ⟨z, rfl, hz, hb⟩
  exact .mk (.of_own hz h1) hb
theorem refToNW (hu : Nn w u m km) (hk : km ≤ 900000) : Calls Tryz.prog 115 #[u] w (RetN w m km) := by
  obtain ⟨h, hl⟩ := hu
  refine (refToN_any _ _ _ h (by omega)).mono ?_
  rintro e w' ⟨z, rfl, hz, hb⟩
  exact .mk (.of_own hz hl) hb
theorem nf_sameB {m n : Nat} : sameB (nf m) (nf n) = decide (m = n) := by
  unfold sameB
  rw [decide_eq_decide]
  exact ⟨nf_inj, fun e => by rw [e]⟩
theorem sameNW (hu : Nn w u m km) (hv : Nn w v n kn) : Calls Tryz.prog 131 #[u, v] w fun e w' => e = .returned (.bool (decide (m = n))) ∧ Below w.heap.size w w' := by
  have := sameN_any _ _ _ _ _ hu.1 hv.1
  rw [nf_sameB] at this
  exact this
theorem numCmpW (hu : Nn w u m km) (hv : Nn w v n kn) : Calls Tryz.prog 178 #[u, v] w fun e w' => e = .returned (.int .i64 (cmpN m n)) ∧ Below w.heap.size w w' := numCmp_any _ _ _ _ _ hu.1 hv.1
end
end Go.Proofs.YtlameeijogdckaaGreat
