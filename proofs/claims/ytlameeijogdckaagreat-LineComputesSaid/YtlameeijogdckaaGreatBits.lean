/-
  Contracts on binary digits: math/bits.Len32 and LeadingZeros32, nat.Bits, num.Bits; Normal and NormalN; num.word; and the laws' helper 'same'.
-/
import Derived.Test.YtlameeijogdckaaGreatForms
namespace Go.Proofs.YtlameeijogdckaaGreat
open Go.RowKit

/-! ### the number of binary digits -/
/-- The number of binary digits of a number below 2^64. -/
def blen (x : Nat) : Nat := Lib.bitLen x
theorem blen_spec : ∀ (f x : Nat), x < 2 ^ f → Lib.bitLenAux f x ≤ f ∧ x < 2 ^ Lib.bitLenAux f x ∧ (x ≠ 0 → 0 < Lib.bitLenAux f x ∧ 2 ^ (Lib.bitLenAux f x - 1) ≤ x)
  | 0, x, h => by
    have : x = 0 := by simpa using h
    subst this
    exact ⟨Nat.le_refl _, by decide, fun h => absurd rfl h⟩
  | f + 1, x, h => by
    unfold Lib.bitLenAux
    by_cases h0 : x = 0
    · rw [if_pos h0]
      subst h0
      exact ⟨by omega, by decide, fun h => absurd rfl h⟩
    · rw [if_neg h0]
      rw [Nat.pow_succ] at h
      obtain ⟨h1, h2, h3⟩ := blen_spec f (x / 2) (by omega)
      have hz : x / 2 = 0 → Lib.bitLenAux f (x / 2) = 0 := fun e => by
        rw [e]; cases f <;> simp [Lib.bitLenAux]
      generalize Lib.bitLenAux f (x / 2) = b at *
      refine ⟨by omega, ?_, fun _ => ⟨by omega, ?_⟩⟩
      · rw [Nat.add_comm 1 b, Nat.pow_succ]; omega
      · rw [Nat.add_sub_cancel_left]
        by_cases hx : x / 2 = 0
        · have hb : b = 0 := hz hx
          rw [hb]; simp; omega
        · obtain ⟨h4, h5⟩ := h3 hx
          obtain ⟨c, rfl⟩ : ∃ c, b = c + 1 := ⟨b - 1, by omega⟩
          rw [Nat.add_sub_cancel] at h5
          rw [Nat.pow_succ]; omega
theorem blen_lt {x : Nat} (h : x < 18446744073709551616) : x < 2 ^ blen x := (blen_spec 64 x (by simpa using h)).2.1
theorem blen_ge {x : Nat} (h : x < 18446744073709551616) (h0 : x ≠ 0) : 0 < blen x ∧ 2 ^ (blen x - 1) ≤ x := (blen_spec 64 x (by simpa using h)).2.2 h0
theorem blen_le32 {x : Nat} (h : x < 4294967296) : blen x ≤ 32 := Lib.bitLen_le x 32 (by omega) (by simpa using h)

set_option maxHeartbeats 4000000 in
set_option maxRecDepth 100000 in
/-- bits.Len32 returns the number of binary digits. -/
theorem len32_int (w : World) (x : Int) (h0 : 0 ≤ x) (h1 : x ≤ 4294967295) :
    Calls Tryz.prog 232 #[.int .u32 x] w fun e w' => e = .returned (.int .i64 (Lib.bitLen x.toNat)) ∧ w = w' := by
  by_cases c1 : x < 65536
  · by_cases c2 : x < 256
    · have d1 : x ≤ 255 := by omega
      have e := Lib.len8_of x h0 d1
      have l := Lib.bitLen_le8' x h0 d1
      have b0 : 0 ≤ Lib.len8 x := by omega
      have b1 : Lib.len8 x ≤ 8 := by omega
      have E := Lib.hid e
      clear e l
      go_enter Tryz.func232, Tryz.ntmps232
      go_wp2
      go_ret
      exact ⟨by rw [← E.out]; rfl, rfl⟩
    · have d0 : 0 ≤ x / 256 := by omega
      have d1 : x / 256 ≤ 255 := by omega
      have e := Lib.len8_of _ d0 d1
      have l := Lib.bitLen_le8' _ d0 d1
      have s := Lib.bitLen_shift8 x.toNat (by omega) (by omega)
      have t : (x / 256).toNat = x.toNat / 256 := by omega
      rw [t] at e l
      have b0 : 0 ≤ Lib.len8 (x / 256) := by omega
      have b1 : Lib.len8 (x / 256) ≤ 8 := by omega
      have f : (Lib.bitLen x.toNat : Int) = 8 + Lib.len8 (x / 256) := by omega
      have E := Lib.hid f
      clear e l s t f
      go_enter Tryz.func232, Tryz.ntmps232
      go_wp2
      go_ret
      exact ⟨by rw [E.out]; rfl, rfl⟩
  · by_cases c2 : x / 65536 < 256
    · have d0 : 0 ≤ x / 65536 := by omega
      have d1 : x / 65536 ≤ 255 := by omega
      have e := Lib.len8_of _ d0 d1
      have l := Lib.bitLen_le8' _ d0 d1
      have s := Lib.bitLen_shift16 x.toNat (by omega) (by omega)
      have t : (x / 65536).toNat = x.toNat / 65536 := by omega
      rw [t] at e l
      have b0 : 0 ≤ Lib.len8 (x / 65536) := by omega
      have b1 : Lib.len8 (x / 65536) ≤ 8 := by omega
      have f : (Lib.bitLen x.toNat : Int) = 16 + Lib.len8 (x / 65536) := by omega
      have E := Lib.hid f
      clear e l s t f
      go_enter Tryz.func232, Tryz.ntmps232
      go_wp2
      go_ret
      exact ⟨by rw [E.out]; rfl, rfl⟩
    · have d0 : 0 ≤ x / 65536 / 256 := by omega
      have d1 : x / 65536 / 256 ≤ 255 := by omega
      have e := Lib.len8_of _ d0 d1
      have l := Lib.bitLen_le8' _ d0 d1
      have s := Lib.bitLen_shift24 x.toNat (by omega) (by omega)
      have t : (x / 65536 / 256).toNat = x.toNat / 16777216 := by omega
      rw [t] at e l
      have b0 : 0 ≤ Lib.len8 (x / 65536 / 256) := by omega
      have b1 : Lib.len8 (x / 65536 / 256) ≤ 8 := by omega
      have f : (Lib.bitLen x.toNat : Int) = 24 + Lib.len8 (x / 65536 / 256) := by omega
      have E := Lib.hid f
      clear e l s t f
      go_enter Tryz.func232, Tryz.ntmps232
      go_wp2
      go_ret
      exact ⟨by rw [E.out]; rfl, rfl⟩
theorem len32_any (w : World) (x : Nat) (h : x < 4294967296) :
    Calls Tryz.prog 232 #[.int .u32 (x : Int)] w fun e w' => e = .returned (.int .i64 ((blen x : Nat) : Int)) ∧ w = w' :=
  len32_int w x (by omega) (by omega)
theorem lz32_any (w : World) (x : Nat) (h : x < 4294967296) :
    Calls Tryz.prog 214 #[.int .u32 (x : Int)] w fun e w' => e = .returned (.int .i64 (32 - (blen x : Int))) ∧ w = w' := by
  have hb := blen_le32 h
  go_enter Tryz.func214, Tryz.ntmps214
  go_wp2_with fail
  refine (len32_any _ _ h).mono ?_
  rintro e w1 ⟨rfl, rfl⟩
  go_wp2
  go_ret
  exact ⟨rfl, rfl⟩

/-- The number of binary digits of a number of any size. -/
def nbits (n : Nat) : Nat := if n = 0 then 0 else 32 * ((nf n).length - 1) + blen ((nf n).getD ((nf n).length - 1) 0)
theorem nbits_zero : nbits 0 = 0 := rfl
theorem nbits_pos {n : Nat} (h : n ≠ 0) : nbits n = 32 * ((nf n).length - 1) + blen ((nf n).getD ((nf n).length - 1) 0) := by unfold nbits; rw [if_neg h]

set_option maxRecDepth 100000 in
/-- nat.Bits returns the number of binary digits. -/
theorem natBits_any (w : World) (v : Value) (l : List Nat) (h : Rd w v l) (hl : l.length ≤ 1000000) :
    Calls Tryz.prog 201 #[v] w fun e w' => e = .returned (.int .i64 ((nbits (val l) : Nat) : Int)) ∧ w = w' := by
  have hle := nf_val_len h.dig
  go_enter Tryz.func201, Tryz.ntmps201
  go_wp2_with fail
  refine (trim_any _ _ _ h).mono ?_
  rintro e w1 ⟨v', rfl, h', rfl⟩
  obtain ⟨a, cap, rfl, hc, hcm, hd, hr⟩ := h'
  by_cases hn : val l = 0
  · have HN := Lib.hid (show nbits (val l) = 0 by rw [hn]; rfl)
    have h0 : (nf (val l)).length = 0 := by rw [hn]; rfl
    have hb : (((nf (val l)).length : Int) == 0) = true := by rw [h0]; rfl
    clear hn hd hr hc hle
    generalize (nf (val l)).length = n at *
    subst h0
    go_wp2
    go_ret
    exact ⟨by rw [HN.out]; rfl, rfl⟩
  · have HN := Lib.hid (nbits_pos hn)
    have hp := nf_len_pos hn
    obtain ⟨b, off, rfl, hcell⟩ := hr hp
    have hb : (((nf (val l)).length : Int) == 0) = false := by rw [beq_eq_false_iff_ne]; omega
    have c0 := hcell ((nf (val l)).length - 1) (by omega)
    have hx := dig_get hd ((nf (val l)).length - 1)
    generalize (nf (val l)).getD ((nf (val l)).length - 1) 0 = x at *
    generalize (nf (val l)).length = n at *
    have hbl := blen_le32 hx
    clear hn hd hr hcell
    go_wp2_with (go_at_call 214; refine (lz32_any _ _ hx).mono ?_; rintro e w' ⟨rfl, rfl⟩)
    go_ret
    refine ⟨?_, rfl⟩
    rw [HN.out]
    have e : (32 * (n : Int) - (32 - (blen x : Int))) = ((32 * (n - 1) + blen x : Nat) : Int) := by omega
    exact congrArg (fun i => Ending.returned (.int .i64 i)) e

/-- Normal: there is no digit, or the last one is not 0. -/
def normalB (l : List Nat) : Bool := decide (l.length = 0) || decide (l.getD (l.length - 1) 0 ≠ 0)
theorem normalB_nil {l : List Nat} (h : l.length = 0) : normalB l = true := by simp [normalB, h]
theorem normalB_ne {l : List Nat} (h : l.getD (l.length - 1) 0 ≠ 0) : normalB l = true := by simp only [normalB, h, decide_true, Bool.or_true, ne_eq, not_false_eq_true]
theorem normalB_eq {l : List Nat} (h : 0 < l.length) (h0 : l.getD (l.length - 1) 0 = 0) : normalB l = false := by
  simp only [normalB, h0, ne_eq, not_true_eq_false, decide_false, Bool.or_false, decide_eq_false_iff_not]; omega

set_option maxRecDepth 100000 in
theorem normal_any (w : World) (v : Value) (l : List Nat) (h : Rd w v l) :
    Calls Tryz.prog 200 #[v] w fun e w' => e = .returned (.bool (normalB l)) ∧ w = w' := by
  obtain ⟨a, cap, rfl, hc, hcm, hd, hr⟩ := h
  by_cases h0 : l.length = 0
  · have HN := Lib.hid (normalB_nil h0)
    generalize l.length = n at *
    subst h0
    go_enter Tryz.func200, Tryz.ntmps200
    go_wp2
    go_ret
    exact ⟨by rw [HN.out]; rfl, rfl⟩
  · obtain ⟨b, off, rfl, hcell⟩ := hr (by omega)
    have hb : ((l.length : Int) == 0) = false := by rw [beq_eq_false_iff_ne]; omega
    have c0 := hcell (l.length - 1) (by omega)
    have hp : 0 < l.length := by omega
    have hx := dig_get hd (l.length - 1)
    have h1 := @normalB_ne l
    have h2 := @normalB_eq l hp
    generalize l.getD (l.length - 1) 0 = x at *
    clear hcell hr
    by_cases hz : x = 0
    · have HN := Lib.hid (h2 hz)
      have hz' : ((x : Int) != 0) = false := by subst hz; rfl
      clear h1 h2 hz
      go_enter Tryz.func200, Tryz.ntmps200
      go_wp2
      go_ret
      exact ⟨by rw [HN.out]; rfl, rfl⟩
    · have HN := Lib.hid (h1 hz)
      have hz' : ((x : Int) != 0) = true := by rw [bne_iff_ne]; omega
      clear h1 h2 hz
      go_enter Tryz.func200, Tryz.ntmps200
      go_wp2
      go_ret
      exact ⟨by rw [HN.out]; rfl, rfl⟩
end Go.Proofs.YtlameeijogdckaaGreat
