/-
  Contract of nat.Sqrt: the greatest number whose square is at most a.
-/
import Derived.Test.YtdbocgemikkgiaaLong
namespace Go.Proofs.Ytdbocgemikkgiaa
open Go.RowKit

/-- r is the root of m. -/
def IsRoot (m r : Nat) : Prop := r * r ≤ m ∧ m < (r + 1) * (r + 1)
theorem isRoot_one {m r s : Nat} (h : IsRoot m r) (k : IsRoot m s) : r = s := by
  rcases Nat.lt_trichotomy r s with h1 | h1 | h1
  · exfalso
    have := Nat.mul_le_mul (show r + 1 ≤ s from h1) (show r + 1 ≤ s from h1)
    have := h.2; have := k.1; omega
  · exact h1
  · exfalso
    have := Nat.mul_le_mul (show s + 1 ≤ r from h1) (show s + 1 ≤ r from h1)
    have := h.1; have := k.2; omega
theorem nbits_lt (m : Nat) : m < 2 ^ nbits m := by
  by_cases hm : m = 0
  · subst hm; exact Nat.pow_pos (by omega)
  · rw [nbits_pos hm]
    have hp := nf_len_pos hm
    have hd := dig_get (dig_nf m) ((nf m).length - 1)
    have hb := blen_lt (x := (nf m).getD ((nf m).length - 1) 0) (by omega)
    have h1 := val_take_drop (nf m) ((nf m).length - 1) (by omega)
    have h2 := val_lt ((nf m).take ((nf m).length - 1)) (dig_take (dig_nf m) _)
    rw [List.length_take, Nat.min_eq_left (by omega)] at h2
    rw [val_drop_cons _ ((nf m).length - 1) (by omega), List.drop_eq_nil_of_le (by omega), val_nil, val_nf, Nat.mul_zero, Nat.add_zero] at h1
    generalize (nf m).getD ((nf m).length - 1) 0 = x at *
    generalize (nf m).length - 1 = k at *
    have h3 : (4294967296 : Nat) ^ k = 2 ^ (32 * k) := by rw [Nat.pow_mul]
    rw [Nat.pow_add, ← h3]
    have h4 : 4294967296 ^ k * (x + 1) ≤ 4294967296 ^ k * 2 ^ blen x := Nat.mul_le_mul_left _ hb
    rw [Nat.mul_add] at h4
    omega
theorem nbits_le {m c : Nat} (h : (nf m).length ≤ c) : nbits m ≤ 32 * c := by
  unfold nbits
  split
  · omega
  · have := blen_le32 (dig_get (dig_nf m) ((nf m).length - 1))
    have : (nf m).length ≠ 0 := by
      intro h0
      have := nf_eq_nil.1 (List.eq_nil_of_length_eq_zero h0)
      omega
    omega
/-- The first guess is not less than the root. -/
theorem sqrt_start (m : Nat) : m < (2 ^ ((nbits m + 1) / 2) + 1) * (2 ^ ((nbits m + 1) / 2) + 1) := by
  have h1 := nbits_lt m
  have h2 : 2 ^ nbits m ≤ 2 ^ ((nbits m + 1) / 2) * 2 ^ ((nbits m + 1) / 2) := by
    rw [← Nat.pow_add]; exact Nat.pow_le_pow_right (by omega) (by omega)
  have h3 : 2 ^ ((nbits m + 1) / 2) * 2 ^ ((nbits m + 1) / 2) ≤ (2 ^ ((nbits m + 1) / 2) + 1) * (2 ^ ((nbits m + 1) / 2) + 1) := Nat.mul_le_mul (by omega) (by omega)
  omega
theorem sqrt_stop {m x : Nat} (hx : 0 < x) (h : m < (x + 1) * (x + 1)) (hy : x ≤ (x + m / x) / 2) : IsRoot m x := by
  refine ⟨?_, h⟩
  have h1 : x ≤ m / x := by omega
  exact (Nat.le_div_iff_mul_le hx).1 h1
theorem sqrt_next {m x : Nat} (hx : 0 < x) (hm : 0 < m) : 0 < (x + m / x) / 2 ∧ m < ((x + m / x) / 2 + 1) * ((x + m / x) / 2 + 1) := by
  have h1 : m < (m / x + 1) * x := by
    have := Nat.lt_mul_div_succ m hx
    rw [Nat.mul_comm]; exact this
  generalize m / x = q at *
  have h2 : 4 * ((q + 1) * x) ≤ (x + q + 1) * (x + q + 1) := by
    rcases Nat.le_total x (q + 1) with h | h
    · obtain ⟨d, e⟩ := Nat.le.dest h
      have e2 : x + q + 1 = 2 * x + d := by omega
      rw [e2, ← e]
      have a1 : 4 * ((x + d) * x) = 4 * (x * x) + 4 * (x * d) := by rw [Nat.add_mul, Nat.mul_comm d x]; omega
      have a2 : (2 * x + d) * (2 * x + d) = 4 * (x * x) + 4 * (x * d) + d * d := by
        rw [Nat.mul_add, Nat.add_mul, Nat.add_mul, Nat.mul_comm d (2 * x), Nat.mul_assoc 2 x d, Nat.mul_assoc 2 x (2 * x), Nat.mul_left_comm x 2 x]
        omega
      omega
    · obtain ⟨d, e⟩ := Nat.le.dest h
      have e2 : x + q + 1 = 2 * (q + 1) + d := by omega
      rw [e2, ← e]
      generalize q + 1 = y
      have a1 : 4 * (y * (y + d)) = 4 * (y * y) + 4 * (y * d) := by rw [Nat.mul_add]; omega
      have a2 : (2 * y + d) * (2 * y + d) = 4 * (y * y) + 4 * (y * d) + d * d := by
        rw [Nat.mul_add, Nat.add_mul, Nat.add_mul, Nat.mul_comm d (2 * y), Nat.mul_assoc 2 y d, Nat.mul_assoc 2 y (2 * y), Nat.mul_left_comm y 2 y]
        omega
      omega
  have h3 : x + q + 1 ≤ 2 * ((x + q) / 2 + 1) := by omega
  have h4 := Nat.mul_le_mul h3 h3
  generalize (x + q) / 2 = y at *
  have h5 : 2 * (y + 1) * (2 * (y + 1)) = 4 * ((y + 1) * (y + 1)) := by
    rw [Nat.mul_assoc, Nat.mul_left_comm (y + 1) 2 (y + 1)]; omega
  have h6 : m < (y + 1) * (y + 1) := by omega
  refine ⟨?_, h6⟩
  rcases Nat.eq_zero_or_pos y with h0 | h0
  · subst h0; omega
  · exact h0

set_option maxRecDepth 100000 in
set_option maxHeartbeats 2000000 in
theorem sqrt_any (w : World) (u : Value) (la : List Nat) (hu : Rd w u la) (hla : la.length ≤ 30000) :
    Calls Try.prog 46 #[u] w fun e w' => ∃ z r, e = .returned z ∧ IsRoot (val la) r ∧ Own w' w.heap.size z (nf r) ∧ Below w.heap.size w w' := by
  have hle := Nat.le_trans (nf_val_len hu.dig) hla
  have CT := Lib.hid (trim_any _ _ _ hu)
  clear hu hla
  generalize val la = m at *
  go_enter Try.func46, Try.ntmps46
  go_wp2_with fail
  refine CT.out.mono ?_
  rintro e w1 ⟨v, rfl, hv, rfl⟩
  clear CT
  by_cases hm : m = 0
  · subst hm
    obtain ⟨a, capa, rfl, _, _, _, _⟩ := hv
    have h0 : (nf 0).length = 0 := rfl
    generalize (nf 0).length = k at *
    subst h0
    go_wp2
    go_ret
    exact ⟨_, 0, rfl, ⟨by omega, by omega⟩, Own.nil _ _, Below.refl _ _⟩
  · have HV := Lib.hid hv
    obtain ⟨a, capa, rfl, _, _, _, _⟩ := id hv
    have hp := nf_len_pos hm
    have hb : (((nf m).length : Int) == 0) = false := by rw [beq_eq_false_iff_ne]; omega
    have hnb := nbits_le hle
    have HLE := Lib.hid hle
    have B1 := blw_one w (.cells #[.int .u32 1] 39)
    have r1 := rd_lit (w := w) rfl [1] (dig1 (by omega)) (by simp) #[.int .u32 1] rfl 1 rfl
    have HB1 := Lib.hid B1
    have HR1 := Lib.hid r1
    have hst := sqrt_start m
    have HST := Lib.hid hst
    have HM := Lib.hid hm
    clear hv hp hle B1 r1 hst hm
    go_wp2_with fail
    refine (natBits_any _ _ _ (HV.out.keep HB1.out) (by have := HLE.out; omega)).mono ?_
    rintro e w2 ⟨rfl, rfl⟩
    rw [val_nf]
    generalize nbits m = nb at *
    go_wp2_with fail
    have e2 : (((nb : Nat) : Int) + 1) / 2 = (((nb + 1) / 2 : Nat) : Int) := by omega
    rw [e2]
    refine (shl_any _ _ _ ((nb + 1) / 2) HR1.out (by simp) (by omega)).mono ?_
    rintro e w3 ⟨z, rfl, hz, b3⟩
    rw [show val [1] * 2 ^ ((nb + 1) / 2) = 2 ^ ((nb + 1) / 2) by rw [show val [1] = 1 from rfl, Nat.one_mul]] at hz
    have HZ := Lib.hid (hz.mono HB1.out.size)
    have HB3 := Lib.hid (blw_trans HB1.out b3)
    have HL0 : Hid ((nf (2 ^ ((nb + 1) / 2))).length ≤ 100000) := by
      show _ ≤ _
      have h1 : 2 ^ ((nb + 1) / 2) < 4294967296 ^ ((nb + 1) / 2 / 32 + 1) := by
        rw [show (4294967296 : Nat) = 2 ^ 32 by decide, ← Nat.pow_mul]
        exact Nat.pow_lt_pow_right (by omega) (by omega)
      have := nf_len_le h1
      omega
    have HP0 : Hid (0 < 2 ^ ((nb + 1) / 2)) := Nat.pow_pos (by omega)
    clear hz b3 HR1 HB1 e2 hnb
    generalize 2 ^ ((nb + 1) / 2) = p0 at *
    go_wp2_with fail
    go_loopw [3] (fun x wr => ∃ p : Nat, Hid (Own wr w.heap.size x (nf p)) ∧ Hid (Below w.heap.size w wr) ∧ Hid (0 < p) ∧ Hid (m < (p + 1) * (p + 1)) ∧ Hid ((nf p).length ≤ 100000)) (fun x wr => rdVal wr x)
    case atStart => exact ⟨p0, HZ, HB3, HP0, HST, HL0⟩
    case round =>
      obtain ⟨p, hO, hB, hp, hm, hl⟩ := hrel
      clear HZ HB3 HP0 HST HL0
      have HVR := Lib.hid (HV.out.keep hB.out)
      go_wp2_with fail
      refine (divmod_any _ _ _ _ _ HVR.out hO.out.rd (by have := HLE.out; omega) (.inr long_any)).mono ?_
      rintro e w4 ⟨q, r, rfl, hq, _, b4⟩
      simp only [val_nf] at hq
      have HQ := Lib.hid hq
      have HB4 := Lib.hid b4
      have HQL := Lib.hid (show (nf (m / p)).length ≤ 30000 from len_le (Nat.div_le_self _ _) HLE.out)
      clear hq b4
      go_wp2_with fail
      refine (add_any _ _ _ _ _ (hO.out.keep HB4.out).rd HQ.out.rd (Nat.le_trans hl.out (by omega)) (Nat.le_trans HQL.out (by omega))).mono ?_
      rintro e w5 ⟨s, rfl, hs, b5⟩
      simp only [val_nf] at hs
      have HS := Lib.hid hs
      have HB5 := Lib.hid b5
      have HSL := Lib.hid (show (nf (p + m / p)).length ≤ 130001 from len_add hl.out HQL.out (by omega))
      clear hs b5
      go_wp2_with fail
      refine (shr_any _ _ _ 1 HS.out.rd (Nat.le_trans HSL.out (by omega)) (by omega)).mono ?_
      rintro e w6 ⟨y, rfl, hy, b6⟩
      rw [val_nf, Nat.pow_one] at hy
      have HB6 := Lib.hid b6
      have HY := Lib.hid (hy.mono (Nat.le_trans hB.out.size (Nat.le_trans HB4.out.size HB5.out.size)))
      have HO6 := Lib.hid (((hO.out.keep HB4.out).keep HB5.out).keep b6)
      have HW6 := Lib.hid (blw_trans (blw_trans (blw_trans hB.out HB4.out) HB5.out) b6)
      have HN := Lib.hid (sqrt_next hp.out (Nat.pos_of_ne_zero HM.out))
      have HSTOP := Lib.hid (sqrt_stop hp.out hm.out)
      have hV := rdVal_eq hO.out.rd
      rw [val_nf] at hV
      have hV2 := rdVal_eq hy.rd
      rw [val_nf] at hV2
      have HV1 := Lib.hid hV
      have HV2 := Lib.hid hV2
      have HYL := Lib.hid (show (nf ((p + m / p) / 2)).length ≤ 100000 ∨ p ≤ (p + m / p) / 2 from by
        rcases Nat.lt_or_ge ((p + m / p) / 2) p with h | h
        · exact .inl (Nat.le_trans (nf_len_mono (Nat.le_of_lt h)) hl.out)
        · exact .inr h)
      clear hy b6 HQ HS HB4 HB5 hV hV2
      go_wp2_with fail
      refine (natCmp_any _ _ _ _ _ HY.out.rd HO6.out.rd).mono ?_
      rintro e w7 ⟨rfl, b7⟩
      rw [val_nf, val_nf]
      have HY7 := Lib.hid (HY.out.keep b7)
      have HO7 := Lib.hid (HO6.out.keep b7)
      have HW7 := Lib.hid (blw_trans HW6.out b7)
      have hV7 := rdVal_eq HY7.out.rd
      rw [val_nf] at hV7
      have HV7 := Lib.hid hV7
      clear b7 hV7
      by_cases hge : p ≤ (p + m / p) / 2
      · have hc : 0 ≤ cmpN ((p + m / p) / 2) p := by
          unfold cmpN; rw [if_neg (by omega)]; split <;> omega
        have HR := Lib.hid (HSTOP.out hge)
        clear hge
        generalize cmpN ((p + m / p) / 2) p = cc at *
        go_wp2
        go_ret
        exact ⟨_, p, rfl, HR.out, HO7.out, HW7.out⟩
      · have hc := cmpN_lt (show (p + m / p) / 2 < p by omega)
        have HLT := Lib.hid (show (p + m / p) / 2 < p by omega)
        have HL2 := Lib.hid (show (nf ((p + m / p) / 2)).length ≤ 100000 from by
          rcases HYL.out with h | h
          · exact h
          · exact absurd h hge)
        rw [hc]
        clear hc hge HYL
        go_wp2_with fail
        go_roundw
        case rel => exact ⟨(p + m / p) / 2, HY7.out, HW7.out, HN.out.1, HN.out.2, HL2.out⟩
        case measure => rw [HV1.out, HV7.out]; exact HLT.out
end Go.Proofs.Ytdbocgemikkgiaa
