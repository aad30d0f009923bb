/-
  The walk of the law NatDivides: it returns true and changes nothing that was there.
  Printed by a small program (laws_nat.py).
-/
import Derived.Test.YtdbocgemikkgiaaTape
import Derived.Test.YtdbocgemikkgiaaLong
namespace Go.Proofs.Ytdbocgemikkgiaa
open Go.RowKit

set_option maxRecDepth 100000 in
set_option maxHeartbeats 4000000 in
theorem natDivides_walk (a0 : Option Addr) (len0 cap0 : Nat) (z0 : List Int) (w : World) (w0 : IsRow .i64 w a0 len0 cap0 z0) :
    Calls Try.prog 5 #[.slice a0 len0 cap0] w fun e w' => e = .returned (.bool true) ∧ Below w.heap.size w w' := by
  go_enter Try.func5, Try.ntmps5
  have BT0 := Lib.hid (Below.refl w.heap.size w)
  go_wp2_with fail
  refine (new_any a0 len0 cap0 z0 w w0).mono ?_
  rintro e w1 ⟨rfl, t1, b1⟩
  have HT1 := Lib.hid t1
  clear t1
  have HB1 := Lib.hid b1
  have BT1 := Lib.hid (blw_trans BT0.out b1)
  clear b1
  go_wp2_with fail
  refine (tapeNat_any _ w.heap.size 12 (by omega) HT1.out).mono ?_
  rintro e w2 ⟨z2, m1, rfl, h2, l2, t2, g2⟩
  have HO2 := Lib.hid h2
  have HL2 := Lib.hid l2
  clear h2 l2
  have HG2 := Lib.hid g2
  have HT2 := Lib.hid t2
  have BT2 := Lib.hid (blw_tp BT1.out g2 (Nat.le_refl _))
  clear g2 t2
  go_wp2_with fail
  refine (nats_any _ _ _ 0 (by omega) (HO2.out).rd (Nat.le_trans HL2.out (by omega))).mono ?_
  rintro e w3 ⟨z3, rfl, h3, b3⟩
  rw [show nf m1 ++ List.replicate (0 % 3) 0 = nf m1 from List.append_nil _] at h3
  have HO3 := Lib.hid h3
  clear h3
  have HB3 := Lib.hid b3
  have BT3 := Lib.hid (blw_trans BT2.out b3)
  have HT3 := Lib.hid (HT2.out.keep b3)
  clear b3
  go_wp2_with fail
  refine (tapeNat_any _ w.heap.size 6 (by omega) HT3.out).mono ?_
  rintro e w4 ⟨z4, m2, rfl, h4, l4, t4, g4⟩
  have HO4 := Lib.hid h4
  have HL4 := Lib.hid l4
  clear h4 l4
  have HG4 := Lib.hid g4
  have HT4 := Lib.hid t4
  have BT4 := Lib.hid (blw_tp BT3.out g4 (Nat.le_refl _))
  clear g4 t4
  go_wp2_with fail
  refine (nats_any _ _ _ 0 (by omega) (HO4.out).rd (Nat.le_trans HL4.out (by omega))).mono ?_
  rintro e w5 ⟨z5, rfl, h5, b5⟩
  rw [show nf m2 ++ List.replicate (0 % 3) 0 = nf m2 from List.append_nil _] at h5
  have HO5 := Lib.hid h5
  clear h5
  have HB5 := Lib.hid b5
  have BT5 := Lib.hid (blw_trans BT4.out b5)
  have HT5 := Lib.hid (HT4.out.keep b5)
  clear b5
  have HRB := Lib.hid (HO5.out).rd
  obtain ⟨ab, capb, rfl, _, _, _, _⟩ := HRB.out
  clear HRB
  go_wp2_with fail
  refine (divmod_any _ _ _ _ _ (((HO3.out).tp HT3.out HG4.out).keep HB5.out).rd (HO5.out).rd (Nat.le_trans HL2.out (by omega)) (.inr long_any)).mono ?_
  rintro e w6 ⟨q, r, rfl, hq, hr, b6⟩
  simp only [val_nf] at hq hr
  have hdm : decide (val (nf m2) ≠ 0) = decide (m2 ≠ 0) := by rw [val_nf]
  rw [hdm]
  clear hdm
  have HQ := Lib.hid hq
  have HR := Lib.hid hr
  clear hq hr
  have HB6 := Lib.hid b6
  have BT6 := Lib.hid (blw_trans BT5.out b6)
  clear b6
  by_cases hn : m2 = 0
  · have h0 : (nf m2).length = 0 := by rw [hn]; rfl
    have hd : decide (m2 ≠ 0) = false := by rw [hn]; rfl
    rw [h0, hd]
    clear h0 hd
    go_wp2_with fail
    refine (known_any _).mono ?_
    rintro e w7 ⟨rfl, b7⟩
    have HB7 := Lib.hid b7
    have BT7 := Lib.hid (blw_trans BT6.out b7)
    clear b7
    go_wp2
    go_ret
    exact ⟨rfl, BT7.out⟩
  · have hp := nf_len_pos hn
    have hd : decide (m2 ≠ 0) = true := decide_eq_true hn
    have hl : (((nf m2).length : Int) == 0) = false := by rw [beq_eq_false_iff_ne]; omega
    rw [hd]
    clear hd hp
    have hr := HR.out
    rw [if_neg hn] at hr
    have HR2 := Lib.hid hr
    clear hr HR
    have hlt := cmpN_lt (Nat.mod_lt m1 (Nat.pos_of_ne_zero hn))
    have HLT := Lib.hid hlt
    clear hlt
    have HN := Lib.hid hn
    clear hn
    have HLQ := Lib.hid (show (nf (m1 / m2)).length ≤ 12 from len_le (Nat.div_le_self _ _) HL2.out)
    have HLR := Lib.hid (show (nf (m1 % m2)).length ≤ 12 from len_le (Nat.mod_le _ _) HL2.out)
    go_wp2_with fail
    refine (known_any _).mono ?_
    rintro e w7 ⟨rfl, b7⟩
    have HB7 := Lib.hid b7
    have BT7 := Lib.hid (blw_trans BT6.out b7)
    clear b7
    go_wp2_with fail
    refine (natCmp_any _ _ _ _ _ ((HR2.out).keep HB7.out).rd (((HO5.out).keep HB6.out).keep HB7.out).rd).mono ?_
    rintro e w8 ⟨rfl, b8⟩
    rw [val_nf, val_nf, HLT.out]
    have HB8 := Lib.hid b8
    have BT8 := Lib.hid (blw_trans BT7.out b8)
    clear b8
    go_wp2_with fail
    refine (mul_any _ _ _ _ _ (((HQ.out).keep HB7.out).keep HB8.out).rd ((((HO5.out).keep HB6.out).keep HB7.out).keep HB8.out).rd (Nat.le_trans HLQ.out (by omega)) (Nat.le_trans HL4.out (by omega))).mono ?_
    rintro e w9 ⟨z9, rfl, h9, b9⟩
    simp only [val_nf] at h9
    have HO9 := Lib.hid h9
    clear h9
    have HB9 := Lib.hid b9
    have BT9 := Lib.hid (blw_trans BT8.out b9)
    clear b9
    have HL9 := Lib.hid (show (nf ((m1 / m2) * m2)).length ≤ 18 from len_mul HLQ.out HL4.out (by omega))
    go_wp2_with fail
    refine (add_any _ _ _ _ _ (HO9.out).rd ((((HR2.out).keep HB7.out).keep HB8.out).keep HB9.out).rd (Nat.le_trans HL9.out (by omega)) (Nat.le_trans HLR.out (by omega))).mono ?_
    rintro e w10 ⟨z10, rfl, h10, b10⟩
    simp only [val_nf] at h10
    have HO10 := Lib.hid h10
    clear h10
    have HB10 := Lib.hid b10
    have BT10 := Lib.hid (blw_trans BT9.out b10)
    clear b10
    have HL10 := Lib.hid (show (nf (((m1 / m2) * m2) + (m1 % m2))).length ≤ 31 from len_add HL9.out HLR.out (by omega))
    go_wp2_with fail
    refine (sameN_any _ _ _ _ _ (HO10.out).rd ((((((((HO3.out).tp HT3.out HG4.out).keep HB5.out).keep HB6.out).keep HB7.out).keep HB8.out).keep HB9.out).keep HB10.out).rd).mono ?_
    rintro e w11 ⟨rfl, b11⟩
    rw [sameB_of (show nf (((m1 / m2) * m2) + (m1 % m2)) = nf m1 from by rw [Nat.div_add_mod' m1 m2])]
    have HB11 := Lib.hid b11
    have BT11 := Lib.hid (blw_trans BT10.out b11)
    clear b11
    go_wp2
    go_ret
    exact ⟨rfl, BT11.out⟩
end Go.Proofs.Ytdbocgemikkgiaa
