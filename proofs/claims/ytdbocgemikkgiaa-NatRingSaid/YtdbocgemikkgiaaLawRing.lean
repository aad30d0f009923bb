/-
  The walk of the law NatRing: it returns true and changes nothing that was there.
  Printed by a small program (laws_nat.py).
-/
import Derived.Test.YtdbocgemikkgiaaTape
import Derived.Test.YtdbocgemikkgiaaSub
import Derived.Test.YtdbocgemikkgiaaMul
namespace Go.Proofs.Ytdbocgemikkgiaa
open Go.RowKit

set_option maxRecDepth 100000 in
set_option maxHeartbeats 4000000 in
theorem natRing_walk (a0 : Option Addr) (len0 cap0 : Nat) (z0 : List Int) (w : World) (w0 : IsRow .i64 w a0 len0 cap0 z0) :
    Calls Try.prog 6 #[.slice a0 len0 cap0] w fun e w' => e = .returned (.bool true) ∧ Below w.heap.size w w' := by
  go_enter Try.func6, Try.ntmps6
  have BT0 := Lib.hid (Below.refl w.heap.size w)
  go_wp2_with fail
  refine (new_any a0 len0 cap0 z0 w w0).mono ?_
  rintro e w1 ⟨rfl, t1, b1⟩
  have HT1 := Lib.hid t1
  clear t1
  have HB1 := Lib.hid b1
  have BT1 := Lib.hid (blw_trans BT0.out b1)
  clear b1
  go_wp2_with fail
  refine (tapeNat_any _ w.heap.size 6 (by omega) HT1.out).mono ?_
  rintro e w2 ⟨z2, m1, rfl, h2, l2, t2, g2⟩
  have HO2 := Lib.hid h2
  have HL2 := Lib.hid l2
  clear h2 l2
  have HG2 := Lib.hid g2
  have HT2 := Lib.hid t2
  have BT2 := Lib.hid (blw_tp BT1.out g2 (Nat.le_refl _))
  clear g2 t2
  go_wp2_with fail
  refine (nats_any _ _ _ 1 (by omega) (HO2.out).rd (Nat.le_trans HL2.out (by omega))).mono ?_
  rintro e w3 ⟨z3, rfl, h3, b3⟩
  have HO3 := Lib.hid h3
  clear h3
  have HB3 := Lib.hid b3
  have BT3 := Lib.hid (blw_trans BT2.out b3)
  have HT3 := Lib.hid (HT2.out.keep b3)
  clear b3
  have HL3 := Lib.hid (show (nf m1 ++ List.replicate (1 % 3) 0).length ≤ 8 from by rw [List.length_append, List.length_replicate]; have := HL2.out; omega)
  go_wp2_with fail
  refine (tapeNat_any _ w.heap.size 6 (by omega) HT3.out).mono ?_
  rintro e w4 ⟨z4, m2, rfl, h4, l4, t4, g4⟩
  have HO4 := Lib.hid h4
  have HL4 := Lib.hid l4
  clear h4 l4
  have HG4 := Lib.hid g4
  have HT4 := Lib.hid t4
  have BT4 := Lib.hid (blw_tp BT3.out g4 (Nat.le_refl _))
  clear g4 t4
  go_wp2_with fail
  refine (nats_any _ _ _ 2 (by omega) (HO4.out).rd (Nat.le_trans HL4.out (by omega))).mono ?_
  rintro e w5 ⟨z5, rfl, h5, b5⟩
  have HO5 := Lib.hid h5
  clear h5
  have HB5 := Lib.hid b5
  have BT5 := Lib.hid (blw_trans BT4.out b5)
  have HT5 := Lib.hid (HT4.out.keep b5)
  clear b5
  have HL5 := Lib.hid (show (nf m2 ++ List.replicate (2 % 3) 0).length ≤ 8 from by rw [List.length_append, List.length_replicate]; have := HL4.out; omega)
  go_wp2_with fail
  refine (tapeNat_any _ w.heap.size 6 (by omega) HT5.out).mono ?_
  rintro e w6 ⟨z6, m3, rfl, h6, l6, t6, g6⟩
  have HO6 := Lib.hid h6
  have HL6 := Lib.hid l6
  clear h6 l6
  have HG6 := Lib.hid g6
  have HT6 := Lib.hid t6
  have BT6 := Lib.hid (blw_tp BT5.out g6 (Nat.le_refl _))
  clear g6 t6
  go_wp2_with fail
  refine (nats_any _ _ _ 0 (by omega) (HO6.out).rd (Nat.le_trans HL6.out (by omega))).mono ?_
  rintro e w7 ⟨z7, rfl, h7, b7⟩
  have HO7 := Lib.hid h7
  clear h7
  have HB7 := Lib.hid b7
  have BT7 := Lib.hid (blw_trans BT6.out b7)
  have HT7 := Lib.hid (HT6.out.keep b7)
  clear b7
  have HL7 := Lib.hid (show (nf m3 ++ List.replicate (0 % 3) 0).length ≤ 8 from by rw [List.length_append, List.length_replicate]; have := HL6.out; omega)
  go_wp2_with fail
  refine (add_any _ _ _ _ _ (((((HO3.out).tp HT3.out HG4.out).keep HB5.out).tp HT5.out HG6.out).keep HB7.out).rd (((HO5.out).tp HT5.out HG6.out).keep HB7.out).rd (Nat.le_trans HL3.out (by omega)) (Nat.le_trans HL5.out (by omega))).mono ?_
  rintro e w8 ⟨z8, rfl, h8, b8⟩
  simp only [val_nf, val_zeros] at h8
  have HO8 := Lib.hid h8
  clear h8
  have HB8 := Lib.hid b8
  have BT8 := Lib.hid (blw_trans BT7.out b8)
  clear b8
  have HL8 := Lib.hid (show (nf (m1 + m2)).length ≤ 13 from len_add HL2.out HL4.out (by omega))
  go_wp2_with fail
  refine (sub_any _ _ _ _ _ (HO8.out).rd ((((HO5.out).tp HT5.out HG6.out).keep HB7.out).keep HB8.out).rd (Nat.le_trans HL8.out (by omega))).mono ?_
  rintro e w9 ⟨z9, rfl, h9, b9⟩
  simp only [val_nf, val_zeros] at h9
  rw [decide_eq_true (by simp only [val_nf, val_zeros]; omega)]
  have HO9 := Lib.hid h9
  clear h9
  have HB9 := Lib.hid b9
  have BT9 := Lib.hid (blw_trans BT8.out b9)
  clear b9
  have HL9 := Lib.hid (show (nf ((m1 + m2) - m2)).length ≤ 13 from len_le (Nat.sub_le _ _) HL8.out)
  go_wp2_with fail
  refine (known_any _).mono ?_
  rintro e w10 ⟨rfl, b10⟩
  have HB10 := Lib.hid b10
  have BT10 := Lib.hid (blw_trans BT9.out b10)
  clear b10
  go_wp2_with fail
  refine (norm_any _ _ _ ((((((((HO3.out).tp HT3.out HG4.out).keep HB5.out).tp HT5.out HG6.out).keep HB7.out).keep HB8.out).keep HB9.out).keep HB10.out).rd (Nat.le_trans HL3.out (by omega))).mono ?_
  rintro e w11 ⟨z11, rfl, h11, b11⟩
  simp only [val_nf, val_zeros] at h11
  have HO11 := Lib.hid h11
  clear h11
  have HB11 := Lib.hid b11
  have BT11 := Lib.hid (blw_trans BT10.out b11)
  clear b11
  have HL11 := Lib.hid (show (nf m1).length ≤ 6 from HL2.out)
  go_wp2_with fail
  refine (sameN_any _ _ _ _ _ (((HO9.out).keep HB10.out).keep HB11.out).rd (HO11.out).rd).mono ?_
  rintro e w12 ⟨rfl, b12⟩
  rw [sameB_of (show nf ((m1 + m2) - m2) = nf m1 from by rw [Nat.add_sub_cancel])]
  have HB12 := Lib.hid b12
  have BT12 := Lib.hid (blw_trans BT11.out b12)
  clear b12
  go_wp2_with fail
  refine (add_any _ _ _ _ _ ((((((((((HO3.out).tp HT3.out HG4.out).keep HB5.out).tp HT5.out HG6.out).keep HB7.out).keep HB8.out).keep HB9.out).keep HB10.out).keep HB11.out).keep HB12.out).rd ((((((((HO5.out).tp HT5.out HG6.out).keep HB7.out).keep HB8.out).keep HB9.out).keep HB10.out).keep HB11.out).keep HB12.out).rd (Nat.le_trans HL3.out (by omega)) (Nat.le_trans HL5.out (by omega))).mono ?_
  rintro e w13 ⟨z13, rfl, h13, b13⟩
  simp only [val_nf, val_zeros] at h13
  have HO13 := Lib.hid h13
  clear h13
  have HB13 := Lib.hid b13
  have BT13 := Lib.hid (blw_trans BT12.out b13)
  clear b13
  have HL13 := Lib.hid (show (nf (m1 + m2)).length ≤ 13 from len_add HL2.out HL4.out (by omega))
  go_wp2_with fail
  refine (add_any _ _ _ _ _ (((((((((HO5.out).tp HT5.out HG6.out).keep HB7.out).keep HB8.out).keep HB9.out).keep HB10.out).keep HB11.out).keep HB12.out).keep HB13.out).rd (((((((((((HO3.out).tp HT3.out HG4.out).keep HB5.out).tp HT5.out HG6.out).keep HB7.out).keep HB8.out).keep HB9.out).keep HB10.out).keep HB11.out).keep HB12.out).keep HB13.out).rd (Nat.le_trans HL5.out (by omega)) (Nat.le_trans HL3.out (by omega))).mono ?_
  rintro e w14 ⟨z14, rfl, h14, b14⟩
  simp only [val_nf, val_zeros] at h14
  have HO14 := Lib.hid h14
  clear h14
  have HB14 := Lib.hid b14
  have BT14 := Lib.hid (blw_trans BT13.out b14)
  clear b14
  have HL14 := Lib.hid (show (nf (m2 + m1)).length ≤ 13 from len_add HL4.out HL2.out (by omega))
  go_wp2_with fail
  refine (sameN_any _ _ _ _ _ ((HO13.out).keep HB14.out).rd (HO14.out).rd).mono ?_
  rintro e w15 ⟨rfl, b15⟩
  rw [sameB_of (show nf (m1 + m2) = nf (m2 + m1) from by rw [Nat.add_comm])]
  have HB15 := Lib.hid b15
  have BT15 := Lib.hid (blw_trans BT14.out b15)
  clear b15
  go_wp2_with fail
  refine (mul_any _ _ _ _ _ (((((((((((((HO3.out).tp HT3.out HG4.out).keep HB5.out).tp HT5.out HG6.out).keep HB7.out).keep HB8.out).keep HB9.out).keep HB10.out).keep HB11.out).keep HB12.out).keep HB13.out).keep HB14.out).keep HB15.out).rd (((((((((((HO5.out).tp HT5.out HG6.out).keep HB7.out).keep HB8.out).keep HB9.out).keep HB10.out).keep HB11.out).keep HB12.out).keep HB13.out).keep HB14.out).keep HB15.out).rd (Nat.le_trans HL3.out (by omega)) (Nat.le_trans HL5.out (by omega))).mono ?_
  rintro e w16 ⟨z16, rfl, h16, b16⟩
  simp only [val_nf, val_zeros] at h16
  have HO16 := Lib.hid h16
  clear h16
  have HB16 := Lib.hid b16
  have BT16 := Lib.hid (blw_trans BT15.out b16)
  clear b16
  have HL16 := Lib.hid (show (nf (m1 * m2)).length ≤ 12 from len_mul HL2.out HL4.out (by omega))
  go_wp2_with fail
  refine (mul_any _ _ _ _ _ ((((((((((((HO5.out).tp HT5.out HG6.out).keep HB7.out).keep HB8.out).keep HB9.out).keep HB10.out).keep HB11.out).keep HB12.out).keep HB13.out).keep HB14.out).keep HB15.out).keep HB16.out).rd ((((((((((((((HO3.out).tp HT3.out HG4.out).keep HB5.out).tp HT5.out HG6.out).keep HB7.out).keep HB8.out).keep HB9.out).keep HB10.out).keep HB11.out).keep HB12.out).keep HB13.out).keep HB14.out).keep HB15.out).keep HB16.out).rd (Nat.le_trans HL5.out (by omega)) (Nat.le_trans HL3.out (by omega))).mono ?_
  rintro e w17 ⟨z17, rfl, h17, b17⟩
  simp only [val_nf, val_zeros] at h17
  have HO17 := Lib.hid h17
  clear h17
  have HB17 := Lib.hid b17
  have BT17 := Lib.hid (blw_trans BT16.out b17)
  clear b17
  have HL17 := Lib.hid (show (nf (m2 * m1)).length ≤ 12 from len_mul HL4.out HL2.out (by omega))
  go_wp2_with fail
  refine (sameN_any _ _ _ _ _ ((HO16.out).keep HB17.out).rd (HO17.out).rd).mono ?_
  rintro e w18 ⟨rfl, b18⟩
  rw [sameB_of (show nf (m1 * m2) = nf (m2 * m1) from by rw [Nat.mul_comm])]
  have HB18 := Lib.hid b18
  have BT18 := Lib.hid (blw_trans BT17.out b18)
  clear b18
  go_wp2_with fail
  refine (add_any _ _ _ _ _ ((((((((((((((((HO3.out).tp HT3.out HG4.out).keep HB5.out).tp HT5.out HG6.out).keep HB7.out).keep HB8.out).keep HB9.out).keep HB10.out).keep HB11.out).keep HB12.out).keep HB13.out).keep HB14.out).keep HB15.out).keep HB16.out).keep HB17.out).keep HB18.out).rd ((((((((((((((HO5.out).tp HT5.out HG6.out).keep HB7.out).keep HB8.out).keep HB9.out).keep HB10.out).keep HB11.out).keep HB12.out).keep HB13.out).keep HB14.out).keep HB15.out).keep HB16.out).keep HB17.out).keep HB18.out).rd (Nat.le_trans HL3.out (by omega)) (Nat.le_trans HL5.out (by omega))).mono ?_
  rintro e w19 ⟨z19, rfl, h19, b19⟩
  simp only [val_nf, val_zeros] at h19
  have HO19 := Lib.hid h19
  clear h19
  have HB19 := Lib.hid b19
  have BT19 := Lib.hid (blw_trans BT18.out b19)
  clear b19
  have HL19 := Lib.hid (show (nf (m1 + m2)).length ≤ 13 from len_add HL2.out HL4.out (by omega))
  go_wp2_with fail
  refine (add_any _ _ _ _ _ (HO19.out).rd (((((((((((((HO7.out).keep HB8.out).keep HB9.out).keep HB10.out).keep HB11.out).keep HB12.out).keep HB13.out).keep HB14.out).keep HB15.out).keep HB16.out).keep HB17.out).keep HB18.out).keep HB19.out).rd (Nat.le_trans HL19.out (by omega)) (Nat.le_trans HL7.out (by omega))).mono ?_
  rintro e w20 ⟨z20, rfl, h20, b20⟩
  simp only [val_nf, val_zeros] at h20
  have HO20 := Lib.hid h20
  clear h20
  have HB20 := Lib.hid b20
  have BT20 := Lib.hid (blw_trans BT19.out b20)
  clear b20
  have HL20 := Lib.hid (show (nf ((m1 + m2) + m3)).length ≤ 20 from len_add HL19.out HL6.out (by omega))
  go_wp2_with fail
  refine (add_any _ _ _ _ _ ((((((((((((((((HO5.out).tp HT5.out HG6.out).keep HB7.out).keep HB8.out).keep HB9.out).keep HB10.out).keep HB11.out).keep HB12.out).keep HB13.out).keep HB14.out).keep HB15.out).keep HB16.out).keep HB17.out).keep HB18.out).keep HB19.out).keep HB20.out).rd ((((((((((((((HO7.out).keep HB8.out).keep HB9.out).keep HB10.out).keep HB11.out).keep HB12.out).keep HB13.out).keep HB14.out).keep HB15.out).keep HB16.out).keep HB17.out).keep HB18.out).keep HB19.out).keep HB20.out).rd (Nat.le_trans HL5.out (by omega)) (Nat.le_trans HL7.out (by omega))).mono ?_
  rintro e w21 ⟨z21, rfl, h21, b21⟩
  simp only [val_nf, val_zeros] at h21
  have HO21 := Lib.hid h21
  clear h21
  have HB21 := Lib.hid b21
  have BT21 := Lib.hid (blw_trans BT20.out b21)
  clear b21
  have HL21 := Lib.hid (show (nf (m2 + m3)).length ≤ 13 from len_add HL4.out HL6.out (by omega))
  go_wp2_with fail
  refine (add_any _ _ _ _ _ (((((((((((((((((((HO3.out).tp HT3.out HG4.out).keep HB5.out).tp HT5.out HG6.out).keep HB7.out).keep HB8.out).keep HB9.out).keep HB10.out).keep HB11.out).keep HB12.out).keep HB13.out).keep HB14.out).keep HB15.out).keep HB16.out).keep HB17.out).keep HB18.out).keep HB19.out).keep HB20.out).keep HB21.out).rd (HO21.out).rd (Nat.le_trans HL3.out (by omega)) (Nat.le_trans HL21.out (by omega))).mono ?_
  rintro e w22 ⟨z22, rfl, h22, b22⟩
  simp only [val_nf, val_zeros] at h22
  have HO22 := Lib.hid h22
  clear h22
  have HB22 := Lib.hid b22
  have BT22 := Lib.hid (blw_trans BT21.out b22)
  clear b22
  have HL22 := Lib.hid (show (nf (m1 + (m2 + m3))).length ≤ 20 from len_add HL2.out HL21.out (by omega))
  go_wp2_with fail
  refine (sameN_any _ _ _ _ _ (((HO20.out).keep HB21.out).keep HB22.out).rd (HO22.out).rd).mono ?_
  rintro e w23 ⟨rfl, b23⟩
  rw [sameB_of (show nf ((m1 + m2) + m3) = nf (m1 + (m2 + m3)) from by rw [Nat.add_assoc])]
  have HB23 := Lib.hid b23
  have BT23 := Lib.hid (blw_trans BT22.out b23)
  clear b23
  go_wp2_with fail
  refine (mul_any _ _ _ _ _ (((((((((((((((((((((HO3.out).tp HT3.out HG4.out).keep HB5.out).tp HT5.out HG6.out).keep HB7.out).keep HB8.out).keep HB9.out).keep HB10.out).keep HB11.out).keep HB12.out).keep HB13.out).keep HB14.out).keep HB15.out).keep HB16.out).keep HB17.out).keep HB18.out).keep HB19.out).keep HB20.out).keep HB21.out).keep HB22.out).keep HB23.out).rd (((((((((((((((((((HO5.out).tp HT5.out HG6.out).keep HB7.out).keep HB8.out).keep HB9.out).keep HB10.out).keep HB11.out).keep HB12.out).keep HB13.out).keep HB14.out).keep HB15.out).keep HB16.out).keep HB17.out).keep HB18.out).keep HB19.out).keep HB20.out).keep HB21.out).keep HB22.out).keep HB23.out).rd (Nat.le_trans HL3.out (by omega)) (Nat.le_trans HL5.out (by omega))).mono ?_
  rintro e w24 ⟨z24, rfl, h24, b24⟩
  simp only [val_nf, val_zeros] at h24
  have HO24 := Lib.hid h24
  clear h24
  have HB24 := Lib.hid b24
  have BT24 := Lib.hid (blw_trans BT23.out b24)
  clear b24
  have HL24 := Lib.hid (show (nf (m1 * m2)).length ≤ 12 from len_mul HL2.out HL4.out (by omega))
  go_wp2_with fail
  refine (mul_any _ _ _ _ _ (HO24.out).rd ((((((((((((((((((HO7.out).keep HB8.out).keep HB9.out).keep HB10.out).keep HB11.out).keep HB12.out).keep HB13.out).keep HB14.out).keep HB15.out).keep HB16.out).keep HB17.out).keep HB18.out).keep HB19.out).keep HB20.out).keep HB21.out).keep HB22.out).keep HB23.out).keep HB24.out).rd (Nat.le_trans HL24.out (by omega)) (Nat.le_trans HL7.out (by omega))).mono ?_
  rintro e w25 ⟨z25, rfl, h25, b25⟩
  simp only [val_nf, val_zeros] at h25
  have HO25 := Lib.hid h25
  clear h25
  have HB25 := Lib.hid b25
  have BT25 := Lib.hid (blw_trans BT24.out b25)
  clear b25
  have HL25 := Lib.hid (show (nf ((m1 * m2) * m3)).length ≤ 18 from len_mul HL24.out HL6.out (by omega))
  go_wp2_with fail
  refine (mul_any _ _ _ _ _ (((((((((((((((((((((HO5.out).tp HT5.out HG6.out).keep HB7.out).keep HB8.out).keep HB9.out).keep HB10.out).keep HB11.out).keep HB12.out).keep HB13.out).keep HB14.out).keep HB15.out).keep HB16.out).keep HB17.out).keep HB18.out).keep HB19.out).keep HB20.out).keep HB21.out).keep HB22.out).keep HB23.out).keep HB24.out).keep HB25.out).rd (((((((((((((((((((HO7.out).keep HB8.out).keep HB9.out).keep HB10.out).keep HB11.out).keep HB12.out).keep HB13.out).keep HB14.out).keep HB15.out).keep HB16.out).keep HB17.out).keep HB18.out).keep HB19.out).keep HB20.out).keep HB21.out).keep HB22.out).keep HB23.out).keep HB24.out).keep HB25.out).rd (Nat.le_trans HL5.out (by omega)) (Nat.le_trans HL7.out (by omega))).mono ?_
  rintro e w26 ⟨z26, rfl, h26, b26⟩
  simp only [val_nf, val_zeros] at h26
  have HO26 := Lib.hid h26
  clear h26
  have HB26 := Lib.hid b26
  have BT26 := Lib.hid (blw_trans BT25.out b26)
  clear b26
  have HL26 := Lib.hid (show (nf (m2 * m3)).length ≤ 12 from len_mul HL4.out HL6.out (by omega))
  go_wp2_with fail
  refine (mul_any _ _ _ _ _ ((((((((((((((((((((((((HO3.out).tp HT3.out HG4.out).keep HB5.out).tp HT5.out HG6.out).keep HB7.out).keep HB8.out).keep HB9.out).keep HB10.out).keep HB11.out).keep HB12.out).keep HB13.out).keep HB14.out).keep HB15.out).keep HB16.out).keep HB17.out).keep HB18.out).keep HB19.out).keep HB20.out).keep HB21.out).keep HB22.out).keep HB23.out).keep HB24.out).keep HB25.out).keep HB26.out).rd (HO26.out).rd (Nat.le_trans HL3.out (by omega)) (Nat.le_trans HL26.out (by omega))).mono ?_
  rintro e w27 ⟨z27, rfl, h27, b27⟩
  simp only [val_nf, val_zeros] at h27
  have HO27 := Lib.hid h27
  clear h27
  have HB27 := Lib.hid b27
  have BT27 := Lib.hid (blw_trans BT26.out b27)
  clear b27
  have HL27 := Lib.hid (show (nf (m1 * (m2 * m3))).length ≤ 18 from len_mul HL2.out HL26.out (by omega))
  go_wp2_with fail
  refine (sameN_any _ _ _ _ _ (((HO25.out).keep HB26.out).keep HB27.out).rd (HO27.out).rd).mono ?_
  rintro e w28 ⟨rfl, b28⟩
  rw [sameB_of (show nf ((m1 * m2) * m3) = nf (m1 * (m2 * m3)) from by rw [Nat.mul_assoc])]
  have HB28 := Lib.hid b28
  have BT28 := Lib.hid (blw_trans BT27.out b28)
  clear b28
  go_wp2_with fail
  refine (add_any _ _ _ _ _ ((((((((((((((((((((((((HO5.out).tp HT5.out HG6.out).keep HB7.out).keep HB8.out).keep HB9.out).keep HB10.out).keep HB11.out).keep HB12.out).keep HB13.out).keep HB14.out).keep HB15.out).keep HB16.out).keep HB17.out).keep HB18.out).keep HB19.out).keep HB20.out).keep HB21.out).keep HB22.out).keep HB23.out).keep HB24.out).keep HB25.out).keep HB26.out).keep HB27.out).keep HB28.out).rd ((((((((((((((((((((((HO7.out).keep HB8.out).keep HB9.out).keep HB10.out).keep HB11.out).keep HB12.out).keep HB13.out).keep HB14.out).keep HB15.out).keep HB16.out).keep HB17.out).keep HB18.out).keep HB19.out).keep HB20.out).keep HB21.out).keep HB22.out).keep HB23.out).keep HB24.out).keep HB25.out).keep HB26.out).keep HB27.out).keep HB28.out).rd (Nat.le_trans HL5.out (by omega)) (Nat.le_trans HL7.out (by omega))).mono ?_
  rintro e w29 ⟨z29, rfl, h29, b29⟩
  simp only [val_nf, val_zeros] at h29
  have HO29 := Lib.hid h29
  clear h29
  have HB29 := Lib.hid b29
  have BT29 := Lib.hid (blw_trans BT28.out b29)
  clear b29
  have HL29 := Lib.hid (show (nf (m2 + m3)).length ≤ 13 from len_add HL4.out HL6.out (by omega))
  go_wp2_with fail
  refine (mul_any _ _ _ _ _ (((((((((((((((((((((((((((HO3.out).tp HT3.out HG4.out).keep HB5.out).tp HT5.out HG6.out).keep HB7.out).keep HB8.out).keep HB9.out).keep HB10.out).keep HB11.out).keep HB12.out).keep HB13.out).keep HB14.out).keep HB15.out).keep HB16.out).keep HB17.out).keep HB18.out).keep HB19.out).keep HB20.out).keep HB21.out).keep HB22.out).keep HB23.out).keep HB24.out).keep HB25.out).keep HB26.out).keep HB27.out).keep HB28.out).keep HB29.out).rd (HO29.out).rd (Nat.le_trans HL3.out (by omega)) (Nat.le_trans HL29.out (by omega))).mono ?_
  rintro e w30 ⟨z30, rfl, h30, b30⟩
  simp only [val_nf, val_zeros] at h30
  have HO30 := Lib.hid h30
  clear h30
  have HB30 := Lib.hid b30
  have BT30 := Lib.hid (blw_trans BT29.out b30)
  clear b30
  have HL30 := Lib.hid (show (nf (m1 * (m2 + m3))).length ≤ 19 from len_mul HL2.out HL29.out (by omega))
  go_wp2_with fail
  refine (mul_any _ _ _ _ _ ((((((((((((((((((((((((((((HO3.out).tp HT3.out HG4.out).keep HB5.out).tp HT5.out HG6.out).keep HB7.out).keep HB8.out).keep HB9.out).keep HB10.out).keep HB11.out).keep HB12.out).keep HB13.out).keep HB14.out).keep HB15.out).keep HB16.out).keep HB17.out).keep HB18.out).keep HB19.out).keep HB20.out).keep HB21.out).keep HB22.out).keep HB23.out).keep HB24.out).keep HB25.out).keep HB26.out).keep HB27.out).keep HB28.out).keep HB29.out).keep HB30.out).rd ((((((((((((((((((((((((((HO5.out).tp HT5.out HG6.out).keep HB7.out).keep HB8.out).keep HB9.out).keep HB10.out).keep HB11.out).keep HB12.out).keep HB13.out).keep HB14.out).keep HB15.out).keep HB16.out).keep HB17.out).keep HB18.out).keep HB19.out).keep HB20.out).keep HB21.out).keep HB22.out).keep HB23.out).keep HB24.out).keep HB25.out).keep HB26.out).keep HB27.out).keep HB28.out).keep HB29.out).keep HB30.out).rd (Nat.le_trans HL3.out (by omega)) (Nat.le_trans HL5.out (by omega))).mono ?_
  rintro e w31 ⟨z31, rfl, h31, b31⟩
  simp only [val_nf, val_zeros] at h31
  have HO31 := Lib.hid h31
  clear h31
  have HB31 := Lib.hid b31
  have BT31 := Lib.hid (blw_trans BT30.out b31)
  clear b31
  have HL31 := Lib.hid (show (nf (m1 * m2)).length ≤ 12 from len_mul HL2.out HL4.out (by omega))
  go_wp2_with fail
  refine (mul_any _ _ _ _ _ (((((((((((((((((((((((((((((HO3.out).tp HT3.out HG4.out).keep HB5.out).tp HT5.out HG6.out).keep HB7.out).keep HB8.out).keep HB9.out).keep HB10.out).keep HB11.out).keep HB12.out).keep HB13.out).keep HB14.out).keep HB15.out).keep HB16.out).keep HB17.out).keep HB18.out).keep HB19.out).keep HB20.out).keep HB21.out).keep HB22.out).keep HB23.out).keep HB24.out).keep HB25.out).keep HB26.out).keep HB27.out).keep HB28.out).keep HB29.out).keep HB30.out).keep HB31.out).rd (((((((((((((((((((((((((HO7.out).keep HB8.out).keep HB9.out).keep HB10.out).keep HB11.out).keep HB12.out).keep HB13.out).keep HB14.out).keep HB15.out).keep HB16.out).keep HB17.out).keep HB18.out).keep HB19.out).keep HB20.out).keep HB21.out).keep HB22.out).keep HB23.out).keep HB24.out).keep HB25.out).keep HB26.out).keep HB27.out).keep HB28.out).keep HB29.out).keep HB30.out).keep HB31.out).rd (Nat.le_trans HL3.out (by omega)) (Nat.le_trans HL7.out (by omega))).mono ?_
  rintro e w32 ⟨z32, rfl, h32, b32⟩
  simp only [val_nf, val_zeros] at h32
  have HO32 := Lib.hid h32
  clear h32
  have HB32 := Lib.hid b32
  have BT32 := Lib.hid (blw_trans BT31.out b32)
  clear b32
  have HL32 := Lib.hid (show (nf (m1 * m3)).length ≤ 12 from len_mul HL2.out HL6.out (by omega))
  go_wp2_with fail
  refine (add_any _ _ _ _ _ ((HO31.out).keep HB32.out).rd (HO32.out).rd (Nat.le_trans HL31.out (by omega)) (Nat.le_trans HL32.out (by omega))).mono ?_
  rintro e w33 ⟨z33, rfl, h33, b33⟩
  simp only [val_nf] at h33
  have HO33 := Lib.hid h33
  clear h33
  have HB33 := Lib.hid b33
  have BT33 := Lib.hid (blw_trans BT32.out b33)
  clear b33
  have HL33 := Lib.hid (show (nf ((m1 * m2) + (m1 * m3))).length ≤ 25 from len_add HL31.out HL32.out (by omega))
  go_wp2_with fail
  refine (sameN_any _ _ _ _ _ ((((HO30.out).keep HB31.out).keep HB32.out).keep HB33.out).rd (HO33.out).rd).mono ?_
  rintro e w34 ⟨rfl, b34⟩
  rw [sameB_of (show nf (m1 * (m2 + m3)) = nf ((m1 * m2) + (m1 * m3)) from by rw [Nat.mul_add])]
  have HB34 := Lib.hid b34
  have BT34 := Lib.hid (blw_trans BT33.out b34)
  clear b34
  go_wp2
  go_ret
  exact ⟨rfl, BT34.out⟩
end Go.Proofs.Ytdbocgemikkgiaa
