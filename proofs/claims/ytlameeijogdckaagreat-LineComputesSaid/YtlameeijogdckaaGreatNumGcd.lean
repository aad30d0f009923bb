/-
  The reference's Common and Root (package bspregionnum).
-/
import Derived.Test.YtlameeijogdckaaGreatNumDiv2
namespace Go.Proofs.YtlameeijogdckaaGreat
open Go.RowKit

theorem gcd_len {m n k : Nat} (h1 : (nf m).length ≤ k) (h2 : (nf n).length ≤ k) : (nf (Nat.gcd m n)).length ≤ k := by
  by_cases h0 : m = 0
  · subst h0; rw [Nat.gcd_zero_left]; exact h2
  · exact len_le (Nat.gcd_le_left _ (Nat.pos_of_ne_zero h0)) h1
set_option maxRecDepth 100000 in
set_option maxHeartbeats 2000000 in
theorem commonW {w : World} {u v : Value} {m n k1 k2 : Nat} (hu : Nn w u m k1) (hv : Nn w v n k2) (hk1 : k1 ≤ 200000) (hk2 : k2 ≤ 200000) :
    Calls Tryz.prog 100 #[u, v] w (RetN w (Nat.gcd m n) (max k1 k2)) := by
  obtain ⟨a1, c1, rfl⟩ := hu.1.sl
  obtain ⟨a2, c2, rfl⟩ := hv.1.sl
  have hl1 := Nat.le_trans hu.2 (Nat.le_max_left k1 k2)
  have hl2 := Nat.le_trans hv.2 (Nat.le_max_right k1 k2)
  have hK : max k1 k2 ≤ 200000 := by omega
  have HGL := Lib.hid (gcd_len hl1 hl2)
  have HL1 := Lib.hid hl1
  have HL2 := Lib.hid hl2
  have CW := Lib.hid (numWord2W hu)
  have CV := Lib.hid (fun (W : World) (h : Below w.heap.size w W) => numWord2W (hv.keep h))
  have HU := Lib.hid hu.1
  have HV := Lib.hid hv.1
  clear hu hv hl1 hl2 hk1 hk2
  generalize max k1 k2 = K at *
  by_cases hs : m < 18446744073709551616 ∧ n < 18446744073709551616
  · obtain ⟨hm1, hn1⟩ := hs
    have HU1 := Lib.hid (uintV_lt hm1)
    have HU2 := Lib.hid (uintV_lt hn1)
    go_enter Tryz.func100, Tryz.ntmps100
    go_wp2_with fail
    refine CW.out.mono ?_
    rintro e w1 ⟨rfl, j1, rfl⟩
    rw [HU1.out]
    go_wp2_with fail
    refine (CV.out _ (blw_drewN (Below.refl _ _) _)).mono ?_
    rintro e w2 ⟨rfl, j2, rfl⟩
    rw [HU2.out]
    have B1 := Lib.hid (show Below w.heap.size w (w.drewN (j1 + j2)) from blw_drewN (Below.refl _ _) _)
    go_wp2_with fail
    generalize w.drewN (j1 + j2) = w1 at *
    go_loopw [5, 7] (fun x y wx => ∃ a b : Int, x = .int .u64 a ∧ y = .int .u64 b ∧ 0 ≤ a ∧ a < 18446744073709551616 ∧ 0 ≤ b ∧ b < 18446744073709551616 ∧ Hid (Below w.heap.size w wx) ∧ Hid (Nat.gcd a.toNat b.toNat = Nat.gcd m n)) (fun _ y _ => (intOf y).toNat)
    case atStart => exact ⟨(m : Int), (n : Int), rfl, rfl, by omega, by omega, by omega, by omega, B1, rfl⟩
    case round =>
      obtain ⟨a, b, rfl, rfl, ha0, ha, hb0, hb, hW2, hG2⟩ := hrel
      by_cases h0 : b = 0
      · have HE : Hid (a.toNat = Nat.gcd m n) := by show _ = _; rw [← hG2.out, h0]; simp
        subst h0
        go_wp2_with fail
        refine (wordZ _ _ a.toNat (by omega) (by omega)).mono ?_
        rintro e w4 ⟨z, rfl, hz, b4⟩
        go_wp2
        go_ret
        rw [HE.out] at hz
        exact .mk (.of_own hz HGL.out) (blw_trans hW2.out b4)
      · obtain ⟨g1, g2⟩ := gcd_step (by omega : b.toNat ≠ 0) hG2.out
        have HG := Lib.hid g1
        have HL := Lib.hid g2
        have hb1 : 0 < b := by omega
        have e2 : a % b = ((a.toNat % b.toNat : Nat) : Int) := by rw [Int.natCast_emod, Int.toNat_of_nonneg ha0, Int.toNat_of_nonneg hb0]
        have E2 := Lib.hid e2
        have e3 : (a % b).toNat = a.toNat % b.toNat := by rw [e2]; rfl
        have E3 := Lib.hid e3
        clear g1 g2 e2 e3 h0
        go_wp2_with fail
        have hq1 : (1 : Int) ≤ b := by omega
        have hq0 : (b == 0) = false := by rw [beq_eq_false_iff_ne]; omega
        have hqz : ¬ (b = 0) := by omega
        have m1 := Int.emod_nonneg a hqz
        have m2 := Int.emod_lt_of_pos a hb1
        have em : a.tmod b = a % b := Int.tmod_eq_emod_of_nonneg ha0
        go_quiet (fail)
        go_wp2_with fail
        go_roundw
        case rel => exact ⟨b, a % b, rfl, by first | rfl | rw [em], by omega, by omega, m1, by omega, blw_drewN hW2.out _, by show _ = _; rw [E3.out]; exact HG.out⟩
        case measure => simp only [intOf]; first | (rw [E3.out]; exact HL.out) | (rw [em, E3.out]; exact HL.out)
  · have hs : 18446744073709551616 ≤ m ∨ (m < 18446744073709551616 ∧ 18446744073709551616 ≤ n) := by omega
    go_enter Tryz.func100, Tryz.ntmps100
    rcases hs with hs | ⟨hs1, hs2⟩
    · have HU1 := Lib.hid (uintV_ge hs)
      clear hs
      go_wp2_with fail
      refine CW.out.mono ?_
      rintro e w1 ⟨rfl, j1, rfl⟩
      rw [HU1.out]
      have B1 := Lib.hid (show Below w.heap.size w (w.drewN j1) from blw_drewN (Below.refl _ _) _)
      generalize w.drewN j1 = w1 at *
      go_wp2_with fail
      go_loopw [0, 1] (fun x y wr => ∃ p q : Nat, Hid (∃ a l c, x = .slice a l c ∧ Rd wr (.slice a l c) (nf p)) ∧ Hid (∃ a l c, y = .slice a l c ∧ Rd wr (.slice a l c) (nf q)) ∧ Hid (Below w.heap.size w wr) ∧ Hid (Nat.gcd p q = Nat.gcd m n) ∧ Hid ((nf p).length ≤ K) ∧ Hid ((nf q).length ≤ K)) (fun _ y wr => rdVal wr y)
      case atStart => exact ⟨m, n, ⟨_, _, _, rfl, HU.out.keep B1.out⟩, ⟨_, _, _, rfl, HV.out.keep B1.out⟩, B1, rfl, HL1, HL2⟩
      case round =>
        obtain ⟨p, q, hP, hQ, hW, hG, hlp, hlq⟩ := hrel
        obtain ⟨ax, lx, cx, rfl, hx⟩ := hP.out
        obtain ⟨ay, ly, cy, rfl, hy⟩ := hQ.out
        have HX := Lib.hid hx
        have HY := Lib.hid hy
        have hly := hy.len
        clear hP hQ hx hy
        by_cases h0 : q = 0
        · have HE : Hid (p = Nat.gcd m n) := by show _ = _; rw [← hG.out, h0, Nat.gcd_zero_right]
          have hz : ¬ ((0 : Int) < (ly : Int)) := by rw [hly, h0]; decide
          have HLP := Lib.hid hlp.out
          clear h0 hly
          go_wp2_with (at_builtin; go_loud (refine app_u32 _ rfl (.tmp 42) (.tmp 43) 32 32 rfl Tryz.underlying32 Tryz.underlying32 wr.heap.size _ _ [] (nf p) rfl rfl (own_lit wr [] dig_nil (by simp) _ rfl) (HX.out.keep (blw_one _ _)) (by have := HLP.out; simp; omega) (by simp) ?_); intro v1 w3 o1 g1 _)
          have B3 := own_grown (own_lit wr [] dig_nil (by simp) _ rfl) (blw_one _ _) g1 (Nat.le_refl _)
          go_ret
          rw [List.nil_append, HE.out] at o1
          exact .mk (.of_own o1 HGL.out) (blw_trans hW.out B3)
        · have hz : (0 : Int) < (ly : Int) := by rw [hly]; have := nf_len_pos h0; omega
          obtain ⟨g1, g2⟩ := gcd_step h0 hG.out
          have HG := Lib.hid g1
          have HL := Lib.hid g2
          have CD := Lib.hid (divideW (w := wr) ⟨HX.out, hlp.out⟩ ⟨HY.out, hlq.out⟩ h0 hK)
          clear g1 g2 h0 hly
          go_wp2_with fail
          refine CD.out.mono ?_
          rintro e w3 ⟨aq, lq, cq, ar, lr, cr, rfl, _, hr, b3⟩
          have HR := Lib.hid hr.1
          have hV := rdVal_eq HY.out
          have hV2 := rdVal_eq hr.1
          rw [val_nf] at hV hV2
          have HV1 := Lib.hid hV
          have HV2 := Lib.hid hV2
          have HB3 := Lib.hid b3
          clear hr hV hV2 b3
          go_wp2_with fail
          go_roundw
          case rel => exact ⟨q, p % q, ⟨_, _, _, rfl, HY.out.keep HB3.out⟩, ⟨_, _, _, rfl, HR.out⟩, blw_trans hW.out HB3.out, HG, hlq, len_le (Nat.mod_le _ _) hlp.out⟩
          case measure => rw [HV1.out, HV2.out]; exact HL.out
    · have HU1 := Lib.hid (uintV_lt hs1)
      have HU2 := Lib.hid (uintV_ge hs2)
      clear hs1 hs2
      go_wp2_with fail
      refine CW.out.mono ?_
      rintro e w1 ⟨rfl, j1, rfl⟩
      rw [HU1.out]
      go_wp2_with fail
      refine (CV.out _ (blw_drewN (Below.refl _ _) _)).mono ?_
      rintro e w2 ⟨rfl, j2, rfl⟩
      rw [HU2.out]
      have B1 := Lib.hid (show Below w.heap.size w (w.drewN (j1 + j2)) from blw_drewN (Below.refl _ _) _)
      go_wp2_with fail
      generalize w.drewN (j1 + j2) = w1 at *
      go_wp2_with fail
      go_loopw [0, 1] (fun x y wr => ∃ p q : Nat, Hid (∃ a l c, x = .slice a l c ∧ Rd wr (.slice a l c) (nf p)) ∧ Hid (∃ a l c, y = .slice a l c ∧ Rd wr (.slice a l c) (nf q)) ∧ Hid (Below w.heap.size w wr) ∧ Hid (Nat.gcd p q = Nat.gcd m n) ∧ Hid ((nf p).length ≤ K) ∧ Hid ((nf q).length ≤ K)) (fun _ y wr => rdVal wr y)
      case atStart => exact ⟨m, n, ⟨_, _, _, rfl, HU.out.keep B1.out⟩, ⟨_, _, _, rfl, HV.out.keep B1.out⟩, B1, rfl, HL1, HL2⟩
      case round =>
        obtain ⟨p, q, hP, hQ, hW, hG, hlp, hlq⟩ := hrel
        obtain ⟨ax, lx, cx, rfl, hx⟩ := hP.out
        obtain ⟨ay, ly, cy, rfl, hy⟩ := hQ.out
        have HX := Lib.hid hx
        have HY := Lib.hid hy
        have hly := hy.len
        clear hP hQ hx hy
        by_cases h0 : q = 0
        · have HE : Hid (p = Nat.gcd m n) := by show _ = _; rw [← hG.out, h0, Nat.gcd_zero_right]
          have hz : ¬ ((0 : Int) < (ly : Int)) := by rw [hly, h0]; decide
          have HLP := Lib.hid hlp.out
          clear h0 hly
          go_wp2_with (at_builtin; go_loud (refine app_u32 _ rfl (.tmp 42) (.tmp 43) 32 32 rfl Tryz.underlying32 Tryz.underlying32 wr.heap.size _ _ [] (nf p) rfl rfl (own_lit wr [] dig_nil (by simp) _ rfl) (HX.out.keep (blw_one _ _)) (by have := HLP.out; simp; omega) (by simp) ?_); intro v1 w3 o1 g1 _)
          have B3 := own_grown (own_lit wr [] dig_nil (by simp) _ rfl) (blw_one _ _) g1 (Nat.le_refl _)
          go_ret
          rw [List.nil_append, HE.out] at o1
          exact .mk (.of_own o1 HGL.out) (blw_trans hW.out B3)
        · have hz : (0 : Int) < (ly : Int) := by rw [hly]; have := nf_len_pos h0; omega
          obtain ⟨g1, g2⟩ := gcd_step h0 hG.out
          have HG := Lib.hid g1
          have HL := Lib.hid g2
          have CD := Lib.hid (divideW (w := wr) ⟨HX.out, hlp.out⟩ ⟨HY.out, hlq.out⟩ h0 hK)
          clear g1 g2 h0 hly
          go_wp2_with fail
          refine CD.out.mono ?_
          rintro e w3 ⟨aq, lq, cq, ar, lr, cr, rfl, _, hr, b3⟩
          have HR := Lib.hid hr.1
          have hV := rdVal_eq HY.out
          have hV2 := rdVal_eq hr.1
          rw [val_nf] at hV hV2
          have HV1 := Lib.hid hV
          have HV2 := Lib.hid hV2
          have HB3 := Lib.hid b3
          clear hr hV hV2 b3
          go_wp2_with fail
          go_roundw
          case rel => exact ⟨q, p % q, ⟨_, _, _, rfl, HY.out.keep HB3.out⟩, ⟨_, _, _, rfl, HR.out⟩, blw_trans hW.out HB3.out, HG, hlq, len_le (Nat.mod_le _ _) hlp.out⟩
          case measure => rw [HV1.out, HV2.out]; exact HL.out

theorem root_start (m : Nat) : m < (0 + 2 ^ ((nbits m + 1) / 2 + 1)) * (0 + 2 ^ ((nbits m + 1) / 2 + 1)) := by
  rw [Nat.zero_add, ← Nat.pow_add]
  exact Nat.lt_of_lt_of_le (nbits_lt m) (Nat.pow_le_pow_right (by omega) (by omega))
theorem root_len {r m k : Nat} (h : r * r ≤ m) (hk : (nf m).length ≤ k) : (nf r).length ≤ k := by
  refine len_le ?_ hk
  rcases Nat.eq_zero_or_pos r with h0 | h0
  · omega
  · exact Nat.le_trans (Nat.le_mul_of_pos_left r h0) h
/-- A root is returned. -/
def RetRoot (w : World) (m k : Nat) (e : Ending) (w' : World) : Prop := ∃ r, IsRoot m r ∧ RetN w r k e w'
end Go.Proofs.YtlameeijogdckaaGreat
