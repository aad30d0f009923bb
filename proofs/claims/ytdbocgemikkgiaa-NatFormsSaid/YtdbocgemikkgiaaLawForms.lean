/-
  The walk of the law NatForms: it returns true and changes nothing that was there.
  Printed by a small program (laws_forms.py).
-/
import Derived.Test.YtdbocgemikkgiaaLawShifts
import Derived.Test.YtdbocgemikkgiaaDivMod
namespace Go.Proofs.Ytdbocgemikkgiaa
open Go.RowKit

theorem forms_small {m : Nat} (h : (nf m).length ≤ 2) : m < 18446744073709551616 := by
  have := lt_of_nf_len h
  omega
theorem forms_great {m : Nat} (h : ¬ (nf m).length ≤ 2) : 18446744073709551616 ≤ m := by
  rcases Nat.lt_or_ge m 18446744073709551616 with h2 | h2
  · exact absurd (nf_len_le (n := m) (k := 2) (by omega)) h
  · exact h2
set_option maxRecDepth 100000 in
set_option maxHeartbeats 2000000 in
theorem natForms_walk (a0 : Option Addr) (len0 cap0 : Nat) (z0 : List Int) (a1 : Int) (w : World) (w0 : IsRow .u32 w a0 len0 cap0 z0) (w1 : (Lit.int .u64 a1).wf = true) :
    Calls Try.prog 4 #[.slice a0 len0 cap0, .int .u64 a1] w fun e w' => e = .returned (.bool true) ∧ Below w.heap.size w w' := by
  obtain ⟨l, rfl, hrd⟩ := rd_of_row w0
  have hk := wf_u64 w1
  obtain ⟨u, rfl⟩ := Int.eq_ofNat_of_zero_le hk.1
  clear w0 w1
  have hu2 : u < 18446744073709551616 := by omega
  have hlen : l.length ≤ 9223372036854775807 := by
    obtain ⟨a, c, e, h1, h2, _⟩ := hrd; omega
  have B1 := blw_one w (.cells #[.slice a0 l.length cap0] 23)
  have S1 := small_any (w.alloc (.cells #[.slice a0 l.length cap0] 23)) w.heap.size 1 40 1 (fun _ => l.length) (by omega) (fun _ _ => hlen) (fun i hi => by
    obtain rfl : i = 0 := by omega
    exact ⟨a0, cap0, by rw [World.cell?_alloc_at _ _ _ _ rfl]; rfl⟩)
  have HS := Lib.hid S1
  clear S1
  go_enter Try.func4, Try.ntmps4
  go_wp2_with fail
  refine HS.out.mono ?_
  rintro e w2 ⟨rfl, rfl⟩
  clear HS
  by_cases h40 : l.length ≤ 40
  · rw [smallB_true (fun _ _ => h40)]
    have R1 := hrd.keep B1
    have hnl := nf_val_len hrd.dig
    have hl1 : l.length ≤ 1000000 := by omega
    have hnl1 : (nf (val l)).length ≤ 1000000 := by omega
    have HNB := Lib.hid (show normalB l = normalB l from rfl)
    go_wp2_with fail
    refine (refN_any _ _ _ R1 hl1).mono ?_
    rintro e w3 ⟨n, rfl, hn, b3⟩
    have B3 := blw_trans B1 b3
    have R3 := R1.keep b3
    have N3 := hn.rd
    clear hn b3 R1 hnl
    go_wp2_with fail
    refine (uint_any _ _ _ R3).mono ?_
    rintro e w4 ⟨rfl, rfl⟩
    by_cases h2 : (nf (val l)).length ≤ 2
    · rw [uintV_lt (forms_small h2)]
      go_wp2_with fail
      refine (fromUint_any _ u hu2).mono ?_
      rintro e w4 ⟨y, rfl, hy, b4⟩
      have B4 := blw_trans B3 b4
      have R4 := R3.keep b4
      have N4 := N3.keep b4
      have HY := Lib.hid hy
      clear b4 R3 N3 hy
      go_wp2_with fail
      refine (uint_any _ _ _ HY.out.rd).mono ?_
      rintro e w5 ⟨rfl, rfl⟩
      rw [val_nf, uintV_lt hu2]
      clear HY
      obtain ⟨an, capn, rfl, hcn, hcn2, hdn, hrn⟩ := id N4
      have HV := Lib.hid (val_nf (val l))
      have HR := Lib.hid R4
      have HN := Lib.hid N4
      clear N4 R4 hrd
      generalize hm : val l = m at *
      have HVL := Lib.hid hm
      clear hm
      have hm2 := forms_small h2
      have hb2 : decide ((((nf m).length : Nat) : Int) ≤ 2) = true := decide_eq_true (by omega)
      generalize hxs : nf m = xs at *
      have HXS := Lib.hid hxs
      clear hxs
      go_wp2_with fail
      go_loopw [10, 11] (fun c i wr => ∃ k r : Nat, k ≤ xs.length ∧ i = .int .i64 ((k : Int) - 1) ∧ c = .int .u64 r ∧ wr = w4 ∧ Hid (r = val (xs.drop k))) (fun _ i _ => (intOf i + 1).toNat)
      case atStart => exact ⟨xs.length, 0, Nat.le_refl _, rfl, rfl, rfl, by show _ = _; simp [val_nil]⟩
      case round =>
        obtain ⟨k, r, hk, rfl, rfl, rfl, hr⟩ := hrel
        by_cases hk1 : 1 ≤ k
        · obtain ⟨j, rfl⟩ : ∃ j, k = j + 1 := ⟨k - 1, by omega⟩
          obtain ⟨ba, offa, rfl, cA⟩ := hrn.at (Below.refl _ _) (k := j) (by omega)
          have hx := dig_get hdn j
          have hrb := val_lt (xs.drop (j + 1)) (dig_drop hdn _)
          rw [List.length_drop, ← hr.out] at hrb
          have hr1 : xs.length - (j + 1) ≤ 1 := by omega
          have hr2 : r < 4294967296 := Nat.lt_of_lt_of_le hrb (Nat.le_trans (Nat.pow_le_pow_right (by omega) hr1) (Nat.le_of_eq (Nat.pow_one _)))
          have hst := val_drop_cons xs j (by omega)
          rw [← hr.out] at hst
          generalize xs.getD j 0 = x at *
          have hor := high_or x r hx hr2
          have HST := Lib.hid hst
          clear hst hrb hrn
          go_wp2
          go_roundw
          case rel => exact ⟨j, x + 4294967296 * r, by omega, by go_num, by go_num, by trivial, HST.out.symm⟩
          case measure => simp [intOf]
        · obtain rfl : k = 0 := by omega
          have hr2 := hr.out
          rw [List.drop_zero, HV.out] at hr2
          subst hr2
          clear hrn hr
          go_wp2_with fail
          refine (known_any _).mono ?_
          rintro e w6 ⟨rfl, b6⟩
          have HR6 := Lib.hid (HR.out.keep b6)
          have HN6 := Lib.hid (HN.out.keep b6)
          have B6 := blw_trans B4 b6
          go_wp2_with fail
          refine (norm_any _ _ _ HR6.out hl1).mono ?_
          rintro e w7 ⟨nz, rfl, hz, b7⟩
          rw [HVL.out, HXS.out] at hz
          have HZ := Lib.hid hz
          have HR7 := Lib.hid (HR6.out.keep b7)
          have HN7 := Lib.hid (HN6.out.keep b7)
          have B7 := blw_trans B6 b7
          clear hz b6 b7
          go_wp2_with fail
          refine (same_any _ _ _ _ _ HZ.out.rd HN7.out hnl1).mono ?_
          rintro e w8 ⟨rfl, b8⟩
          rw [sameB_of rfl]
          have HR8 := Lib.hid (HR7.out.keep b8)
          have B8 := blw_trans B7 b8
          clear b8 HZ HR7 HN7 HR6 HN6 HR HN
          go_wp2_with fail
          refine (normal_any _ _ _ HR8.out).mono ?_
          rintro e w9 ⟨rfl, rfl⟩
          go_wp2_with fail
          refine (normalN_any _ _ _ HR8.out).mono ?_
          rintro e w9 ⟨rfl, rfl⟩
          generalize normalB l = nb
          go_wp2_with fail
          refine (fromUint_any _ u hu2).mono ?_
          rintro e w9 ⟨y9, rfl, hy9, b9⟩
          have HY9 := Lib.hid hy9
          have B9 := blw_trans B8 b9
          clear hy9 b9
          go_wp2_with fail
          refine (word_any _ u hu2).mono ?_
          rintro e w10 ⟨y10, rfl, hy10, b10⟩
          have HK := Lib.hid (HY9.out.rd.keep b10)
          have HY10 := Lib.hid hy10
          have B10 := blw_trans B9 b10
          have hul : (nf u).length ≤ 1000000 := Nat.le_trans (nf_len_le (k := 2) (by omega)) (by omega)
          clear hy10 b10
          go_wp2_with fail
          refine (same_any _ _ _ _ _ HK.out HY10.out.rd hul).mono ?_
          rintro e w11 ⟨rfl, b11⟩
          rw [sameB_of rfl]
          go_wp2
          go_ret
          exact ⟨rfl, blw_trans B10 b11⟩
    · rw [uintV_ge (forms_great h2)]
      go_wp2_with fail
      refine (fromUint_any _ u hu2).mono ?_
      rintro e w4 ⟨y, rfl, hy, b4⟩
      have B4 := blw_trans B3 b4
      have R4 := R3.keep b4
      have N4 := N3.keep b4
      have HY := Lib.hid hy
      clear b4 R3 N3 hy
      go_wp2_with fail
      refine (uint_any _ _ _ HY.out.rd).mono ?_
      rintro e w5 ⟨rfl, rfl⟩
      rw [val_nf, uintV_lt hu2]
      clear HY
      obtain ⟨an, capn, rfl, hcn, hcn2, hdn, hrn⟩ := id N4
      have HV := Lib.hid (val_nf (val l))
      have HR := Lib.hid R4
      have HN := Lib.hid N4
      clear N4 R4 hrd
      generalize hm : val l = m at *
      have HVL := Lib.hid hm
      clear hm
      have hb2 : decide ((((nf m).length : Nat) : Int) ≤ 2) = false := decide_eq_false (by omega)
      generalize hxs : nf m = xs at *
      have HXS := Lib.hid hxs
      clear hxs
      go_wp2_with fail
      refine (known_any _).mono ?_
      rintro e w6 ⟨rfl, b6⟩
      have HR6 := Lib.hid (HR.out.keep b6)
      have HN6 := Lib.hid (HN.out.keep b6)
      have B6 := blw_trans B4 b6
      go_wp2_with fail
      refine (norm_any _ _ _ HR6.out hl1).mono ?_
      rintro e w7 ⟨nz, rfl, hz, b7⟩
      rw [HVL.out, HXS.out] at hz
      have HZ := Lib.hid hz
      have HR7 := Lib.hid (HR6.out.keep b7)
      have HN7 := Lib.hid (HN6.out.keep b7)
      have B7 := blw_trans B6 b7
      clear hz b6 b7
      go_wp2_with fail
      refine (same_any _ _ _ _ _ HZ.out.rd HN7.out hnl1).mono ?_
      rintro e w8 ⟨rfl, b8⟩
      rw [sameB_of rfl]
      have HR8 := Lib.hid (HR7.out.keep b8)
      have B8 := blw_trans B7 b8
      clear b8 HZ HR7 HN7 HR6 HN6 HR HN
      go_wp2_with fail
      refine (normal_any _ _ _ HR8.out).mono ?_
      rintro e w9 ⟨rfl, rfl⟩
      go_wp2_with fail
      refine (normalN_any _ _ _ HR8.out).mono ?_
      rintro e w9 ⟨rfl, rfl⟩
      generalize normalB l = nb
      go_wp2_with fail
      refine (fromUint_any _ u hu2).mono ?_
      rintro e w9 ⟨y9, rfl, hy9, b9⟩
      have HY9 := Lib.hid hy9
      have B9 := blw_trans B8 b9
      clear hy9 b9
      go_wp2_with fail
      refine (word_any _ u hu2).mono ?_
      rintro e w10 ⟨y10, rfl, hy10, b10⟩
      have HK := Lib.hid (HY9.out.rd.keep b10)
      have HY10 := Lib.hid hy10
      have B10 := blw_trans B9 b10
      have hul : (nf u).length ≤ 1000000 := Nat.le_trans (nf_len_le (k := 2) (by omega)) (by omega)
      clear hy10 b10
      go_wp2_with fail
      refine (same_any _ _ _ _ _ HK.out HY10.out.rd hul).mono ?_
      rintro e w11 ⟨rfl, b11⟩
      rw [sameB_of rfl]
      go_wp2
      go_ret
      exact ⟨rfl, blw_trans B10 b11⟩
  · rw [smallB_false (k := 0) (by omega) (by omega)]
    go_wp2_with fail
    refine (known_any _).mono ?_
    rintro e w3 ⟨rfl, b3⟩
    go_wp2
    go_ret
    exact ⟨rfl, blw_trans B1 b3⟩
end Go.Proofs.Ytdbocgemikkgiaa
