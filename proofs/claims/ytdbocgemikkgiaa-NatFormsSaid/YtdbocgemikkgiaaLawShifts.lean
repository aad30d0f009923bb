/-
  The walk of the law NatShifts: it returns true and changes nothing that was there.
-/
import Derived.Test.YtdbocgemikkgiaaSmall
import Derived.Test.YtdbocgemikkgiaaShr
import Derived.Test.YtdbocgemikkgiaaBits
namespace Go.Proofs.Ytdbocgemikkgiaa
open Go.RowKit

theorem pow_big {m k c : Nat} (hm : m < 4294967296 ^ c) (hk : 32 * c ≤ k) : m / 2 ^ k = 0 := by
  apply Nat.div_eq_of_lt
  have h0 : (4294967296 : Nat) = 2 ^ 32 := by decide
  rw [h0, ← Nat.pow_mul] at hm
  exact Nat.lt_of_lt_of_le hm (Nat.pow_le_pow_right (by omega) hk)

set_option maxRecDepth 100000 in
set_option maxHeartbeats 2000000 in
theorem natShifts_walk (a0 : Option Addr) (len0 cap0 : Nat) (z0 : List Int) (a1 : Int) (w : World) (w0 : IsRow .u32 w a0 len0 cap0 z0) (w1 : (Lit.int .u64 a1).wf = true) :
    Calls Try.prog 3 #[.slice a0 len0 cap0, .int .u64 a1] w fun e w' => e = .returned (.bool true) ∧ Below w.heap.size w w' := by
  obtain ⟨l, rfl, hrd⟩ := rd_of_row w0
  have hk := wf_u64 w1
  obtain ⟨k, rfl⟩ := Int.eq_ofNat_of_zero_le hk.1
  clear w0 w1
  have hk2 : k < 18446744073709551616 := by omega
  have hlen : l.length ≤ 9223372036854775807 := by
    obtain ⟨a, c, e, h1, h2, _⟩ := hrd; omega
  have B1 := blw_one w (.cells #[.slice a0 l.length cap0] 23)
  have S1 := small_any (w.alloc (.cells #[.slice a0 l.length cap0] 23)) w.heap.size 1 40 1 (fun _ => l.length) (by omega) (fun _ _ => hlen) (fun i hi => by
    obtain rfl : i = 0 := by omega
    exact ⟨a0, cap0, by rw [World.cell?_alloc_at _ _ _ _ rfl]; rfl⟩)
  have HS := Lib.hid S1
  clear S1
  go_enter Try.func3, Try.ntmps3
  go_wp2_with fail
  refine HS.out.mono ?_
  rintro e w2 ⟨rfl, rfl⟩
  clear HS
  by_cases h40 : l.length ≤ 40
  · rw [smallB_true (fun _ _ => h40)]
    have R1 := hrd.keep B1
    have HM := Lib.hid (val_lt l hrd.dig)
    have hnl := nf_val_len hrd.dig
    have hl1 : l.length ≤ 1000000 := by omega
    have hnl1 : (nf (val l)).length ≤ 1000000 := by omega
    obtain ⟨K, hK⟩ : ∃ K : Nat, K = min k 1048576 := ⟨_, rfl⟩
    have hmin : min (k : Int) 1048576 = (K : Int) := by omega
    have hK2 : K ≤ 1048576 := by omega
    have HE : Hid (val l / 2 ^ k = val l / 2 ^ K) := by
      show _ = _
      by_cases hkk : k ≤ 1048576
      · rw [show K = k by omega]
      · have h1 : val l < 4294967296 ^ 40 := Nat.lt_of_lt_of_le HM.out (Nat.pow_le_pow_right (by omega) h40)
        rw [pow_big h1 (by omega), pow_big h1 (by omega)]
    have HKE := Lib.hid hK
    clear hK
    generalize hm : val l = m at *
    have HVL := Lib.hid hm
    clear hm
    go_wp2_with fail
    refine (refN_any _ _ _ R1 hl1).mono ?_
    rintro e w3 ⟨n, rfl, hn, b3⟩
    rw [HVL.out] at hn
    have B3 := blw_trans B1 b3
    have R3 := R1.keep b3
    go_wp2_with fail
    refine (natBits_any _ _ _ R3 hl1).mono ?_
    rintro e w4 ⟨rfl, rfl⟩
    rw [HVL.out]
    have N3 := hn.rd
    go_wp2_with fail
    refine (numBits_any _ _ _ N3 hnl1).mono ?_
    rintro e w4 ⟨rfl, rfl⟩
    go_wp2_with fail
    refine (shr_any _ _ _ k R3 hl1 hk2).mono ?_
    rintro e w5 ⟨z, rfl, hz, b5⟩
    rw [HVL.out, HE.out] at hz
    have N5 := N3.keep b5
    go_wp2_with fail
    refine (right_any _ _ _ K N5 hnl1 (by omega)).mono ?_
    rintro e w6 ⟨y, rfl, hy, b6⟩
    have hqlen : (nf (m / 2 ^ K)).length ≤ 1000000 := Nat.le_trans (nf_len_mono (Nat.div_le_self _ _)) hnl1
    go_wp2_with fail
    refine (same_any _ _ _ _ _ (hz.rd.keep b6) hy.rd hqlen).mono ?_
    rintro e w7 ⟨rfl, b7⟩
    rw [sameB_of rfl]
    have b37 := blw_trans (blw_trans b5 b6) b7
    have B7 := blw_trans B3 b37
    have R7 := R3.keep b37
    have N7 := N3.keep b37
    clear hz hy b5 b6 b7 b37 hqlen N5 HE hn
    by_cases h5 : 5000 < k
    · go_wp2_with fail
      refine (known_any _).mono ?_
      rintro e w8 ⟨rfl, b8⟩
      go_wp2
      go_ret
      exact ⟨rfl, blw_trans B7 b8⟩
    · go_wp2_with fail
      refine (known_any _).mono ?_
      rintro e w8 ⟨rfl, b8⟩
      have B8 := blw_trans B7 b8
      have R8 := R7.keep b8
      have N8 := N7.keep b8
      clear b8 R7 N7
      go_wp2_with fail
      refine (shl_any _ _ _ k R8 hl1 (by omega)).mono ?_
      rintro e w9 ⟨z, rfl, hz, b9⟩
      rw [HVL.out] at hz
      go_wp2_with fail
      refine (left_any _ _ _ k (N8.keep b9) hnl1 (by omega)).mono ?_
      rintro e w10 ⟨y, rfl, hy, b10⟩
      have hqlen : (nf (m * 2 ^ k)).length ≤ 1000000 := by
        have h2 : (2 : Nat) ^ k ≤ 4294967296 ^ k := Nat.pow_le_pow_left (by omega) k
        have h3 : m * 2 ^ k < 4294967296 ^ l.length * 4294967296 ^ k := Nat.mul_lt_mul_of_lt_of_le HM.out h2 (Nat.pow_pos (by omega))
        rw [← Nat.pow_add] at h3
        have := nf_len_le h3
        omega
      go_wp2_with fail
      refine (same_any _ _ _ _ _ (hz.rd.keep b10) hy.rd hqlen).mono ?_
      rintro e w11 ⟨rfl, b11⟩
      rw [sameB_of rfl]
      go_wp2
      go_ret
      exact ⟨rfl, blw_trans B8 (blw_trans (blw_trans b9 b10) b11)⟩
  · rw [smallB_false (k := 0) (by omega) (by omega)]
    go_wp2_with fail
    refine (known_any _).mono ?_
    rintro e w3 ⟨rfl, b3⟩
    go_wp2
    go_ret
    exact ⟨rfl, blw_trans B1 b3⟩
end Go.Proofs.Ytdbocgemikkgiaa
