/-
  The reference's numbers (package bspregionnum): the contracts of its simple functions in the words of XWord.
-/
import Derived.Test.YtlameeijogdckaaGreatNumOps
import Derived.Test.YtlameeijogdckaaGreatShr
namespace Go.Proofs.YtlameeijogdckaaGreat
open Go.RowKit

section
variable {w : World} {u v : Value} {m n km kn : Nat}
theorem numSumW (hu : Nn w u m km) (hv : Nn w v n kn) (hk : km ≤ 900000) (hk2 : kn ≤ 900000) : Calls Tryz.prog 219 #[u, v] w (RetN w (m + n) (max km kn + 1)) := by
  obtain ⟨h1, l1⟩ := hu
  obtain ⟨h2, l2⟩ := hv
  have hc := sum_any _ _ _ _ _ h1 h2 (by omega) (by omega)
  rw [val_nf, val_nf] at hc
  refine hc.mono ?_
  rintro e w' ⟨z, rfl, hz, hb⟩
  exact .mk (.of_own hz (len_addM l1 l2)) hb
theorem numLessW (hu : Nn w u m km) (hv : Nn w v n kn) (hk : km ≤ 900000) (h : n ≤ m) : Calls Tryz.prog 216 #[u, v] w (RetN w (m - n) km) := by
  obtain ⟨h1, l1⟩ := hu
  obtain ⟨h2, l2⟩ := hv
  have hc := numLess_any _ _ _ _ _ h1 h2 (nf_len_mono h) (by rw [val_nf, val_nf]; exact h) (by omega)
  rw [val_nf, val_nf] at hc
  refine hc.mono ?_
  rintro e w' ⟨z, rfl, hz, hb⟩
  exact .mk (.of_own hz (len_le (Nat.sub_le _ _) l1)) hb
theorem numProductW (hu : Nn w u m km) (hv : Nn w v n kn) (hk : km ≤ 900000) (hk2 : kn ≤ 900000) : Calls Tryz.prog 108 #[u, v] w (RetN w (m * n) (km + kn)) := by
  obtain ⟨h1, l1⟩ := hu
  obtain ⟨h2, l2⟩ := hv
  have hc := product_any _ _ _ _ _ h1 h2 (by omega) (by omega)
  rw [val_nf, val_nf] at hc
  refine hc.mono ?_
  rintro e w' ⟨z, rfl, hz, hb⟩
  exact .mk (.of_own hz (len_mul l1 l2 (Nat.le_refl _))) hb
theorem numWordW {x : Nat} (hx : x < 18446744073709551616) : Calls Tryz.prog 118 #[.int .u64 (x : Int)] w (RetN w x 2) := by
  refine (word_any _ x hx).mono ?_
  rintro e w' ⟨z, rfl, hz, hb⟩
  exact .mk (.of_own hz (nf_len_le (by omega))) hb
theorem numWordI {x : Int} (h0 : 0 ≤ x) (h : x < 18446744073709551616) : Calls Tryz.prog 118 #[.int .u64 x] w (RetN w x.natAbs 2) := by
  obtain ⟨n, rfl⟩ := Int.eq_ofNat_of_zero_le h0
  exact numWordW (by omega)
theorem len_shl {m k c : Nat} (h : (nf m).length ≤ c) : (nf (m * 2 ^ k)).length ≤ c + (k / 32 + 1) := by
  refine len_mul h (nf_len_le ?_) (Nat.le_refl _)
  rw [show (4294967296 : Nat) = 2 ^ 32 by decide, ← Nat.pow_mul]
  exact Nat.pow_lt_pow_right (by omega) (by omega)
theorem numLeftW {k : Nat} (hu : Nn w u m km) (hkm : km ≤ 900000) (hk : k ≤ 10000000) : Calls Tryz.prog 215 #[u, .int .i64 (k : Int)] w (RetN w (m * 2 ^ k) (km + (k / 32 + 1))) := by
  obtain ⟨h1, l1⟩ := hu
  refine (left_any _ _ m k h1 (by omega) hk).mono ?_
  rintro e w' ⟨z, rfl, hz, hb⟩
  exact .mk (.of_own hz (len_shl l1)) hb
theorem numRightW {k : Nat} (hu : Nn w u m km) (hkm : km ≤ 900000) (hk : k < 9223372036854775808) : Calls Tryz.prog 217 #[u, .int .i64 (k : Int)] w (RetN w (m / 2 ^ k) km) := by
  obtain ⟨h1, l1⟩ := hu
  refine (right_any _ _ m k h1 (by omega) hk).mono ?_
  rintro e w' ⟨z, rfl, hz, hb⟩
  exact .mk (.of_own hz (len_le (Nat.div_le_self _ _) l1)) hb
theorem numOneW : Calls Tryz.prog 187 #[] w (RetN w 1 1) := by
  go_enter Tryz.func187, Tryz.ntmps187
  go_wp2
  go_ret
  exact ⟨_, _, _, rfl, Nn.lit1, blw_one _ _⟩
end
theorem u64_pair {a b : Int} (h : a = b) : Ending.returned (.tuple #[.int .u64 a, .bool true]) = Ending.returned (.tuple #[.int .u64 b, .bool true]) := by rw [h]
set_option maxRecDepth 100000 in
set_option maxHeartbeats 1000000 in
/-- word returns the value of a number of at most two digits. -/
theorem numWord2W {w : World} {u : Value} {m km : Nat} (hu : Nn w u m km) : Calls Tryz.prog 177 #[u] w fun e w' => e = .returned (uintV m) ∧ ∃ j, w' = w.drewN j := by
  obtain ⟨⟨a, cap, rfl, hc, hcm, hd, hr⟩, hl⟩ := hu
  rcases nf_cases m with ⟨hn, hl⟩ | ⟨d0, b0, hn, hl⟩ | ⟨d0, d1, b0, b1, hn, hl⟩ | ⟨hn, hl⟩
  · rw [hl] at hr hc ⊢
    have HN := Lib.hid (show uintV m = .tuple #[.int .u64 0, .bool true] by rw [hn]; exact uintV_lt (by omega))
    clear hl hn hd hr
    go_enter Tryz.func177, Tryz.ntmps177
    go_wp2
    go_ret2
    exact ⟨by rw [HN.out]; rfl, 0, rfl⟩
  · rw [hl] at hr hc ⊢
    obtain ⟨b, off, rfl, hcell⟩ := hr (by simp)
    have c0 := hcell 0 (by simp)
    have HN := Lib.hid (show uintV m = .tuple #[.int .u64 (d0 : Int), .bool true] by rw [hn]; exact uintV_lt (by omega))
    simp only [List.length_cons, List.length_nil, Nat.reduceAdd, List.getD_eq_getElem?_getD, List.getElem?_cons_zero, Option.getD_some, Nat.add_zero] at c0 hc ⊢
    clear hcell hn hl hr hd
    go_enter Tryz.func177, Tryz.ntmps177
    go_wp2
    go_ret2
    exact ⟨by rw [HN.out]; rfl, 0, rfl⟩
  · rw [hl] at hr hc ⊢
    obtain ⟨b, off, rfl, hcell⟩ := hr (by simp)
    have c0 := hcell 0 (by simp)
    have c1 := hcell 1 (by simp)
    have HN := Lib.hid (show uintV m = .tuple #[.int .u64 ((d0 : Int) + 4294967296 * (d1 : Int)), .bool true] by rw [hn, uintV_lt (by omega)]; rfl)
    simp only [List.length_cons, List.length_nil, Nat.reduceAdd, List.getD_eq_getElem?_getD, List.getElem?_cons_zero, List.getElem?_cons_succ, Option.getD_some, Nat.add_zero] at c0 c1 hc ⊢
    have ho2 := high_or d0 d1 b0 b1
    have HO := Lib.hid ho2
    clear hcell hn hl hr hd ho2
    go_enter Tryz.func177, Tryz.ntmps177
    go_wp2
    go_quiet (fail)
    go_wp2
    go_ret2
    refine ⟨?_, _, rfl⟩
    rw [HN.out]
    exact u64_pair HO.out
  · have HN := Lib.hid (uintV_ge hn)
    generalize (nf m).length = n at *
    have h0 : ((n : Int) == 0) = false := by rw [beq_eq_false_iff_ne]; omega
    have h1 : ((n : Int) == 1) = false := by rw [beq_eq_false_iff_ne]; omega
    have h2 : ((n : Int) == 2) = false := by rw [beq_eq_false_iff_ne]; omega
    clear hn hr hd
    go_enter Tryz.func177, Tryz.ntmps177
    go_wp2
    go_ret2
    exact ⟨by rw [HN.out]; rfl, 0, rfl⟩
end Go.Proofs.YtlameeijogdckaaGreat
