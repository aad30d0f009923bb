/-
  Texts of this claim, joined: Frac2, Q, Geo.
-/
import Derived.Test.YtdlnoeegboapkaaGreatDoorCJ
import Derived.Deep.CutRange
/- Package frac: contracts of the sum, the product, the difference. printed by a small program (mkfrac2.py). -/
namespace Go.Proofs.YtdlnoeegboapkaaGreatDoor
open Go.RowKit
set_option maxRecDepth 100000
set_option maxHeartbeats 40000000
set_option synthInstance.maxSize 100000
set_option synthInstance.maxHeartbeats 1000000

theorem mkRat_toNat {x y : Rat} {n1 n2 d1 d2 : Int} (e1 : x.num = n1) (e2 : (x.den : Int) = d1 + 1) (f1 : y.num = n2) (f2 : (y.den : Int) = d2 + 1) : mkRat (n1 * n2) ((d1 + 1) * (d2 + 1)).toNat = x * y := by
  rw [rat_mul_mk, e1, f1, ← e2, ← f2, ← Int.natCast_mul, Int.toNat_natCast]
theorem mkRat_toNat2 {x y : Rat} {n1 n2 d1 d2 : Int} (e1 : x.num = n1) (e2 : (x.den : Int) = d1 + 1) (f1 : y.num = n2) (f2 : (y.den : Int) = d2 + 1) : mkRat (n1 * (d2 + 1) + n2 * (d1 + 1)) ((d1 + 1) * (d2 + 1)).toNat = x + y := by
  rw [rat_add_mk, e1, f1, ← e2, ← f2, ← Int.natCast_mul, Int.toNat_natCast]
theorem rMulC {w : World} {n1 d1 n2 d2 : Int} {p1 p2 : Option Addr} {x y : Rat} {k1 k2 : Nat} [h1 : CF w (.agg #[.int .i64 n1, .int .i64 d1, .pointer p1]) x k1] [h2 : CF w (.agg #[.int .i64 n2, .int .i64 d2, .pointer p2]) y k2] (b : k1 ≤ 300000 ∧ k2 ≤ 300000) :
    Calls Tryz.prog 213 #[.agg #[.int .i64 n1, .int .i64 d1, .pointer p1], .agg #[.int .i64 n2, .int .i64 d2, .pointer p2]] w (CFRet w (x * y) (k1 + k2 + 2)) := by
  have HM := Lib.hid (rat_mul_mk x y)
  go_enter Tryz.func213, Tryz.ntmps213
  go_upto_region 1 with fail
  go_cut [16] from 9 to 16 (fun t wx => (∃ c : Bool, t = .bool c ∧ c = (p1.isNone && p2.isNone)) ∧ wx = ((w.alloc (.cells #[.int .i64 n1, .int .i64 d1, .pointer p1] 147)).alloc (.cells #[.int .i64 n2, .int .i64 d2, .pointer p2] 147)).alloc (.cells #[.int .i64 0, .int .i64 0, .pointer none] 147))
  case first =>
    cases p1 <;> cases p2 <;> (go_wp2; go_meet; exact ⟨⟨_, rfl, rfl⟩, rfl⟩)
  obtain ⟨⟨c, rfl, hc⟩, rfl⟩ := hcut
  have HC := Lib.hid hc
  clear hc
  go_upto_if 16 with fail
  go_cut [] from 17 to 41 (fun wx => wx = ((w.alloc (.cells #[.int .i64 n1, .int .i64 d1, .pointer p1] 147)).alloc (.cells #[.int .i64 n2, .int .i64 d2, .pointer p2] 147)).alloc (.cells #[.int .i64 0, .int .i64 0, .pointer none] 147))
  case first =>
    rcases CF.cases h1 with ⟨rfl, en1, ed1, bn1, bm1, bd1, be1, bk1⟩ | ⟨rfl, rfl, hq1, q1, G1, A1, L1, C1, AA1, LL1, CC1, rfl, hB1, hZ1, hN1⟩
    · rcases CF.cases h2 with ⟨rfl, en2, ed2, bn2, bm2, bd2, be2, bk2⟩ | ⟨rfl, rfl, hq2, q2, G2, A2, L2, C2, AA2, LL2, CC2, rfl, hB2, hZ2, hN2⟩
      · obtain rfl : c = true := HC.out
        have HE := Lib.hid (mkRat_toNat en1 ed1 en2 ed2)
        clear en1 ed1 en2 ed2
        by_cases hA : (n1 * n2).natAbs < 4611686018427387904
        · by_cases hB : ((d1 + 1) * (d2 + 1)).natAbs < 4611686018427387904
          · obtain ⟨t1, t2⟩ := tVal_ok hA
            obtain ⟨t3, t4⟩ := tVal_ok hB
            have hp : 0 < (d1 + 1) * (d2 + 1) := Int.mul_pos (by omega) (by omega)
            have hq : -4611686018427387904 < n1 * n2 ∧ n1 * n2 < 4611686018427387904 := by omega
            have hr : 0 < (d1 + 1) * (d2 + 1) ∧ (d1 + 1) * (d2 + 1) < 4611686018427387904 := by omega
            clear hA hB hp
            go_wp2_with (first
    | (go_at_call 208; (with_reducible refine Calls.cS (timesX (by omega) (by omega) (by omega) (by omega)) ?_); intros)
    | (go_at_call 209; (with_reducible refine Calls.cF (lowestC ⟨hq.1, hq.2, hr.1, hr.2⟩) ?_); intros))
            refine ret_bx rfl Tryz.underlying147 rfl (by kernel_rfl) rfl rfl rfl ?_
            exact CFRet.fin HE.out (by omega)
          · obtain ⟨t1, t2⟩ := tVal_ok hA
            obtain ⟨t3, t4⟩ := tVal_no hB
            clear hA hB
            go_wp2_with (first
    | (go_at_call 208; (with_reducible refine Calls.cS (timesX (by omega) (by omega) (by omega) (by omega)) ?_); intros))
            go_meet
            rfl
        · obtain ⟨t1, t2⟩ := tVal_no hA
          clear hA
          go_wp2_with (first
    | (go_at_call 208; (with_reducible refine Calls.cS (timesX (by omega) (by omega) (by omega) (by omega)) ?_); intros))
          go_meet
          rfl
      · obtain rfl : c = false := HC.out
        go_wp2
        go_meet
        rfl
    · obtain rfl : c = false := HC.out
      go_wp2
      go_meet
      rfl
  case rest =>
    obtain rfl := hcut
    go_wp2_with fail
    refine rgn [w.heap.size + 1 + 1] [] fun hHeld => ?_
    refine tk 0 hHeld ?_
    refine tk 2 hHeld ?_
    refine tk 5 hHeld ?_
    refine tk 7 hHeld ?_
    refine st 1 fun K hK => ?_
    go_simp
    (with_reducible refine Calls.cZ (rNumC (by omega)) ?_); intros
    refine hd hK ?_
    clear hHeld hK K
    intro hHeld
    refine st 3 fun K hK => ?_
    go_simp
    (with_reducible refine Calls.cZ (rNumC (by omega)) ?_); intros
    refine hd hK ?_
    clear hHeld hK K
    intro hHeld
    refine st 4 fun K hK => ?_
    go_simp
    (with_reducible refine Calls.cZ (intMulC (by omega)) ?_); intros
    refine hd hK ?_
    clear hHeld hK K
    intro hHeld
    refine st 6 fun K hK => ?_
    go_simp
    (with_reducible refine Calls.cN (rDenC (by omega)) ?_); intros
    refine hd hK ?_
    clear hHeld hK K
    intro hHeld
    refine st 8 fun K hK => ?_
    go_simp
    (with_reducible refine Calls.cN (rDenC (by omega)) ?_); intros
    refine hd hK ?_
    clear hHeld hK K
    intro hHeld
    refine st 9 fun K hK => ?_
    go_simp
    (with_reducible refine Calls.cN (mulC (by omega)) ?_); intros
    refine hd hK ?_
    clear hHeld hK K
    intro hHeld
    refine st 10 fun K hK => ?_
    go_simp
    (with_reducible refine Calls.cF (reduceC (by omega)) ?_); intros
    refine hd hK ?_
    clear hHeld hK K
    intro hHeld
    refine st 11 fun K hK => ?_
    go_simp
    refine hd hK ?_
    clear hHeld hK K
    intro hHeld
    refine dn ?_
    clear hHeld
    go_wp2
    refine ret_bx rfl Tryz.underlying147 rfl (by kernel_rfl) rfl rfl rfl ?_
    exact CFRet.fin HM.out.symm (by omega)

theorem rAddC {w : World} {n1 d1 n2 d2 : Int} {p1 p2 : Option Addr} {x y : Rat} {k1 k2 : Nat} [h1 : CF w (.agg #[.int .i64 n1, .int .i64 d1, .pointer p1]) x k1] [h2 : CF w (.agg #[.int .i64 n2, .int .i64 d2, .pointer p2]) y k2] (b : k1 ≤ 300000 ∧ k2 ≤ 300000) :
    Calls Tryz.prog 152 #[.agg #[.int .i64 n1, .int .i64 d1, .pointer p1], .agg #[.int .i64 n2, .int .i64 d2, .pointer p2]] w (CFRet w (x + y) (k1 + k2 + 3)) := by
  have HM := Lib.hid (rat_add_mk x y)
  go_enter Tryz.func152, Tryz.ntmps152
  go_upto_region 1 with fail
  go_cut [20] from 13 to 20 (fun t wx => (∃ c : Bool, t = .bool c ∧ c = (p1.isNone && p2.isNone)) ∧ wx = ((w.alloc (.cells #[.int .i64 n1, .int .i64 d1, .pointer p1] 147)).alloc (.cells #[.int .i64 n2, .int .i64 d2, .pointer p2] 147)).alloc (.cells #[.int .i64 0, .int .i64 0, .pointer none] 147))
  case first =>
    cases p1 <;> cases p2 <;> (go_wp2; go_meet; exact ⟨⟨_, rfl, rfl⟩, rfl⟩)
  obtain ⟨⟨c, rfl, hc⟩, rfl⟩ := hcut
  have HC := Lib.hid hc
  clear hc
  go_upto_if 20 with fail
  go_cut [] from 21 to 83 (fun wx => wx = ((w.alloc (.cells #[.int .i64 n1, .int .i64 d1, .pointer p1] 147)).alloc (.cells #[.int .i64 n2, .int .i64 d2, .pointer p2] 147)).alloc (.cells #[.int .i64 0, .int .i64 0, .pointer none] 147))
  case first =>
    rcases CF.cases h1 with ⟨rfl, en1, ed1, bn1, bm1, bd1, be1, bk1⟩ | ⟨rfl, rfl, hq1, q1, G1, A1, L1, C1, AA1, LL1, CC1, rfl, hB1, hZ1, hN1⟩
    · rcases CF.cases h2 with ⟨rfl, en2, ed2, bn2, bm2, bd2, be2, bk2⟩ | ⟨rfl, rfl, hq2, q2, G2, A2, L2, C2, AA2, LL2, CC2, rfl, hB2, hZ2, hN2⟩
      · obtain rfl : c = true := HC.out
        by_cases hd1 : d1 = 0
        · have q1 : (d1 == 0) = true := by rw [hd1]; rfl
          by_cases hd2 : d2 = 0
          · have q2 : (d2 == 0) = true := by rw [hd2]; rfl
            have HE : Hid (((n1 + n2 : Int) : Rat) = x + y) := by show _ = _; rw [rat_add1 (x := x) (y := y) (by omega) (by omega), en1, en2]
            clear en1 ed1 en2 ed2 hd1 hd2
            have b1 : -9223372036854775808 ≤ n1 + n2 := by omega
            have b2 : n1 + n2 < 9223372036854775808 := by omega
            go_wp2_with (first
    | (go_at_call 121; (with_reducible refine Calls.cF (fracIntC ⟨b1, b2⟩) ?_); intros))
            refine ret_bx rfl Tryz.underlying147 rfl (by kernel_rfl) rfl rfl rfl ?_
            exact CFRet.fin HE.out (by omega)
          · have q2 : (d2 == 0) = false := by rw [beq_eq_false_iff_ne]; exact hd2
            clear hd1 hd2
            have HE := Lib.hid (mkRat_toNat2 en1 ed1 en2 ed2)
            clear en1 ed1 en2 ed2
            by_cases hA : (n1 * (d2 + 1)).natAbs < 4611686018427387904
            · by_cases hB : (n2 * (d1 + 1)).natAbs < 4611686018427387904
              · obtain ⟨t1, t2⟩ := tVal_ok hA
                obtain ⟨t3, t4⟩ := tVal_ok hB
                by_cases hC : ((d1 + 1) * (d2 + 1)).natAbs < 4611686018427387904
                · obtain ⟨t5, t6⟩ := tVal_ok hC
                  have hp : 0 < (d1 + 1) * (d2 + 1) := Int.mul_pos (by omega) (by omega)
                  have hr : 0 < (d1 + 1) * (d2 + 1) ∧ (d1 + 1) * (d2 + 1) < 4611686018427387904 := by omega
                  have hA1 : -4611686018427387904 < n1 * (d2 + 1) ∧ n1 * (d2 + 1) < 4611686018427387904 := by omega
                  have hB1 : -4611686018427387904 < n2 * (d1 + 1) ∧ n2 * (d1 + 1) < 4611686018427387904 := by omega
                  obtain ⟨hA1, hA2⟩ := hA1
                  obtain ⟨hB1, hB2⟩ := hB1
                  clear hA hB hC hp
                  generalize n1 * (d2 + 1) = P at *
                  generalize n2 * (d1 + 1) = Q at *
                  generalize (d1 + 1) * (d2 + 1) = D at *
                  by_cases hS : -4611686018427387904 < P + Q
                  · by_cases hS2 : P + Q < 4611686018427387904
                    · go_wp2_with (first
    | (go_at_call 208; (with_reducible refine Calls.cS (timesX (by omega) (by omega) (by omega) (by omega)) ?_); intros)
    | (go_at_call 209; (with_reducible refine Calls.cF (lowestC ⟨hS, hS2, hr.1, hr.2⟩) ?_); intros))
                      refine ret_bx rfl Tryz.underlying147 rfl (by kernel_rfl) rfl rfl rfl ?_
                      exact CFRet.fin HE.out (by omega)
                    · have hS3 : 4611686018427387904 ≤ P + Q := by omega
                      clear hS2
                      go_wp2_with (first
    | (go_at_call 208; (with_reducible refine Calls.cS (timesX (by omega) (by omega) (by omega) (by omega)) ?_); intros))
                      go_meet
                      rfl
                  · have hS3 : P + Q ≤ -4611686018427387904 := by omega
                    clear hS
                    go_wp2_with (first
    | (go_at_call 208; (with_reducible refine Calls.cS (timesX (by omega) (by omega) (by omega) (by omega)) ?_); intros))
                    go_meet
                    rfl
                · obtain ⟨t5, t6⟩ := tVal_no hC
                  clear hC
                  have hA1 : -4611686018427387904 < n1 * (d2 + 1) ∧ n1 * (d2 + 1) < 4611686018427387904 := by omega
                  have hB1 : -4611686018427387904 < n2 * (d1 + 1) ∧ n2 * (d1 + 1) < 4611686018427387904 := by omega
                  obtain ⟨hA1, hA2⟩ := hA1
                  obtain ⟨hB1, hB2⟩ := hB1
                  clear hA hB
                  go_wp2_with (first
    | (go_at_call 208; (with_reducible refine Calls.cS (timesX (by omega) (by omega) (by omega) (by omega)) ?_); intros))
                  go_meet
                  rfl
              · obtain ⟨t1, t2⟩ := tVal_ok hA
                obtain ⟨t3, t4⟩ := tVal_no hB
                have hA1 : -4611686018427387904 < n1 * (d2 + 1) ∧ n1 * (d2 + 1) < 4611686018427387904 := by omega
                obtain ⟨hA1, hA2⟩ := hA1
                clear hA hB
                go_wp2_with (first
    | (go_at_call 208; (with_reducible refine Calls.cS (timesX (by omega) (by omega) (by omega) (by omega)) ?_); intros))
                go_meet
                rfl
            · obtain ⟨t1, t2⟩ := tVal_no hA
              clear hA
              by_cases hB : (n2 * (d1 + 1)).natAbs < 4611686018427387904
              · obtain ⟨t3, t4⟩ := tVal_ok hB
                have hB1 : -4611686018427387904 < n2 * (d1 + 1) ∧ n2 * (d1 + 1) < 4611686018427387904 := by omega
                obtain ⟨hB1, hB2⟩ := hB1
                clear hB
                go_wp2_with (first
    | (go_at_call 208; (with_reducible refine Calls.cS (timesX (by omega) (by omega) (by omega) (by omega)) ?_); intros))
                go_meet
                rfl
              · obtain ⟨t3, t4⟩ := tVal_no hB
                clear hB
                go_wp2_with (first
    | (go_at_call 208; (with_reducible refine Calls.cS (timesX (by omega) (by omega) (by omega) (by omega)) ?_); intros))
                go_meet
                rfl
        · have q1 : (d1 == 0) = false := by rw [beq_eq_false_iff_ne]; exact hd1
          clear hd1
          have HE := Lib.hid (mkRat_toNat2 en1 ed1 en2 ed2)
          clear en1 ed1 en2 ed2
          by_cases hA : (n1 * (d2 + 1)).natAbs < 4611686018427387904
          · by_cases hB : (n2 * (d1 + 1)).natAbs < 4611686018427387904
            · obtain ⟨t1, t2⟩ := tVal_ok hA
              obtain ⟨t3, t4⟩ := tVal_ok hB
              by_cases hC : ((d1 + 1) * (d2 + 1)).natAbs < 4611686018427387904
              · obtain ⟨t5, t6⟩ := tVal_ok hC
                have hp : 0 < (d1 + 1) * (d2 + 1) := Int.mul_pos (by omega) (by omega)
                have hr : 0 < (d1 + 1) * (d2 + 1) ∧ (d1 + 1) * (d2 + 1) < 4611686018427387904 := by omega
                have hA1 : -4611686018427387904 < n1 * (d2 + 1) ∧ n1 * (d2 + 1) < 4611686018427387904 := by omega
                have hB1 : -4611686018427387904 < n2 * (d1 + 1) ∧ n2 * (d1 + 1) < 4611686018427387904 := by omega
                obtain ⟨hA1, hA2⟩ := hA1
                obtain ⟨hB1, hB2⟩ := hB1
                clear hA hB hC hp
                generalize n1 * (d2 + 1) = P at *
                generalize n2 * (d1 + 1) = Q at *
                generalize (d1 + 1) * (d2 + 1) = D at *
                by_cases hS : -4611686018427387904 < P + Q
                · by_cases hS2 : P + Q < 4611686018427387904
                  · go_wp2_with (first
    | (go_at_call 208; (with_reducible refine Calls.cS (timesX (by omega) (by omega) (by omega) (by omega)) ?_); intros)
    | (go_at_call 209; (with_reducible refine Calls.cF (lowestC ⟨hS, hS2, hr.1, hr.2⟩) ?_); intros))
                    refine ret_bx rfl Tryz.underlying147 rfl (by kernel_rfl) rfl rfl rfl ?_
                    exact CFRet.fin HE.out (by omega)
                  · have hS3 : 4611686018427387904 ≤ P + Q := by omega
                    clear hS2
                    go_wp2_with (first
    | (go_at_call 208; (with_reducible refine Calls.cS (timesX (by omega) (by omega) (by omega) (by omega)) ?_); intros))
                    go_meet
                    rfl
                · have hS3 : P + Q ≤ -4611686018427387904 := by omega
                  clear hS
                  go_wp2_with (first
    | (go_at_call 208; (with_reducible refine Calls.cS (timesX (by omega) (by omega) (by omega) (by omega)) ?_); intros))
                  go_meet
                  rfl
              · obtain ⟨t5, t6⟩ := tVal_no hC
                clear hC
                have hA1 : -4611686018427387904 < n1 * (d2 + 1) ∧ n1 * (d2 + 1) < 4611686018427387904 := by omega
                have hB1 : -4611686018427387904 < n2 * (d1 + 1) ∧ n2 * (d1 + 1) < 4611686018427387904 := by omega
                obtain ⟨hA1, hA2⟩ := hA1
                obtain ⟨hB1, hB2⟩ := hB1
                clear hA hB
                go_wp2_with (first
    | (go_at_call 208; (with_reducible refine Calls.cS (timesX (by omega) (by omega) (by omega) (by omega)) ?_); intros))
                go_meet
                rfl
            · obtain ⟨t1, t2⟩ := tVal_ok hA
              obtain ⟨t3, t4⟩ := tVal_no hB
              have hA1 : -4611686018427387904 < n1 * (d2 + 1) ∧ n1 * (d2 + 1) < 4611686018427387904 := by omega
              obtain ⟨hA1, hA2⟩ := hA1
              clear hA hB
              go_wp2_with (first
    | (go_at_call 208; (with_reducible refine Calls.cS (timesX (by omega) (by omega) (by omega) (by omega)) ?_); intros))
              go_meet
              rfl
          · obtain ⟨t1, t2⟩ := tVal_no hA
            clear hA
            by_cases hB : (n2 * (d1 + 1)).natAbs < 4611686018427387904
            · obtain ⟨t3, t4⟩ := tVal_ok hB
              have hB1 : -4611686018427387904 < n2 * (d1 + 1) ∧ n2 * (d1 + 1) < 4611686018427387904 := by omega
              obtain ⟨hB1, hB2⟩ := hB1
              clear hB
              go_wp2_with (first
    | (go_at_call 208; (with_reducible refine Calls.cS (timesX (by omega) (by omega) (by omega) (by omega)) ?_); intros))
              go_meet
              rfl
            · obtain ⟨t3, t4⟩ := tVal_no hB
              clear hB
              go_wp2_with (first
    | (go_at_call 208; (with_reducible refine Calls.cS (timesX (by omega) (by omega) (by omega) (by omega)) ?_); intros))
              go_meet
              rfl
      · obtain rfl : c = false := HC.out
        go_wp2
        go_meet
        rfl
    · obtain rfl : c = false := HC.out
      go_wp2
      go_meet
      rfl
  case rest =>
    obtain rfl := hcut
    go_upto_region 10 with fail
    go_cut [12] from 84 to 96 (fun t wx => ∃ (b : Nat) (g : Bool) (a : Option Addr) (l c : Nat), t = .pointer (some ⟨b, 0, none⟩) ∧ Bx wx b 27 [.bool g, .slice a l c] ∧ CZ wx (.agg #[.bool g, .slice a l c]) (x.num * (y.den : Int) + y.num * (x.den : Int)) (k1 + k2 + 1) ∧ Kp (((w.alloc (.cells #[.int .i64 n1, .int .i64 d1, .pointer p1] 147)).alloc (.cells #[.int .i64 n2, .int .i64 d2, .pointer p2] 147)).alloc (.cells #[.int .i64 0, .int .i64 0, .pointer none] 147)) wx ∧ LtN (w.heap.size + 1 + 1) b)
    case first =>
      refine rgn [w.heap.size + 1 + 1] [] fun hHeld => ?_
      refine tk 0 hHeld ?_
      refine tk 2 hHeld ?_
      refine tk 6 hHeld ?_
      refine tk 8 hHeld ?_
      refine wpAnyT_ready (rs := [1, 13]) (by kernel_rfl) (by simp) ?_
      refine AllT.cons (by simp; rfl) (fun K hK => ?_) (AllT.cons (by simp; rfl) (fun K hK => ?_) AllT.nil)
      go_simp
      (with_reducible refine Calls.cZ (rNumC (by omega)) ?_); intros
      refine hd hK ?_
      clear hHeld hK K
      intro hHeld
      refine wpAnyT_ready (rs := [3, 13]) (by kernel_rfl) (by simp) ?_
      refine AllT.cons (by simp; rfl) (fun K hK => ?_) (AllT.cons (by simp; rfl) (fun K hK => ?_) AllT.nil)
      go_simp
      (with_reducible refine Calls.cN (rDenC (by omega)) ?_); intros
      refine hd hK ?_
      clear hHeld hK K
      intro hHeld
      refine tk 4 hHeld ?_
      refine wpAnyT_ready (rs := [5, 13]) (by kernel_rfl) (by simp) ?_
      refine AllT.cons (by simp; rfl) (fun K hK => ?_) (AllT.cons (by simp; rfl) (fun K hK => ?_) AllT.nil)
      go_simp
      (with_reducible refine Calls.cZ (intMulC (by omega)) ?_); intros
      refine hd hK ?_
      clear hHeld hK K
      intro hHeld
      refine wpAnyT_ready (rs := [7, 13]) (by kernel_rfl) (by simp) ?_
      refine AllT.cons (by simp; rfl) (fun K hK => ?_) (AllT.cons (by simp; rfl) (fun K hK => ?_) AllT.nil)
      go_simp
      (with_reducible refine Calls.cZ (rNumC (by omega)) ?_); intros
      refine hd hK ?_
      clear hHeld hK K
      intro hHeld
      refine wpAnyT_ready (rs := [9, 13]) (by kernel_rfl) (by simp) ?_
      refine AllT.cons (by simp; rfl) (fun K hK => ?_) (AllT.cons (by simp; rfl) (fun K hK => ?_) AllT.nil)
      go_simp
      (with_reducible refine Calls.cN (rDenC (by omega)) ?_); intros
      refine hd hK ?_
      clear hHeld hK K
      intro hHeld
      refine tk 10 hHeld ?_
      refine wpAnyT_ready (rs := [11, 13]) (by kernel_rfl) (by simp) ?_
      refine AllT.cons (by simp; rfl) (fun K hK => ?_) (AllT.cons (by simp; rfl) (fun K hK => ?_) AllT.nil)
      go_simp
      (with_reducible refine Calls.cZ (intMulC (by omega)) ?_); intros
      refine hd hK ?_
      clear hHeld hK K
      intro hHeld
      refine wpAnyT_ready (rs := [12, 13]) (by kernel_rfl) (by simp) ?_
      refine AllT.cons (by simp; rfl) (fun K hK => ?_) (AllT.cons (by simp; rfl) (fun K hK => ?_) AllT.nil)
      go_simp
      (with_reducible refine Calls.cZ (intAddC (by omega)) ?_); intros
      refine hd hK ?_
      clear hHeld hK K
      intro hHeld
      refine st 13 fun K hK => ?_
      go_simp
      refine hd hK ?_
      clear hHeld hK K
      intro hHeld
      refine st 14 fun K hK => ?_
      go_simp
      refine hd hK ?_
      clear hHeld hK K
      intro hHeld
      refine dn ?_
      clear hHeld
      go_wp2_with fail
      go_meet
      exact ⟨_, _, _, _, _, rfl, inferInstance, CZ.cast inferInstance rfl (by omega), inferInstance, inferInstance⟩
      go_simp
      refine hd hK ?_
      clear hHeld hK K
      intro hHeld
      refine st 12 fun K hK => ?_
      go_simp
      (with_reducible refine Calls.cZ (intAddC (by omega)) ?_); intros
      refine hd hK ?_
      clear hHeld hK K
      intro hHeld
      refine st 14 fun K hK => ?_
      go_simp
      refine hd hK ?_
      clear hHeld hK K
      intro hHeld
      refine dn ?_
      clear hHeld
      go_wp2_with fail
      go_meet
      exact ⟨_, _, _, _, _, rfl, inferInstance, CZ.cast inferInstance rfl (by omega), inferInstance, inferInstance⟩
      go_simp
      refine hd hK ?_
      clear hHeld hK K
      intro hHeld
      refine st 11 fun K hK => ?_
      go_simp
      (with_reducible refine Calls.cZ (intMulC (by omega)) ?_); intros
      refine hd hK ?_
      clear hHeld hK K
      intro hHeld
      refine st 12 fun K hK => ?_
      go_simp
      (with_reducible refine Calls.cZ (intAddC (by omega)) ?_); intros
      refine hd hK ?_
      clear hHeld hK K
      intro hHeld
      refine st 14 fun K hK => ?_
      go_simp
      refine hd hK ?_
      clear hHeld hK K
      intro hHeld
      refine dn ?_
      clear hHeld
      go_wp2_with fail
      go_meet
      exact ⟨_, _, _, _, _, rfl, inferInstance, CZ.cast inferInstance rfl (by omega), inferInstance, inferInstance⟩
      go_simp
      refine hd hK ?_
      clear hHeld hK K
      intro hHeld
      refine st 9 fun K hK => ?_
      go_simp
      (with_reducible refine Calls.cN (rDenC (by omega)) ?_); intros
      refine hd hK ?_
      clear hHeld hK K
      intro hHeld
      refine tk 10 hHeld ?_
      refine st 11 fun K hK => ?_
      go_simp
      (with_reducible refine Calls.cZ (intMulC (by omega)) ?_); intros
      refine hd hK ?_
      clear hHeld hK K
      intro hHeld
      refine st 12 fun K hK => ?_
      go_simp
      (with_reducible refine Calls.cZ (intAddC (by omega)) ?_); intros
      refine hd hK ?_
      clear hHeld hK K
      intro hHeld
      refine st 14 fun K hK => ?_
      go_simp
      refine hd hK ?_
      clear hHeld hK K
      intro hHeld
      refine dn ?_
      clear hHeld
      go_wp2_with fail
      go_meet
      exact ⟨_, _, _, _, _, rfl, inferInstance, CZ.cast inferInstance rfl (by omega), inferInstance, inferInstance⟩
      go_simp
      refine hd hK ?_
      clear hHeld hK K
      intro hHeld
      refine st 7 fun K hK => ?_
      go_simp
      (with_reducible refine Calls.cZ (rNumC (by omega)) ?_); intros
      refine hd hK ?_
      clear hHeld hK K
      intro hHeld
      refine st 9 fun K hK => ?_
      go_simp
      (with_reducible refine Calls.cN (rDenC (by omega)) ?_); intros
      refine hd hK ?_
      clear hHeld hK K
      intro hHeld
      refine tk 10 hHeld ?_
      refine st 11 fun K hK => ?_
      go_simp
      (with_reducible refine Calls.cZ (intMulC (by omega)) ?_); intros
      refine hd hK ?_
      clear hHeld hK K
      intro hHeld
      refine st 12 fun K hK => ?_
      go_simp
      (with_reducible refine Calls.cZ (intAddC (by omega)) ?_); intros
      refine hd hK ?_
      clear hHeld hK K
      intro hHeld
      refine st 14 fun K hK => ?_
      go_simp
      refine hd hK ?_
      clear hHeld hK K
      intro hHeld
      refine dn ?_
      clear hHeld
      go_wp2_with fail
      go_meet
      exact ⟨_, _, _, _, _, rfl, inferInstance, CZ.cast inferInstance rfl (by omega), inferInstance, inferInstance⟩
      go_simp
      refine hd hK ?_
      clear hHeld hK K
      intro hHeld
      refine st 5 fun K hK => ?_
      go_simp
      (with_reducible refine Calls.cZ (intMulC (by omega)) ?_); intros
      refine hd hK ?_
      clear hHeld hK K
      intro hHeld
      refine st 7 fun K hK => ?_
      go_simp
      (with_reducible refine Calls.cZ (rNumC (by omega)) ?_); intros
      refine hd hK ?_
      clear hHeld hK K
      intro hHeld
      refine st 9 fun K hK => ?_
      go_simp
      (with_reducible refine Calls.cN (rDenC (by omega)) ?_); intros
      refine hd hK ?_
      clear hHeld hK K
      intro hHeld
      refine tk 10 hHeld ?_
      refine st 11 fun K hK => ?_
      go_simp
      (with_reducible refine Calls.cZ (intMulC (by omega)) ?_); intros
      refine hd hK ?_
      clear hHeld hK K
      intro hHeld
      refine st 12 fun K hK => ?_
      go_simp
      (with_reducible refine Calls.cZ (intAddC (by omega)) ?_); intros
      refine hd hK ?_
      clear hHeld hK K
      intro hHeld
      refine st 14 fun K hK => ?_
      go_simp
      refine hd hK ?_
      clear hHeld hK K
      intro hHeld
      refine dn ?_
      clear hHeld
      go_wp2_with fail
      go_meet
      exact ⟨_, _, _, _, _, rfl, inferInstance, CZ.cast inferInstance rfl (by omega), inferInstance, inferInstance⟩
      go_simp
      refine hd hK ?_
      clear hHeld hK K
      intro hHeld
      refine st 3 fun K hK => ?_
      go_simp
      (with_reducible refine Calls.cN (rDenC (by omega)) ?_); intros
      refine hd hK ?_
      clear hHeld hK K
      intro hHeld
      refine tk 4 hHeld ?_
      refine st 5 fun K hK => ?_
      go_simp
      (with_reducible refine Calls.cZ (intMulC (by omega)) ?_); intros
      refine hd hK ?_
      clear hHeld hK K
      intro hHeld
      refine st 7 fun K hK => ?_
      go_simp
      (with_reducible refine Calls.cZ (rNumC (by omega)) ?_); intros
      refine hd hK ?_
      clear hHeld hK K
      intro hHeld
      refine st 9 fun K hK => ?_
      go_simp
      (with_reducible refine Calls.cN (rDenC (by omega)) ?_); intros
      refine hd hK ?_
      clear hHeld hK K
      intro hHeld
      refine tk 10 hHeld ?_
      refine st 11 fun K hK => ?_
      go_simp
      (with_reducible refine Calls.cZ (intMulC (by omega)) ?_); intros
      refine hd hK ?_
      clear hHeld hK K
      intro hHeld
      refine st 12 fun K hK => ?_
      go_simp
      (with_reducible refine Calls.cZ (intAddC (by omega)) ?_); intros
      refine hd hK ?_
      clear hHeld hK K
      intro hHeld
      refine st 14 fun K hK => ?_
      go_simp
      refine hd hK ?_
      clear hHeld hK K
      intro hHeld
      refine dn ?_
      clear hHeld
      go_wp2_with fail
      go_meet
      exact ⟨_, _, _, _, _, rfl, inferInstance, CZ.cast inferInstance rfl (by omega), inferInstance, inferInstance⟩
      go_simp
      refine hd hK ?_
      clear hHeld hK K
      intro hHeld
      refine st 1 fun K hK => ?_
      go_simp
      (with_reducible refine Calls.cZ (rNumC (by omega)) ?_); intros
      refine hd hK ?_
      clear hHeld hK K
      intro hHeld
      refine st 3 fun K hK => ?_
      go_simp
      (with_reducible refine Calls.cN (rDenC (by omega)) ?_); intros
      refine hd hK ?_
      clear hHeld hK K
      intro hHeld
      refine tk 4 hHeld ?_
      refine st 5 fun K hK => ?_
      go_simp
      (with_reducible refine Calls.cZ (intMulC (by omega)) ?_); intros
      refine hd hK ?_
      clear hHeld hK K
      intro hHeld
      refine st 7 fun K hK => ?_
      go_simp
      (with_reducible refine Calls.cZ (rNumC (by omega)) ?_); intros
      refine hd hK ?_
      clear hHeld hK K
      intro hHeld
      refine st 9 fun K hK => ?_
      go_simp
      (with_reducible refine Calls.cN (rDenC (by omega)) ?_); intros
      refine hd hK ?_
      clear hHeld hK K
      intro hHeld
      refine tk 10 hHeld ?_
      refine st 11 fun K hK => ?_
      go_simp
      (with_reducible refine Calls.cZ (intMulC (by omega)) ?_); intros
      refine hd hK ?_
      clear hHeld hK K
      intro hHeld
      refine st 12 fun K hK => ?_
      go_simp
      (with_reducible refine Calls.cZ (intAddC (by omega)) ?_); intros
      refine hd hK ?_
      clear hHeld hK K
      intro hHeld
      refine st 14 fun K hK => ?_
      go_simp
      refine hd hK ?_
      clear hHeld hK K
      intro hHeld
      refine dn ?_
      clear hHeld
      go_wp2_with fail
      go_meet
      exact ⟨_, _, _, _, _, rfl, inferInstance, CZ.cast inferInstance rfl (by omega), inferInstance, inferInstance⟩
    case rest =>
      obtain ⟨b12, g12, a12, l12, c12, rfl, i1, i2, ⟨i3⟩, i4⟩ := hcut
      have i3 := Kp1.mk i3
      go_wp2_with fail
      refine rgn [w.heap.size + 1 + 1] [] fun hHeld => ?_
      refine tk 0 hHeld ?_
      refine tk 1 hHeld ?_
      refine tk 3 hHeld ?_
      refine st 2 fun K hK => ?_
      go_simp
      (with_reducible refine Calls.cN (rDenC (by omega)) ?_); intros
      refine hd hK ?_
      clear hHeld hK K
      intro hHeld
      refine st 4 fun K hK => ?_
      go_simp
      (with_reducible refine Calls.cN (rDenC (by omega)) ?_); intros
      refine hd hK ?_
      clear hHeld hK K
      intro hHeld
      refine st 5 fun K hK => ?_
      go_simp
      (with_reducible refine Calls.cN (mulC (by omega)) ?_); intros
      refine hd hK ?_
      clear hHeld hK K
      intro hHeld
      refine st 6 fun K hK => ?_
      go_simp
      (with_reducible refine Calls.cF (reduceC (by omega)) ?_); intros
      refine hd hK ?_
      clear hHeld hK K
      intro hHeld
      refine st 7 fun K hK => ?_
      go_simp
      refine hd hK ?_
      clear hHeld hK K
      intro hHeld
      refine dn ?_
      clear hHeld
      go_wp2
      refine ret_bx rfl Tryz.underlying147 rfl (by kernel_rfl) rfl rfl rfl ?_
      exact CFRet.fin HM.out.symm (by omega)

theorem rSubC {w : World} {n1 d1 n2 d2 : Int} {p1 p2 : Option Addr} {x y : Rat} {k1 k2 : Nat} [h1 : CF w (.agg #[.int .i64 n1, .int .i64 d1, .pointer p1]) x k1] [h2 : CF w (.agg #[.int .i64 n2, .int .i64 d2, .pointer p2]) y k2] (b : k1 ≤ 300000 ∧ k2 ≤ 300000) :
    Calls Tryz.prog 214 #[.agg #[.int .i64 n1, .int .i64 d1, .pointer p1], .agg #[.int .i64 n2, .int .i64 d2, .pointer p2]] w (CFRet w (x - y) (k1 + k2 + 3)) := by
  have HE := Lib.hid (Rat.sub_eq_add_neg x y)
  go_enter Tryz.func214, Tryz.ntmps214
  go_wp2_with fail
  refine rgn [w.heap.size + 1 + 1] [] fun hHeld => ?_
  refine tk 0 hHeld ?_
  refine tk 1 hHeld ?_
  refine st 2 fun K hK => ?_
  go_simp
  (with_reducible refine Calls.cF (rNegC (by omega)) ?_); intros
  refine hd hK ?_
  clear hHeld hK K
  intro hHeld
  refine st 3 fun K hK => ?_
  go_simp
  (with_reducible refine Calls.cF (rAddC (by omega)) ?_); intros
  refine hd hK ?_
  clear hHeld hK K
  intro hHeld
  refine st 4 fun K hK => ?_
  go_simp
  refine hd hK ?_
  clear hHeld hK K
  intro hHeld
  refine dn ?_
  clear hHeld
  go_wp2
  refine ret_bx rfl Tryz.underlying147 rfl (by kernel_rfl) rfl rfl rfl ?_
  exact CFRet.fin HE.out.symm (by omega)

end Go.Proofs.YtdlnoeegboapkaaGreatDoor

/- The reference's rational numbers, and those that are read off the tape. printed by a small program (mkq.py). -/
namespace Go.Proofs.YtdlnoeegboapkaaGreatDoor
open Go.RowKit
set_option maxRecDepth 100000
set_option maxHeartbeats 40000000
set_option synthInstance.maxSize 100000
set_option synthInstance.maxHeartbeats 1000000

theorem cmpN_ne {m n : Nat} (h : m ≠ n) : (cmpN m n == 0) = false ∧ (cmpN m n != 0) = true := by
  have : cmpN m n ≠ 0 := by
    rcases Nat.lt_or_gt_of_ne h with h' | h'
    · rw [cmpN_lt h']; decide
    · rw [cmpN_gt h']; decide
  exact ⟨by simpa using this, by simpa using this⟩
theorem sgn_div {g : Bool} {z : Int} {G : Nat} (hg : g = decide (z < 0)) (h : G ∣ z.natAbs) : sgn g (z.natAbs / G) = z / (G : Int) := by
  subst hg
  obtain ⟨k, hk⟩ := h
  rcases Nat.eq_zero_or_pos G with h0 | h0
  · subst h0; simp [sgn]
  · have hG : (G : Int) ≠ 0 := by omega
    rw [hk, Nat.mul_div_cancel_left _ h0]
    by_cases hz : z < 0
    · rw [show z = (G : Int) * (-(k : Int)) by rw [Int.mul_neg, ← Int.natCast_mul, ← hk]; omega, Int.mul_ediv_cancel_left _ hG]
      have hz' : (G : Int) * (-(k : Int)) < 0 := by rw [Int.mul_neg, ← Int.natCast_mul, ← hk]; omega
      simp only [hz', decide_true, sgn_true]
    · have e : z = (G : Int) * (k : Int) := by rw [← Int.natCast_mul, ← hk]; omega
      have hz' : ¬ (G : Int) * (k : Int) < 0 := by rw [← e]; exact hz
      rw [e, Int.mul_ediv_cancel_left _ hG]
      simp only [hz', decide_false, sgn_false]
theorem numFracC {w : World} {g1 : Bool} {a1 : Option Addr} {l1 c1 : Nat} {a2 : Option Addr} {l2 c2 : Nat} {z : Int} {m k1 k2 : Nat} [h1 : CZ w (.agg #[.bool g1, .slice a1 l1 c1]) z k1] [h2 : CN w (.slice a2 l2 c2) m k2] (b : k1 ≤ 100000 ∧ k2 ≤ 100000) (hm : m ≠ 0) :
    Calls Tryz.prog 75 #[.agg #[.bool g1, .slice a1 l1 c1], .slice a2 l2 c2] w (CQRet w (mkRat z m) (max k1 k2 + 2)) := by
  have hg := Lib.hid (zz_of h1).1
  have i1 : CN w (.slice a1 l1 c1) z.natAbs k1 := ⟨(zz_of h1).2⟩
  have hg0 : Nat.gcd z.natAbs m ≠ 0 := Nat.ne_of_gt (Nat.gcd_pos_of_pos_right _ (Nat.pos_of_ne_zero hm))
  have HQ := Lib.hid (And.intro (mk_num z hm) (mk_den z hm))
  by_cases hG : Nat.gcd z.natAbs m = 1
  · rw [hG] at HQ
    have HN := Lib.hid (show z = (mkRat z m).num by rw [HQ.out.1]; simp)
    rw [Nat.div_one] at HQ
    have e0 : cmpN (Nat.gcd z.natAbs m) 1 = 0 := cmpN_eq hG
    clear hG hm
    by_cases hD : m = 1
    · have HE := Lib.hid (show 0 = (if (mkRat z m).den = 1 then 0 else (mkRat z m).den) by rw [HQ.out.2]; rw [if_pos hD])
      have e2 : cmpN (m) 1 = 0 := cmpN_eq hD
      clear hD
      go_enter Tryz.func75, Tryz.ntmps75
      go_wp2_with (first
          | (go_at_call 138; (with_reducible refine Calls.cN (commonC (by omega)) ?_); intros)
          | (go_at_call 73; (with_reducible refine Calls.cN (oneC) ?_); intros)
          | (go_at_call 139; (with_reducible refine Calls.cE (numCmpC) ?_); intros)
          | (go_at_call 140; (with_reducible refine Calls.cQR (divideC (by omega) (by assumption)) ?_); intros)
          | (go_at_call 119; (with_reducible refine Calls.cSg (makeC) ?_); intros))
      refine ret_bx rfl Tryz.underlying45 rfl (by kernel_rfl) rfl rfl rfl ?_
      exact CQRet.fin (hx := CQ.mk' (k := max k1 k2 + 2) HN.out HE.out (by omega) (by omega)) rfl (by omega)
    · have HE := Lib.hid (show m = (if (mkRat z m).den = 1 then 0 else (mkRat z m).den) by rw [HQ.out.2]; rw [if_neg hD])
      obtain ⟨e2, e3⟩ := cmpN_ne hD
      clear hD
      go_enter Tryz.func75, Tryz.ntmps75
      go_wp2_with (first
          | (go_at_call 138; (with_reducible refine Calls.cN (commonC (by omega)) ?_); intros)
          | (go_at_call 73; (with_reducible refine Calls.cN (oneC) ?_); intros)
          | (go_at_call 139; (with_reducible refine Calls.cE (numCmpC) ?_); intros)
          | (go_at_call 140; (with_reducible refine Calls.cQR (divideC (by omega) (by assumption)) ?_); intros)
          | (go_at_call 119; (with_reducible refine Calls.cSg (makeC) ?_); intros))
      refine ret_bx rfl Tryz.underlying45 rfl (by kernel_rfl) rfl rfl rfl ?_
      exact CQRet.fin (hx := CQ.mk' (k := max k1 k2 + 2) HN.out HE.out (by omega) (by omega)) rfl (by omega)
  · have HN := Lib.hid (show sgn g1 (z.natAbs / Nat.gcd z.natAbs m) = (mkRat z m).num by rw [HQ.out.1]; exact sgn_div hg.out (Nat.gcd_dvd_left _ _))
    obtain ⟨e0, e1⟩ := cmpN_ne hG
    clear hG hm
    by_cases hD : m / Nat.gcd z.natAbs m = 1
    · have HE := Lib.hid (show 0 = (if (mkRat z m).den = 1 then 0 else (mkRat z m).den) by rw [HQ.out.2]; rw [if_pos hD])
      have e2 : cmpN (m / Nat.gcd z.natAbs m) 1 = 0 := cmpN_eq hD
      clear hD
      go_enter Tryz.func75, Tryz.ntmps75
      go_wp2_with (first
          | (go_at_call 138; (with_reducible refine Calls.cN (commonC (by omega)) ?_); intros)
          | (go_at_call 73; (with_reducible refine Calls.cN (oneC) ?_); intros)
          | (go_at_call 139; (with_reducible refine Calls.cE (numCmpC) ?_); intros)
          | (go_at_call 140; (with_reducible refine Calls.cQR (divideC (by omega) (by assumption)) ?_); intros)
          | (go_at_call 119; (with_reducible refine Calls.cSg (makeC) ?_); intros))
      refine ret_bx rfl Tryz.underlying45 rfl (by kernel_rfl) rfl rfl rfl ?_
      exact CQRet.fin (hx := CQ.mk' (k := max k1 k2 + 2) HN.out HE.out (by omega) (by omega)) rfl (by omega)
    · have HE := Lib.hid (show m / Nat.gcd z.natAbs m = (if (mkRat z m).den = 1 then 0 else (mkRat z m).den) by rw [HQ.out.2]; rw [if_neg hD])
      obtain ⟨e2, e3⟩ := cmpN_ne hD
      clear hD
      go_enter Tryz.func75, Tryz.ntmps75
      go_wp2_with (first
          | (go_at_call 138; (with_reducible refine Calls.cN (commonC (by omega)) ?_); intros)
          | (go_at_call 73; (with_reducible refine Calls.cN (oneC) ?_); intros)
          | (go_at_call 139; (with_reducible refine Calls.cE (numCmpC) ?_); intros)
          | (go_at_call 140; (with_reducible refine Calls.cQR (divideC (by omega) (by assumption)) ?_); intros)
          | (go_at_call 119; (with_reducible refine Calls.cSg (makeC) ?_); intros))
      refine ret_bx rfl Tryz.underlying45 rfl (by kernel_rfl) rfl rfl rfl ?_
      exact CQRet.fin (hx := CQ.mk' (k := max k1 k2 + 2) HN.out HE.out (by omega) (by omega)) rfl (by omega)

theorem numDenC {w : World} {g1 : Bool} {a1 aa1 : Option Addr} {l1 c1 ll1 cc1 k1 : Nat} {x : Rat} [h1 : CQ w (.agg #[.bool g1, .slice a1 l1 c1, .slice aa1 ll1 cc1]) x k1] :
    Calls Tryz.prog 103 #[.agg #[.bool g1, .slice a1 l1 c1, .slice aa1 ll1 cc1]] w (CNRet w x.den (k1 + 1)) := by
  have hd := h1.den
  have hl := hd.out.len
  by_cases hx : x.den = 1
  · rw [if_pos hx] at hl
    obtain rfl : ll1 = 0 := hl
    have HE := Lib.hid hx
    clear hd hx
    go_enter Tryz.func103, Tryz.ntmps103
    go_wp2_with (first
    | (go_at_call 73; (with_reducible refine Calls.cN (oneC) ?_); intros))
    go_ret
    exact CNRet.fin HE.out.symm (by omega)
  · rw [if_neg hx] at hl hd
    have hl0 : 0 < ll1 := by rw [hl]; exact nf_len_pos x.den_nz
    clear hl hx
    go_enter Tryz.func103, Tryz.ntmps103
    go_wp2_with (first
    | (go_at_call 73; (with_reducible refine Calls.cN (oneC) ?_); intros))
    go_ret
    exact CNRet.fin rfl (by omega)

theorem numOfC {w : World} {n : Int} (b : -9223372036854775808 ≤ n ∧ n < 9223372036854775808) : Calls Tryz.prog 76 #[.int .i64 n] w (CQRet w (n : Rat) 2) := by
  go_enter Tryz.func76, Tryz.ntmps76
  go_wp2_with (first
    | (go_at_call 141; (with_reducible refine Calls.cZ (numIntC (by omega)) ?_); intros))
  refine ret_bx rfl Tryz.underlying45 rfl (by kernel_rfl) rfl rfl rfl ?_
  exact CQRet.fin rfl (by omega)

theorem numPartC {w : World} {n d : Int} (b : -9223372036854775808 ≤ n ∧ n < 9223372036854775808 ∧ 0 < d ∧ d < 9223372036854775808) : Calls Tryz.prog 185 #[.int .i64 n, .int .i64 d] w (CQRet w (mkRat n d.natAbs) 4) := by
  obtain ⟨b1, b2, b3, b4⟩ := b
  have hd : d.natAbs ≠ 0 := by omega
  go_enter Tryz.func185, Tryz.ntmps185
  go_wp2_with (first
    | (go_at_call 141; (with_reducible refine Calls.cZ (numIntC (by omega)) ?_); intros)
    | (go_at_call 126; (with_reducible refine Calls.cN (wordC (by omega)) ?_); intros)
    | (go_at_call 75; (with_reducible refine Calls.cQ (numFracC (by omega) (by assumption)) ?_); intros))
  refine ret_bx rfl Tryz.underlying45 rfl (by kernel_rfl) rfl rfl rfl ?_
  exact CQRet.fin rfl (by omega)

theorem toQC {w : World} {g1 : Bool} {a1 aa1 : Option Addr} {l1 c1 ll1 cc1 k1 : Nat} {x : Rat} [h1 : CQ w (.agg #[.bool g1, .slice a1 l1 c1, .slice aa1 ll1 cc1]) x k1] (b : k1 ≤ 800000) :
    Calls Tryz.prog 40 #[.agg #[.bool g1, .slice a1 l1 c1, .slice aa1 ll1 cc1]] w (CARet w x (k1 + 1)) := by
  have i1 := h1.num
  go_enter Tryz.func40, Tryz.ntmps40
  go_wp2_with fail
  refine rgn [w.heap.size + 1] [] fun hHeld => ?_
  refine tk 0 hHeld ?_
  refine tk 1 hHeld ?_
  refine tk 3 hHeld ?_
  refine st 2 fun K hK => ?_
  go_simp
  (with_reducible refine Calls.cZ (toIC (by omega)) ?_); intros
  refine hd hK ?_
  clear hHeld hK K
  intro hHeld
  refine st 4 fun K hK => ?_
  go_simp
  (with_reducible refine Calls.cN (numDenC) ?_); intros
  refine hd hK ?_
  clear hHeld hK K
  intro hHeld
  refine st 5 fun K hK => ?_
  go_simp
  (with_reducible refine Calls.cN (refToNC (by omega)) ?_); intros
  refine hd hK ?_
  clear hHeld hK K
  intro hHeld
  refine tk 6 hHeld ?_
  refine st 7 fun K hK => ?_
  go_simp
  refine hd hK ?_
  clear hHeld hK K
  intro hHeld
  refine dn ?_
  clear hHeld
  go_wp2
  refine ret_bx rfl Tryz.underlying29 rfl (by kernel_rfl) rfl rfl rfl ?_
  exact CARet.fin (hx := CA.mk' rfl rfl (by omega) (by omega)) rfl (Nat.le_refl _)

/-- A rational number is read off the tape. -/
def TQRet (w : World) (t : Nat) (k : Nat) (e : Ending) (w' : World) : Prop := ∃ (g : Bool) (a : Option Addr) (l c : Nat) (aa : Option Addr) (ll cc : Nat) (x : Rat), e = .returned (.agg #[.bool g, .slice a l c, .slice aa ll cc]) ∧ CQ w' (.agg #[.bool g, .slice a l c, .slice aa ll cc]) x k ∧ Ct w' t ∧ Gb w w' t
theorem Calls.cTQ {P : Program} {f : FuncId} {args : Array Value} {w : World} {t k : Nat} {K : Ending → World → Prop} [ht : Ct w t] (h : Calls P f args w (TQRet w t k))
    (hK : ∀ w' [Tp1 w w' t] [Ct w' t] (g : Bool) (a : Option Addr) (l c : Nat) (aa : Option Addr) (ll cc : Nat) (x : Rat) [CQ w' (.agg #[.bool g, .slice a l c, .slice aa ll cc]) x k], K (.returned (.agg #[.bool g, .slice a l c, .slice aa ll cc])) w') : Calls P f args w K := by
  refine h.mono ?_
  rintro e w' ⟨g, a, l, c, aa, ll, cc, x, rfl, hx, hc, hb⟩
  exact @hK w' ⟨hb.out, ht.out⟩ hc g a l c aa ll cc x hx
/-- A point is read off the tape. -/
def TPRet (w : World) (t : Nat) (k : Nat) (e : Ending) (w' : World) : Prop := ∃ (g : Bool) (a : Option Addr) (l c : Nat) (aa : Option Addr) (ll cc : Nat) (g2 : Bool) (a2 : Option Addr) (l2 c2 : Nat) (aa2 : Option Addr) (ll2 cc2 : Nat) (x y : Rat), e = .returned (.agg #[.bool g, .slice a l c, .slice aa ll cc, .bool g2, .slice a2 l2 c2, .slice aa2 ll2 cc2]) ∧ CQ w' (.agg #[.bool g, .slice a l c, .slice aa ll cc]) x k ∧ CQ w' (.agg #[.bool g2, .slice a2 l2 c2, .slice aa2 ll2 cc2]) y k ∧ Ct w' t ∧ Gb w w' t
theorem Calls.cTP {P : Program} {f : FuncId} {args : Array Value} {w : World} {t k : Nat} {K : Ending → World → Prop} [ht : Ct w t] (h : Calls P f args w (TPRet w t k))
    (hK : ∀ w' [Tp1 w w' t] [Ct w' t] (g : Bool) (a : Option Addr) (l c : Nat) (aa : Option Addr) (ll cc : Nat) (g2 : Bool) (a2 : Option Addr) (l2 c2 : Nat) (aa2 : Option Addr) (ll2 cc2 : Nat) (x y : Rat) [CQ w' (.agg #[.bool g, .slice a l c, .slice aa ll cc]) x k] [CQ w' (.agg #[.bool g2, .slice a2 l2 c2, .slice aa2 ll2 cc2]) y k], K (.returned (.agg #[.bool g, .slice a l c, .slice aa ll cc, .bool g2, .slice a2 l2 c2, .slice aa2 ll2 cc2])) w') : Calls P f args w K := by
  refine h.mono ?_
  rintro e w' ⟨g, a, l, c, aa, ll, cc, g2, a2, l2, c2, aa2, ll2, cc2, x, y, rfl, hx, hy, hc, hb⟩
  exact @hK w' ⟨hb.out, ht.out⟩ hc g a l c aa ll cc g2 a2 l2 c2 aa2 ll2 cc2 x y hx hy
def NextRet (w : World) (t : Nat) (n : Int) (e : Ending) (w' : World) : Prop := ∃ v : Int, e = .returned (.int .i64 v) ∧ 0 ≤ v ∧ v < n ∧ Ct w' t ∧ Gb w w' t
theorem Calls.cNext {P : Program} {f : FuncId} {args : Array Value} {w : World} {t : Nat} {n : Int} {K : Ending → World → Prop} [ht : Ct w t] (h : Calls P f args w (NextRet w t n))
    (hK : ∀ w' [Tp1 w w' t] [Ct w' t] (v : Int), 0 ≤ v → v < n → K (.returned (.int .i64 v)) w') : Calls P f args w K := by
  refine h.mono ?_
  rintro e w' ⟨v, rfl, h0, h1, hc, hb⟩
  exact @hK w' ⟨hb.out, ht.out⟩ hc v h0 h1
theorem nextC {w : World} {t : Nat} {n : Int} [ht : Ct w t] (b : 0 < n ∧ n ≤ 1000000) : Calls Tryz.prog 26 #[.pointer (some ⟨t, 0, none⟩), .int .i64 n] w (NextRet w t n) := by
  refine (nextW ht.out b.1 b.2).mono ?_
  rintro e w' ⟨v, rfl, h0, h1, hc, hb⟩
  exact ⟨v, rfl, h0, h1, ⟨hc⟩, ⟨hb⟩⟩
theorem Calls.cNew {P : Program} {f : FuncId} {args : Array Value} {w : World} {K : Ending → World → Prop} (h : Calls P f args w (fun e w' => e = .returned (.pointer (some ⟨w.heap.size, 0, none⟩)) ∧ TapeAt w' w.heap.size ∧ Below w.heap.size w w'))
    (hK : ∀ w' [Kp1 w w'] [Ct w' w.heap.size], K (.returned (.pointer (some ⟨w.heap.size, 0, none⟩))) w') : Calls P f args w K := by
  refine h.mono ?_
  rintro e w' ⟨rfl, ht, hb⟩
  exact @hK w' ⟨hb⟩ ⟨ht⟩
theorem tapeQC {w : World} {t : Nat} [ht : Ct w t] : Calls Tryz.prog 125 #[.pointer (some ⟨t, 0, none⟩)] w (TQRet w t 4) := by
  go_enter Tryz.func125, Tryz.ntmps125
  go_wp2_with (first
    | (go_at_call 26; (with_reducible refine Calls.cNext (nextC (by omega)) ?_); intros)
    | (go_at_call 185; (with_reducible refine Calls.cQ (numPartC (by omega)) ?_); intros)
    | (go_at_call 76; (with_reducible refine Calls.cQ (numOfC (by omega)) ?_); intros))
  all_goals
    refine ret_bx rfl Tryz.underlying45 rfl (by kernel_rfl) rfl rfl rfl ?_
    exact ⟨_, _, _, _, _, _, _, _, rfl, CQ.cast inferInstance rfl (by omega), inferInstance, inferInstance⟩
theorem tapePointC {w : World} {t : Nat} [ht : Ct w t] : Calls Tryz.prog 60 #[.pointer (some ⟨t, 0, none⟩)] w (TPRet w t 4) := by
  go_enter Tryz.func60, Tryz.ntmps60
  go_wp2_with (first
    | (go_at_call 125; (with_reducible refine Calls.cTQ (tapeQC) ?_); intros))
  refine ret_bx rfl Tryz.underlying47 rfl (by kernel_rfl) rfl rfl rfl ?_
  exact ⟨_, _, _, _, _, _, _, _, _, _, _, _, _, _, _, _, rfl, inferInstance, inferInstance, inferInstance, inferInstance⟩
end Go.Proofs.YtdlnoeegboapkaaGreatDoor

/- Points: packages geo and point, and the reference's conversion. printed by a small program (mkgeo.py). -/
namespace Go.Proofs.YtdlnoeegboapkaaGreatDoor
open Go.RowKit
set_option maxRecDepth 100000
set_option maxHeartbeats 40000000
set_option synthInstance.maxSize 100000
set_option synthInstance.maxHeartbeats 1000000

theorem ptOfC {w : World} {g1x g1y : Bool} {a1x aa1x a1y aa1y : Option Addr} {l1x c1x ll1x cc1x l1y c1y ll1y cc1y k1x k1y : Nat} {x y : Rat} [h1x : CW w (.agg #[.bool g1x, .slice a1x l1x c1x, .slice aa1x ll1x cc1x]) x k1x] [h1y : CW w (.agg #[.bool g1y, .slice a1y l1y c1y, .slice aa1y ll1y cc1y]) y k1y] (b : k1x ≤ 300000 ∧ k1y ≤ 300000) :
    Calls Tryz.prog 123 #[.agg #[.bool g1x, .slice a1x l1x c1x, .slice aa1x ll1x cc1x, .bool g1y, .slice a1y l1y c1y, .slice aa1y ll1y cc1y]] w (CPFRet w (x) (y) (max k1x k1y + 2)) := by
  go_enter Tryz.func123, Tryz.ntmps123
  go_wp2_with fail
  refine rgn [w.heap.size + 1] [] fun hHeld => ?_
  refine tk 0 hHeld ?_
  refine tk 1 hHeld ?_
  refine tk 3 hHeld ?_
  refine tk 4 hHeld ?_
  refine st 2 fun K hK => ?_
  go_simp
  (with_reducible refine Calls.cF (ofC (by omega)) ?_); intros
  refine hd hK ?_
  clear hHeld hK K
  intro hHeld
  refine st 5 fun K hK => ?_
  go_simp
  (with_reducible refine Calls.cF (ofC (by omega)) ?_); intros
  refine hd hK ?_
  clear hHeld hK K
  intro hHeld
  refine tk 6 hHeld ?_
  refine st 7 fun K hK => ?_
  go_simp
  refine hd hK ?_
  clear hHeld hK K
  intro hHeld
  refine dn ?_
  clear hHeld
  go_wp2
  refine ret_bx rfl Tryz.underlying152 rfl (by kernel_rfl) rfl rfl rfl ?_
  exact CPFRet.fin rfl (by omega) rfl (by omega)

theorem ptApiC {w : World} {n1x d1x n1y d1y : Int} {p1x p1y : Option Addr} {x y : Rat} {k1x k1y : Nat} [h1x : CF w (.agg #[.int .i64 n1x, .int .i64 d1x, .pointer p1x]) x k1x] [h1y : CF w (.agg #[.int .i64 n1y, .int .i64 d1y, .pointer p1y]) y k1y] (b : k1x ≤ 400000 ∧ k1y ≤ 400000) :
    Calls Tryz.prog 122 #[.agg #[.int .i64 n1x, .int .i64 d1x, .pointer p1x, .int .i64 n1y, .int .i64 d1y, .pointer p1y]] w (CPARet w (x) (y) (max k1x k1y)) := by
  go_enter Tryz.func122, Tryz.ntmps122
  go_wp2_with fail
  refine rgn [w.heap.size + 1] [] fun hHeld => ?_
  refine tk 0 hHeld ?_
  refine tk 1 hHeld ?_
  refine tk 3 hHeld ?_
  refine tk 4 hHeld ?_
  refine st 2 fun K hK => ?_
  go_simp
  (with_reducible refine Calls.cA (rApiC (by omega)) ?_); intros
  refine hd hK ?_
  clear hHeld hK K
  intro hHeld
  refine st 5 fun K hK => ?_
  go_simp
  (with_reducible refine Calls.cA (rApiC (by omega)) ?_); intros
  refine hd hK ?_
  clear hHeld hK K
  intro hHeld
  refine tk 6 hHeld ?_
  refine st 7 fun K hK => ?_
  go_simp
  refine hd hK ?_
  clear hHeld hK K
  intro hHeld
  refine dn ?_
  clear hHeld
  go_wp2
  refine ret_bx rfl Tryz.underlying31 rfl (by kernel_rfl) rfl rfl rfl ?_
  exact CPARet.fin rfl (by omega) rfl (by omega)

theorem ptAddC {w : World} {n1x d1x n1y d1y n2x d2x n2y d2y : Int} {p1x p1y p2x p2y : Option Addr} {x1 y1 x2 y2 : Rat} {k1x k1y k2x k2y : Nat} [h1x : CF w (.agg #[.int .i64 n1x, .int .i64 d1x, .pointer p1x]) x1 k1x] [h1y : CF w (.agg #[.int .i64 n1y, .int .i64 d1y, .pointer p1y]) y1 k1y] [h2x : CF w (.agg #[.int .i64 n2x, .int .i64 d2x, .pointer p2x]) x2 k2x] [h2y : CF w (.agg #[.int .i64 n2y, .int .i64 d2y, .pointer p2y]) y2 k2y] (b : k1x ≤ 100000 ∧ k1y ≤ 100000 ∧ k2x ≤ 100000 ∧ k2y ≤ 100000) :
    Calls Tryz.prog 230 #[.agg #[.int .i64 n1x, .int .i64 d1x, .pointer p1x, .int .i64 n1y, .int .i64 d1y, .pointer p1y], .agg #[.int .i64 n2x, .int .i64 d2x, .pointer p2x, .int .i64 n2y, .int .i64 d2y, .pointer p2y]] w (CPFRet w (x1 + x2) (y1 + y2) (max k1x k1y + max k2x k2y + 3)) := by
  go_enter Tryz.func230, Tryz.ntmps230
  go_wp2_with fail
  refine rgn [w.heap.size + 1 + 1] [] fun hHeld => ?_
  refine tk 0 hHeld ?_
  refine tk 1 hHeld ?_
  refine tk 2 hHeld ?_
  refine tk 3 hHeld ?_
  refine tk 5 hHeld ?_
  refine tk 6 hHeld ?_
  refine tk 7 hHeld ?_
  refine tk 8 hHeld ?_
  refine st 4 fun K hK => ?_
  go_simp
  (with_reducible refine Calls.cF (rAddC (by omega)) ?_); intros
  refine hd hK ?_
  clear hHeld hK K
  intro hHeld
  refine st 9 fun K hK => ?_
  go_simp
  (with_reducible refine Calls.cF (rAddC (by omega)) ?_); intros
  refine hd hK ?_
  clear hHeld hK K
  intro hHeld
  refine tk 10 hHeld ?_
  refine st 11 fun K hK => ?_
  go_simp
  refine hd hK ?_
  clear hHeld hK K
  intro hHeld
  refine dn ?_
  clear hHeld
  go_wp2
  refine ret_bx rfl Tryz.underlying152 rfl (by kernel_rfl) rfl rfl rfl ?_
  exact CPFRet.fin rfl (by omega) rfl (by omega)

theorem ptSubC {w : World} {n1x d1x n1y d1y n2x d2x n2y d2y : Int} {p1x p1y p2x p2y : Option Addr} {x1 y1 x2 y2 : Rat} {k1x k1y k2x k2y : Nat} [h1x : CF w (.agg #[.int .i64 n1x, .int .i64 d1x, .pointer p1x]) x1 k1x] [h1y : CF w (.agg #[.int .i64 n1y, .int .i64 d1y, .pointer p1y]) y1 k1y] [h2x : CF w (.agg #[.int .i64 n2x, .int .i64 d2x, .pointer p2x]) x2 k2x] [h2y : CF w (.agg #[.int .i64 n2y, .int .i64 d2y, .pointer p2y]) y2 k2y] (b : k1x ≤ 100000 ∧ k1y ≤ 100000 ∧ k2x ≤ 100000 ∧ k2y ≤ 100000) :
    Calls Tryz.prog 170 #[.agg #[.int .i64 n1x, .int .i64 d1x, .pointer p1x, .int .i64 n1y, .int .i64 d1y, .pointer p1y], .agg #[.int .i64 n2x, .int .i64 d2x, .pointer p2x, .int .i64 n2y, .int .i64 d2y, .pointer p2y]] w (CPFRet w (x1 - x2) (y1 - y2) (max k1x k1y + max k2x k2y + 3)) := by
  go_enter Tryz.func170, Tryz.ntmps170
  go_wp2_with fail
  refine rgn [w.heap.size + 1 + 1] [] fun hHeld => ?_
  refine tk 0 hHeld ?_
  refine tk 1 hHeld ?_
  refine tk 2 hHeld ?_
  refine tk 3 hHeld ?_
  refine tk 5 hHeld ?_
  refine tk 6 hHeld ?_
  refine tk 7 hHeld ?_
  refine tk 8 hHeld ?_
  refine st 4 fun K hK => ?_
  go_simp
  (with_reducible refine Calls.cF (rSubC (by omega)) ?_); intros
  refine hd hK ?_
  clear hHeld hK K
  intro hHeld
  refine st 9 fun K hK => ?_
  go_simp
  (with_reducible refine Calls.cF (rSubC (by omega)) ?_); intros
  refine hd hK ?_
  clear hHeld hK K
  intro hHeld
  refine tk 10 hHeld ?_
  refine st 11 fun K hK => ?_
  go_simp
  refine hd hK ?_
  clear hHeld hK K
  intro hHeld
  refine dn ?_
  clear hHeld
  go_wp2
  refine ret_bx rfl Tryz.underlying152 rfl (by kernel_rfl) rfl rfl rfl ?_
  exact CPFRet.fin rfl (by omega) rfl (by omega)

theorem ptScaleC {w : World} {n1x d1x n1y d1y n2 d2 : Int} {p1x p1y p2 : Option Addr} {x1 y1 z : Rat} {k1x k1y k2 : Nat} [h1x : CF w (.agg #[.int .i64 n1x, .int .i64 d1x, .pointer p1x]) x1 k1x] [h1y : CF w (.agg #[.int .i64 n1y, .int .i64 d1y, .pointer p1y]) y1 k1y] [h2 : CF w (.agg #[.int .i64 n2, .int .i64 d2, .pointer p2]) z k2] (b : k1x ≤ 100000 ∧ k1y ≤ 100000 ∧ k2 ≤ 100000) :
    Calls Tryz.prog 231 #[.agg #[.int .i64 n1x, .int .i64 d1x, .pointer p1x, .int .i64 n1y, .int .i64 d1y, .pointer p1y], .agg #[.int .i64 n2, .int .i64 d2, .pointer p2]] w (CPFRet w (x1 * z) (y1 * z) (max k1x k1y + k2 + 2)) := by
  go_enter Tryz.func231, Tryz.ntmps231
  go_wp2_with fail
  refine rgn [w.heap.size + 1 + 1] [] fun hHeld => ?_
  refine tk 0 hHeld ?_
  refine tk 1 hHeld ?_
  refine tk 2 hHeld ?_
  refine tk 4 hHeld ?_
  refine tk 5 hHeld ?_
  refine tk 6 hHeld ?_
  refine st 3 fun K hK => ?_
  go_simp
  (with_reducible refine Calls.cF (rMulC (by omega)) ?_); intros
  refine hd hK ?_
  clear hHeld hK K
  intro hHeld
  refine st 7 fun K hK => ?_
  go_simp
  (with_reducible refine Calls.cF (rMulC (by omega)) ?_); intros
  refine hd hK ?_
  clear hHeld hK K
  intro hHeld
  refine tk 8 hHeld ?_
  refine st 9 fun K hK => ?_
  go_simp
  refine hd hK ?_
  clear hHeld hK K
  intro hHeld
  refine dn ?_
  clear hHeld
  go_wp2
  refine ret_bx rfl Tryz.underlying152 rfl (by kernel_rfl) rfl rfl rfl ?_
  exact CPFRet.fin rfl (by omega) rfl (by omega)

theorem ptCrossC {w : World} {n1x d1x n1y d1y n2x d2x n2y d2y : Int} {p1x p1y p2x p2y : Option Addr} {x1 y1 x2 y2 : Rat} {k1x k1y k2x k2y : Nat} [h1x : CF w (.agg #[.int .i64 n1x, .int .i64 d1x, .pointer p1x]) x1 k1x] [h1y : CF w (.agg #[.int .i64 n1y, .int .i64 d1y, .pointer p1y]) y1 k1y] [h2x : CF w (.agg #[.int .i64 n2x, .int .i64 d2x, .pointer p2x]) x2 k2x] [h2y : CF w (.agg #[.int .i64 n2y, .int .i64 d2y, .pointer p2y]) y2 k2y] (b : k1x ≤ 50000 ∧ k1y ≤ 50000 ∧ k2x ≤ 50000 ∧ k2y ≤ 50000) :
    Calls Tryz.prog 153 #[.agg #[.int .i64 n1x, .int .i64 d1x, .pointer p1x, .int .i64 n1y, .int .i64 d1y, .pointer p1y], .agg #[.int .i64 n2x, .int .i64 d2x, .pointer p2x, .int .i64 n2y, .int .i64 d2y, .pointer p2y]] w (CFRet w (x1 * y2 - y1 * x2) (k1x + k1y + k2x + k2y + 7)) := by
  go_enter Tryz.func153, Tryz.ntmps153
  go_wp2_with fail
  refine rgn [w.heap.size + 1 + 1] [] fun hHeld => ?_
  refine tk 0 hHeld ?_
  refine tk 1 hHeld ?_
  refine tk 2 hHeld ?_
  refine tk 3 hHeld ?_
  refine tk 5 hHeld ?_
  refine tk 6 hHeld ?_
  refine tk 7 hHeld ?_
  refine tk 8 hHeld ?_
  refine st 4 fun K hK => ?_
  go_simp
  (with_reducible refine Calls.cF (rMulC (by omega)) ?_); intros
  refine hd hK ?_
  clear hHeld hK K
  intro hHeld
  refine st 9 fun K hK => ?_
  go_simp
  (with_reducible refine Calls.cF (rMulC (by omega)) ?_); intros
  refine hd hK ?_
  clear hHeld hK K
  intro hHeld
  refine st 10 fun K hK => ?_
  go_simp
  (with_reducible refine Calls.cF (rSubC (by omega)) ?_); intros
  refine hd hK ?_
  clear hHeld hK K
  intro hHeld
  refine st 11 fun K hK => ?_
  go_simp
  refine hd hK ?_
  clear hHeld hK K
  intro hHeld
  refine dn ?_
  clear hHeld
  go_wp2
  refine ret_bx rfl Tryz.underlying147 rfl (by kernel_rfl) rfl rfl rfl ?_
  exact CFRet.fin rfl (by omega)

/-- The orientation of three points. -/
def orientR (x1 y1 x2 y2 x3 y3 : Rat) : Int := isgn ((x2 - x1) * (y3 - y1) - (y2 - y1) * (x3 - x1)).num
/-- The half-plane of a direction. -/
def halfS (sx sy : Int) : Int := if sy = 1 ∨ (sy = 0 ∧ sx = 1) then 1 else if sy = -1 ∨ sx = -1 then 2 else 0
def halfR (x y : Rat) : Int := halfS (isgn x.num) (isgn y.num)
/-- The order of directions. -/
def angleR (x1 y1 x2 y2 : Rat) : Int := if halfR x1 y1 < halfR x2 y2 then -1 else if halfR x2 y2 < halfR x1 y1 then 1 else -(isgn (x1 * y2 - y1 * x2).num)
theorem orientC {w : World} {n1x d1x n1y d1y n2x d2x n2y d2y n3x d3x n3y d3y : Int} {p1x p1y p2x p2y p3x p3y : Option Addr} {x1 y1 x2 y2 x3 y3 : Rat} {k1x k1y k2x k2y k3x k3y : Nat} [h1x : CF w (.agg #[.int .i64 n1x, .int .i64 d1x, .pointer p1x]) x1 k1x] [h1y : CF w (.agg #[.int .i64 n1y, .int .i64 d1y, .pointer p1y]) y1 k1y] [h2x : CF w (.agg #[.int .i64 n2x, .int .i64 d2x, .pointer p2x]) x2 k2x] [h2y : CF w (.agg #[.int .i64 n2y, .int .i64 d2y, .pointer p2y]) y2 k2y] [h3x : CF w (.agg #[.int .i64 n3x, .int .i64 d3x, .pointer p3x]) x3 k3x] [h3y : CF w (.agg #[.int .i64 n3y, .int .i64 d3y, .pointer p3y]) y3 k3y] (b : k1x ≤ 5000 ∧ k1y ≤ 5000 ∧ k2x ≤ 5000 ∧ k2y ≤ 5000 ∧ k3x ≤ 5000 ∧ k3y ≤ 5000) :
    Calls Tryz.prog 110 #[.agg #[.int .i64 n1x, .int .i64 d1x, .pointer p1x, .int .i64 n1y, .int .i64 d1y, .pointer p1y], .agg #[.int .i64 n2x, .int .i64 d2x, .pointer p2x, .int .i64 n2y, .int .i64 d2y, .pointer p2y], .agg #[.int .i64 n3x, .int .i64 d3x, .pointer p3x, .int .i64 n3y, .int .i64 d3y, .pointer p3y]] w (fun e w' => e = .returned (.int .i64 (orientR x1 y1 x2 y2 x3 y3)) ∧ Below w.heap.size w w') := by
  go_enter Tryz.func110, Tryz.ntmps110
  go_wp2_with fail
  refine rgn [] [] fun hHeld => ?_
  refine tk 0 hHeld ?_
  refine tk 1 hHeld ?_
  refine tk 3 hHeld ?_
  refine tk 4 hHeld ?_
  refine st 2 fun K hK => ?_
  go_simp
  (with_reducible refine Calls.cPF (ptSubC (by omega)) ?_); intros
  refine hd hK ?_
  clear hHeld hK K
  intro hHeld
  refine st 5 fun K hK => ?_
  go_simp
  (with_reducible refine Calls.cPF (ptSubC (by omega)) ?_); intros
  refine hd hK ?_
  clear hHeld hK K
  intro hHeld
  refine st 6 fun K hK => ?_
  go_simp
  (with_reducible refine Calls.cF (ptCrossC (by omega)) ?_); intros
  refine hd hK ?_
  clear hHeld hK K
  intro hHeld
  refine st 7 fun K hK => ?_
  go_simp
  (with_reducible refine Calls.cE (rSignC (by omega)) ?_); intros
  refine hd hK ?_
  clear hHeld hK K
  intro hHeld
  refine tk 8 hHeld ?_
  refine dn ?_
  clear hHeld
  go_wp2
  go_ret
  exact E.fin rfl

theorem halfC {w : World} {n1x d1x n1y d1y : Int} {p1x p1y : Option Addr} {x y : Rat} {k1x k1y : Nat} [h1x : CF w (.agg #[.int .i64 n1x, .int .i64 d1x, .pointer p1x]) x k1x] [h1y : CF w (.agg #[.int .i64 n1y, .int .i64 d1y, .pointer p1y]) y k1y] (b : k1x ≤ 300000 ∧ k1y ≤ 300000) :
    Calls Tryz.prog 184 #[.agg #[.int .i64 n1x, .int .i64 d1x, .pointer p1x, .int .i64 n1y, .int .i64 d1y, .pointer p1y]] w (fun e w' => e = .returned (.int .i64 (halfR x y)) ∧ Below w.heap.size w w') := by
  rcases isgn_cases x.num with ⟨_, ex⟩ | ⟨_, ex⟩ | ⟨_, ex⟩ <;> rcases isgn_cases y.num with ⟨_, ey⟩ | ⟨_, ey⟩ | ⟨_, ey⟩
  all_goals
    have HE := Lib.hid (show halfR x y = halfS _ _ by unfold halfR; rw [ex, ey])
    go_enter Tryz.func184, Tryz.ntmps184
    go_wp2_with (first
    | (go_at_call 171; (with_reducible refine Calls.cE (rSignC (by omega)) ?_); intros))
    go_ret
    exact E.fin (by rw [HE.out]; rfl)

theorem angleC {w : World} {n1x d1x n1y d1y n2x d2x n2y d2y : Int} {p1x p1y p2x p2y : Option Addr} {x1 y1 x2 y2 : Rat} {k1x k1y k2x k2y : Nat} [h1x : CF w (.agg #[.int .i64 n1x, .int .i64 d1x, .pointer p1x]) x1 k1x] [h1y : CF w (.agg #[.int .i64 n1y, .int .i64 d1y, .pointer p1y]) y1 k1y] [h2x : CF w (.agg #[.int .i64 n2x, .int .i64 d2x, .pointer p2x]) x2 k2x] [h2y : CF w (.agg #[.int .i64 n2y, .int .i64 d2y, .pointer p2y]) y2 k2y] (b : k1x ≤ 50000 ∧ k1y ≤ 50000 ∧ k2x ≤ 50000 ∧ k2y ≤ 50000) :
    Calls Tryz.prog 124 #[.agg #[.int .i64 n1x, .int .i64 d1x, .pointer p1x, .int .i64 n1y, .int .i64 d1y, .pointer p1y], .agg #[.int .i64 n2x, .int .i64 d2x, .pointer p2x, .int .i64 n2y, .int .i64 d2y, .pointer p2y]] w (fun e w' => e = .returned (.int .i64 (angleR x1 y1 x2 y2)) ∧ Below w.heap.size w w') := by
  by_cases hlt : halfR x1 y1 < halfR x2 y2
  · have HE : Hid (angleR x1 y1 x2 y2 = -1) := if_pos hlt
    go_enter Tryz.func124, Tryz.ntmps124
    go_wp2_with fail
    refine rgn [] [] fun hHeld => ?_
    refine tk 0 hHeld ?_
    refine tk 2 hHeld ?_
    refine st 1 fun K hK => ?_
    go_simp
    (with_reducible refine Calls.cE (halfC (by omega)) ?_); intros
    refine hd hK ?_
    clear hHeld hK K
    intro hHeld
    refine st 3 fun K hK => ?_
    go_simp
    (with_reducible refine Calls.cE (halfC (by omega)) ?_); intros
    refine hd hK ?_
    clear hHeld hK K
    intro hHeld
    refine tk 4 hHeld ?_
    refine tk 5 hHeld ?_
    refine dn ?_
    clear hHeld
    go_wp2
    go_ret
    exact E.fin (by rw [HE.out]; rfl)
  · by_cases hgt : halfR x2 y2 < halfR x1 y1
    · have HE : Hid (angleR x1 y1 x2 y2 = 1) := by show _ = _; unfold angleR; rw [if_neg hlt, if_pos hgt]
      have hlt' : halfR x2 y2 ≤ halfR x1 y1 := by omega
      clear hlt
      go_enter Tryz.func124, Tryz.ntmps124
      go_wp2_with fail
      refine rgn [] [] fun hHeld => ?_
      refine tk 0 hHeld ?_
      refine tk 2 hHeld ?_
      refine st 1 fun K hK => ?_
      go_simp
      (with_reducible refine Calls.cE (halfC (by omega)) ?_); intros
      refine hd hK ?_
      clear hHeld hK K
      intro hHeld
      refine st 3 fun K hK => ?_
      go_simp
      (with_reducible refine Calls.cE (halfC (by omega)) ?_); intros
      refine hd hK ?_
      clear hHeld hK K
      intro hHeld
      refine tk 4 hHeld ?_
      refine tk 5 hHeld ?_
      refine dn ?_
      clear hHeld
      go_wp2
      go_ret
      exact E.fin (by rw [HE.out]; rfl)
    · have HE : Hid (angleR x1 y1 x2 y2 = -(isgn (x1 * y2 - y1 * x2).num)) := by show _ = _; unfold angleR; rw [if_neg hlt, if_neg hgt]
      have hlt' : halfR x2 y2 ≤ halfR x1 y1 := by omega
      have hgt' : halfR x1 y1 ≤ halfR x2 y2 := by omega
      obtain ⟨q1, q2⟩ := isgn_bd (x1 * y2 - y1 * x2).num
      clear hlt hgt
      go_enter Tryz.func124, Tryz.ntmps124
      go_wp2_with fail
      refine rgn [] [] fun hHeld => ?_
      refine tk 0 hHeld ?_
      refine tk 2 hHeld ?_
      refine st 1 fun K hK => ?_
      go_simp
      (with_reducible refine Calls.cE (halfC (by omega)) ?_); intros
      refine hd hK ?_
      clear hHeld hK K
      intro hHeld
      refine st 3 fun K hK => ?_
      go_simp
      (with_reducible refine Calls.cE (halfC (by omega)) ?_); intros
      refine hd hK ?_
      clear hHeld hK K
      intro hHeld
      refine tk 4 hHeld ?_
      refine tk 5 hHeld ?_
      refine dn ?_
      clear hHeld
      go_wp2_with (first
    | (go_at_call 153; (with_reducible refine Calls.cF (ptCrossC (by omega)) ?_); intros)
    | (go_at_call 171; (with_reducible refine Calls.cE (rSignC (by omega)) ?_); intros))
      go_ret
      exact E.fin (by rw [HE.out]; rfl)

theorem pOrientC {w : World} {g1x g1y g2x g2y g3x g3y : Bool} {a1x aa1x a1y aa1y a2x aa2x a2y aa2y a3x aa3x a3y aa3y : Option Addr} {l1x c1x ll1x cc1x l1y c1y ll1y cc1y l2x c2x ll2x cc2x l2y c2y ll2y cc2y l3x c3x ll3x cc3x l3y c3y ll3y cc3y k1x k1y k2x k2y k3x k3y : Nat} {x1 y1 x2 y2 x3 y3 : Rat} [h1x : CW w (.agg #[.bool g1x, .slice a1x l1x c1x, .slice aa1x ll1x cc1x]) x1 k1x] [h1y : CW w (.agg #[.bool g1y, .slice a1y l1y c1y, .slice aa1y ll1y cc1y]) y1 k1y] [h2x : CW w (.agg #[.bool g2x, .slice a2x l2x c2x, .slice aa2x ll2x cc2x]) x2 k2x] [h2y : CW w (.agg #[.bool g2y, .slice a2y l2y c2y, .slice aa2y ll2y cc2y]) y2 k2y] [h3x : CW w (.agg #[.bool g3x, .slice a3x l3x c3x, .slice aa3x ll3x cc3x]) x3 k3x] [h3y : CW w (.agg #[.bool g3y, .slice a3y l3y c3y, .slice aa3y ll3y cc3y]) y3 k3y] (b : k1x ≤ 2000 ∧ k1y ≤ 2000 ∧ k2x ≤ 2000 ∧ k2y ≤ 2000 ∧ k3x ≤ 2000 ∧ k3y ≤ 2000) :
    Calls Tryz.prog 58 #[.agg #[.bool g1x, .slice a1x l1x c1x, .slice aa1x ll1x cc1x, .bool g1y, .slice a1y l1y c1y, .slice aa1y ll1y cc1y], .agg #[.bool g2x, .slice a2x l2x c2x, .slice aa2x ll2x cc2x, .bool g2y, .slice a2y l2y c2y, .slice aa2y ll2y cc2y], .agg #[.bool g3x, .slice a3x l3x c3x, .slice aa3x ll3x cc3x, .bool g3y, .slice a3y l3y c3y, .slice aa3y ll3y cc3y]] w (fun e w' => e = .returned (.int .i64 (orientR x1 y1 x2 y2 x3 y3)) ∧ Below w.heap.size w w') := by
  go_enter Tryz.func58, Tryz.ntmps58
  go_wp2_with fail
  refine rgn [] [] fun hHeld => ?_
  refine tk 0 hHeld ?_
  refine tk 2 hHeld ?_
  refine tk 4 hHeld ?_
  refine st 1 fun K hK => ?_
  go_simp
  (with_reducible refine Calls.cPF (ptOfC (by omega)) ?_); intros
  refine hd hK ?_
  clear hHeld hK K
  intro hHeld
  refine st 3 fun K hK => ?_
  go_simp
  (with_reducible refine Calls.cPF (ptOfC (by omega)) ?_); intros
  refine hd hK ?_
  clear hHeld hK K
  intro hHeld
  refine st 5 fun K hK => ?_
  go_simp
  (with_reducible refine Calls.cPF (ptOfC (by omega)) ?_); intros
  refine hd hK ?_
  clear hHeld hK K
  intro hHeld
  refine st 6 fun K hK => ?_
  go_simp
  (with_reducible refine Calls.cE (orientC (by omega)) ?_); intros
  refine hd hK ?_
  clear hHeld hK K
  intro hHeld
  refine tk 7 hHeld ?_
  refine dn ?_
  clear hHeld
  go_wp2
  go_ret
  exact E.fin rfl

theorem pAngleC {w : World} {g1x g1y g2x g2y : Bool} {a1x aa1x a1y aa1y a2x aa2x a2y aa2y : Option Addr} {l1x c1x ll1x cc1x l1y c1y ll1y cc1y l2x c2x ll2x cc2x l2y c2y ll2y cc2y k1x k1y k2x k2y : Nat} {x1 y1 x2 y2 : Rat} [h1x : CW w (.agg #[.bool g1x, .slice a1x l1x c1x, .slice aa1x ll1x cc1x]) x1 k1x] [h1y : CW w (.agg #[.bool g1y, .slice a1y l1y c1y, .slice aa1y ll1y cc1y]) y1 k1y] [h2x : CW w (.agg #[.bool g2x, .slice a2x l2x c2x, .slice aa2x ll2x cc2x]) x2 k2x] [h2y : CW w (.agg #[.bool g2y, .slice a2y l2y c2y, .slice aa2y ll2y cc2y]) y2 k2y] (b : k1x ≤ 20000 ∧ k1y ≤ 20000 ∧ k2x ≤ 20000 ∧ k2y ≤ 20000) :
    Calls Tryz.prog 59 #[.agg #[.bool g1x, .slice a1x l1x c1x, .slice aa1x ll1x cc1x, .bool g1y, .slice a1y l1y c1y, .slice aa1y ll1y cc1y], .agg #[.bool g2x, .slice a2x l2x c2x, .slice aa2x ll2x cc2x, .bool g2y, .slice a2y l2y c2y, .slice aa2y ll2y cc2y]] w (fun e w' => e = .returned (.int .i64 (angleR x1 y1 x2 y2)) ∧ Below w.heap.size w w') := by
  go_enter Tryz.func59, Tryz.ntmps59
  go_wp2_with fail
  refine rgn [] [] fun hHeld => ?_
  refine tk 0 hHeld ?_
  refine tk 2 hHeld ?_
  refine st 1 fun K hK => ?_
  go_simp
  (with_reducible refine Calls.cPF (ptOfC (by omega)) ?_); intros
  refine hd hK ?_
  clear hHeld hK K
  intro hHeld
  refine st 3 fun K hK => ?_
  go_simp
  (with_reducible refine Calls.cPF (ptOfC (by omega)) ?_); intros
  refine hd hK ?_
  clear hHeld hK K
  intro hHeld
  refine st 4 fun K hK => ?_
  go_simp
  (with_reducible refine Calls.cE (angleC (by omega)) ?_); intros
  refine hd hK ?_
  clear hHeld hK K
  intro hHeld
  refine tk 5 hHeld ?_
  refine dn ?_
  clear hHeld
  go_wp2
  go_ret
  exact E.fin rfl

theorem toPC {w : World} {g1x g1y : Bool} {a1x aa1x a1y aa1y : Option Addr} {l1x c1x ll1x cc1x l1y c1y ll1y cc1y k1x k1y : Nat} {x y : Rat} [h1x : CQ w (.agg #[.bool g1x, .slice a1x l1x c1x, .slice aa1x ll1x cc1x]) x k1x] [h1y : CQ w (.agg #[.bool g1y, .slice a1y l1y c1y, .slice aa1y ll1y cc1y]) y k1y] (b : k1x ≤ 400000 ∧ k1y ≤ 400000) :
    Calls Tryz.prog 21 #[.agg #[.bool g1x, .slice a1x l1x c1x, .slice aa1x ll1x cc1x, .bool g1y, .slice a1y l1y c1y, .slice aa1y ll1y cc1y]] w (CPARet w (x) (y) (max k1x k1y + 1)) := by
  go_enter Tryz.func21, Tryz.ntmps21
  go_wp2_with fail
  refine rgn [w.heap.size + 1] [] fun hHeld => ?_
  refine tk 0 hHeld ?_
  refine tk 1 hHeld ?_
  refine tk 3 hHeld ?_
  refine tk 4 hHeld ?_
  refine st 2 fun K hK => ?_
  go_simp
  (with_reducible refine Calls.cA (toQC (by omega)) ?_); intros
  refine hd hK ?_
  clear hHeld hK K
  intro hHeld
  refine st 5 fun K hK => ?_
  go_simp
  (with_reducible refine Calls.cA (toQC (by omega)) ?_); intros
  refine hd hK ?_
  clear hHeld hK K
  intro hHeld
  refine tk 6 hHeld ?_
  refine st 7 fun K hK => ?_
  go_simp
  refine hd hK ?_
  clear hHeld hK K
  intro hHeld
  refine dn ?_
  clear hHeld
  go_wp2
  refine ret_bx rfl Tryz.underlying31 rfl (by kernel_rfl) rfl rfl rfl ?_
  exact CPARet.fin rfl (by omega) rfl (by omega)

theorem fromIntsC {w : World} {m n : Int} (b : (-9223372036854775808 ≤ m ∧ m < 9223372036854775808) ∧ -9223372036854775808 ≤ n ∧ n < 9223372036854775808) :
    Calls Tryz.prog 57 #[.int .i64 m, .int .i64 n] w (CPARet w (m : Rat) (n : Rat) 8) := by
  go_enter Tryz.func57, Tryz.ntmps57
  go_wp2_with (first
    | (go_at_call 121; (with_reducible refine Calls.cF (fracIntC (by omega)) ?_); intros)
    | (go_at_call 122; (with_reducible refine Calls.cPA (ptApiC (by omega)) ?_); intros))
  refine ret_bx rfl Tryz.underlying31 rfl (by kernel_rfl) rfl rfl rfl ?_
  exact CPARet.fin rfl (by omega) rfl (by omega)

theorem pOrientV {w : World} {v : Int} {g1x g1y g2x g2y g3x g3y : Bool} {a1x aa1x a1y aa1y a2x aa2x a2y aa2y a3x aa3x a3y aa3y : Option Addr} {l1x c1x ll1x cc1x l1y c1y ll1y cc1y l2x c2x ll2x cc2x l2y c2y ll2y cc2y l3x c3x ll3x cc3x l3y c3y ll3y cc3y k1x k1y k2x k2y k3x k3y : Nat} {x1 y1 x2 y2 x3 y3 : Rat} [h1x : CW w (.agg #[.bool g1x, .slice a1x l1x c1x, .slice aa1x ll1x cc1x]) x1 k1x] [h1y : CW w (.agg #[.bool g1y, .slice a1y l1y c1y, .slice aa1y ll1y cc1y]) y1 k1y] [h2x : CW w (.agg #[.bool g2x, .slice a2x l2x c2x, .slice aa2x ll2x cc2x]) x2 k2x] [h2y : CW w (.agg #[.bool g2y, .slice a2y l2y c2y, .slice aa2y ll2y cc2y]) y2 k2y] [h3x : CW w (.agg #[.bool g3x, .slice a3x l3x c3x, .slice aa3x ll3x cc3x]) x3 k3x] [h3y : CW w (.agg #[.bool g3y, .slice a3y l3y c3y, .slice aa3y ll3y cc3y]) y3 k3y] (b : k1x ≤ 2000 ∧ k1y ≤ 2000 ∧ k2x ≤ 2000 ∧ k2y ≤ 2000 ∧ k3x ≤ 2000 ∧ k3y ≤ 2000) (hv : Hid (orientR x1 y1 x2 y2 x3 y3 = v)) :
    Calls Tryz.prog 58 #[.agg #[.bool g1x, .slice a1x l1x c1x, .slice aa1x ll1x cc1x, .bool g1y, .slice a1y l1y c1y, .slice aa1y ll1y cc1y], .agg #[.bool g2x, .slice a2x l2x c2x, .slice aa2x ll2x cc2x, .bool g2y, .slice a2y l2y c2y, .slice aa2y ll2y cc2y], .agg #[.bool g3x, .slice a3x l3x c3x, .slice aa3x ll3x cc3x, .bool g3y, .slice a3y l3y c3y, .slice aa3y ll3y cc3y]] w (fun e w' => e = .returned (.int .i64 v) ∧ Below w.heap.size w w') := by
  rw [← hv.out]; exact pOrientC b
theorem pAngleV {w : World} {v : Int} {g1x g1y g2x g2y : Bool} {a1x aa1x a1y aa1y a2x aa2x a2y aa2y : Option Addr} {l1x c1x ll1x cc1x l1y c1y ll1y cc1y l2x c2x ll2x cc2x l2y c2y ll2y cc2y k1x k1y k2x k2y : Nat} {x1 y1 x2 y2 : Rat} [h1x : CW w (.agg #[.bool g1x, .slice a1x l1x c1x, .slice aa1x ll1x cc1x]) x1 k1x] [h1y : CW w (.agg #[.bool g1y, .slice a1y l1y c1y, .slice aa1y ll1y cc1y]) y1 k1y] [h2x : CW w (.agg #[.bool g2x, .slice a2x l2x c2x, .slice aa2x ll2x cc2x]) x2 k2x] [h2y : CW w (.agg #[.bool g2y, .slice a2y l2y c2y, .slice aa2y ll2y cc2y]) y2 k2y] (b : k1x ≤ 20000 ∧ k1y ≤ 20000 ∧ k2x ≤ 20000 ∧ k2y ≤ 20000) (hv : Hid (angleR x1 y1 x2 y2 = v)) :
    Calls Tryz.prog 59 #[.agg #[.bool g1x, .slice a1x l1x c1x, .slice aa1x ll1x cc1x, .bool g1y, .slice a1y l1y c1y, .slice aa1y ll1y cc1y], .agg #[.bool g2x, .slice a2x l2x c2x, .slice aa2x ll2x cc2x, .bool g2y, .slice a2y l2y c2y, .slice aa2y ll2y cc2y]] w (fun e w' => e = .returned (.int .i64 v) ∧ Below w.heap.size w w') := by
  rw [← hv.out]; exact pAngleC b
end Go.Proofs.YtdlnoeegboapkaaGreatDoor
