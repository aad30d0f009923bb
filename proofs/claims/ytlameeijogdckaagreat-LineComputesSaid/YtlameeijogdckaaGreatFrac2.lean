/-
  Package frac: contracts of the sum, the product, the difference.
  Printed by a small program (mkfrac2.py).
-/
import Derived.Test.YtlameeijogdckaaGreatFrac
import Derived.Deep.CutRange
namespace Go.Proofs.YtlameeijogdckaaGreat
open Go.RowKit

theorem mkRat_toNat {x y : Rat} {n1 n2 d1 d2 : Int} (e1 : x.num = n1) (e2 : (x.den : Int) = d1 + 1) (f1 : y.num = n2) (f2 : (y.den : Int) = d2 + 1) : mkRat (n1 * n2) ((d1 + 1) * (d2 + 1)).toNat = x * y := by
  rw [rat_mul_mk, e1, f1, ← e2, ← f2, ← Int.natCast_mul, Int.toNat_natCast]
theorem mkRat_toNat2 {x y : Rat} {n1 n2 d1 d2 : Int} (e1 : x.num = n1) (e2 : (x.den : Int) = d1 + 1) (f1 : y.num = n2) (f2 : (y.den : Int) = d2 + 1) : mkRat (n1 * (d2 + 1) + n2 * (d1 + 1)) ((d1 + 1) * (d2 + 1)).toNat = x + y := by
  rw [rat_add_mk, e1, f1, ← e2, ← f2, ← Int.natCast_mul, Int.toNat_natCast]
set_option maxRecDepth 100000 in
set_option maxHeartbeats 4000000 in
theorem rMulC {w : World} {n1 : Int} {d1 : Int} {p1 : Option Addr} {x : Rat} {n2 : Int} {d2 : Int} {p2 : Option Addr} {y : Rat} {k1 k2 : Nat} [h1 : CF w (.agg #[.int .i64 n1, .int .i64 d1, .pointer p1]) x k1] [h2 : CF w (.agg #[.int .i64 n2, .int .i64 d2, .pointer p2]) y k2] (b : k1 ≤ 300000 ∧ k2 ≤ 300000) :
    Calls Tryz.prog 190 #[.agg #[.int .i64 n1, .int .i64 d1, .pointer p1], .agg #[.int .i64 n2, .int .i64 d2, .pointer p2]] w (CFRet w (x * y) (k1 + k2 + 2)) := by
  have HM := Lib.hid (rat_mul_mk x y)
  go_enter Tryz.func190, Tryz.ntmps190
  go_upto_region 1 with fail
  go_cut [16] from 9 to 16 (fun t wx => (∃ c : Bool, t = .bool c ∧ c = (p1.isNone && p2.isNone)) ∧ wx = ((w.alloc (.cells #[.int .i64 n1, .int .i64 d1, .pointer p1] 115)).alloc (.cells #[.int .i64 n2, .int .i64 d2, .pointer p2] 115)).alloc (.cells #[.int .i64 0, .int .i64 0, .pointer none] 115))
  case first =>
    cases p1 <;> cases p2 <;> (go_wp2; go_meet; exact ⟨⟨_, rfl, rfl⟩, rfl⟩)
  obtain ⟨⟨c, rfl, hc⟩, rfl⟩ := hcut
  have HC := Lib.hid hc
  clear hc
  go_upto_if 16 with fail
  go_cut [] from 17 to 41 (fun wx => wx = ((w.alloc (.cells #[.int .i64 n1, .int .i64 d1, .pointer p1] 115)).alloc (.cells #[.int .i64 n2, .int .i64 d2, .pointer p2] 115)).alloc (.cells #[.int .i64 0, .int .i64 0, .pointer none] 115))
  case first =>
    rcases CF.cases h1 with ⟨rfl, en1, ed1, bn1, bm1, bd1, be1, bk1⟩ | ⟨rfl, rfl, hq1, q1, G1, A1, L1, C1, AA1, LL1, CC1, rfl, hB1, hZ1, hN1⟩
    · rcases CF.cases h2 with ⟨rfl, en2, ed2, bn2, bm2, bd2, be2, bk2⟩ | ⟨rfl, rfl, hq2, q2, G2, A2, L2, C2, AA2, LL2, CC2, rfl, hB2, hZ2, hN2⟩
      · obtain rfl : c = true := HC.out
        have HE := Lib.hid (mkRat_toNat en1 ed1 en2 ed2)
        clear en1 ed1 en2 ed2
        by_cases hA : (n1 * n2).natAbs < 4611686018427387904
        · by_cases hB : ((d1 + 1) * (d2 + 1)).natAbs < 4611686018427387904
          · obtain ⟨t1, t2⟩ := tVal_ok hA
            obtain ⟨t3, t4⟩ := tVal_ok hB
            have hp : 0 < (d1 + 1) * (d2 + 1) := Int.mul_pos (by omega) (by omega)
            have hq : -4611686018427387904 < n1 * n2 ∧ n1 * n2 < 4611686018427387904 := by omega
            have hr : 0 < (d1 + 1) * (d2 + 1) ∧ (d1 + 1) * (d2 + 1) < 4611686018427387904 := by omega
            clear hA hB hp
            go_wp2_with (first
    | (go_at_call 220; (with_reducible refine Calls.cS (timesX (by omega) (by omega) (by omega) (by omega)) ?_); intros)
    | (go_at_call 221; (with_reducible refine Calls.cF (lowestC ⟨hq.1, hq.2, hr.1, hr.2⟩) ?_); intros))
            refine ret_bx rfl Tryz.underlying115 rfl (by kernel_rfl) rfl rfl rfl ?_
            exact CFRet.fin HE.out (by omega)
          · obtain ⟨t1, t2⟩ := tVal_ok hA
            obtain ⟨t3, t4⟩ := tVal_no hB
            clear hA hB
            go_wp2_with (first
    | (go_at_call 220; (with_reducible refine Calls.cS (timesX (by omega) (by omega) (by omega) (by omega)) ?_); intros))
            go_meet
            rfl
        · obtain ⟨t1, t2⟩ := tVal_no hA
          clear hA
          go_wp2_with (first
    | (go_at_call 220; (with_reducible refine Calls.cS (timesX (by omega) (by omega) (by omega) (by omega)) ?_); intros))
          go_meet
          rfl
      · obtain rfl : c = false := HC.out
        go_wp2
        go_meet
        rfl
    · obtain rfl : c = false := HC.out
      go_wp2
      go_meet
      rfl
  case rest =>
    obtain rfl := hcut
    go_wp2_with fail
    refine region_cls (by kernel_rfl) [w.heap.size + 1 + 1] (fun hHeld => ?_)
    refine wpAnyH_take (i := 0) (v := ?z1) (by simp; rfl) (by kernel_rfl) (by kernel_rfl) (by kernel_rfl) (by exact fun _ _ _ h => h) (Or.inl ⟨by rfl, ?yz1⟩) hHeld ?_
    case yz1 => (intro wx hSw; have hSx := Ex1.mk hSw; go_simp; (try with_reducible rfl))
    try simp only [Act.put, List.setIfInBounds_toArray, List.set_cons_zero, List.set_cons_succ]
    refine wpAnyH_take (i := 2) (v := ?z2) (by simp; rfl) (by kernel_rfl) (by kernel_rfl) (by kernel_rfl) (by exact fun _ _ _ h => h) (Or.inl ⟨by rfl, ?yz2⟩) hHeld ?_
    case yz2 => (intro wx hSw; have hSx := Ex1.mk hSw; go_simp; (try with_reducible rfl))
    try simp only [Act.put, List.setIfInBounds_toArray, List.set_cons_zero, List.set_cons_succ]
    refine wpAnyH_take (i := 5) (v := ?z3) (by simp; rfl) (by kernel_rfl) (by kernel_rfl) (by kernel_rfl) (by exact fun _ _ _ h => h) (Or.inl ⟨by rfl, ?yz3⟩) hHeld ?_
    case yz3 => (intro wx hSw; have hSx := Ex1.mk hSw; go_simp; (try with_reducible rfl))
    try simp only [Act.put, List.setIfInBounds_toArray, List.set_cons_zero, List.set_cons_succ]
    refine wpAnyH_take (i := 7) (v := ?z4) (by simp; rfl) (by kernel_rfl) (by kernel_rfl) (by kernel_rfl) (by exact fun _ _ _ h => h) (Or.inl ⟨by rfl, ?yz4⟩) hHeld ?_
    case yz4 => (intro wx hSw; have hSx := Ex1.mk hSw; go_simp; (try with_reducible rfl))
    try simp only [Act.put, List.setIfInBounds_toArray, List.set_cons_zero, List.set_cons_succ]
    refine wpAnyH_ready (rs := [1]) (by kernel_rfl) (by simp) ?_
    refine AllReadyH.cons (by simp; rfl) (fun K hK => ?_) AllReadyH.nil
    go_simp
    (go_at_call 192; (with_reducible refine Calls.cZ (rNumC (by omega)) ?_); intros)
    refine hK.out _ _ inferInstance ?_
    clear hHeld hK K
    intro hHeld
    try simp only [Act.put, List.setIfInBounds_toArray, List.set_cons_zero, List.set_cons_succ]
    refine wpAnyH_ready (rs := [3]) (by kernel_rfl) (by simp) ?_
    refine AllReadyH.cons (by simp; rfl) (fun K hK => ?_) AllReadyH.nil
    go_simp
    (go_at_call 192; (with_reducible refine Calls.cZ (rNumC (by omega)) ?_); intros)
    refine hK.out _ _ inferInstance ?_
    clear hHeld hK K
    intro hHeld
    try simp only [Act.put, List.setIfInBounds_toArray, List.set_cons_zero, List.set_cons_succ]
    refine wpAnyH_ready (rs := [4]) (by kernel_rfl) (by simp) ?_
    refine AllReadyH.cons (by simp; rfl) (fun K hK => ?_) AllReadyH.nil
    go_simp
    (go_at_call 222; (with_reducible refine Calls.cZ (intMulC (by omega)) ?_); intros)
    refine hK.out _ _ inferInstance ?_
    clear hHeld hK K
    intro hHeld
    try simp only [Act.put, List.setIfInBounds_toArray, List.set_cons_zero, List.set_cons_succ]
    refine wpAnyH_ready (rs := [6]) (by kernel_rfl) (by simp) ?_
    refine AllReadyH.cons (by simp; rfl) (fun K hK => ?_) AllReadyH.nil
    go_simp
    (go_at_call 193; (with_reducible refine Calls.cN (rDenC (by omega)) ?_); intros)
    refine hK.out _ _ inferInstance ?_
    clear hHeld hK K
    intro hHeld
    try simp only [Act.put, List.setIfInBounds_toArray, List.set_cons_zero, List.set_cons_succ]
    refine wpAnyH_ready (rs := [8]) (by kernel_rfl) (by simp) ?_
    refine AllReadyH.cons (by simp; rfl) (fun K hK => ?_) AllReadyH.nil
    go_simp
    (go_at_call 193; (with_reducible refine Calls.cN (rDenC (by omega)) ?_); intros)
    refine hK.out _ _ inferInstance ?_
    clear hHeld hK K
    intro hHeld
    try simp only [Act.put, List.setIfInBounds_toArray, List.set_cons_zero, List.set_cons_succ]
    refine wpAnyH_ready (rs := [9]) (by kernel_rfl) (by simp) ?_
    refine AllReadyH.cons (by simp; rfl) (fun K hK => ?_) AllReadyH.nil
    go_simp
    (go_at_call 212; (with_reducible refine Calls.cN (mulC (by omega)) ?_); intros)
    refine hK.out _ _ inferInstance ?_
    clear hHeld hK K
    intro hHeld
    try simp only [Act.put, List.setIfInBounds_toArray, List.set_cons_zero, List.set_cons_succ]
    refine wpAnyH_ready (rs := [10]) (by kernel_rfl) (by simp) ?_
    refine AllReadyH.cons (by simp; rfl) (fun K hK => ?_) AllReadyH.nil
    go_simp
    (go_at_call 172; (with_reducible refine Calls.cF (reduceC (by omega)) ?_); intros)
    refine hK.out _ _ inferInstance ?_
    clear hHeld hK K
    intro hHeld
    try simp only [Act.put, List.setIfInBounds_toArray, List.set_cons_zero, List.set_cons_succ]
    refine wpAnyH_ready (rs := [11]) (by kernel_rfl) (by simp) ?_
    refine AllReadyH.cons (by simp; rfl) (fun K hK => ?_) AllReadyH.nil
    go_simp
    refine hK.out _ _ inferInstance ?_
    clear hHeld hK K
    intro hHeld
    try simp only [Act.put, List.setIfInBounds_toArray, List.set_cons_zero, List.set_cons_succ]
    refine wpAnyH_done (by kernel_rfl) ?_ _
    clear hHeld
    go_wp2
    refine ret_bx rfl Tryz.underlying115 rfl (by kernel_rfl) rfl rfl rfl ?_
    exact CFRet.fin HM.out.symm (by omega)

set_option maxRecDepth 100000 in
set_option maxHeartbeats 40000000 in
theorem rAddC {w : World} {n1 : Int} {d1 : Int} {p1 : Option Addr} {x : Rat} {n2 : Int} {d2 : Int} {p2 : Option Addr} {y : Rat} {k1 k2 : Nat} [h1 : CF w (.agg #[.int .i64 n1, .int .i64 d1, .pointer p1]) x k1] [h2 : CF w (.agg #[.int .i64 n2, .int .i64 d2, .pointer p2]) y k2] (b : k1 ≤ 300000 ∧ k2 ≤ 300000) :
    Calls Tryz.prog 195 #[.agg #[.int .i64 n1, .int .i64 d1, .pointer p1], .agg #[.int .i64 n2, .int .i64 d2, .pointer p2]] w (CFRet w (x + y) (k1 + k2 + 3)) := by
  have HM := Lib.hid (rat_add_mk x y)
  go_enter Tryz.func195, Tryz.ntmps195
  go_upto_region 1 with fail
  go_cut [20] from 13 to 20 (fun t wx => (∃ c : Bool, t = .bool c ∧ c = (p1.isNone && p2.isNone)) ∧ wx = ((w.alloc (.cells #[.int .i64 n1, .int .i64 d1, .pointer p1] 115)).alloc (.cells #[.int .i64 n2, .int .i64 d2, .pointer p2] 115)).alloc (.cells #[.int .i64 0, .int .i64 0, .pointer none] 115))
  case first =>
    cases p1 <;> cases p2 <;> (go_wp2; go_meet; exact ⟨⟨_, rfl, rfl⟩, rfl⟩)
  obtain ⟨⟨c, rfl, hc⟩, rfl⟩ := hcut
  have HC := Lib.hid hc
  clear hc
  go_upto_if 20 with fail
  go_cut [] from 21 to 83 (fun wx => wx = ((w.alloc (.cells #[.int .i64 n1, .int .i64 d1, .pointer p1] 115)).alloc (.cells #[.int .i64 n2, .int .i64 d2, .pointer p2] 115)).alloc (.cells #[.int .i64 0, .int .i64 0, .pointer none] 115))
  case first =>
    rcases CF.cases h1 with ⟨rfl, en1, ed1, bn1, bm1, bd1, be1, bk1⟩ | ⟨rfl, rfl, hq1, q1, G1, A1, L1, C1, AA1, LL1, CC1, rfl, hB1, hZ1, hN1⟩
    · rcases CF.cases h2 with ⟨rfl, en2, ed2, bn2, bm2, bd2, be2, bk2⟩ | ⟨rfl, rfl, hq2, q2, G2, A2, L2, C2, AA2, LL2, CC2, rfl, hB2, hZ2, hN2⟩
      · obtain rfl : c = true := HC.out
        by_cases hd1 : d1 = 0
        · have q1 : (d1 == 0) = true := by rw [hd1]; rfl
          by_cases hd2 : d2 = 0
          · have q2 : (d2 == 0) = true := by rw [hd2]; rfl
            have HE : Hid (((n1 + n2 : Int) : Rat) = x + y) := by show _ = _; rw [rat_add1 (x := x) (y := y) (by omega) (by omega), en1, en2]
            clear en1 ed1 en2 ed2 hd1 hd2
            have b1 : -9223372036854775808 ≤ n1 + n2 := by omega
            have b2 : n1 + n2 < 9223372036854775808 := by omega
            go_wp2_with (first
    | (go_at_call 94; (with_reducible refine Calls.cF (fracIntC ⟨b1, b2⟩) ?_); intros))
            refine ret_bx rfl Tryz.underlying115 rfl (by kernel_rfl) rfl rfl rfl ?_
            exact CFRet.fin HE.out (by omega)
          · have q2 : (d2 == 0) = false := by rw [beq_eq_false_iff_ne]; exact hd2
            clear hd1 hd2
            have HE := Lib.hid (mkRat_toNat2 en1 ed1 en2 ed2)
            clear en1 ed1 en2 ed2
            by_cases hA : (n1 * (d2 + 1)).natAbs < 4611686018427387904
            · by_cases hB : (n2 * (d1 + 1)).natAbs < 4611686018427387904
              · obtain ⟨t1, t2⟩ := tVal_ok hA
                obtain ⟨t3, t4⟩ := tVal_ok hB
                by_cases hC : ((d1 + 1) * (d2 + 1)).natAbs < 4611686018427387904
                · obtain ⟨t5, t6⟩ := tVal_ok hC
                  have hp : 0 < (d1 + 1) * (d2 + 1) := Int.mul_pos (by omega) (by omega)
                  have hr : 0 < (d1 + 1) * (d2 + 1) ∧ (d1 + 1) * (d2 + 1) < 4611686018427387904 := by omega
                  have hA1 : -4611686018427387904 < n1 * (d2 + 1) ∧ n1 * (d2 + 1) < 4611686018427387904 := by omega
                  have hB1 : -4611686018427387904 < n2 * (d1 + 1) ∧ n2 * (d1 + 1) < 4611686018427387904 := by omega
                  obtain ⟨hA1, hA2⟩ := hA1
                  obtain ⟨hB1, hB2⟩ := hB1
                  clear hA hB hC hp
                  generalize n1 * (d2 + 1) = P at *
                  generalize n2 * (d1 + 1) = Q at *
                  generalize (d1 + 1) * (d2 + 1) = D at *
                  by_cases hS : -4611686018427387904 < P + Q
                  · by_cases hS2 : P + Q < 4611686018427387904
                    · go_wp2_with (first
    | (go_at_call 220; (with_reducible refine Calls.cS (timesX (by omega) (by omega) (by omega) (by omega)) ?_); intros)
    | (go_at_call 221; (with_reducible refine Calls.cF (lowestC ⟨hS, hS2, hr.1, hr.2⟩) ?_); intros))
                      refine ret_bx rfl Tryz.underlying115 rfl (by kernel_rfl) rfl rfl rfl ?_
                      exact CFRet.fin HE.out (by omega)
                    · have hS3 : 4611686018427387904 ≤ P + Q := by omega
                      clear hS2
                      go_wp2_with (first
    | (go_at_call 220; (with_reducible refine Calls.cS (timesX (by omega) (by omega) (by omega) (by omega)) ?_); intros))
                      go_meet
                      rfl
                  · have hS3 : P + Q ≤ -4611686018427387904 := by omega
                    clear hS
                    go_wp2_with (first
    | (go_at_call 220; (with_reducible refine Calls.cS (timesX (by omega) (by omega) (by omega) (by omega)) ?_); intros))
                    go_meet
                    rfl
                · obtain ⟨t5, t6⟩ := tVal_no hC
                  clear hC
                  have hA1 : -4611686018427387904 < n1 * (d2 + 1) ∧ n1 * (d2 + 1) < 4611686018427387904 := by omega
                  have hB1 : -4611686018427387904 < n2 * (d1 + 1) ∧ n2 * (d1 + 1) < 4611686018427387904 := by omega
                  obtain ⟨hA1, hA2⟩ := hA1
                  obtain ⟨hB1, hB2⟩ := hB1
                  clear hA hB
                  go_wp2_with (first
    | (go_at_call 220; (with_reducible refine Calls.cS (timesX (by omega) (by omega) (by omega) (by omega)) ?_); intros))
                  go_meet
                  rfl
              · obtain ⟨t1, t2⟩ := tVal_ok hA
                obtain ⟨t3, t4⟩ := tVal_no hB
                have hA1 : -4611686018427387904 < n1 * (d2 + 1) ∧ n1 * (d2 + 1) < 4611686018427387904 := by omega
                obtain ⟨hA1, hA2⟩ := hA1
                clear hA hB
                go_wp2_with (first
    | (go_at_call 220; (with_reducible refine Calls.cS (timesX (by omega) (by omega) (by omega) (by omega)) ?_); intros))
                go_meet
                rfl
            · obtain ⟨t1, t2⟩ := tVal_no hA
              clear hA
              by_cases hB : (n2 * (d1 + 1)).natAbs < 4611686018427387904
              · obtain ⟨t3, t4⟩ := tVal_ok hB
                have hB1 : -4611686018427387904 < n2 * (d1 + 1) ∧ n2 * (d1 + 1) < 4611686018427387904 := by omega
                obtain ⟨hB1, hB2⟩ := hB1
                clear hB
                go_wp2_with (first
    | (go_at_call 220; (with_reducible refine Calls.cS (timesX (by omega) (by omega) (by omega) (by omega)) ?_); intros))
                go_meet
                rfl
              · obtain ⟨t3, t4⟩ := tVal_no hB
                clear hB
                go_wp2_with (first
    | (go_at_call 220; (with_reducible refine Calls.cS (timesX (by omega) (by omega) (by omega) (by omega)) ?_); intros))
                go_meet
                rfl
        · have q1 : (d1 == 0) = false := by rw [beq_eq_false_iff_ne]; exact hd1
          clear hd1
          have HE := Lib.hid (mkRat_toNat2 en1 ed1 en2 ed2)
          clear en1 ed1 en2 ed2
          by_cases hA : (n1 * (d2 + 1)).natAbs < 4611686018427387904
          · by_cases hB : (n2 * (d1 + 1)).natAbs < 4611686018427387904
            · obtain ⟨t1, t2⟩ := tVal_ok hA
              obtain ⟨t3, t4⟩ := tVal_ok hB
              by_cases hC : ((d1 + 1) * (d2 + 1)).natAbs < 4611686018427387904
              · obtain ⟨t5, t6⟩ := tVal_ok hC
                have hp : 0 < (d1 + 1) * (d2 + 1) := Int.mul_pos (by omega) (by omega)
                have hr : 0 < (d1 + 1) * (d2 + 1) ∧ (d1 + 1) * (d2 + 1) < 4611686018427387904 := by omega
                have hA1 : -4611686018427387904 < n1 * (d2 + 1) ∧ n1 * (d2 + 1) < 4611686018427387904 := by omega
                have hB1 : -4611686018427387904 < n2 * (d1 + 1) ∧ n2 * (d1 + 1) < 4611686018427387904 := by omega
                obtain ⟨hA1, hA2⟩ := hA1
                obtain ⟨hB1, hB2⟩ := hB1
                clear hA hB hC hp
                generalize n1 * (d2 + 1) = P at *
                generalize n2 * (d1 + 1) = Q at *
                generalize (d1 + 1) * (d2 + 1) = D at *
                by_cases hS : -4611686018427387904 < P + Q
                · by_cases hS2 : P + Q < 4611686018427387904
                  · go_wp2_with (first
    | (go_at_call 220; (with_reducible refine Calls.cS (timesX (by omega) (by omega) (by omega) (by omega)) ?_); intros)
    | (go_at_call 221; (with_reducible refine Calls.cF (lowestC ⟨hS, hS2, hr.1, hr.2⟩) ?_); intros))
                    refine ret_bx rfl Tryz.underlying115 rfl (by kernel_rfl) rfl rfl rfl ?_
                    exact CFRet.fin HE.out (by omega)
                  · have hS3 : 4611686018427387904 ≤ P + Q := by omega
                    clear hS2
                    go_wp2_with (first
    | (go_at_call 220; (with_reducible refine Calls.cS (timesX (by omega) (by omega) (by omega) (by omega)) ?_); intros))
                    go_meet
                    rfl
                · have hS3 : P + Q ≤ -4611686018427387904 := by omega
                  clear hS
                  go_wp2_with (first
    | (go_at_call 220; (with_reducible refine Calls.cS (timesX (by omega) (by omega) (by omega) (by omega)) ?_); intros))
                  go_meet
                  rfl
              · obtain ⟨t5, t6⟩ := tVal_no hC
                clear hC
                have hA1 : -4611686018427387904 < n1 * (d2 + 1) ∧ n1 * (d2 + 1) < 4611686018427387904 := by omega
                have hB1 : -4611686018427387904 < n2 * (d1 + 1) ∧ n2 * (d1 + 1) < 4611686018427387904 := by omega
                obtain ⟨hA1, hA2⟩ := hA1
                obtain ⟨hB1, hB2⟩ := hB1
                clear hA hB
                go_wp2_with (first
    | (go_at_call 220; (with_reducible refine Calls.cS (timesX (by omega) (by omega) (by omega) (by omega)) ?_); intros))
                go_meet
                rfl
            · obtain ⟨t1, t2⟩ := tVal_ok hA
              obtain ⟨t3, t4⟩ := tVal_no hB
              have hA1 : -4611686018427387904 < n1 * (d2 + 1) ∧ n1 * (d2 + 1) < 4611686018427387904 := by omega
              obtain ⟨hA1, hA2⟩ := hA1
              clear hA hB
              go_wp2_with (first
    | (go_at_call 220; (with_reducible refine Calls.cS (timesX (by omega) (by omega) (by omega) (by omega)) ?_); intros))
              go_meet
              rfl
          · obtain ⟨t1, t2⟩ := tVal_no hA
            clear hA
            by_cases hB : (n2 * (d1 + 1)).natAbs < 4611686018427387904
            · obtain ⟨t3, t4⟩ := tVal_ok hB
              have hB1 : -4611686018427387904 < n2 * (d1 + 1) ∧ n2 * (d1 + 1) < 4611686018427387904 := by omega
              obtain ⟨hB1, hB2⟩ := hB1
              clear hB
              go_wp2_with (first
    | (go_at_call 220; (with_reducible refine Calls.cS (timesX (by omega) (by omega) (by omega) (by omega)) ?_); intros))
              go_meet
              rfl
            · obtain ⟨t3, t4⟩ := tVal_no hB
              clear hB
              go_wp2_with (first
    | (go_at_call 220; (with_reducible refine Calls.cS (timesX (by omega) (by omega) (by omega) (by omega)) ?_); intros))
              go_meet
              rfl
      · obtain rfl : c = false := HC.out
        go_wp2
        go_meet
        rfl
    · obtain rfl : c = false := HC.out
      go_wp2
      go_meet
      rfl
  case rest =>
    obtain rfl := hcut
    go_upto_region 10 with fail
    go_cut [12] from 84 to 96 (fun t wx => ∃ (b : Nat) (g : Bool) (a : Option Addr) (l c : Nat), t = .pointer (some ⟨b, 0, none⟩) ∧ Bx wx b 25 [.bool g, .slice a l c] ∧ CZ wx (.agg #[.bool g, .slice a l c]) (x.num * (y.den : Int) + y.num * (x.den : Int)) (k1 + k2 + 1) ∧ Kp (((w.alloc (.cells #[.int .i64 n1, .int .i64 d1, .pointer p1] 115)).alloc (.cells #[.int .i64 n2, .int .i64 d2, .pointer p2] 115)).alloc (.cells #[.int .i64 0, .int .i64 0, .pointer none] 115)) wx ∧ LtN (w.heap.size + 1 + 1) b)
    case first =>
      refine region_cls (by kernel_rfl) [w.heap.size + 1 + 1] (fun hHeld => ?_)
      refine wpAnyH_take (i := 0) (v := ?z5) (by simp; rfl) (by kernel_rfl) (by kernel_rfl) (by kernel_rfl) (by exact fun _ _ _ h => h) (Or.inl ⟨by rfl, ?yz5⟩) hHeld ?_
      case yz5 => (intro wx hSw; have hSx := Ex1.mk hSw; go_simp; (try with_reducible rfl))
      try simp only [Act.put, List.setIfInBounds_toArray, List.set_cons_zero, List.set_cons_succ]
      refine wpAnyH_take (i := 2) (v := ?z6) (by simp; rfl) (by kernel_rfl) (by kernel_rfl) (by kernel_rfl) (by exact fun _ _ _ h => h) (Or.inl ⟨by rfl, ?yz6⟩) hHeld ?_
      case yz6 => (intro wx hSw; have hSx := Ex1.mk hSw; go_simp; (try with_reducible rfl))
      try simp only [Act.put, List.setIfInBounds_toArray, List.set_cons_zero, List.set_cons_succ]
      refine wpAnyH_take (i := 6) (v := ?z7) (by simp; rfl) (by kernel_rfl) (by kernel_rfl) (by kernel_rfl) (by exact fun _ _ _ h => h) (Or.inl ⟨by rfl, ?yz7⟩) hHeld ?_
      case yz7 => (intro wx hSw; have hSx := Ex1.mk hSw; go_simp; (try with_reducible rfl))
      try simp only [Act.put, List.setIfInBounds_toArray, List.set_cons_zero, List.set_cons_succ]
      refine wpAnyH_take (i := 8) (v := ?z8) (by simp; rfl) (by kernel_rfl) (by kernel_rfl) (by kernel_rfl) (by exact fun _ _ _ h => h) (Or.inl ⟨by rfl, ?yz8⟩) hHeld ?_
      case yz8 => (intro wx hSw; have hSx := Ex1.mk hSw; go_simp; (try with_reducible rfl))
      try simp only [Act.put, List.setIfInBounds_toArray, List.set_cons_zero, List.set_cons_succ]
      refine wpAnyH_ready (rs := [1, 13]) (by kernel_rfl) (by simp) ?_
      refine AllReadyH.cons (by simp; rfl) (fun K hK => ?_) (AllReadyH.cons (by simp; rfl) (fun K hK => ?_) AllReadyH.nil)
      go_simp
      (go_at_call 192; (with_reducible refine Calls.cZ (rNumC (by omega)) ?_); intros)
      refine hK.out _ _ inferInstance ?_
      clear hHeld hK K
      intro hHeld
      try simp only [Act.put, List.setIfInBounds_toArray, List.set_cons_zero, List.set_cons_succ]
      refine wpAnyH_ready (rs := [3, 13]) (by kernel_rfl) (by simp) ?_
      refine AllReadyH.cons (by simp; rfl) (fun K hK => ?_) (AllReadyH.cons (by simp; rfl) (fun K hK => ?_) AllReadyH.nil)
      go_simp
      (go_at_call 193; (with_reducible refine Calls.cN (rDenC (by omega)) ?_); intros)
      refine hK.out _ _ inferInstance ?_
      clear hHeld hK K
      intro hHeld
      try simp only [Act.put, List.setIfInBounds_toArray, List.set_cons_zero, List.set_cons_succ]
      refine wpAnyH_take (i := 4) (v := ?z9) (by simp; rfl) (by kernel_rfl) (by kernel_rfl) (by kernel_rfl) (by exact fun _ _ _ h => h) (Or.inl ⟨by rfl, ?yz9⟩) hHeld ?_
      case yz9 => (intro wx hSw; have hSx := Ex1.mk hSw; go_simp; (try with_reducible rfl))
      try simp only [Act.put, List.setIfInBounds_toArray, List.set_cons_zero, List.set_cons_succ]
      refine wpAnyH_ready (rs := [5, 13]) (by kernel_rfl) (by simp) ?_
      refine AllReadyH.cons (by simp; rfl) (fun K hK => ?_) (AllReadyH.cons (by simp; rfl) (fun K hK => ?_) AllReadyH.nil)
      go_simp
      (go_at_call 222; (with_reducible refine Calls.cZ (intMulC (by omega)) ?_); intros)
      refine hK.out _ _ inferInstance ?_
      clear hHeld hK K
      intro hHeld
      try simp only [Act.put, List.setIfInBounds_toArray, List.set_cons_zero, List.set_cons_succ]
      refine wpAnyH_ready (rs := [7, 13]) (by kernel_rfl) (by simp) ?_
      refine AllReadyH.cons (by simp; rfl) (fun K hK => ?_) (AllReadyH.cons (by simp; rfl) (fun K hK => ?_) AllReadyH.nil)
      go_simp
      (go_at_call 192; (with_reducible refine Calls.cZ (rNumC (by omega)) ?_); intros)
      refine hK.out _ _ inferInstance ?_
      clear hHeld hK K
      intro hHeld
      try simp only [Act.put, List.setIfInBounds_toArray, List.set_cons_zero, List.set_cons_succ]
      refine wpAnyH_ready (rs := [9, 13]) (by kernel_rfl) (by simp) ?_
      refine AllReadyH.cons (by simp; rfl) (fun K hK => ?_) (AllReadyH.cons (by simp; rfl) (fun K hK => ?_) AllReadyH.nil)
      go_simp
      (go_at_call 193; (with_reducible refine Calls.cN (rDenC (by omega)) ?_); intros)
      refine hK.out _ _ inferInstance ?_
      clear hHeld hK K
      intro hHeld
      try simp only [Act.put, List.setIfInBounds_toArray, List.set_cons_zero, List.set_cons_succ]
      refine wpAnyH_take (i := 10) (v := ?z10) (by simp; rfl) (by kernel_rfl) (by kernel_rfl) (by kernel_rfl) (by exact fun _ _ _ h => h) (Or.inl ⟨by rfl, ?yz10⟩) hHeld ?_
      case yz10 => (intro wx hSw; have hSx := Ex1.mk hSw; go_simp; (try with_reducible rfl))
      try simp only [Act.put, List.setIfInBounds_toArray, List.set_cons_zero, List.set_cons_succ]
      refine wpAnyH_ready (rs := [11, 13]) (by kernel_rfl) (by simp) ?_
      refine AllReadyH.cons (by simp; rfl) (fun K hK => ?_) (AllReadyH.cons (by simp; rfl) (fun K hK => ?_) AllReadyH.nil)
      go_simp
      (go_at_call 222; (with_reducible refine Calls.cZ (intMulC (by omega)) ?_); intros)
      refine hK.out _ _ inferInstance ?_
      clear hHeld hK K
      intro hHeld
      try simp only [Act.put, List.setIfInBounds_toArray, List.set_cons_zero, List.set_cons_succ]
      refine wpAnyH_ready (rs := [12, 13]) (by kernel_rfl) (by simp) ?_
      refine AllReadyH.cons (by simp; rfl) (fun K hK => ?_) (AllReadyH.cons (by simp; rfl) (fun K hK => ?_) AllReadyH.nil)
      go_simp
      (go_at_call 223; (with_reducible refine Calls.cZ (intAddC (by omega)) ?_); intros)
      refine hK.out _ _ inferInstance ?_
      clear hHeld hK K
      intro hHeld
      try simp only [Act.put, List.setIfInBounds_toArray, List.set_cons_zero, List.set_cons_succ]
      refine wpAnyH_ready (rs := [13]) (by kernel_rfl) (by simp) ?_
      refine AllReadyH.cons (by simp; rfl) (fun K hK => ?_) AllReadyH.nil
      go_simp
      refine hK.out _ _ inferInstance ?_
      clear hHeld hK K
      intro hHeld
      try simp only [Act.put, List.setIfInBounds_toArray, List.set_cons_zero, List.set_cons_succ]
      refine wpAnyH_ready (rs := [14]) (by kernel_rfl) (by simp) ?_
      refine AllReadyH.cons (by simp; rfl) (fun K hK => ?_) AllReadyH.nil
      go_simp
      refine hK.out _ _ inferInstance ?_
      clear hHeld hK K
      intro hHeld
      try simp only [Act.put, List.setIfInBounds_toArray, List.set_cons_zero, List.set_cons_succ]
      refine wpAnyH_done (by kernel_rfl) ?_ _
      clear hHeld
      go_wp2_with fail
      go_meet
      exact ⟨_, _, _, _, _, rfl, inferInstance, CZ.cast inferInstance rfl (by omega), inferInstance, inferInstance⟩
      go_simp
      refine hK.out _ _ inferInstance ?_
      clear hHeld hK K
      intro hHeld
      try simp only [Act.put, List.setIfInBounds_toArray, List.set_cons_zero, List.set_cons_succ]
      refine wpAnyH_ready (rs := [12]) (by kernel_rfl) (by simp) ?_
      refine AllReadyH.cons (by simp; rfl) (fun K hK => ?_) AllReadyH.nil
      go_simp
      (go_at_call 223; (with_reducible refine Calls.cZ (intAddC (by omega)) ?_); intros)
      refine hK.out _ _ inferInstance ?_
      clear hHeld hK K
      intro hHeld
      try simp only [Act.put, List.setIfInBounds_toArray, List.set_cons_zero, List.set_cons_succ]
      refine wpAnyH_ready (rs := [14]) (by kernel_rfl) (by simp) ?_
      refine AllReadyH.cons (by simp; rfl) (fun K hK => ?_) AllReadyH.nil
      go_simp
      refine hK.out _ _ inferInstance ?_
      clear hHeld hK K
      intro hHeld
      try simp only [Act.put, List.setIfInBounds_toArray, List.set_cons_zero, List.set_cons_succ]
      refine wpAnyH_done (by kernel_rfl) ?_ _
      clear hHeld
      go_wp2_with fail
      go_meet
      exact ⟨_, _, _, _, _, rfl, inferInstance, CZ.cast inferInstance rfl (by omega), inferInstance, inferInstance⟩
      go_simp
      refine hK.out _ _ inferInstance ?_
      clear hHeld hK K
      intro hHeld
      try simp only [Act.put, List.setIfInBounds_toArray, List.set_cons_zero, List.set_cons_succ]
      refine wpAnyH_ready (rs := [11]) (by kernel_rfl) (by simp) ?_
      refine AllReadyH.cons (by simp; rfl) (fun K hK => ?_) AllReadyH.nil
      go_simp
      (go_at_call 222; (with_reducible refine Calls.cZ (intMulC (by omega)) ?_); intros)
      refine hK.out _ _ inferInstance ?_
      clear hHeld hK K
      intro hHeld
      try simp only [Act.put, List.setIfInBounds_toArray, List.set_cons_zero, List.set_cons_succ]
      refine wpAnyH_ready (rs := [12]) (by kernel_rfl) (by simp) ?_
      refine AllReadyH.cons (by simp; rfl) (fun K hK => ?_) AllReadyH.nil
      go_simp
      (go_at_call 223; (with_reducible refine Calls.cZ (intAddC (by omega)) ?_); intros)
      refine hK.out _ _ inferInstance ?_
      clear hHeld hK K
      intro hHeld
      try simp only [Act.put, List.setIfInBounds_toArray, List.set_cons_zero, List.set_cons_succ]
      refine wpAnyH_ready (rs := [14]) (by kernel_rfl) (by simp) ?_
      refine AllReadyH.cons (by simp; rfl) (fun K hK => ?_) AllReadyH.nil
      go_simp
      refine hK.out _ _ inferInstance ?_
      clear hHeld hK K
      intro hHeld
      try simp only [Act.put, List.setIfInBounds_toArray, List.set_cons_zero, List.set_cons_succ]
      refine wpAnyH_done (by kernel_rfl) ?_ _
      clear hHeld
      go_wp2_with fail
      go_meet
      exact ⟨_, _, _, _, _, rfl, inferInstance, CZ.cast inferInstance rfl (by omega), inferInstance, inferInstance⟩
      go_simp
      refine hK.out _ _ inferInstance ?_
      clear hHeld hK K
      intro hHeld
      try simp only [Act.put, List.setIfInBounds_toArray, List.set_cons_zero, List.set_cons_succ]
      refine wpAnyH_ready (rs := [9]) (by kernel_rfl) (by simp) ?_
      refine AllReadyH.cons (by simp; rfl) (fun K hK => ?_) AllReadyH.nil
      go_simp
      (go_at_call 193; (with_reducible refine Calls.cN (rDenC (by omega)) ?_); intros)
      refine hK.out _ _ inferInstance ?_
      clear hHeld hK K
      intro hHeld
      try simp only [Act.put, List.setIfInBounds_toArray, List.set_cons_zero, List.set_cons_succ]
      refine wpAnyH_take (i := 10) (v := ?z11) (by simp; rfl) (by kernel_rfl) (by kernel_rfl) (by kernel_rfl) (by exact fun _ _ _ h => h) (Or.inl ⟨by rfl, ?yz11⟩) hHeld ?_
      case yz11 => (intro wx hSw; have hSx := Ex1.mk hSw; go_simp; (try with_reducible rfl))
      try simp only [Act.put, List.setIfInBounds_toArray, List.set_cons_zero, List.set_cons_succ]
      refine wpAnyH_ready (rs := [11]) (by kernel_rfl) (by simp) ?_
      refine AllReadyH.cons (by simp; rfl) (fun K hK => ?_) AllReadyH.nil
      go_simp
      (go_at_call 222; (with_reducible refine Calls.cZ (intMulC (by omega)) ?_); intros)
      refine hK.out _ _ inferInstance ?_
      clear hHeld hK K
      intro hHeld
      try simp only [Act.put, List.setIfInBounds_toArray, List.set_cons_zero, List.set_cons_succ]
      refine wpAnyH_ready (rs := [12]) (by kernel_rfl) (by simp) ?_
      refine AllReadyH.cons (by simp; rfl) (fun K hK => ?_) AllReadyH.nil
      go_simp
      (go_at_call 223; (with_reducible refine Calls.cZ (intAddC (by omega)) ?_); intros)
      refine hK.out _ _ inferInstance ?_
      clear hHeld hK K
      intro hHeld
      try simp only [Act.put, List.setIfInBounds_toArray, List.set_cons_zero, List.set_cons_succ]
      refine wpAnyH_ready (rs := [14]) (by kernel_rfl) (by simp) ?_
      refine AllReadyH.cons (by simp; rfl) (fun K hK => ?_) AllReadyH.nil
      go_simp
      refine hK.out _ _ inferInstance ?_
      clear hHeld hK K
      intro hHeld
      try simp only [Act.put, List.setIfInBounds_toArray, List.set_cons_zero, List.set_cons_succ]
      refine wpAnyH_done (by kernel_rfl) ?_ _
      clear hHeld
      go_wp2_with fail
      go_meet
      exact ⟨_, _, _, _, _, rfl, inferInstance, CZ.cast inferInstance rfl (by omega), inferInstance, inferInstance⟩
      go_simp
      refine hK.out _ _ inferInstance ?_
      clear hHeld hK K
      intro hHeld
      try simp only [Act.put, List.setIfInBounds_toArray, List.set_cons_zero, List.set_cons_succ]
      refine wpAnyH_ready (rs := [7]) (by kernel_rfl) (by simp) ?_
      refine AllReadyH.cons (by simp; rfl) (fun K hK => ?_) AllReadyH.nil
      go_simp
      (go_at_call 192; (with_reducible refine Calls.cZ (rNumC (by omega)) ?_); intros)
      refine hK.out _ _ inferInstance ?_
      clear hHeld hK K
      intro hHeld
      try simp only [Act.put, List.setIfInBounds_toArray, List.set_cons_zero, List.set_cons_succ]
      refine wpAnyH_ready (rs := [9]) (by kernel_rfl) (by simp) ?_
      refine AllReadyH.cons (by simp; rfl) (fun K hK => ?_) AllReadyH.nil
      go_simp
      (go_at_call 193; (with_reducible refine Calls.cN (rDenC (by omega)) ?_); intros)
      refine hK.out _ _ inferInstance ?_
      clear hHeld hK K
      intro hHeld
      try simp only [Act.put, List.setIfInBounds_toArray, List.set_cons_zero, List.set_cons_succ]
      refine wpAnyH_take (i := 10) (v := ?z12) (by simp; rfl) (by kernel_rfl) (by kernel_rfl) (by kernel_rfl) (by exact fun _ _ _ h => h) (Or.inl ⟨by rfl, ?yz12⟩) hHeld ?_
      case yz12 => (intro wx hSw; have hSx := Ex1.mk hSw; go_simp; (try with_reducible rfl))
      try simp only [Act.put, List.setIfInBounds_toArray, List.set_cons_zero, List.set_cons_succ]
      refine wpAnyH_ready (rs := [11]) (by kernel_rfl) (by simp) ?_
      refine AllReadyH.cons (by simp; rfl) (fun K hK => ?_) AllReadyH.nil
      go_simp
      (go_at_call 222; (with_reducible refine Calls.cZ (intMulC (by omega)) ?_); intros)
      refine hK.out _ _ inferInstance ?_
      clear hHeld hK K
      intro hHeld
      try simp only [Act.put, List.setIfInBounds_toArray, List.set_cons_zero, List.set_cons_succ]
      refine wpAnyH_ready (rs := [12]) (by kernel_rfl) (by simp) ?_
      refine AllReadyH.cons (by simp; rfl) (fun K hK => ?_) AllReadyH.nil
      go_simp
      (go_at_call 223; (with_reducible refine Calls.cZ (intAddC (by omega)) ?_); intros)
      refine hK.out _ _ inferInstance ?_
      clear hHeld hK K
      intro hHeld
      try simp only [Act.put, List.setIfInBounds_toArray, List.set_cons_zero, List.set_cons_succ]
      refine wpAnyH_ready (rs := [14]) (by kernel_rfl) (by simp) ?_
      refine AllReadyH.cons (by simp; rfl) (fun K hK => ?_) AllReadyH.nil
      go_simp
      refine hK.out _ _ inferInstance ?_
      clear hHeld hK K
      intro hHeld
      try simp only [Act.put, List.setIfInBounds_toArray, List.set_cons_zero, List.set_cons_succ]
      refine wpAnyH_done (by kernel_rfl) ?_ _
      clear hHeld
      go_wp2_with fail
      go_meet
      exact ⟨_, _, _, _, _, rfl, inferInstance, CZ.cast inferInstance rfl (by omega), inferInstance, inferInstance⟩
      go_simp
      refine hK.out _ _ inferInstance ?_
      clear hHeld hK K
      intro hHeld
      try simp only [Act.put, List.setIfInBounds_toArray, List.set_cons_zero, List.set_cons_succ]
      refine wpAnyH_ready (rs := [5]) (by kernel_rfl) (by simp) ?_
      refine AllReadyH.cons (by simp; rfl) (fun K hK => ?_) AllReadyH.nil
      go_simp
      (go_at_call 222; (with_reducible refine Calls.cZ (intMulC (by omega)) ?_); intros)
      refine hK.out _ _ inferInstance ?_
      clear hHeld hK K
      intro hHeld
      try simp only [Act.put, List.setIfInBounds_toArray, List.set_cons_zero, List.set_cons_succ]
      refine wpAnyH_ready (rs := [7]) (by kernel_rfl) (by simp) ?_
      refine AllReadyH.cons (by simp; rfl) (fun K hK => ?_) AllReadyH.nil
      go_simp
      (go_at_call 192; (with_reducible refine Calls.cZ (rNumC (by omega)) ?_); intros)
      refine hK.out _ _ inferInstance ?_
      clear hHeld hK K
      intro hHeld
      try simp only [Act.put, List.setIfInBounds_toArray, List.set_cons_zero, List.set_cons_succ]
      refine wpAnyH_ready (rs := [9]) (by kernel_rfl) (by simp) ?_
      refine AllReadyH.cons (by simp; rfl) (fun K hK => ?_) AllReadyH.nil
      go_simp
      (go_at_call 193; (with_reducible refine Calls.cN (rDenC (by omega)) ?_); intros)
      refine hK.out _ _ inferInstance ?_
      clear hHeld hK K
      intro hHeld
      try simp only [Act.put, List.setIfInBounds_toArray, List.set_cons_zero, List.set_cons_succ]
      refine wpAnyH_take (i := 10) (v := ?z13) (by simp; rfl) (by kernel_rfl) (by kernel_rfl) (by kernel_rfl) (by exact fun _ _ _ h => h) (Or.inl ⟨by rfl, ?yz13⟩) hHeld ?_
      case yz13 => (intro wx hSw; have hSx := Ex1.mk hSw; go_simp; (try with_reducible rfl))
      try simp only [Act.put, List.setIfInBounds_toArray, List.set_cons_zero, List.set_cons_succ]
      refine wpAnyH_ready (rs := [11]) (by kernel_rfl) (by simp) ?_
      refine AllReadyH.cons (by simp; rfl) (fun K hK => ?_) AllReadyH.nil
      go_simp
      (go_at_call 222; (with_reducible refine Calls.cZ (intMulC (by omega)) ?_); intros)
      refine hK.out _ _ inferInstance ?_
      clear hHeld hK K
      intro hHeld
      try simp only [Act.put, List.setIfInBounds_toArray, List.set_cons_zero, List.set_cons_succ]
      refine wpAnyH_ready (rs := [12]) (by kernel_rfl) (by simp) ?_
      refine AllReadyH.cons (by simp; rfl) (fun K hK => ?_) AllReadyH.nil
      go_simp
      (go_at_call 223; (with_reducible refine Calls.cZ (intAddC (by omega)) ?_); intros)
      refine hK.out _ _ inferInstance ?_
      clear hHeld hK K
      intro hHeld
      try simp only [Act.put, List.setIfInBounds_toArray, List.set_cons_zero, List.set_cons_succ]
      refine wpAnyH_ready (rs := [14]) (by kernel_rfl) (by simp) ?_
      refine AllReadyH.cons (by simp; rfl) (fun K hK => ?_) AllReadyH.nil
      go_simp
      refine hK.out _ _ inferInstance ?_
      clear hHeld hK K
      intro hHeld
      try simp only [Act.put, List.setIfInBounds_toArray, List.set_cons_zero, List.set_cons_succ]
      refine wpAnyH_done (by kernel_rfl) ?_ _
      clear hHeld
      go_wp2_with fail
      go_meet
      exact ⟨_, _, _, _, _, rfl, inferInstance, CZ.cast inferInstance rfl (by omega), inferInstance, inferInstance⟩
      go_simp
      refine hK.out _ _ inferInstance ?_
      clear hHeld hK K
      intro hHeld
      try simp only [Act.put, List.setIfInBounds_toArray, List.set_cons_zero, List.set_cons_succ]
      refine wpAnyH_ready (rs := [3]) (by kernel_rfl) (by simp) ?_
      refine AllReadyH.cons (by simp; rfl) (fun K hK => ?_) AllReadyH.nil
      go_simp
      (go_at_call 193; (with_reducible refine Calls.cN (rDenC (by omega)) ?_); intros)
      refine hK.out _ _ inferInstance ?_
      clear hHeld hK K
      intro hHeld
      try simp only [Act.put, List.setIfInBounds_toArray, List.set_cons_zero, List.set_cons_succ]
      refine wpAnyH_take (i := 4) (v := ?z14) (by simp; rfl) (by kernel_rfl) (by kernel_rfl) (by kernel_rfl) (by exact fun _ _ _ h => h) (Or.inl ⟨by rfl, ?yz14⟩) hHeld ?_
      case yz14 => (intro wx hSw; have hSx := Ex1.mk hSw; go_simp; (try with_reducible rfl))
      try simp only [Act.put, List.setIfInBounds_toArray, List.set_cons_zero, List.set_cons_succ]
      refine wpAnyH_ready (rs := [5]) (by kernel_rfl) (by simp) ?_
      refine AllReadyH.cons (by simp; rfl) (fun K hK => ?_) AllReadyH.nil
      go_simp
      (go_at_call 222; (with_reducible refine Calls.cZ (intMulC (by omega)) ?_); intros)
      refine hK.out _ _ inferInstance ?_
      clear hHeld hK K
      intro hHeld
      try simp only [Act.put, List.setIfInBounds_toArray, List.set_cons_zero, List.set_cons_succ]
      refine wpAnyH_ready (rs := [7]) (by kernel_rfl) (by simp) ?_
      refine AllReadyH.cons (by simp; rfl) (fun K hK => ?_) AllReadyH.nil
      go_simp
      (go_at_call 192; (with_reducible refine Calls.cZ (rNumC (by omega)) ?_); intros)
      refine hK.out _ _ inferInstance ?_
      clear hHeld hK K
      intro hHeld
      try simp only [Act.put, List.setIfInBounds_toArray, List.set_cons_zero, List.set_cons_succ]
      refine wpAnyH_ready (rs := [9]) (by kernel_rfl) (by simp) ?_
      refine AllReadyH.cons (by simp; rfl) (fun K hK => ?_) AllReadyH.nil
      go_simp
      (go_at_call 193; (with_reducible refine Calls.cN (rDenC (by omega)) ?_); intros)
      refine hK.out _ _ inferInstance ?_
      clear hHeld hK K
      intro hHeld
      try simp only [Act.put, List.setIfInBounds_toArray, List.set_cons_zero, List.set_cons_succ]
      refine wpAnyH_take (i := 10) (v := ?z15) (by simp; rfl) (by kernel_rfl) (by kernel_rfl) (by kernel_rfl) (by exact fun _ _ _ h => h) (Or.inl ⟨by rfl, ?yz15⟩) hHeld ?_
      case yz15 => (intro wx hSw; have hSx := Ex1.mk hSw; go_simp; (try with_reducible rfl))
      try simp only [Act.put, List.setIfInBounds_toArray, List.set_cons_zero, List.set_cons_succ]
      refine wpAnyH_ready (rs := [11]) (by kernel_rfl) (by simp) ?_
      refine AllReadyH.cons (by simp; rfl) (fun K hK => ?_) AllReadyH.nil
      go_simp
      (go_at_call 222; (with_reducible refine Calls.cZ (intMulC (by omega)) ?_); intros)
      refine hK.out _ _ inferInstance ?_
      clear hHeld hK K
      intro hHeld
      try simp only [Act.put, List.setIfInBounds_toArray, List.set_cons_zero, List.set_cons_succ]
      refine wpAnyH_ready (rs := [12]) (by kernel_rfl) (by simp) ?_
      refine AllReadyH.cons (by simp; rfl) (fun K hK => ?_) AllReadyH.nil
      go_simp
      (go_at_call 223; (with_reducible refine Calls.cZ (intAddC (by omega)) ?_); intros)
      refine hK.out _ _ inferInstance ?_
      clear hHeld hK K
      intro hHeld
      try simp only [Act.put, List.setIfInBounds_toArray, List.set_cons_zero, List.set_cons_succ]
      refine wpAnyH_ready (rs := [14]) (by kernel_rfl) (by simp) ?_
      refine AllReadyH.cons (by simp; rfl) (fun K hK => ?_) AllReadyH.nil
      go_simp
      refine hK.out _ _ inferInstance ?_
      clear hHeld hK K
      intro hHeld
      try simp only [Act.put, List.setIfInBounds_toArray, List.set_cons_zero, List.set_cons_succ]
      refine wpAnyH_done (by kernel_rfl) ?_ _
      clear hHeld
      go_wp2_with fail
      go_meet
      exact ⟨_, _, _, _, _, rfl, inferInstance, CZ.cast inferInstance rfl (by omega), inferInstance, inferInstance⟩
      go_simp
      refine hK.out _ _ inferInstance ?_
      clear hHeld hK K
      intro hHeld
      try simp only [Act.put, List.setIfInBounds_toArray, List.set_cons_zero, List.set_cons_succ]
      refine wpAnyH_ready (rs := [1]) (by kernel_rfl) (by simp) ?_
      refine AllReadyH.cons (by simp; rfl) (fun K hK => ?_) AllReadyH.nil
      go_simp
      (go_at_call 192; (with_reducible refine Calls.cZ (rNumC (by omega)) ?_); intros)
      refine hK.out _ _ inferInstance ?_
      clear hHeld hK K
      intro hHeld
      try simp only [Act.put, List.setIfInBounds_toArray, List.set_cons_zero, List.set_cons_succ]
      refine wpAnyH_ready (rs := [3]) (by kernel_rfl) (by simp) ?_
      refine AllReadyH.cons (by simp; rfl) (fun K hK => ?_) AllReadyH.nil
      go_simp
      (go_at_call 193; (with_reducible refine Calls.cN (rDenC (by omega)) ?_); intros)
      refine hK.out _ _ inferInstance ?_
      clear hHeld hK K
      intro hHeld
      try simp only [Act.put, List.setIfInBounds_toArray, List.set_cons_zero, List.set_cons_succ]
      refine wpAnyH_take (i := 4) (v := ?z16) (by simp; rfl) (by kernel_rfl) (by kernel_rfl) (by kernel_rfl) (by exact fun _ _ _ h => h) (Or.inl ⟨by rfl, ?yz16⟩) hHeld ?_
      case yz16 => (intro wx hSw; have hSx := Ex1.mk hSw; go_simp; (try with_reducible rfl))
      try simp only [Act.put, List.setIfInBounds_toArray, List.set_cons_zero, List.set_cons_succ]
      refine wpAnyH_ready (rs := [5]) (by kernel_rfl) (by simp) ?_
      refine AllReadyH.cons (by simp; rfl) (fun K hK => ?_) AllReadyH.nil
      go_simp
      (go_at_call 222; (with_reducible refine Calls.cZ (intMulC (by omega)) ?_); intros)
      refine hK.out _ _ inferInstance ?_
      clear hHeld hK K
      intro hHeld
      try simp only [Act.put, List.setIfInBounds_toArray, List.set_cons_zero, List.set_cons_succ]
      refine wpAnyH_ready (rs := [7]) (by kernel_rfl) (by simp) ?_
      refine AllReadyH.cons (by simp; rfl) (fun K hK => ?_) AllReadyH.nil
      go_simp
      (go_at_call 192; (with_reducible refine Calls.cZ (rNumC (by omega)) ?_); intros)
      refine hK.out _ _ inferInstance ?_
      clear hHeld hK K
      intro hHeld
      try simp only [Act.put, List.setIfInBounds_toArray, List.set_cons_zero, List.set_cons_succ]
      refine wpAnyH_ready (rs := [9]) (by kernel_rfl) (by simp) ?_
      refine AllReadyH.cons (by simp; rfl) (fun K hK => ?_) AllReadyH.nil
      go_simp
      (go_at_call 193; (with_reducible refine Calls.cN (rDenC (by omega)) ?_); intros)
      refine hK.out _ _ inferInstance ?_
      clear hHeld hK K
      intro hHeld
      try simp only [Act.put, List.setIfInBounds_toArray, List.set_cons_zero, List.set_cons_succ]
      refine wpAnyH_take (i := 10) (v := ?z17) (by simp; rfl) (by kernel_rfl) (by kernel_rfl) (by kernel_rfl) (by exact fun _ _ _ h => h) (Or.inl ⟨by rfl, ?yz17⟩) hHeld ?_
      case yz17 => (intro wx hSw; have hSx := Ex1.mk hSw; go_simp; (try with_reducible rfl))
      try simp only [Act.put, List.setIfInBounds_toArray, List.set_cons_zero, List.set_cons_succ]
      refine wpAnyH_ready (rs := [11]) (by kernel_rfl) (by simp) ?_
      refine AllReadyH.cons (by simp; rfl) (fun K hK => ?_) AllReadyH.nil
      go_simp
      (go_at_call 222; (with_reducible refine Calls.cZ (intMulC (by omega)) ?_); intros)
      refine hK.out _ _ inferInstance ?_
      clear hHeld hK K
      intro hHeld
      try simp only [Act.put, List.setIfInBounds_toArray, List.set_cons_zero, List.set_cons_succ]
      refine wpAnyH_ready (rs := [12]) (by kernel_rfl) (by simp) ?_
      refine AllReadyH.cons (by simp; rfl) (fun K hK => ?_) AllReadyH.nil
      go_simp
      (go_at_call 223; (with_reducible refine Calls.cZ (intAddC (by omega)) ?_); intros)
      refine hK.out _ _ inferInstance ?_
      clear hHeld hK K
      intro hHeld
      try simp only [Act.put, List.setIfInBounds_toArray, List.set_cons_zero, List.set_cons_succ]
      refine wpAnyH_ready (rs := [14]) (by kernel_rfl) (by simp) ?_
      refine AllReadyH.cons (by simp; rfl) (fun K hK => ?_) AllReadyH.nil
      go_simp
      refine hK.out _ _ inferInstance ?_
      clear hHeld hK K
      intro hHeld
      try simp only [Act.put, List.setIfInBounds_toArray, List.set_cons_zero, List.set_cons_succ]
      refine wpAnyH_done (by kernel_rfl) ?_ _
      clear hHeld
      go_wp2_with fail
      go_meet
      exact ⟨_, _, _, _, _, rfl, inferInstance, CZ.cast inferInstance rfl (by omega), inferInstance, inferInstance⟩
    case rest =>
      obtain ⟨b12, g12, a12, l12, c12, rfl, i1, i2, ⟨i3⟩, i4⟩ := hcut
      have i3 := Kp1.mk i3
      go_wp2_with fail
      refine region_cls (by kernel_rfl) [w.heap.size + 1 + 1] (fun hHeld => ?_)
      refine wpAnyH_take (i := 0) (v := ?z18) (by simp; rfl) (by kernel_rfl) (by kernel_rfl) (by kernel_rfl) (by exact fun _ _ _ h => h) (Or.inl ⟨by rfl, ?yz18⟩) hHeld ?_
      case yz18 => (intro wx hSw; have hSx := Ex1.mk hSw; go_simp; (try with_reducible rfl))
      try simp only [Act.put, List.setIfInBounds_toArray, List.set_cons_zero, List.set_cons_succ]
      refine wpAnyH_take (i := 1) (v := ?z19) (by simp; rfl) (by kernel_rfl) (by kernel_rfl) (by kernel_rfl) (by exact fun _ _ _ h => h) (Or.inl ⟨by rfl, ?yz19⟩) hHeld ?_
      case yz19 => (intro wx hSw; have hSx := Ex1.mk hSw; go_simp; (try with_reducible rfl))
      try simp only [Act.put, List.setIfInBounds_toArray, List.set_cons_zero, List.set_cons_succ]
      refine wpAnyH_take (i := 3) (v := ?z20) (by simp; rfl) (by kernel_rfl) (by kernel_rfl) (by kernel_rfl) (by exact fun _ _ _ h => h) (Or.inl ⟨by rfl, ?yz20⟩) hHeld ?_
      case yz20 => (intro wx hSw; have hSx := Ex1.mk hSw; go_simp; (try with_reducible rfl))
      try simp only [Act.put, List.setIfInBounds_toArray, List.set_cons_zero, List.set_cons_succ]
      refine wpAnyH_ready (rs := [2]) (by kernel_rfl) (by simp) ?_
      refine AllReadyH.cons (by simp; rfl) (fun K hK => ?_) AllReadyH.nil
      go_simp
      (go_at_call 193; (with_reducible refine Calls.cN (rDenC (by omega)) ?_); intros)
      refine hK.out _ _ inferInstance ?_
      clear hHeld hK K
      intro hHeld
      try simp only [Act.put, List.setIfInBounds_toArray, List.set_cons_zero, List.set_cons_succ]
      refine wpAnyH_ready (rs := [4]) (by kernel_rfl) (by simp) ?_
      refine AllReadyH.cons (by simp; rfl) (fun K hK => ?_) AllReadyH.nil
      go_simp
      (go_at_call 193; (with_reducible refine Calls.cN (rDenC (by omega)) ?_); intros)
      refine hK.out _ _ inferInstance ?_
      clear hHeld hK K
      intro hHeld
      try simp only [Act.put, List.setIfInBounds_toArray, List.set_cons_zero, List.set_cons_succ]
      refine wpAnyH_ready (rs := [5]) (by kernel_rfl) (by simp) ?_
      refine AllReadyH.cons (by simp; rfl) (fun K hK => ?_) AllReadyH.nil
      go_simp
      (go_at_call 212; (with_reducible refine Calls.cN (mulC (by omega)) ?_); intros)
      refine hK.out _ _ inferInstance ?_
      clear hHeld hK K
      intro hHeld
      try simp only [Act.put, List.setIfInBounds_toArray, List.set_cons_zero, List.set_cons_succ]
      refine wpAnyH_ready (rs := [6]) (by kernel_rfl) (by simp) ?_
      refine AllReadyH.cons (by simp; rfl) (fun K hK => ?_) AllReadyH.nil
      go_simp
      (go_at_call 172; (with_reducible refine Calls.cF (reduceC (by omega)) ?_); intros)
      refine hK.out _ _ inferInstance ?_
      clear hHeld hK K
      intro hHeld
      try simp only [Act.put, List.setIfInBounds_toArray, List.set_cons_zero, List.set_cons_succ]
      refine wpAnyH_ready (rs := [7]) (by kernel_rfl) (by simp) ?_
      refine AllReadyH.cons (by simp; rfl) (fun K hK => ?_) AllReadyH.nil
      go_simp
      refine hK.out _ _ inferInstance ?_
      clear hHeld hK K
      intro hHeld
      try simp only [Act.put, List.setIfInBounds_toArray, List.set_cons_zero, List.set_cons_succ]
      refine wpAnyH_done (by kernel_rfl) ?_ _
      clear hHeld
      go_wp2
      refine ret_bx rfl Tryz.underlying115 rfl (by kernel_rfl) rfl rfl rfl ?_
      exact CFRet.fin HM.out.symm (by omega)

set_option maxRecDepth 100000 in
set_option maxHeartbeats 4000000 in
theorem rSubC {w : World} {n1 : Int} {d1 : Int} {p1 : Option Addr} {x : Rat} {n2 : Int} {d2 : Int} {p2 : Option Addr} {y : Rat} {k1 k2 : Nat} [h1 : CF w (.agg #[.int .i64 n1, .int .i64 d1, .pointer p1]) x k1] [h2 : CF w (.agg #[.int .i64 n2, .int .i64 d2, .pointer p2]) y k2] (b : k1 ≤ 300000 ∧ k2 ≤ 300000) :
    Calls Tryz.prog 191 #[.agg #[.int .i64 n1, .int .i64 d1, .pointer p1], .agg #[.int .i64 n2, .int .i64 d2, .pointer p2]] w (CFRet w (x - y) (k1 + k2 + 3)) := by
  have HE := Lib.hid (Rat.sub_eq_add_neg x y)
  go_enter Tryz.func191, Tryz.ntmps191
  go_wp2_with fail
  refine region_cls (by kernel_rfl) [w.heap.size + 1 + 1] (fun hHeld => ?_)
  refine wpAnyH_take (i := 0) (v := ?z21) (by simp; rfl) (by kernel_rfl) (by kernel_rfl) (by kernel_rfl) (by exact fun _ _ _ h => h) (Or.inl ⟨by rfl, ?yz21⟩) hHeld ?_
  case yz21 => (intro wx hSw; have hSx := Ex1.mk hSw; go_simp; (try with_reducible rfl))
  try simp only [Act.put, List.setIfInBounds_toArray, List.set_cons_zero, List.set_cons_succ]
  refine wpAnyH_take (i := 1) (v := ?z22) (by simp; rfl) (by kernel_rfl) (by kernel_rfl) (by kernel_rfl) (by exact fun _ _ _ h => h) (Or.inl ⟨by rfl, ?yz22⟩) hHeld ?_
  case yz22 => (intro wx hSw; have hSx := Ex1.mk hSw; go_simp; (try with_reducible rfl))
  try simp only [Act.put, List.setIfInBounds_toArray, List.set_cons_zero, List.set_cons_succ]
  refine wpAnyH_ready (rs := [2]) (by kernel_rfl) (by simp) ?_
  refine AllReadyH.cons (by simp; rfl) (fun K hK => ?_) AllReadyH.nil
  go_simp
  (go_at_call 185; (with_reducible refine Calls.cF (rNegC (by omega)) ?_); intros)
  refine hK.out _ _ inferInstance ?_
  clear hHeld hK K
  intro hHeld
  try simp only [Act.put, List.setIfInBounds_toArray, List.set_cons_zero, List.set_cons_succ]
  refine wpAnyH_ready (rs := [3]) (by kernel_rfl) (by simp) ?_
  refine AllReadyH.cons (by simp; rfl) (fun K hK => ?_) AllReadyH.nil
  go_simp
  (go_at_call 195; (with_reducible refine Calls.cF (rAddC (by omega)) ?_); intros)
  refine hK.out _ _ inferInstance ?_
  clear hHeld hK K
  intro hHeld
  try simp only [Act.put, List.setIfInBounds_toArray, List.set_cons_zero, List.set_cons_succ]
  refine wpAnyH_ready (rs := [4]) (by kernel_rfl) (by simp) ?_
  refine AllReadyH.cons (by simp; rfl) (fun K hK => ?_) AllReadyH.nil
  go_simp
  refine hK.out _ _ inferInstance ?_
  clear hHeld hK K
  intro hHeld
  try simp only [Act.put, List.setIfInBounds_toArray, List.set_cons_zero, List.set_cons_succ]
  refine wpAnyH_done (by kernel_rfl) ?_ _
  clear hHeld
  go_wp2
  refine ret_bx rfl Tryz.underlying115 rfl (by kernel_rfl) rfl rfl rfl ?_
  exact CFRet.fin HE.out.symm (by omega)

end Go.Proofs.YtlameeijogdckaaGreat
