import Derived.Test.YtpnpnlmlamfpmaaGreatDoorS15
import Derived.Test.YtpnpnlmlamfpmaaGreatDoorSh
namespace Go.Proofs.YtpnpnlmlamfpmaaGreatDoor
open Go.RowKit
set_option maxHeartbeats 40000000
set_option maxRecDepth 100000
set_option synthInstance.maxHeartbeats 1000000
set_option synthInstance.maxSize 100000
variable {d1 d2 n1 n2 : Int} {x y : Rat}
theorem Qjl (e1 : x.num = n1) (e2 : (x.den : Int) = d1 + 1) (f1 : y.num = n2) (f2 : (y.den : Int) = d2 + 1) : mkRat (n1 * n2) ((d1 + 1) * (d2 + 1)).toNat = x * y := by
 rw [Lj, e1, f1, ← e2, ← f2, ← Int.natCast_mul, Int.toNat_natCast]
theorem Vc (e1 : x.num = n1) (e2 : (x.den : Int) = d1 + 1) (f1 : y.num = n2) (f2 : (y.den : Int) = d2 + 1) : mkRat (n1 * (d2 + 1) + n2 * (d1 + 1)) ((d1 + 1) * (d2 + 1)).toNat = x + y := by
 rw [Kh, e1, f1, ← e2, ← f2, ← Int.natCast_mul, Int.toNat_natCast]
variable {k1 k2 : Nat} {p1 : Option Addr} {w : World}
theorem B4 {p2 : Option Addr} [h1 : CF w (.agg #[.int .i64 n1, .int .i64 d1, .pointer p1]) x k1] [h2 : CF w (.agg #[.int .i64 n2, .int .i64 d2, .pointer p2]) y k2] (b : k1 ≤ 300000 ∧ k2 ≤ 300000) :
  Calls Tryz.prog 161 #[.agg #[.int .i64 n1, .int .i64 d1, .pointer p1], .agg #[.int .i64 n2, .int .i64 d2, .pointer p2]] w (Bk w (x * y) (k1 + k2 + 2)) := by
 have HM := Lib.hid (Lj x y); go_enter Tryz.func161, Tryz.ntmps161
 go_upto_region 1 with fail
 go_cut [16] from 9 to 16 (fun t wx => (∃ c : Bool, t = .bool c ∧ c = (p1.isNone && p2.isNone)) ∧ wx = ((w.alloc (.cells #[.int .i64 n1, .int .i64 d1, .pointer p1] 96)).alloc (.cells #[.int .i64 n2, .int .i64 d2, .pointer p2] 96)).alloc (.cells #[.int .i64 0, .int .i64 0, .pointer none] 96))
 case first =>
  cases p1 <;> cases p2 <;> (go_wp2; go_meet; exact ⟨⟨_, rfl, rfl⟩, rfl⟩)
 obtain ⟨⟨c, rfl, hc⟩, rfl⟩ := hcut; have HC := Lib.hid hc; clear hc
 go_upto_if 16 with fail
 go_cut [] from 17 to 41 (fun wx => wx = ((w.alloc (.cells #[.int .i64 n1, .int .i64 d1, .pointer p1] 96)).alloc (.cells #[.int .i64 n2, .int .i64 d2, .pointer p2] 96)).alloc (.cells #[.int .i64 0, .int .i64 0, .pointer none] 96))
 case first =>
  rcases CF.cases h1 with ⟨rfl, en1, ed1, bn1, bm1, bd1, be1, bk1⟩ | ⟨rfl, rfl, hq1, q1, G1, A1, L1, C1, AA1, LL1, CC1, rfl, hB1, hZ1, hN1⟩
  ·rcases CF.cases h2 with ⟨rfl, en2, ed2, bn2, bm2, bd2, be2, bk2⟩ | ⟨rfl, rfl, hq2, q2, G2, A2, L2, C2, AA2, LL2, CC2, rfl, hB2, hZ2, hN2⟩
   ·obtain rfl : c = true := HC.out; have HE := Lib.hid (Qjl en1 ed1 en2 ed2); clear en1 ed1 en2 ed2
    by_cases hA : (n1 * n2).natAbs < 4611686018427387904
    ·by_cases hB : ((d1 + 1) * (d2 + 1)).natAbs < 4611686018427387904
     ·obtain ⟨t1, t2⟩ := Dv hA; obtain ⟨t3, t4⟩ := Dv hB
      have hp : 0 < (d1 + 1) * (d2 + 1) := Int.mul_pos (by omega) (by omega)
      have hq : -4611686018427387904 < n1 * n2 ∧ n1 * n2 < 4611686018427387904 := (by omega); have hr : 0 < (d1 + 1) * (d2 + 1) ∧ (d1 + 1) * (d2 + 1) < 4611686018427387904 := (by omega); clear hA hB hp
      go_wp2_with (first
  | (go_at_call 156; refine Aq (Cy (by omega) (by omega) (by omega) (by omega)) ?_; intros)
  | (go_at_call 157; refine Ab (Pv ⟨hq.1, hq.2, hr.1, hr.2⟩) ?_; intros))
      refine Ac rfl Tryz.underlying96 rfl (by kernel_rfl) rfl rfl rfl ?_; exact Bk.fin HE.out (by omega)
     ·obtain ⟨t1, t2⟩ := Dv hA; obtain ⟨t3, t4⟩ := Et hB; clear hA hB
      go_wp2_with (first
  | (go_at_call 156; refine Aq (Cy (by omega) (by omega) (by omega) (by omega)) ?_; intros))
      go_meet; rfl
    ·obtain ⟨t1, t2⟩ := Et hA; clear hA
     go_wp2_with (first
  | (go_at_call 156; refine Aq (Cy (by omega) (by omega) (by omega) (by omega)) ?_; intros))
     go_meet; rfl
   ·obtain rfl : c = false := HC.out; go_wp2; go_meet; rfl
  ·obtain rfl : c = false := HC.out; go_wp2; go_meet; rfl
 case rest =>
  obtain rfl := hcut; go_wp2_with fail; refine rgn [w.heap.size + 1 + 1] [] fun hH => ?_; refine tk 0 hH ?_; refine tk 2 hH ?_; refine tk 5 hH ?_; refine tk 7 hH (st 1 fun K hK => ?_); go_simp; refine Al (B7 (by omega)) ?_; intros; refine hd hK fun hH => st 3 fun K hK => ?_; go_simp; refine Al (B7 (by omega)) ?_; intros; refine hd hK fun hH => st 4 fun K hK => ?_; go_simp; refine Al (Em (by omega)) ?_; intros; refine hd hK fun hH => st 6 fun K hK => ?_; go_simp; refine Ae (Bd (by omega)) ?_; intros; refine hd hK fun hH => st 8 fun K hK => ?_; go_simp; refine Ae (Bd (by omega)) ?_; intros; refine hd hK fun hH => st 9 fun K hK => ?_; go_simp; refine Ae (Dd (by omega)) ?_; intros; refine hd hK fun hH => st 10 fun K hK => ?_; go_simp; refine Ab (Dp (by omega)) ?_; intros; refine hd hK fun hH => st 11 fun K hK => ?_; go_simp; refine hd hK fun hH => dn ?_; clear hH; go_wp2; refine Ac rfl Tryz.underlying96 rfl (by kernel_rfl) rfl rfl rfl ?_; exact Bk.fin HM.out.symm (by omega)
theorem Gv {p2 : Option Addr} [h1 : CF w (.agg #[.int .i64 n1, .int .i64 d1, .pointer p1]) x k1] [h2 : CF w (.agg #[.int .i64 n2, .int .i64 d2, .pointer p2]) y k2] (b : k1 ≤ 300000 ∧ k2 ≤ 300000) :
  Calls Tryz.prog 111 #[.agg #[.int .i64 n1, .int .i64 d1, .pointer p1], .agg #[.int .i64 n2, .int .i64 d2, .pointer p2]] w (Bk w (x + y) (k1 + k2 + 3)) := by
 have HM := Lib.hid (Kh x y); go_enter Tryz.func111, Tryz.ntmps111
 go_upto_region 1 with fail
 go_cut [20] from 13 to 20 (fun t wx => (∃ c : Bool, t = .bool c ∧ c = (p1.isNone && p2.isNone)) ∧ wx = ((w.alloc (.cells #[.int .i64 n1, .int .i64 d1, .pointer p1] 96)).alloc (.cells #[.int .i64 n2, .int .i64 d2, .pointer p2] 96)).alloc (.cells #[.int .i64 0, .int .i64 0, .pointer none] 96))
 case first =>
  cases p1 <;> cases p2 <;> (go_wp2; go_meet; exact ⟨⟨_, rfl, rfl⟩, rfl⟩)
 obtain ⟨⟨c, rfl, hc⟩, rfl⟩ := hcut; have HC := Lib.hid hc; clear hc
 go_upto_if 20 with fail
 go_cut [] from 21 to 83 (fun wx => wx = ((w.alloc (.cells #[.int .i64 n1, .int .i64 d1, .pointer p1] 96)).alloc (.cells #[.int .i64 n2, .int .i64 d2, .pointer p2] 96)).alloc (.cells #[.int .i64 0, .int .i64 0, .pointer none] 96))
 case first =>
  rcases CF.cases h1 with ⟨rfl, en1, ed1, bn1, bm1, bd1, be1, bk1⟩ | ⟨rfl, rfl, hq1, q1, G1, A1, L1, C1, AA1, LL1, CC1, rfl, hB1, hZ1, hN1⟩
  ·rcases CF.cases h2 with ⟨rfl, en2, ed2, bn2, bm2, bd2, be2, bk2⟩ | ⟨rfl, rfl, hq2, q2, G2, A2, L2, C2, AA2, LL2, CC2, rfl, hB2, hZ2, hN2⟩
   ·obtain rfl : c = true := HC.out
    by_cases hd1 : d1 = 0
    ·have q1 : (d1 == 0) = true := by rw [hd1]; rfl
     by_cases hd2 : d2 = 0
     ·have q2 : (d2 == 0) = true := by rw [hd2]; rfl
      have HE : Hid (((n1 + n2 : Int) : Rat) = x + y) := by show _ = _; rw [Xt (x := x) (y := y) (by omega) (by omega), en1, en2]
      clear en1 ed1 en2 ed2 hd1 hd2; have b1 : -9223372036854775808 ≤ n1 + n2 := (by omega); have b2 : n1 + n2 < 9223372036854775808 := (by omega)
      go_wp2_with (first
  | (go_at_call 155; refine Ab (H8 ⟨b1, b2⟩) ?_; intros))
      refine Ac rfl Tryz.underlying96 rfl (by kernel_rfl) rfl rfl rfl ?_; exact Bk.fin HE.out (by omega)
     ·have q2 : (d2 == 0) = false := by rw [beq_eq_false_iff_ne]; exact hd2
      clear hd1 hd2; have HE := Lib.hid (Vc en1 ed1 en2 ed2); clear en1 ed1 en2 ed2
      by_cases hA : (n1 * (d2 + 1)).natAbs < 4611686018427387904
      ·by_cases hB : (n2 * (d1 + 1)).natAbs < 4611686018427387904
       ·obtain ⟨t1, t2⟩ := Dv hA; obtain ⟨t3, t4⟩ := Dv hB
        by_cases hC : ((d1 + 1) * (d2 + 1)).natAbs < 4611686018427387904
        ·obtain ⟨t5, t6⟩ := Dv hC
         have hp : 0 < (d1 + 1) * (d2 + 1) := Int.mul_pos (by omega) (by omega)
         have hr : 0 < (d1 + 1) * (d2 + 1) ∧ (d1 + 1) * (d2 + 1) < 4611686018427387904 := (by omega); have hA1 : -4611686018427387904 < n1 * (d2 + 1) ∧ n1 * (d2 + 1) < 4611686018427387904 := (by omega); have hB1 : -4611686018427387904 < n2 * (d1 + 1) ∧ n2 * (d1 + 1) < 4611686018427387904 := (by omega); obtain ⟨hA1, hA2⟩ := hA1; obtain ⟨hB1, hB2⟩ := hB1; clear hA hB hC hp
         generalize n1 * (d2 + 1) = P, n2 * (d1 + 1) = Q, (d1 + 1) * (d2 + 1) = D at *
         by_cases hS : -4611686018427387904 < P + Q
         ·by_cases hS2 : P + Q < 4611686018427387904
          ·go_wp2_with (first
  | (go_at_call 156; refine Aq (Cy (by omega) (by omega) (by omega) (by omega)) ?_; intros)
  | (go_at_call 157; refine Ab (Pv ⟨hS, hS2, hr.1, hr.2⟩) ?_; intros))
           refine Ac rfl Tryz.underlying96 rfl (by kernel_rfl) rfl rfl rfl ?_; exact Bk.fin HE.out (by omega)
          ·have hS3 : 4611686018427387904 ≤ P + Q := by omega
           clear hS2
           go_wp2_with (first
  | (go_at_call 156; refine Aq (Cy (by omega) (by omega) (by omega) (by omega)) ?_; intros))
           go_meet; rfl
         ·have hS3 : P + Q ≤ -4611686018427387904 := by omega
          clear hS
          go_wp2_with (first
  | (go_at_call 156; refine Aq (Cy (by omega) (by omega) (by omega) (by omega)) ?_; intros))
          go_meet; rfl
        ·obtain ⟨t5, t6⟩ := Et hC; clear hC; have hA1 : -4611686018427387904 < n1 * (d2 + 1) ∧ n1 * (d2 + 1) < 4611686018427387904 := (by omega); have hB1 : -4611686018427387904 < n2 * (d1 + 1) ∧ n2 * (d1 + 1) < 4611686018427387904 := (by omega); obtain ⟨hA1, hA2⟩ := hA1; obtain ⟨hB1, hB2⟩ := hB1; clear hA hB
         go_wp2_with (first
  | (go_at_call 156; refine Aq (Cy (by omega) (by omega) (by omega) (by omega)) ?_; intros))
         go_meet; rfl
       ·obtain ⟨t1, t2⟩ := Dv hA; obtain ⟨t3, t4⟩ := Et hB; have hA1 : -4611686018427387904 < n1 * (d2 + 1) ∧ n1 * (d2 + 1) < 4611686018427387904 := (by omega); obtain ⟨hA1, hA2⟩ := hA1; clear hA hB
        go_wp2_with (first
  | (go_at_call 156; refine Aq (Cy (by omega) (by omega) (by omega) (by omega)) ?_; intros))
        go_meet; rfl
      ·obtain ⟨t1, t2⟩ := Et hA; clear hA
       by_cases hB : (n2 * (d1 + 1)).natAbs < 4611686018427387904
       ·obtain ⟨t3, t4⟩ := Dv hB; have hB1 : -4611686018427387904 < n2 * (d1 + 1) ∧ n2 * (d1 + 1) < 4611686018427387904 := (by omega); obtain ⟨hB1, hB2⟩ := hB1; clear hB
        go_wp2_with (first
  | (go_at_call 156; refine Aq (Cy (by omega) (by omega) (by omega) (by omega)) ?_; intros))
        go_meet; rfl
       ·obtain ⟨t3, t4⟩ := Et hB; clear hB
        go_wp2_with (first
  | (go_at_call 156; refine Aq (Cy (by omega) (by omega) (by omega) (by omega)) ?_; intros))
        go_meet; rfl
    ·have q1 : (d1 == 0) = false := by rw [beq_eq_false_iff_ne]; exact hd1
     clear hd1; have HE := Lib.hid (Vc en1 ed1 en2 ed2); clear en1 ed1 en2 ed2
     by_cases hA : (n1 * (d2 + 1)).natAbs < 4611686018427387904
     ·by_cases hB : (n2 * (d1 + 1)).natAbs < 4611686018427387904
      ·obtain ⟨t1, t2⟩ := Dv hA; obtain ⟨t3, t4⟩ := Dv hB
       by_cases hC : ((d1 + 1) * (d2 + 1)).natAbs < 4611686018427387904
       ·obtain ⟨t5, t6⟩ := Dv hC
        have hp : 0 < (d1 + 1) * (d2 + 1) := Int.mul_pos (by omega) (by omega)
        have hr : 0 < (d1 + 1) * (d2 + 1) ∧ (d1 + 1) * (d2 + 1) < 4611686018427387904 := (by omega); have hA1 : -4611686018427387904 < n1 * (d2 + 1) ∧ n1 * (d2 + 1) < 4611686018427387904 := (by omega); have hB1 : -4611686018427387904 < n2 * (d1 + 1) ∧ n2 * (d1 + 1) < 4611686018427387904 := (by omega); obtain ⟨hA1, hA2⟩ := hA1; obtain ⟨hB1, hB2⟩ := hB1; clear hA hB hC hp
        generalize n1 * (d2 + 1) = P, n2 * (d1 + 1) = Q, (d1 + 1) * (d2 + 1) = D at *
        by_cases hS : -4611686018427387904 < P + Q
        ·by_cases hS2 : P + Q < 4611686018427387904
         ·go_wp2_with (first
  | (go_at_call 156; refine Aq (Cy (by omega) (by omega) (by omega) (by omega)) ?_; intros)
  | (go_at_call 157; refine Ab (Pv ⟨hS, hS2, hr.1, hr.2⟩) ?_; intros))
          refine Ac rfl Tryz.underlying96 rfl (by kernel_rfl) rfl rfl rfl ?_; exact Bk.fin HE.out (by omega)
         ·have hS3 : 4611686018427387904 ≤ P + Q := by omega
          clear hS2
          go_wp2_with (first
  | (go_at_call 156; refine Aq (Cy (by omega) (by omega) (by omega) (by omega)) ?_; intros))
          go_meet; rfl
        ·have hS3 : P + Q ≤ -4611686018427387904 := by omega
         clear hS
         go_wp2_with (first
  | (go_at_call 156; refine Aq (Cy (by omega) (by omega) (by omega) (by omega)) ?_; intros))
         go_meet; rfl
       ·obtain ⟨t5, t6⟩ := Et hC; clear hC; have hA1 : -4611686018427387904 < n1 * (d2 + 1) ∧ n1 * (d2 + 1) < 4611686018427387904 := (by omega); have hB1 : -4611686018427387904 < n2 * (d1 + 1) ∧ n2 * (d1 + 1) < 4611686018427387904 := (by omega); obtain ⟨hA1, hA2⟩ := hA1; obtain ⟨hB1, hB2⟩ := hB1; clear hA hB
        go_wp2_with (first
  | (go_at_call 156; refine Aq (Cy (by omega) (by omega) (by omega) (by omega)) ?_; intros))
        go_meet; rfl
      ·obtain ⟨t1, t2⟩ := Dv hA; obtain ⟨t3, t4⟩ := Et hB; have hA1 : -4611686018427387904 < n1 * (d2 + 1) ∧ n1 * (d2 + 1) < 4611686018427387904 := (by omega); obtain ⟨hA1, hA2⟩ := hA1; clear hA hB
       go_wp2_with (first
  | (go_at_call 156; refine Aq (Cy (by omega) (by omega) (by omega) (by omega)) ?_; intros))
       go_meet; rfl
     ·obtain ⟨t1, t2⟩ := Et hA; clear hA
      by_cases hB : (n2 * (d1 + 1)).natAbs < 4611686018427387904
      ·obtain ⟨t3, t4⟩ := Dv hB; have hB1 : -4611686018427387904 < n2 * (d1 + 1) ∧ n2 * (d1 + 1) < 4611686018427387904 := (by omega); obtain ⟨hB1, hB2⟩ := hB1; clear hB
       go_wp2_with (first
  | (go_at_call 156; refine Aq (Cy (by omega) (by omega) (by omega) (by omega)) ?_; intros))
       go_meet; rfl
      ·obtain ⟨t3, t4⟩ := Et hB; clear hB
       go_wp2_with (first
  | (go_at_call 156; refine Aq (Cy (by omega) (by omega) (by omega) (by omega)) ?_; intros))
       go_meet; rfl
   ·obtain rfl : c = false := HC.out; go_wp2; go_meet; rfl
  ·obtain rfl : c = false := HC.out; go_wp2; go_meet; rfl
 case rest =>
  obtain rfl := hcut
  go_upto_region 10 with fail
  go_cut [12] from 84 to 96 (fun t wx => ∃ (b : Nat) (g : Bool) (a : Option Addr) (l c : Nat), t = .pointer (some ⟨b, 0, none⟩) ∧ Bx wx b 47 [.bool g, .slice a l c] ∧ CZ wx (.agg #[.bool g, .slice a l c]) (x.num * (y.den : Int) + y.num * (x.den : Int)) (k1 + k2 + 1) ∧ Kp (((w.alloc (.cells #[.int .i64 n1, .int .i64 d1, .pointer p1] 96)).alloc (.cells #[.int .i64 n2, .int .i64 d2, .pointer p2] 96)).alloc (.cells #[.int .i64 0, .int .i64 0, .pointer none] 96)) wx ∧ LtN (w.heap.size + 1 + 1) b)
  case first =>
   refine rgn [w.heap.size + 1 + 1] [] fun hH => ?_; refine tk 0 hH ?_; refine tk 2 hH ?_; refine tk 6 hH ?_; refine tk 8 hH ?_; refine Az (rs := [1, 13]) (by kernel_rfl) (by simp) ?_; refine Lm.cons (by simp; rfl) (fun K hK => ?_) (Lm.cons (by simp; rfl) (fun K hK => ?_) Lm.nil); go_simp; refine Al (B7 (by omega)) ?_; intros; refine hd hK fun hH => ?_; refine Az (rs := [3, 13]) (by kernel_rfl) (by simp) ?_; refine Lm.cons (by simp; rfl) (fun K hK => ?_) (Lm.cons (by simp; rfl) (fun K hK => ?_) Lm.nil); go_simp; refine Ae (Bd (by omega)) ?_; intros; refine hd hK fun hH => ?_; refine tk 4 hH ?_; refine Az (rs := [5, 13]) (by kernel_rfl) (by simp) ?_; refine Lm.cons (by simp; rfl) (fun K hK => ?_) (Lm.cons (by simp; rfl) (fun K hK => ?_) Lm.nil); go_simp; refine Al (Em (by omega)) ?_; intros; refine hd hK fun hH => ?_; refine Az (rs := [7, 13]) (by kernel_rfl) (by simp) ?_; refine Lm.cons (by simp; rfl) (fun K hK => ?_) (Lm.cons (by simp; rfl) (fun K hK => ?_) Lm.nil); go_simp; refine Al (B7 (by omega)) ?_; intros; refine hd hK fun hH => ?_; refine Az (rs := [9, 13]) (by kernel_rfl) (by simp) ?_; refine Lm.cons (by simp; rfl) (fun K hK => ?_) (Lm.cons (by simp; rfl) (fun K hK => ?_) Lm.nil); go_simp; refine Ae (Bd (by omega)) ?_; intros; refine hd hK fun hH => ?_; refine tk 10 hH ?_; refine Az (rs := [11, 13]) (by kernel_rfl) (by simp) ?_; refine Lm.cons (by simp; rfl) (fun K hK => ?_) (Lm.cons (by simp; rfl) (fun K hK => ?_) Lm.nil); go_simp; refine Al (Em (by omega)) ?_; intros; refine hd hK fun hH => ?_; refine Az (rs := [12, 13]) (by kernel_rfl) (by simp) ?_; refine Lm.cons (by simp; rfl) (fun K hK => ?_) (Lm.cons (by simp; rfl) (fun K hK => ?_) Lm.nil); go_simp; refine Al (Gd (by omega)) ?_; intros; refine hd hK fun hH => st 13 fun K hK => ?_; go_simp; refine hd hK fun hH => st 14 fun K hK => ?_; go_simp; refine hd hK fun hH => dn ?_; clear hH; go_wp2_with fail; go_meet; exact ⟨_, _, _, _, _, rfl, ii, CZ.cast ii rfl (by omega), ii, ii⟩; go_simp; refine hd hK fun hH => st 12 fun K hK => ?_; go_simp; refine Al (Gd (by omega)) ?_; intros; refine hd hK fun hH => st 14 fun K hK => ?_; go_simp; refine hd hK fun hH => dn ?_; clear hH; go_wp2_with fail; go_meet; exact ⟨_, _, _, _, _, rfl, ii, CZ.cast ii rfl (by omega), ii, ii⟩; go_simp; refine hd hK fun hH => st 11 fun K hK => ?_; go_simp; refine Al (Em (by omega)) ?_; intros; refine hd hK fun hH => st 12 fun K hK => ?_; go_simp; refine Al (Gd (by omega)) ?_; intros; refine hd hK fun hH => st 14 fun K hK => ?_; go_simp; refine hd hK fun hH => dn ?_; clear hH; go_wp2_with fail; go_meet; exact ⟨_, _, _, _, _, rfl, ii, CZ.cast ii rfl (by omega), ii, ii⟩; go_simp; refine hd hK fun hH => st 9 fun K hK => ?_; go_simp; refine Ae (Bd (by omega)) ?_; intros; refine hd hK fun hH => ?_; refine tk 10 hH (st 11 fun K hK => ?_); go_simp; refine Al (Em (by omega)) ?_; intros; refine hd hK fun hH => st 12 fun K hK => ?_; go_simp; refine Al (Gd (by omega)) ?_; intros; refine hd hK fun hH => st 14 fun K hK => ?_; go_simp; refine hd hK fun hH => dn ?_; clear hH; go_wp2_with fail; go_meet; exact ⟨_, _, _, _, _, rfl, ii, CZ.cast ii rfl (by omega), ii, ii⟩; go_simp; refine hd hK fun hH => st 7 fun K hK => ?_; go_simp; refine Al (B7 (by omega)) ?_; intros; refine hd hK fun hH => st 9 fun K hK => ?_; go_simp; refine Ae (Bd (by omega)) ?_; intros; refine hd hK fun hH => ?_; refine tk 10 hH (st 11 fun K hK => ?_); go_simp; refine Al (Em (by omega)) ?_; intros; refine hd hK fun hH => st 12 fun K hK => ?_; go_simp; refine Al (Gd (by omega)) ?_; intros; refine hd hK fun hH => st 14 fun K hK => ?_; go_simp; refine hd hK fun hH => dn ?_; clear hH; go_wp2_with fail; go_meet; exact ⟨_, _, _, _, _, rfl, ii, CZ.cast ii rfl (by omega), ii, ii⟩; go_simp; refine hd hK fun hH => st 5 fun K hK => ?_; go_simp; refine Al (Em (by omega)) ?_; intros; refine hd hK fun hH => st 7 fun K hK => ?_; go_simp; refine Al (B7 (by omega)) ?_; intros; refine hd hK fun hH => st 9 fun K hK => ?_; go_simp; refine Ae (Bd (by omega)) ?_; intros; refine hd hK fun hH => ?_; refine tk 10 hH (st 11 fun K hK => ?_); go_simp; refine Al (Em (by omega)) ?_; intros; refine hd hK fun hH => st 12 fun K hK => ?_; go_simp; refine Al (Gd (by omega)) ?_; intros; refine hd hK fun hH => st 14 fun K hK => ?_; go_simp; refine hd hK fun hH => dn ?_; clear hH; go_wp2_with fail; go_meet; exact ⟨_, _, _, _, _, rfl, ii, CZ.cast ii rfl (by omega), ii, ii⟩; go_simp; refine hd hK fun hH => st 3 fun K hK => ?_; go_simp; refine Ae (Bd (by omega)) ?_; intros; refine hd hK fun hH => ?_; refine tk 4 hH (st 5 fun K hK => ?_); go_simp; refine Al (Em (by omega)) ?_; intros; refine hd hK fun hH => st 7 fun K hK => ?_; go_simp; refine Al (B7 (by omega)) ?_; intros; refine hd hK fun hH => st 9 fun K hK => ?_; go_simp; refine Ae (Bd (by omega)) ?_; intros; refine hd hK fun hH => ?_; refine tk 10 hH (st 11 fun K hK => ?_); go_simp; refine Al (Em (by omega)) ?_; intros; refine hd hK fun hH => st 12 fun K hK => ?_; go_simp; refine Al (Gd (by omega)) ?_; intros; refine hd hK fun hH => st 14 fun K hK => ?_; go_simp; refine hd hK fun hH => dn ?_; clear hH; go_wp2_with fail; go_meet; exact ⟨_, _, _, _, _, rfl, ii, CZ.cast ii rfl (by omega), ii, ii⟩; go_simp; refine hd hK fun hH => st 1 fun K hK => ?_; go_simp; refine Al (B7 (by omega)) ?_; intros; refine hd hK fun hH => st 3 fun K hK => ?_; go_simp; refine Ae (Bd (by omega)) ?_; intros; refine hd hK fun hH => ?_; refine tk 4 hH (st 5 fun K hK => ?_); go_simp; refine Al (Em (by omega)) ?_; intros; refine hd hK fun hH => st 7 fun K hK => ?_; go_simp; refine Al (B7 (by omega)) ?_; intros; refine hd hK fun hH => st 9 fun K hK => ?_; go_simp; refine Ae (Bd (by omega)) ?_; intros; refine hd hK fun hH => ?_; refine tk 10 hH (st 11 fun K hK => ?_); go_simp; refine Al (Em (by omega)) ?_; intros; refine hd hK fun hH => st 12 fun K hK => ?_; go_simp; refine Al (Gd (by omega)) ?_; intros; refine hd hK fun hH => st 14 fun K hK => ?_; go_simp; refine hd hK fun hH => dn ?_; clear hH; go_wp2_with fail; go_meet; exact ⟨_, _, _, _, _, rfl, ii, CZ.cast ii rfl (by omega), ii, ii⟩
  case rest =>
   obtain ⟨b12, g12, a12, l12, c12, rfl, i1, i2, ⟨i3⟩, i4⟩ := hcut; have i3 := Kp1.mk i3; go_wp2_with fail; refine rgn [w.heap.size + 1 + 1] [] fun hH => ?_; refine tk 0 hH ?_; refine tk 1 hH ?_; refine tk 3 hH (st 2 fun K hK => ?_); go_simp; refine Ae (Bd (by omega)) ?_; intros; refine hd hK fun hH => st 4 fun K hK => ?_; go_simp; refine Ae (Bd (by omega)) ?_; intros; refine hd hK fun hH => st 5 fun K hK => ?_; go_simp; refine Ae (Dd (by omega)) ?_; intros; refine hd hK fun hH => st 6 fun K hK => ?_; go_simp; refine Ab (Dp (by omega)) ?_; intros; refine hd hK fun hH => st 7 fun K hK => ?_; go_simp; refine hd hK fun hH => dn ?_; clear hH; go_wp2; refine Ac rfl Tryz.underlying96 rfl (by kernel_rfl) rfl rfl rfl ?_; exact Bk.fin HM.out.symm (by omega)
theorem Dn {p2 : Option Addr} [h1 : CF w (.agg #[.int .i64 n1, .int .i64 d1, .pointer p1]) x k1] [h2 : CF w (.agg #[.int .i64 n2, .int .i64 d2, .pointer p2]) y k2] (b : k1 ≤ 300000 ∧ k2 ≤ 300000) :
  Calls Tryz.prog 171 #[.agg #[.int .i64 n1, .int .i64 d1, .pointer p1], .agg #[.int .i64 n2, .int .i64 d2, .pointer p2]] w (Bk w (x - y) (k1 + k2 + 3)) := by
 have HE := Lib.hid (Rat.sub_eq_add_neg x y); go_enter Tryz.func171, Tryz.ntmps171; go_wp2_with fail; refine rgn [w.heap.size + 1 + 1] [] fun hH => ?_; refine tk 0 hH ?_; refine tk 1 hH (st 2 fun K hK => ?_); go_simp; refine Ab (Di (by omega)) ?_; intros; refine hd hK fun hH => st 3 fun K hK => ?_; go_simp; refine Ab (Gv (by omega)) ?_; intros; refine hd hK fun hH => st 4 fun K hK => ?_; go_simp; refine hd hK fun hH => dn ?_; clear hH; go_wp2; refine Ac rfl Tryz.underlying96 rfl (by kernel_rfl) rfl rfl rfl ?_; exact Bk.fin HE.out.symm (by omega)
end Go.Proofs.YtpnpnlmlamfpmaaGreatDoor
