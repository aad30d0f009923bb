import Derived.Test.YtpnpnlmlamfpmaaGreatDoorS14
import Derived.IntWalk
namespace Go.Proofs.YtpnpnlmlamfpmaaGreatDoor
open Go.RowKit
set_option maxHeartbeats 40000000
set_option maxRecDepth 100000
set_option synthInstance.maxHeartbeats 1000000
set_option synthInstance.maxSize 100000
variable {c1 k1 l1 m n : Nat}
theorem Qck (hm : m ≠ 0) : 2 ^ (nbits m - 1) ≤ m := by
 rw [Mi hm]
 have hp := Bw hm
 have hd := An (B9 m) ((nf m).length - 1)
 have hl := Ic m hm
 have hb := Ny (x := (nf m).getD ((nf m).length - 1) 0) (by omega) hl
 have h1 := Dt (nf m) ((nf m).length - 1) (by omega)
 rw [Ck _ ((nf m).length - 1) (by omega), List.drop_eq_nil_of_le (by omega), Ay, Ah, Nat.mul_zero, Nat.add_zero] at h1
 generalize (nf m).getD ((nf m).length - 1) 0 = x at *; generalize (nf m).length - 1 = k at *
 have h3 : (4294967296 : Nat) ^ k = 2 ^ (32 * k) := by rw [Nat.pow_mul]
 rw [show 32 * k + blen x - 1 = 32 * k + (blen x - 1) by omega, Nat.pow_add, ← h3]
 have h4 : 4294967296 ^ k * 2 ^ (blen x - 1) ≤ 4294967296 ^ k * x := Nat.mul_le_mul_left _ hb.2
 omega
theorem Uv {c : Nat} : nbits m ≤ c ↔ m < 2 ^ c := by
 constructor
 ·intro h; exact Nat.lt_of_lt_of_le (Qb3 m) (Nat.pow_le_pow_right (by omega) h)
 ·intro h
  rcases Nat.lt_or_ge c (nbits m) with h' | h'
  ·have hm : m ≠ 0 := fun e => by subst e; rw [Qjz] at h'; omega
   have := Nat.pow_le_pow_right (show 0 < 2 by omega) (show c ≤ nbits m - 1 by omega)
   have := Qck hm
   omega
  ·exact h'
theorem Qny : nbits m ≤ 62 ↔ m < 4611686018427387904 := Uv
theorem Qmw {m : Nat} : nbits m ≤ 1 ↔ m < 2 := Uv
variable {g g1 : Bool}
theorem Qe9 (hm : m ≠ 0) (hn : n ≠ 0) : (mkRat (sgn g n) m).num = sgn g (n / Nat.gcd n m) ∧ (mkRat (sgn g n) m).den = m / Nat.gcd n m ∧ mkRat (sgn g n) m ≠ 0 := by
 have h1 := Oq (sgn g n) hm
 have h2 := Qam (sgn g n) hm
 have h3 := Y6 (sgn g n) hm
 rw [Zx] at h1 h2
 refine ⟨?_, h1, fun e => ?_⟩
 ·have hq : 0 < n / Nat.gcd n m := Nat.div_pos (Nat.gcd_le_left _ (Nat.pos_of_ne_zero hn)) (Nat.gcd_pos_of_pos_left _ (Nat.pos_of_ne_zero hn))
  generalize n / Nat.gcd n m = q, (mkRat (sgn g n) m).num = z at *
  cases g
  ·simp only [G3] at *; omega
  ·simp only [Fs] at *; omega
 ·rw [Wl _ hm] at e
  have := Qnz.1 e
  exact hn this
theorem Uj (h : n < 4611686018427387904) : -4611686018427387904 < sgn g n ∧ sgn g n < 4611686018427387904 := by
 cases g <;> simp only [Fs, G3] <;> omega
theorem CF.zero {W : World} {k : Nat} (hk : 2 ≤ k) : CF W (.agg #[.int .i64 0, .int .i64 0, .pointer none]) 0 k :=
 CF.small (by simp) (by simp) (by omega) (by omega) (by omega) hk
variable {a1 p1 : Option Addr} {w : World}
theorem Dp {a2 : Option Addr} {l2 c2 k2 : Nat} {z : Int} [h1 : CI w (.agg #[.bool g1, .slice a1 l1 c1]) z k1] [h2 : CR w (.slice a2 l2 c2) m k2] (b : k1 ≤ 800000 ∧ k2 ≤ 800000) :
  Calls Tryz.prog 141 #[.agg #[.bool g1, .slice a1 l1 c1], .slice a2 l2 c2] w (Bk w (mkRat z m) (max k1 k2 + 2)) := by
 obtain ⟨n, hz, rfl⟩ := Fh h1
 have i1 : CR w (.slice a1 l1 c1) n k1 := ⟨hz⟩
 clear hz
 by_cases hm : m = 0
 ·subst hm; rw [Rat.mkRat_zero]
  have e0 : nbits 0 = 0 := rfl
  go_enter Tryz.func141, Tryz.ntmps141
  go_wp2_with (first
  | (go_at_call 168; refine Aq (Dh (by omega)) ?_; intros))
  refine Ac rfl Tryz.underlying96 rfl (by kernel_rfl) rfl rfl rfl ?_
  have := CF.zero (W := w) (k := max k1 k2 + 2) (by omega)
  exact Bk.fin (hx := CF.zero (by omega)) rfl (Nat.le_refl _)
 by_cases hn : n = 0
 ·subst hn
  rw [show sgn g1 0 = 0 by cases g1 <;> rfl, Qdd]
  have e0 : (((nbits m : Nat) : Int) == 0) = false := Rh hm
  have e1 : isgn (sgn g1 0) = 0 := by cases g1 <;> rfl
  clear hm; go_enter Tryz.func141, Tryz.ntmps141
  go_wp2_with (first
  | (go_at_call 168; refine Aq (Dh (by omega)) ?_; intros)
  | (go_at_call 183; refine Aa (Gm (by omega)) ?_; intros))
  refine Ac rfl Tryz.underlying96 rfl (by kernel_rfl) rfl rfl rfl ?_; exact Bk.fin (hx := CF.zero (by omega)) rfl (Nat.le_refl _)
 have HQ := Lib.hid (Qe9 (g := g1) hm hn)
 have e0 : (((nbits m : Nat) : Int) == 0) = false := Rh hm
 have e1 : (isgn (sgn g1 n) == 0) = false := by rw [beq_eq_false_iff_ne]; rcases F8 (sgn g1 n) with ⟨h, e⟩ | ⟨h, e⟩ | ⟨h, e⟩ <;> first | omega | exact absurd (Qnz.1 h) hn
 have hg0 : 0 < Nat.gcd n m := Nat.gcd_pos_of_pos_right _ (Nat.pos_of_ne_zero hm)
 have hmp : 0 < m / Nat.gcd n m := Nat.div_pos (Nat.gcd_le_right _ (Nat.pos_of_ne_zero hm)) hg0
 by_cases hg : Nat.gcd n m < 2
 ·have hg1 : Nat.gcd n m = 1 := by omega
  have b0 : ((nbits (Nat.gcd n m) : Nat) : Int) ≤ 1 := by have := Qmw.2 hg; omega
  rw [hg1, Nat.div_one, Nat.div_one] at HQ; rw [hg1, Nat.div_one] at hmp; clear hg hg1 hm hn hg0
  by_cases hN : n < 4611686018427387904
  ·have b1 : ((nbits (n) : Nat) : Int) ≤ 62 := by have := Qny.2 hN; omega
   by_cases hD : m < 4611686018427387904
   ·have b2 : ((nbits (m) : Nat) : Int) ≤ 62 := by have := Qny.2 hD; omega
    obtain ⟨b3, b4⟩ := Uj (g := g1) hN
    have e1 := Mx (x := sgn g1 (n)) ⟨by omega, by omega⟩
    have e2 := Cv (n := m) (by omega)
    have HF : Hid (∀ W : World, CF W (.agg #[.int .i64 (sgn g1 (n)), .int .i64 (((m : Nat) : Int) - 1), .pointer none]) (mkRat (sgn g1 n) m) (max k1 k2 + 2)) := fun W => CF.small HQ.out.1 (by rw [HQ.out.2.1]; omega) b3 b4 (by omega) (by omega)
    clear hN b3 b4; go_enter Tryz.func141, Tryz.ntmps141
    go_wp2_with (first
    | (go_at_call 168; refine Aq (Dh (by omega)) ?_; intros)
    | (go_at_call 183; refine Aa (Gm (by omega)) ?_; intros)
    | (go_at_call 169; refine Ae (De (by omega)) ?_; intros)
    | (go_at_call 190; refine I3 (I2 (by omega)) ?_; intros)
    | (go_at_call 191; refine Aa (I6) ?_; intros)
    | (go_at_call 192; refine Aq (Fo) ?_; intros)
    | (go_at_call 162; refine Al (Gf (by omega)) ?_; intros)
    | (go_at_call 164; refine Ae (Gq (by omega)) ?_; intros))
    refine Ac rfl Tryz.underlying96 rfl (by kernel_rfl) rfl rfl rfl ?_; exact Bk.fin (hx := HF.out _) rfl (by omega)
   ·have b2 : 62 < ((nbits (m) : Nat) : Int) := by have := mt Qny.1 hD; omega
    have HB : Hid (¬ ((mkRat (sgn g1 n) m).num.natAbs < 4611686018427387904 ∧ (mkRat (sgn g1 n) m).den < 4611686018427387904)) := Lib.hid (fun h => hD (by rw [← HQ.out.2.1]; exact h.2))
    clear hN hD; go_enter Tryz.func141, Tryz.ntmps141
    go_wp2_with (first
    | (go_at_call 168; refine Aq (Dh (by omega)) ?_; intros)
    | (go_at_call 183; refine Aa (Gm (by omega)) ?_; intros)
    | (go_at_call 169; refine Ae (De (by omega)) ?_; intros)
    | (go_at_call 190; refine I3 (I2 (by omega)) ?_; intros)
    | (go_at_call 191; refine Aa (I6) ?_; intros)
    | (go_at_call 192; refine Aq (Fo) ?_; intros)
    | (go_at_call 162; refine Al (Gf (by omega)) ?_; intros)
    | (go_at_call 164; refine Ae (Gq (by omega)) ?_; intros))
    refine Ac rfl Tryz.underlying96 rfl (by kernel_rfl) rfl rfl rfl ?_; exact Bk.fin (hx := CF.big (k := max k1 k2 + 2) HQ.out.1.symm HQ.out.2.1.symm HQ.out.2.2 HB.out (by omega) (by omega)) rfl (by omega)
  ·have b1 : 62 < ((nbits (n) : Nat) : Int) := by have := mt Qny.1 hN; omega
   have HB : Hid (¬ ((mkRat (sgn g1 n) m).num.natAbs < 4611686018427387904 ∧ (mkRat (sgn g1 n) m).den < 4611686018427387904)) := Lib.hid (fun h => hN (by have h1 := h.1; rw [HQ.out.1] at h1; cases g1 <;> simp only [Fs, G3, Int.natAbs_neg, Int.natAbs_natCast] at h1 <;> exact h1))
   clear hN; go_enter Tryz.func141, Tryz.ntmps141
   go_wp2_with (first
   | (go_at_call 168; refine Aq (Dh (by omega)) ?_; intros)
   | (go_at_call 183; refine Aa (Gm (by omega)) ?_; intros)
   | (go_at_call 169; refine Ae (De (by omega)) ?_; intros)
   | (go_at_call 190; refine I3 (I2 (by omega)) ?_; intros)
   | (go_at_call 191; refine Aa (I6) ?_; intros)
   | (go_at_call 192; refine Aq (Fo) ?_; intros)
   | (go_at_call 162; refine Al (Gf (by omega)) ?_; intros)
   | (go_at_call 164; refine Ae (Gq (by omega)) ?_; intros))
   refine Ac rfl Tryz.underlying96 rfl (by kernel_rfl) rfl rfl rfl ?_; exact Bk.fin (hx := CF.big (k := max k1 k2 + 2) HQ.out.1.symm HQ.out.2.1.symm HQ.out.2.2 HB.out (by omega) (by omega)) rfl (by omega)
 ·have b0 : 1 < ((nbits (Nat.gcd n m) : Nat) : Int) := by have := mt Qmw.1 hg; omega
  clear hg hm hn
  by_cases hN : n / Nat.gcd n m < 4611686018427387904
  ·have b1 : ((nbits (n / Nat.gcd n m) : Nat) : Int) ≤ 62 := by have := Qny.2 hN; omega
   by_cases hD : m / Nat.gcd n m < 4611686018427387904
   ·have b2 : ((nbits (m / Nat.gcd n m) : Nat) : Int) ≤ 62 := by have := Qny.2 hD; omega
    obtain ⟨b3, b4⟩ := Uj (g := g1) hN
    have e1 := Mx (x := sgn g1 (n / Nat.gcd n m)) ⟨by omega, by omega⟩
    have e2 := Cv (n := m / Nat.gcd n m) (by omega)
    have HF : Hid (∀ W : World, CF W (.agg #[.int .i64 (sgn g1 (n / Nat.gcd n m)), .int .i64 (((m / Nat.gcd n m : Nat) : Int) - 1), .pointer none]) (mkRat (sgn g1 n) m) (max k1 k2 + 2)) := fun W => CF.small HQ.out.1 (by rw [HQ.out.2.1]; omega) b3 b4 (by omega) (by omega)
    clear hN b3 b4; go_enter Tryz.func141, Tryz.ntmps141
    go_wp2_with (first
    | (go_at_call 168; refine Aq (Dh (by omega)) ?_; intros)
    | (go_at_call 183; refine Aa (Gm (by omega)) ?_; intros)
    | (go_at_call 169; refine Ae (De (by omega)) ?_; intros)
    | (go_at_call 190; refine I3 (I2 (by omega)) ?_; intros)
    | (go_at_call 191; refine Aa (I6) ?_; intros)
    | (go_at_call 192; refine Aq (Fo) ?_; intros)
    | (go_at_call 162; refine Al (Gf (by omega)) ?_; intros)
    | (go_at_call 164; refine Ae (Gq (by omega)) ?_; intros))
    refine Ac rfl Tryz.underlying96 rfl (by kernel_rfl) rfl rfl rfl ?_; exact Bk.fin (hx := HF.out _) rfl (by omega)
   ·have b2 : 62 < ((nbits (m / Nat.gcd n m) : Nat) : Int) := by have := mt Qny.1 hD; omega
    have HB : Hid (¬ ((mkRat (sgn g1 n) m).num.natAbs < 4611686018427387904 ∧ (mkRat (sgn g1 n) m).den < 4611686018427387904)) := Lib.hid (fun h => hD (by rw [← HQ.out.2.1]; exact h.2))
    clear hN hD; go_enter Tryz.func141, Tryz.ntmps141
    go_wp2_with (first
    | (go_at_call 168; refine Aq (Dh (by omega)) ?_; intros)
    | (go_at_call 183; refine Aa (Gm (by omega)) ?_; intros)
    | (go_at_call 169; refine Ae (De (by omega)) ?_; intros)
    | (go_at_call 190; refine I3 (I2 (by omega)) ?_; intros)
    | (go_at_call 191; refine Aa (I6) ?_; intros)
    | (go_at_call 192; refine Aq (Fo) ?_; intros)
    | (go_at_call 162; refine Al (Gf (by omega)) ?_; intros)
    | (go_at_call 164; refine Ae (Gq (by omega)) ?_; intros))
    refine Ac rfl Tryz.underlying96 rfl (by kernel_rfl) rfl rfl rfl ?_; exact Bk.fin (hx := CF.big (k := max k1 k2 + 2) HQ.out.1.symm HQ.out.2.1.symm HQ.out.2.2 HB.out (by omega) (by omega)) rfl (by omega)
  ·have b1 : 62 < ((nbits (n / Nat.gcd n m) : Nat) : Int) := by have := mt Qny.1 hN; omega
   have HB : Hid (¬ ((mkRat (sgn g1 n) m).num.natAbs < 4611686018427387904 ∧ (mkRat (sgn g1 n) m).den < 4611686018427387904)) := Lib.hid (fun h => hN (by have h1 := h.1; rw [HQ.out.1] at h1; cases g1 <;> simp only [Fs, G3, Int.natAbs_neg, Int.natAbs_natCast] at h1 <;> exact h1))
   clear hN; go_enter Tryz.func141, Tryz.ntmps141
   go_wp2_with (first
   | (go_at_call 168; refine Aq (Dh (by omega)) ?_; intros)
   | (go_at_call 183; refine Aa (Gm (by omega)) ?_; intros)
   | (go_at_call 169; refine Ae (De (by omega)) ?_; intros)
   | (go_at_call 190; refine I3 (I2 (by omega)) ?_; intros)
   | (go_at_call 191; refine Aa (I6) ?_; intros)
   | (go_at_call 192; refine Aq (Fo) ?_; intros)
   | (go_at_call 162; refine Al (Gf (by omega)) ?_; intros)
   | (go_at_call 164; refine Ae (Gq (by omega)) ?_; intros))
   refine Ac rfl Tryz.underlying96 rfl (by kernel_rfl) rfl rfl rfl ?_; exact Bk.fin (hx := CF.big (k := max k1 k2 + 2) HQ.out.1.symm HQ.out.2.1.symm HQ.out.2.2 HB.out (by omega) (by omega)) rfl (by omega)
variable {d1 n1 : Int} {x : Rat}
theorem B7 [h1 : CF w (.agg #[.int .i64 n1, .int .i64 d1, .pointer p1]) x k1] (b : k1 ≤ 900000) :
  Calls Tryz.prog 113 #[.agg #[.int .i64 n1, .int .i64 d1, .pointer p1]] w (Df w x.num k1) := by
 rcases CF.cases h1 with ⟨rfl, en1, ed1, bn1, bm1, bd1, be1, bk1⟩ | ⟨rfl, rfl, hq1, q1, G1, A1, L1, C1, AA1, LL1, CC1, rfl, hB1, hZ1, hN1⟩
 ·have En := Lib.hid en1; have Ed := Lib.hid ed1; clear en1 ed1; go_enter Tryz.func113, Tryz.ntmps113
  go_wp2_with (first
  | (go_at_call 163; refine Al (Pt (by omega)) ?_; intros))
  refine Ac rfl Tryz.underlying47 rfl (by kernel_rfl) rfl rfl rfl ?_; exact Df.fin En.out.symm (by omega)
 ·go_enter Tryz.func113, Tryz.ntmps113
  go_wp2_with (first
  | (go_at_call 162; refine Al (Gf (by omega)) ?_; intros))
  refine Ac rfl Tryz.underlying47 rfl (by kernel_rfl) rfl rfl rfl ?_; exact Df.fin rfl (by omega)
theorem Bd [h1 : CF w (.agg #[.int .i64 n1, .int .i64 d1, .pointer p1]) x k1] (b : k1 ≤ 900000) :
  Calls Tryz.prog 114 #[.agg #[.int .i64 n1, .int .i64 d1, .pointer p1]] w (Cm w x.den k1) := by
 rcases CF.cases h1 with ⟨rfl, en1, ed1, bn1, bm1, bd1, be1, bk1⟩ | ⟨rfl, rfl, hq1, q1, G1, A1, L1, C1, AA1, LL1, CC1, rfl, hB1, hZ1, hN1⟩
 ·have En := Lib.hid en1; have Ed := Lib.hid ed1; clear en1 ed1; go_enter Tryz.func114, Tryz.ntmps114
  go_wp2_with (first
  | (go_at_call 165; refine Ae (Q6 (by omega)) ?_; intros))
  go_ret
  exact Cm.fin (by have := Ed.out; omega) (by omega)
 ·go_enter Tryz.func114, Tryz.ntmps114
  go_wp2_with (first
  | (go_at_call 164; refine Ae (Gq (by omega)) ?_; intros))
  go_ret; exact Cm.fin rfl (by omega)
theorem O6 [h1 : CF w (.agg #[.int .i64 n1, .int .i64 d1, .pointer p1]) x k1] (b : k1 ≤ 900000) :
  Calls Tryz.prog 70 #[.agg #[.int .i64 n1, .int .i64 d1, .pointer p1]] w (Mv w x k1) := by
 go_enter Tryz.func70, Tryz.ntmps70; go_wp2_with fail; refine rgn [w.heap.size + 1] [] fun hH => ?_; refine tk 0 hH ?_; refine tk 2 hH (st 1 fun K hK => ?_); go_simp; refine Al (B7 (by omega)) ?_; intros; refine hd hK fun hH => st 3 fun K hK => ?_; go_simp; refine Ae (Bd (by omega)) ?_; intros; refine hd hK fun hH => ?_; refine tk 4 hH (st 5 fun K hK => ?_); go_simp; refine hd hK fun hH => dn ?_; clear hH; go_wp2; refine Ac rfl Tryz.underlying49 rfl (by kernel_rfl) rfl rfl rfl ?_; exact Mv.fin (hx := CA.mk' rfl rfl (Nat.le_refl _) (Nat.le_refl _)) rfl (Nat.le_refl _)
theorem Di [h1 : CF w (.agg #[.int .i64 n1, .int .i64 d1, .pointer p1]) x k1] (b : k1 ≤ 900000) :
  Calls Tryz.prog 174 #[.agg #[.int .i64 n1, .int .i64 d1, .pointer p1]] w (Bk w (-x) k1) := by
 rcases CF.cases h1 with ⟨rfl, en1, ed1, bn1, bm1, bd1, be1, bk1⟩ | ⟨rfl, rfl, hq1, q1, G1, A1, L1, C1, AA1, LL1, CC1, rfl, hB1, hZ1, hN1⟩
 ·have En := Lib.hid en1; have Ed := Lib.hid ed1; clear en1 ed1
  have HF : Hid (∀ W : World, CF W (.agg #[.int .i64 (-n1), .int .i64 d1, .pointer none]) (-x) k1) := fun W => CF.small (by rw [Rat.neg_num, En.out]) (by rw [Rat.neg_den, Ed.out]) (by omega) (by omega) (by omega) (by omega)
  go_enter Tryz.func174, Tryz.ntmps174; go_wp2; refine Ac rfl Tryz.underlying96 rfl (by kernel_rfl) rfl rfl rfl ?_; exact Bk.fin (hx := HF.out _) rfl (by omega)
 ·have hq' : -x ≠ 0 := by
   intro e; rw [← Rat.num_eq_zero, Rat.neg_num] at e; exact hq1 (Rat.num_eq_zero.1 (by omega))
  have HB : Hid (¬ ((-x).num.natAbs < 4611686018427387904 ∧ (-x).den < 4611686018427387904)) := Lib.hid (by rw [Rat.neg_num, Rat.neg_den, Int.natAbs_neg]; exact h1.bigger)
  go_enter Tryz.func174, Tryz.ntmps174; go_wp2_with fail; refine rgn [w.heap.size + 1] [] fun hH => ?_; refine tk 0 hH ?_; refine tk 1 hH ?_; refine tk 2 hH ?_; refine tk 3 hH ?_; refine tk 4 hH ?_; refine tk 6 hH ?_; refine tk 7 hH ?_; refine tk 8 hH ?_; refine tk 9 hH ?_; refine tk 10 hH (st 5 fun K hK => ?_); go_simp; refine Al (Ql6 (by omega)) ?_; intros; refine hd hK fun hH => ?_; refine tk 11 hH (st 12 fun K hK => ?_); go_simp; refine hd hK fun hH => ?_; refine tk 13 hH (st 14 fun K hK => ?_); go_simp; refine hd hK fun hH => dn ?_; clear hH; go_wp2; refine Ac rfl Tryz.underlying96 rfl (by kernel_rfl) rfl rfl rfl ?_; exact Bk.fin (hx := CF.big (k := k1) (Rat.neg_num x).symm (Rat.neg_den x).symm hq' HB.out (by omega) (by omega)) rfl (by omega)
theorem Hc [h1 : CF w (.agg #[.int .i64 n1, .int .i64 d1, .pointer p1]) x k1] (b : k1 ≤ 900000) :
  Calls Tryz.prog 129 #[.agg #[.int .i64 n1, .int .i64 d1, .pointer p1]] w (fun e w' => e = .returned (.int .i64 (isgn x.num)) ∧ Below w.heap.size w w') := by
 rcases CF.cases h1 with ⟨rfl, en1, ed1, bn1, bm1, bd1, be1, bk1⟩ | ⟨rfl, rfl, hq1, q1, G1, A1, L1, C1, AA1, LL1, CC1, rfl, hB1, hZ1, hN1⟩
 ·rw [en1]; clear en1 ed1 h1
  rcases F8 n1 with ⟨h, e⟩ | ⟨h, e⟩ | ⟨h, e⟩ <;> rw [e] <;> clear e
  ·go_enter Tryz.func129, Tryz.ntmps129; go_wp2; go_ret; exact E.fin rfl
  ·subst h; go_enter Tryz.func129, Tryz.ntmps129; go_wp2; go_ret; exact E.fin rfl
  ·go_enter Tryz.func129, Tryz.ntmps129; go_wp2; go_ret; exact E.fin rfl
 ·go_enter Tryz.func129, Tryz.ntmps129
  go_wp2_with (first
  | (go_at_call 183; refine Aa (Gm (by omega)) ?_; intros))
  go_ret; exact E.fin rfl
theorem ofC {aa1 : Option Addr} {ll1 cc1 : Nat} [h1 : CW w (.agg #[.bool g1, .slice a1 l1 c1, .slice aa1 ll1 cc1]) x k1] (b : k1 ≤ 700000) :
  Calls Tryz.prog 95 #[.agg #[.bool g1, .slice a1 l1 c1, .slice aa1 ll1 cc1]] w (Bk w x (k1 + 2)) := by
 obtain ⟨z, m, rfl, i1, i2⟩ := CW.parts h1; go_enter Tryz.func95, Tryz.ntmps95
 go_wp2_with (first
  | (go_at_call 141; refine Ab (Dp (by omega)) ?_; intros))
 refine Ac rfl Tryz.underlying96 rfl (by kernel_rfl) rfl rfl rfl ?_; exact Bk.fin rfl (by omega)
theorem H8 {n : Int} (b : -9223372036854775808 ≤ n ∧ n < 9223372036854775808) :
  Calls Tryz.prog 155 #[.int .i64 n] w (Bk w (n : Rat) 4) := by
 obtain ⟨b1, b2⟩ := b
 by_cases h1 : n ≤ -4611686018427387904
 ·have HE := Lib.hid (Ie n); go_enter Tryz.func155, Tryz.ntmps155
  go_wp2_with (first
  | (go_at_call 163; refine Al (Pt (by omega)) ?_; intros)
  | (go_at_call 141; refine Ab (Dp (by omega)) ?_; intros))
  refine Ac rfl Tryz.underlying96 rfl (by kernel_rfl) rfl rfl rfl ?_; exact Bk.fin HE.out (by omega)
 ·by_cases h2 : 4611686018427387904 ≤ n
  ·have HE := Lib.hid (Ie n); have h1' : -4611686018427387904 < n := (by omega); clear h1; go_enter Tryz.func155, Tryz.ntmps155
   go_wp2_with (first
  | (go_at_call 163; refine Al (Pt (by omega)) ?_; intros)
  | (go_at_call 141; refine Ab (Dp (by omega)) ?_; intros))
   refine Ac rfl Tryz.underlying96 rfl (by kernel_rfl) rfl rfl rfl ?_; exact Bk.fin HE.out (by omega)
  ·have HF : Hid (∀ W : World, CF W (.agg #[.int .i64 n, .int .i64 0, .pointer none]) (n : Rat) 4) := fun W => CF.small (by simp) (by simp) (by omega) (by omega) (by omega) (by omega)
   have h1' : -4611686018427387904 < n := (by omega); have h2' : n < 4611686018427387904 := (by omega); clear h1 h2; go_enter Tryz.func155, Tryz.ntmps155; go_wp2; refine Ac rfl Tryz.underlying96 rfl (by kernel_rfl) rfl rfl rfl ?_; exact Bk.fin (hx := HF.out _) rfl (by omega)
theorem Pv {n d : Int} (b : -4611686018427387904 < n ∧ n < 4611686018427387904 ∧ 0 < d ∧ d < 4611686018427387904) :
  Calls Tryz.prog 157 #[.int .i64 n, .int .i64 d] w (Bk w (mkRat n d.toNat) 2) := by
 obtain ⟨b1, b2, b3, b4⟩ := b
 obtain ⟨D, rfl⟩ : ∃ D : Nat, d = D := ⟨d.toNat, by omega⟩
 have hD : D ≠ 0 := (by omega)
 have hg0 : 0 < Nat.gcd n.natAbs D := Nat.gcd_pos_of_pos_right _ (by omega)
 have hgD : Nat.gcd n.natAbs D ≤ D := Nat.gcd_le_right _ (by omega)
 have e1 := M8 n hD
 have e2 := Oq n hD
 have d1 := Nat.gcd_dvd_left n.natAbs D
 have d2 := Nat.gcd_dvd_right n.natAbs D
 rw [show ((D : Int)).toNat = D by simp]
 generalize hG : Nat.gcd n.natAbs D = G at *
 have HG := Lib.hid hG; have hn1 : n.natAbs < 18446744073709551616 := (by omega); have hD2 : D < 4611686018427387904 := (by omega)
 by_cases hg : G < 2
 ·have hG1 : G = 1 := by omega
  subst hG1
  have HF : Hid (∀ W : World, CF W (.agg #[.int .i64 n, .int .i64 ((D : Int) - 1), .pointer none]) (mkRat n D) 2) := fun W => CF.small (by rw [e1]; simp) (by rw [e2]; simp) b1 b2 (by omega) (by omega)
  clear hG e1 e2 d1 d2 hg hg0 hgD b4; go_enter Tryz.func157, Tryz.ntmps157
  go_wp2_with (first
  | (go_at_call 201; refine Aq (Iu (by omega) (by omega)) ?_; intros)
  | (go_at_call 202; refine Aa (Qv (by omega) (by omega) HG) ?_; intros))
  refine Ac rfl Tryz.underlying96 rfl (by kernel_rfl) rfl rfl rfl ?_; exact Bk.fin (hx := HF.out _) rfl (by omega)
 ·have t1 : n.tdiv (G : Int) = n / (G : Int) := Int.tdiv_eq_ediv_of_dvd (Int.ofNat_dvd_left.2 d1)
  have t2 := I8 n G d1
  have t3 : n.natAbs / G ≤ n.natAbs := Nat.div_le_self _ _
  have t4 : (D : Int) / (G : Int) = ((D / G : Nat) : Int) := by simp
  have t5 : D / G ≤ D := Nat.div_le_self _ _
  have t6 : 0 < D / G := Nat.div_pos hgD hg0
  have HF : Hid (∀ W : World, CF W (.agg #[.int .i64 (n.tdiv (G : Int)), .int .i64 ((D : Int) / (G : Int) - 1), .pointer none]) (mkRat n D) 2) := fun W => CF.small (by rw [e1, t1]) (by rw [e2, t4]; omega) (by rw [t1]; omega) (by rw [t1]; omega) (by rw [t4]; omega) (by omega)
  have HW : Hid (wrap64 (wrap64 ((D : Int) / (G : Int)) - 1) = (D : Int) / (G : Int) - 1) := by
   show _ = _
   rw [t4, IntWalk.wrap64_in ((D / G : Nat) : Int) (by omega), IntWalk.wrap64_in (((D / G : Nat) : Int) - 1) (by omega)]
  clear t1 t2 t3 t4 t5 t6; have g1 : 2 ≤ G := (by omega)
  have g2 : ((G : Int) == 0) = false := by rw [beq_eq_false_iff_ne]; omega
  clear hG e1 e2 d1 d2 hg hg0 b4; go_enter Tryz.func157, Tryz.ntmps157
  go_wp2_with (first
  | (go_at_call 201; refine Aq (Iu (by omega) (by omega)) ?_; intros)
  | (go_at_call 202; refine Aa (Qv (by omega) (by omega) HG) ?_; intros))
  go_quiet (fail)
  go_wp2; refine Ac rfl Tryz.underlying96 rfl (by kernel_rfl) rfl rfl rfl ?_; rw [HW.out]; exact Bk.fin (hx := HF.out _) rfl (by omega)
end Go.Proofs.YtpnpnlmlamfpmaaGreatDoor
