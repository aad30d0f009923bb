/-
  Texts of this claim, joined: Frac, Frac2, Q, Geo.
-/
import Derived.Test.YtdlnoeegboapkaaGreatDoorCG
import Derived.IntWalk
import Derived.Deep.CutRange
namespace Go.Proofs.YtdlnoeegboapkaaGreatDoor
open Go.RowKit
set_option maxHeartbeats 40000000
set_option maxRecDepth 100000
set_option synthInstance.maxHeartbeats 1000000
set_option synthInstance.maxSize 100000
section
theorem nbits_ge {m : Nat} (hm : m ≠ 0) : 2 ^ (nbits m - 1) ≤ m := by
  rw [nbits_pos hm]
  have hp := nf_len_pos hm
  have hd := dig_get (dig_nf m) ((nf m).length - 1)
  have hl := nf_last m hm
  have hb := blen_ge (x := (nf m).getD ((nf m).length - 1) 0) (by omega) hl
  have h1 := val_take_drop (nf m) ((nf m).length - 1) (by omega)
  rw [val_drop_cons _ ((nf m).length - 1) (by omega), List.drop_eq_nil_of_le (by omega), val_nil, val_nf, Nat.mul_zero, Nat.add_zero] at h1
  generalize (nf m).getD ((nf m).length - 1) 0 = x at *
  generalize (nf m).length - 1 = k at *
  have h3 : (4294967296 : Nat) ^ k = 2 ^ (32 * k) := by rw [Nat.pow_mul]
  rw [show 32 * k + blen x - 1 = 32 * k + (blen x - 1) by omega, Nat.pow_add, ← h3]
  have h4 : 4294967296 ^ k * 2 ^ (blen x - 1) ≤ 4294967296 ^ k * x := Nat.mul_le_mul_left _ hb.2
  omega
theorem nbits_le_iff {m c : Nat} : nbits m ≤ c ↔ m < 2 ^ c := by
  constructor
  · intro h; exact Nat.lt_of_lt_of_le (nbits_lt m) (Nat.pow_le_pow_right (by omega) h)
  · intro h
    rcases Nat.lt_or_ge c (nbits m) with h' | h'
    · have hm : m ≠ 0 := fun e => by subst e; rw [nbits_zero] at h'; omega
      have := Nat.pow_le_pow_right (show 0 < 2 by omega) (show c ≤ nbits m - 1 by omega)
      have := nbits_ge hm
      omega
    · exact h'
theorem nbits62 {m : Nat} : nbits m ≤ 62 ↔ m < 4611686018427387904 := nbits_le_iff
theorem nbits1 {m : Nat} : nbits m ≤ 1 ↔ m < 2 := nbits_le_iff
theorem sgn_mk {g : Bool} {n m : Nat} (hm : m ≠ 0) (hn : n ≠ 0) : (mkRat (sgn g n) m).num = sgn g (n / Nat.gcd n m) ∧ (mkRat (sgn g n) m).den = m / Nat.gcd n m ∧ mkRat (sgn g n) m ≠ 0 := by
  have h1 := mk_den (sgn g n) hm
  have h2 := mk_abs (sgn g n) hm
  have h3 := mk_neg (sgn g n) hm
  rw [sgn_abs] at h1 h2
  refine ⟨?_, h1, fun e => ?_⟩
  · have hq : 0 < n / Nat.gcd n m := Nat.div_pos (Nat.gcd_le_left _ (Nat.pos_of_ne_zero hn)) (Nat.gcd_pos_of_pos_left _ (Nat.pos_of_ne_zero hn))
    generalize n / Nat.gcd n m = q at *
    generalize (mkRat (sgn g n) m).num = z at *
    cases g
    · simp only [sgn_false] at *; omega
    · simp only [sgn_true] at *; omega
  · rw [mk_eq0 _ hm] at e
    have := sgn_eq0.1 e
    exact hn this
theorem sgn_bd {g : Bool} {n : Nat} (h : n < 4611686018427387904) : -4611686018427387904 < sgn g n ∧ sgn g n < 4611686018427387904 := by
  cases g <;> simp only [sgn_true, sgn_false] <;> omega
theorem CF.zero {W : World} {k : Nat} (hk : 2 ≤ k) : CF W (.agg #[.int .i64 0, .int .i64 0, .pointer none]) 0 k :=
  CF.small (by simp) (by simp) (by omega) (by omega) (by omega) hk
theorem reduceC {w : World} {g1 : Bool} {a1 a2 : Option Addr} {l1 c1 l2 c2 m k1 k2 : Nat} {z : Int} [h1 : CI w (.agg #[.bool g1, .slice a1 l1 c1]) z k1] [h2 : CR w (.slice a2 l2 c2) m k2] (b : k1 ≤ 800000 ∧ k2 ≤ 800000) :
    Calls Tryz.prog 182 #[.agg #[.bool g1, .slice a1 l1 c1], .slice a2 l2 c2] w (CFRet w (mkRat z m) (max k1 k2 + 2)) := by
  obtain ⟨n, hz, rfl⟩ := zi_of h1
  have i1 : CR w (.slice a1 l1 c1) n k1 := ⟨hz⟩
  clear hz
  by_cases hm : m = 0
  · subst hm; rw [Rat.mkRat_zero]
    have e0 : nbits 0 = 0 := rfl
    go_enter Tryz.func182, Tryz.ntmps182
    go_wp2_with (first
    | (go_at_call 133; (with_reducible refine Calls.cS (bitsC (by omega)) ?_); intros))
    refine ret_bx rfl Tryz.underlying147 rfl (by kernel_rfl) rfl rfl rfl ?_
    have := CF.zero (W := w) (k := max k1 k2 + 2) (by omega)
    exact CFRet.fin (hx := CF.zero (by omega)) rfl (Nat.le_refl _)
  by_cases hn : n = 0
  · subst hn
    rw [show sgn g1 0 = 0 by cases g1 <;> rfl, mk_zero]
    have e0 : (((nbits m : Nat) : Int) == 0) = false := nbits_pos' hm
    have e1 : isgn (sgn g1 0) = 0 := by cases g1 <;> rfl
    clear hm; go_enter Tryz.func182, Tryz.ntmps182
    go_wp2_with (first
    | (go_at_call 133; (with_reducible refine Calls.cS (bitsC (by omega)) ?_); intros)
    | (go_at_call 235; (with_reducible refine Calls.cE (intSignC (by omega)) ?_); intros))
    refine ret_bx rfl Tryz.underlying147 rfl (by kernel_rfl) rfl rfl rfl ?_; exact CFRet.fin (hx := CF.zero (by omega)) rfl (Nat.le_refl _)
  have HQ := Lib.hid (sgn_mk (g := g1) hm hn)
  have e0 : (((nbits m : Nat) : Int) == 0) = false := nbits_pos' hm
  have e1 : (isgn (sgn g1 n) == 0) = false := by rw [beq_eq_false_iff_ne]; rcases isgn_cases (sgn g1 n) with ⟨h, e⟩ | ⟨h, e⟩ | ⟨h, e⟩ <;> first | omega | exact absurd (sgn_eq0.1 h) hn
  have hg0 : 0 < Nat.gcd n m := Nat.gcd_pos_of_pos_right _ (Nat.pos_of_ne_zero hm)
  have hmp : 0 < m / Nat.gcd n m := Nat.div_pos (Nat.gcd_le_right _ (Nat.pos_of_ne_zero hm)) hg0
  by_cases hg : Nat.gcd n m < 2
  · have hg1 : Nat.gcd n m = 1 := by omega
    have b0 : ((nbits (Nat.gcd n m) : Nat) : Int) ≤ 1 := by have := nbits1.2 hg; omega
    rw [hg1, Nat.div_one, Nat.div_one] at HQ; rw [hg1, Nat.div_one] at hmp; clear hg hg1 hm hn hg0
    by_cases hN : n < 4611686018427387904
    · have b1 : ((nbits (n) : Nat) : Int) ≤ 62 := by have := nbits62.2 hN; omega
      by_cases hD : m < 4611686018427387904
      · have b2 : ((nbits (m) : Nat) : Int) ≤ 62 := by have := nbits62.2 hD; omega
        obtain ⟨b3, b4⟩ := sgn_bd (g := g1) hN
        have e1 := int64V_in (x := sgn g1 (n)) ⟨by omega, by omega⟩
        have e2 := uintV_lt (n := m) (by omega)
        have HF : Hid (∀ W : World, CF W (.agg #[.int .i64 (sgn g1 (n)), .int .i64 (((m : Nat) : Int) - 1), .pointer none]) (mkRat (sgn g1 n) m) (max k1 k2 + 2)) := fun W => CF.small HQ.out.1 (by rw [HQ.out.2.1]; omega) b3 b4 (by omega) (by omega)
        clear hN b3 b4; go_enter Tryz.func182, Tryz.ntmps182
        go_wp2_with (first
        | (go_at_call 133; (with_reducible refine Calls.cS (bitsC (by omega)) ?_); intros)
        | (go_at_call 235; (with_reducible refine Calls.cE (intSignC (by omega)) ?_); intros)
        | (go_at_call 249; (with_reducible refine Calls.cN (gcdC (by omega)) ?_); intros)
        | (go_at_call 250; (with_reducible refine Calls.cDM (divmodC (by omega)) ?_); intros)
        | (go_at_call 251; (with_reducible refine Calls.cE (int64C) ?_); intros)
        | (go_at_call 252; (with_reducible refine Calls.cS (uintC) ?_); intros)
        | (go_at_call 215; (with_reducible refine Calls.cZ (intNormC (by omega)) ?_); intros)
        | (go_at_call 216; (with_reducible refine Calls.cN (normC (by omega)) ?_); intros))
        refine ret_bx rfl Tryz.underlying147 rfl (by kernel_rfl) rfl rfl rfl ?_; exact CFRet.fin (hx := HF.out _) rfl (by omega)
      · have b2 : 62 < ((nbits (m) : Nat) : Int) := by have := mt nbits62.1 hD; omega
        clear hN hD; go_enter Tryz.func182, Tryz.ntmps182
        go_wp2_with (first
        | (go_at_call 133; (with_reducible refine Calls.cS (bitsC (by omega)) ?_); intros)
        | (go_at_call 235; (with_reducible refine Calls.cE (intSignC (by omega)) ?_); intros)
        | (go_at_call 249; (with_reducible refine Calls.cN (gcdC (by omega)) ?_); intros)
        | (go_at_call 250; (with_reducible refine Calls.cDM (divmodC (by omega)) ?_); intros)
        | (go_at_call 251; (with_reducible refine Calls.cE (int64C) ?_); intros)
        | (go_at_call 252; (with_reducible refine Calls.cS (uintC) ?_); intros)
        | (go_at_call 215; (with_reducible refine Calls.cZ (intNormC (by omega)) ?_); intros)
        | (go_at_call 216; (with_reducible refine Calls.cN (normC (by omega)) ?_); intros))
        refine ret_bx rfl Tryz.underlying147 rfl (by kernel_rfl) rfl rfl rfl ?_; exact CFRet.fin (hx := CF.big (k := max k1 k2 + 2) HQ.out.1.symm HQ.out.2.1.symm HQ.out.2.2 (by omega) (by omega)) rfl (by omega)
    · have b1 : 62 < ((nbits (n) : Nat) : Int) := by have := mt nbits62.1 hN; omega
      clear hN; go_enter Tryz.func182, Tryz.ntmps182
      go_wp2_with (first
      | (go_at_call 133; (with_reducible refine Calls.cS (bitsC (by omega)) ?_); intros)
      | (go_at_call 235; (with_reducible refine Calls.cE (intSignC (by omega)) ?_); intros)
      | (go_at_call 249; (with_reducible refine Calls.cN (gcdC (by omega)) ?_); intros)
      | (go_at_call 250; (with_reducible refine Calls.cDM (divmodC (by omega)) ?_); intros)
      | (go_at_call 251; (with_reducible refine Calls.cE (int64C) ?_); intros)
      | (go_at_call 252; (with_reducible refine Calls.cS (uintC) ?_); intros)
      | (go_at_call 215; (with_reducible refine Calls.cZ (intNormC (by omega)) ?_); intros)
      | (go_at_call 216; (with_reducible refine Calls.cN (normC (by omega)) ?_); intros))
      refine ret_bx rfl Tryz.underlying147 rfl (by kernel_rfl) rfl rfl rfl ?_; exact CFRet.fin (hx := CF.big (k := max k1 k2 + 2) HQ.out.1.symm HQ.out.2.1.symm HQ.out.2.2 (by omega) (by omega)) rfl (by omega)
  · have b0 : 1 < ((nbits (Nat.gcd n m) : Nat) : Int) := by have := mt nbits1.1 hg; omega
    clear hg hm hn
    by_cases hN : n / Nat.gcd n m < 4611686018427387904
    · have b1 : ((nbits (n / Nat.gcd n m) : Nat) : Int) ≤ 62 := by have := nbits62.2 hN; omega
      by_cases hD : m / Nat.gcd n m < 4611686018427387904
      · have b2 : ((nbits (m / Nat.gcd n m) : Nat) : Int) ≤ 62 := by have := nbits62.2 hD; omega
        obtain ⟨b3, b4⟩ := sgn_bd (g := g1) hN
        have e1 := int64V_in (x := sgn g1 (n / Nat.gcd n m)) ⟨by omega, by omega⟩
        have e2 := uintV_lt (n := m / Nat.gcd n m) (by omega)
        have HF : Hid (∀ W : World, CF W (.agg #[.int .i64 (sgn g1 (n / Nat.gcd n m)), .int .i64 (((m / Nat.gcd n m : Nat) : Int) - 1), .pointer none]) (mkRat (sgn g1 n) m) (max k1 k2 + 2)) := fun W => CF.small HQ.out.1 (by rw [HQ.out.2.1]; omega) b3 b4 (by omega) (by omega)
        clear hN b3 b4; go_enter Tryz.func182, Tryz.ntmps182
        go_wp2_with (first
        | (go_at_call 133; (with_reducible refine Calls.cS (bitsC (by omega)) ?_); intros)
        | (go_at_call 235; (with_reducible refine Calls.cE (intSignC (by omega)) ?_); intros)
        | (go_at_call 249; (with_reducible refine Calls.cN (gcdC (by omega)) ?_); intros)
        | (go_at_call 250; (with_reducible refine Calls.cDM (divmodC (by omega)) ?_); intros)
        | (go_at_call 251; (with_reducible refine Calls.cE (int64C) ?_); intros)
        | (go_at_call 252; (with_reducible refine Calls.cS (uintC) ?_); intros)
        | (go_at_call 215; (with_reducible refine Calls.cZ (intNormC (by omega)) ?_); intros)
        | (go_at_call 216; (with_reducible refine Calls.cN (normC (by omega)) ?_); intros))
        refine ret_bx rfl Tryz.underlying147 rfl (by kernel_rfl) rfl rfl rfl ?_; exact CFRet.fin (hx := HF.out _) rfl (by omega)
      · have b2 : 62 < ((nbits (m / Nat.gcd n m) : Nat) : Int) := by have := mt nbits62.1 hD; omega
        clear hN hD; go_enter Tryz.func182, Tryz.ntmps182
        go_wp2_with (first
        | (go_at_call 133; (with_reducible refine Calls.cS (bitsC (by omega)) ?_); intros)
        | (go_at_call 235; (with_reducible refine Calls.cE (intSignC (by omega)) ?_); intros)
        | (go_at_call 249; (with_reducible refine Calls.cN (gcdC (by omega)) ?_); intros)
        | (go_at_call 250; (with_reducible refine Calls.cDM (divmodC (by omega)) ?_); intros)
        | (go_at_call 251; (with_reducible refine Calls.cE (int64C) ?_); intros)
        | (go_at_call 252; (with_reducible refine Calls.cS (uintC) ?_); intros)
        | (go_at_call 215; (with_reducible refine Calls.cZ (intNormC (by omega)) ?_); intros)
        | (go_at_call 216; (with_reducible refine Calls.cN (normC (by omega)) ?_); intros))
        refine ret_bx rfl Tryz.underlying147 rfl (by kernel_rfl) rfl rfl rfl ?_; exact CFRet.fin (hx := CF.big (k := max k1 k2 + 2) HQ.out.1.symm HQ.out.2.1.symm HQ.out.2.2 (by omega) (by omega)) rfl (by omega)
    · have b1 : 62 < ((nbits (n / Nat.gcd n m) : Nat) : Int) := by have := mt nbits62.1 hN; omega
      clear hN; go_enter Tryz.func182, Tryz.ntmps182
      go_wp2_with (first
      | (go_at_call 133; (with_reducible refine Calls.cS (bitsC (by omega)) ?_); intros)
      | (go_at_call 235; (with_reducible refine Calls.cE (intSignC (by omega)) ?_); intros)
      | (go_at_call 249; (with_reducible refine Calls.cN (gcdC (by omega)) ?_); intros)
      | (go_at_call 250; (with_reducible refine Calls.cDM (divmodC (by omega)) ?_); intros)
      | (go_at_call 251; (with_reducible refine Calls.cE (int64C) ?_); intros)
      | (go_at_call 252; (with_reducible refine Calls.cS (uintC) ?_); intros)
      | (go_at_call 215; (with_reducible refine Calls.cZ (intNormC (by omega)) ?_); intros)
      | (go_at_call 216; (with_reducible refine Calls.cN (normC (by omega)) ?_); intros))
      refine ret_bx rfl Tryz.underlying147 rfl (by kernel_rfl) rfl rfl rfl ?_; exact CFRet.fin (hx := CF.big (k := max k1 k2 + 2) HQ.out.1.symm HQ.out.2.1.symm HQ.out.2.2 (by omega) (by omega)) rfl (by omega)
theorem rNumC {w : World} {n1 d1 : Int} {p1 : Option Addr} {x : Rat} {k1 : Nat} [h1 : CF w (.agg #[.int .i64 n1, .int .i64 d1, .pointer p1]) x k1] (b : k1 ≤ 900000) :
    Calls Tryz.prog 155 #[.agg #[.int .i64 n1, .int .i64 d1, .pointer p1]] w (CZRet w x.num k1) := by
  rcases CF.cases h1 with ⟨rfl, en1, ed1, bn1, bm1, bd1, be1, bk1⟩ | ⟨rfl, rfl, hq1, q1, G1, A1, L1, C1, AA1, LL1, CC1, rfl, hB1, hZ1, hN1⟩
  · have En := Lib.hid en1; have Ed := Lib.hid ed1; clear en1 ed1; go_enter Tryz.func155, Tryz.ntmps155
    go_wp2_with (first
    | (go_at_call 183; (with_reducible refine Calls.cZ (fromIntC (by omega)) ?_); intros))
    refine ret_bx rfl Tryz.underlying27 rfl (by kernel_rfl) rfl rfl rfl ?_; exact CZRet.fin En.out.symm (by omega)
  · go_enter Tryz.func155, Tryz.ntmps155
    go_wp2_with (first
    | (go_at_call 215; (with_reducible refine Calls.cZ (intNormC (by omega)) ?_); intros))
    refine ret_bx rfl Tryz.underlying27 rfl (by kernel_rfl) rfl rfl rfl ?_; exact CZRet.fin rfl (by omega)
theorem rDenC {w : World} {n1 d1 : Int} {p1 : Option Addr} {x : Rat} {k1 : Nat} [h1 : CF w (.agg #[.int .i64 n1, .int .i64 d1, .pointer p1]) x k1] (b : k1 ≤ 900000) :
    Calls Tryz.prog 156 #[.agg #[.int .i64 n1, .int .i64 d1, .pointer p1]] w (CNRet w x.den k1) := by
  rcases CF.cases h1 with ⟨rfl, en1, ed1, bn1, bm1, bd1, be1, bk1⟩ | ⟨rfl, rfl, hq1, q1, G1, A1, L1, C1, AA1, LL1, CC1, rfl, hB1, hZ1, hN1⟩
  · have En := Lib.hid en1; have Ed := Lib.hid ed1; clear en1 ed1; go_enter Tryz.func156, Tryz.ntmps156
    go_wp2_with (first
    | (go_at_call 217; (with_reducible refine Calls.cN (fromUintC (by omega)) ?_); intros))
    go_ret
    exact CNRet.fin (by have := Ed.out; omega) (by omega)
  · go_enter Tryz.func156, Tryz.ntmps156
    go_wp2_with (first
    | (go_at_call 216; (with_reducible refine Calls.cN (normC (by omega)) ?_); intros))
    go_ret; exact CNRet.fin rfl (by omega)
theorem rApiC {w : World} {n1 d1 : Int} {p1 : Option Addr} {x : Rat} {k1 : Nat} [h1 : CF w (.agg #[.int .i64 n1, .int .i64 d1, .pointer p1]) x k1] (b : k1 ≤ 900000) :
    Calls Tryz.prog 92 #[.agg #[.int .i64 n1, .int .i64 d1, .pointer p1]] w (CARet w x k1) := by
  go_enter Tryz.func92, Tryz.ntmps92; go_wp2_with fail; refine rgn [w.heap.size + 1] [] fun hH => ?_; refine tk 0 hH ?_; refine tk 2 hH ?_; refine st 1 fun K hK => ?_; go_simp; (with_reducible refine Calls.cZ (rNumC (by omega)) ?_); intros; refine hd hK ?_; clear hH hK K; intro hH; refine st 3 fun K hK => ?_; go_simp; (with_reducible refine Calls.cN (rDenC (by omega)) ?_); intros; refine hd hK ?_; clear hH hK K; intro hH; refine tk 4 hH ?_; refine st 5 fun K hK => ?_; go_simp; refine hd hK ?_; clear hH hK K; intro hH; refine dn ?_; clear hH; go_wp2; refine ret_bx rfl Tryz.underlying29 rfl (by kernel_rfl) rfl rfl rfl ?_; exact CARet.fin (hx := CA.mk' rfl rfl (Nat.le_refl _) (Nat.le_refl _)) rfl (Nat.le_refl _)
theorem rNegC {w : World} {n1 d1 : Int} {p1 : Option Addr} {x : Rat} {k1 : Nat} [h1 : CF w (.agg #[.int .i64 n1, .int .i64 d1, .pointer p1]) x k1] (b : k1 ≤ 900000) :
    Calls Tryz.prog 268 #[.agg #[.int .i64 n1, .int .i64 d1, .pointer p1]] w (CFRet w (-x) k1) := by
  rcases CF.cases h1 with ⟨rfl, en1, ed1, bn1, bm1, bd1, be1, bk1⟩ | ⟨rfl, rfl, hq1, q1, G1, A1, L1, C1, AA1, LL1, CC1, rfl, hB1, hZ1, hN1⟩
  · have En := Lib.hid en1; have Ed := Lib.hid ed1; clear en1 ed1
    have HF : Hid (∀ W : World, CF W (.agg #[.int .i64 (-n1), .int .i64 d1, .pointer none]) (-x) k1) := fun W => CF.small (by rw [Rat.neg_num, En.out]) (by rw [Rat.neg_den, Ed.out]) (by omega) (by omega) (by omega) (by omega)
    go_enter Tryz.func268, Tryz.ntmps268; go_wp2; refine ret_bx rfl Tryz.underlying147 rfl (by kernel_rfl) rfl rfl rfl ?_; exact CFRet.fin (hx := HF.out _) rfl (by omega)
  · have hq' : -x ≠ 0 := by
      intro e; rw [← Rat.num_eq_zero, Rat.neg_num] at e; exact hq1 (Rat.num_eq_zero.1 (by omega))
    go_enter Tryz.func268, Tryz.ntmps268; go_wp2_with fail; refine rgn [w.heap.size + 1] [] fun hH => ?_; refine tk 0 hH ?_; refine tk 1 hH ?_; refine tk 2 hH ?_; refine tk 3 hH ?_; refine tk 4 hH ?_; refine tk 6 hH ?_; refine tk 7 hH ?_; refine tk 8 hH ?_; refine tk 9 hH ?_; refine tk 10 hH ?_; refine st 5 fun K hK => ?_; go_simp; (with_reducible refine Calls.cZ (intNegC (by omega)) ?_); intros; refine hd hK ?_; clear hH hK K; intro hH; refine tk 11 hH ?_; refine st 12 fun K hK => ?_; go_simp; refine hd hK ?_; clear hH hK K; intro hH; refine tk 13 hH ?_; refine st 14 fun K hK => ?_; go_simp; refine hd hK ?_; clear hH hK K; intro hH; refine dn ?_; clear hH; go_wp2; refine ret_bx rfl Tryz.underlying147 rfl (by kernel_rfl) rfl rfl rfl ?_; exact CFRet.fin (hx := CF.big (k := k1) (Rat.neg_num x).symm (Rat.neg_den x).symm hq' (by omega) (by omega)) rfl (by omega)
theorem rSignC {w : World} {n1 d1 : Int} {p1 : Option Addr} {x : Rat} {k1 : Nat} [h1 : CF w (.agg #[.int .i64 n1, .int .i64 d1, .pointer p1]) x k1] (b : k1 ≤ 900000) :
    Calls Tryz.prog 171 #[.agg #[.int .i64 n1, .int .i64 d1, .pointer p1]] w (fun e w' => e = .returned (.int .i64 (isgn x.num)) ∧ Below w.heap.size w w') := by
  rcases CF.cases h1 with ⟨rfl, en1, ed1, bn1, bm1, bd1, be1, bk1⟩ | ⟨rfl, rfl, hq1, q1, G1, A1, L1, C1, AA1, LL1, CC1, rfl, hB1, hZ1, hN1⟩
  · rw [en1]; clear en1 ed1 h1
    rcases isgn_cases n1 with ⟨h, e⟩ | ⟨h, e⟩ | ⟨h, e⟩ <;> rw [e] <;> clear e
    · go_enter Tryz.func171, Tryz.ntmps171; go_wp2; go_ret; exact E.fin rfl
    · subst h; go_enter Tryz.func171, Tryz.ntmps171; go_wp2; go_ret; exact E.fin rfl
    · go_enter Tryz.func171, Tryz.ntmps171; go_wp2; go_ret; exact E.fin rfl
  · go_enter Tryz.func171, Tryz.ntmps171
    go_wp2_with (first
    | (go_at_call 235; (with_reducible refine Calls.cE (intSignC (by omega)) ?_); intros))
    go_ret; exact E.fin rfl
theorem ofC {w : World} {g1 : Bool} {a1 aa1 : Option Addr} {l1 c1 ll1 cc1 k1 : Nat} {x : Rat} [h1 : CW w (.agg #[.bool g1, .slice a1 l1 c1, .slice aa1 ll1 cc1]) x k1] (b : k1 ≤ 700000) :
    Calls Tryz.prog 134 #[.agg #[.bool g1, .slice a1 l1 c1, .slice aa1 ll1 cc1]] w (CFRet w x (k1 + 2)) := by
  obtain ⟨z, m, rfl, i1, i2⟩ := CW.parts h1; go_enter Tryz.func134, Tryz.ntmps134
  go_wp2_with (first
    | (go_at_call 182; (with_reducible refine Calls.cF (reduceC (by omega)) ?_); intros))
  refine ret_bx rfl Tryz.underlying147 rfl (by kernel_rfl) rfl rfl rfl ?_; exact CFRet.fin rfl (by omega)
theorem fracIntC {w : World} {n : Int} (b : -9223372036854775808 ≤ n ∧ n < 9223372036854775808) :
    Calls Tryz.prog 121 #[.int .i64 n] w (CFRet w (n : Rat) 4) := by
  obtain ⟨b1, b2⟩ := b
  by_cases h1 : n ≤ -4611686018427387904
  · have HE := Lib.hid (mk_one n); go_enter Tryz.func121, Tryz.ntmps121
    go_wp2_with (first
    | (go_at_call 183; (with_reducible refine Calls.cZ (fromIntC (by omega)) ?_); intros)
    | (go_at_call 182; (with_reducible refine Calls.cF (reduceC (by omega)) ?_); intros))
    refine ret_bx rfl Tryz.underlying147 rfl (by kernel_rfl) rfl rfl rfl ?_; exact CFRet.fin HE.out (by omega)
  · by_cases h2 : 4611686018427387904 ≤ n
    · have HE := Lib.hid (mk_one n); have h1' : -4611686018427387904 < n := (by omega); clear h1; go_enter Tryz.func121, Tryz.ntmps121
      go_wp2_with (first
    | (go_at_call 183; (with_reducible refine Calls.cZ (fromIntC (by omega)) ?_); intros)
    | (go_at_call 182; (with_reducible refine Calls.cF (reduceC (by omega)) ?_); intros))
      refine ret_bx rfl Tryz.underlying147 rfl (by kernel_rfl) rfl rfl rfl ?_; exact CFRet.fin HE.out (by omega)
    · have HF : Hid (∀ W : World, CF W (.agg #[.int .i64 n, .int .i64 0, .pointer none]) (n : Rat) 4) := fun W => CF.small (by simp) (by simp) (by omega) (by omega) (by omega) (by omega)
      have h1' : -4611686018427387904 < n := (by omega); have h2' : n < 4611686018427387904 := (by omega); clear h1 h2; go_enter Tryz.func121, Tryz.ntmps121; go_wp2; refine ret_bx rfl Tryz.underlying147 rfl (by kernel_rfl) rfl rfl rfl ?_; exact CFRet.fin (hx := HF.out _) rfl (by omega)
theorem lowestC {w : World} {n d : Int} (b : -4611686018427387904 < n ∧ n < 4611686018427387904 ∧ 0 < d ∧ d < 4611686018427387904) :
    Calls Tryz.prog 209 #[.int .i64 n, .int .i64 d] w (CFRet w (mkRat n d.toNat) 2) := by
  obtain ⟨b1, b2, b3, b4⟩ := b
  obtain ⟨D, rfl⟩ : ∃ D : Nat, d = D := ⟨d.toNat, by omega⟩
  have hD : D ≠ 0 := (by omega)
  have hg0 : 0 < Nat.gcd n.natAbs D := Nat.gcd_pos_of_pos_right _ (by omega)
  have hgD : Nat.gcd n.natAbs D ≤ D := Nat.gcd_le_right _ (by omega)
  have e1 := mk_num n hD
  have e2 := mk_den n hD
  have d1 := Nat.gcd_dvd_left n.natAbs D
  have d2 := Nat.gcd_dvd_right n.natAbs D
  rw [show ((D : Int)).toNat = D by simp]
  generalize hG : Nat.gcd n.natAbs D = G at *
  have HG := Lib.hid hG; have hn1 : n.natAbs < 18446744073709551616 := (by omega); have hD2 : D < 4611686018427387904 := (by omega)
  by_cases hg : G < 2
  · have hG1 : G = 1 := by omega
    subst hG1
    have HF : Hid (∀ W : World, CF W (.agg #[.int .i64 n, .int .i64 ((D : Int) - 1), .pointer none]) (mkRat n D) 2) := fun W => CF.small (by rw [e1]; simp) (by rw [e2]; simp) b1 b2 (by omega) (by omega)
    clear hG e1 e2 d1 d2 hg hg0 hgD b4; go_enter Tryz.func209, Tryz.ntmps209
    go_wp2_with (first
    | (go_at_call 270; (with_reducible refine Calls.cS (absX (by omega) (by omega)) ?_); intros)
    | (go_at_call 271; (with_reducible refine Calls.cE (gcd64C (by omega) (by omega) HG) ?_); intros))
    refine ret_bx rfl Tryz.underlying147 rfl (by kernel_rfl) rfl rfl rfl ?_; exact CFRet.fin (hx := HF.out _) rfl (by omega)
  · have t1 : n.tdiv (G : Int) = n / (G : Int) := Int.tdiv_eq_ediv_of_dvd (Int.ofNat_dvd_left.2 d1)
    have t2 := int_div_abs n G d1
    have t3 : n.natAbs / G ≤ n.natAbs := Nat.div_le_self _ _
    have t4 : (D : Int) / (G : Int) = ((D / G : Nat) : Int) := by simp
    have t5 : D / G ≤ D := Nat.div_le_self _ _
    have t6 : 0 < D / G := Nat.div_pos hgD hg0
    have HF : Hid (∀ W : World, CF W (.agg #[.int .i64 (n.tdiv (G : Int)), .int .i64 ((D : Int) / (G : Int) - 1), .pointer none]) (mkRat n D) 2) := fun W => CF.small (by rw [e1, t1]) (by rw [e2, t4]; omega) (by rw [t1]; omega) (by rw [t1]; omega) (by rw [t4]; omega) (by omega)
    have HW : Hid (wrap64 (wrap64 ((D : Int) / (G : Int)) - 1) = (D : Int) / (G : Int) - 1) := by
      show _ = _
      rw [t4, IntWalk.wrap64_in ((D / G : Nat) : Int) (by omega), IntWalk.wrap64_in (((D / G : Nat) : Int) - 1) (by omega)]
    clear t1 t2 t3 t4 t5 t6; have g1 : 2 ≤ G := (by omega)
    have g2 : ((G : Int) == 0) = false := by rw [beq_eq_false_iff_ne]; omega
    clear hG e1 e2 d1 d2 hg hg0 b4; go_enter Tryz.func209, Tryz.ntmps209
    go_wp2_with (first
    | (go_at_call 270; (with_reducible refine Calls.cS (absX (by omega) (by omega)) ?_); intros)
    | (go_at_call 271; (with_reducible refine Calls.cE (gcd64C (by omega) (by omega) HG) ?_); intros))
    go_quiet (fail)
    go_wp2; refine ret_bx rfl Tryz.underlying147 rfl (by kernel_rfl) rfl rfl rfl ?_; rw [HW.out]; exact CFRet.fin (hx := HF.out _) rfl (by omega)
end
section
theorem mkRat_toNat {x y : Rat} {n1 n2 d1 d2 : Int} (e1 : x.num = n1) (e2 : (x.den : Int) = d1 + 1) (f1 : y.num = n2) (f2 : (y.den : Int) = d2 + 1) : mkRat (n1 * n2) ((d1 + 1) * (d2 + 1)).toNat = x * y := by
  rw [rat_mul_mk, e1, f1, ← e2, ← f2, ← Int.natCast_mul, Int.toNat_natCast]
theorem mkRat_toNat2 {x y : Rat} {n1 n2 d1 d2 : Int} (e1 : x.num = n1) (e2 : (x.den : Int) = d1 + 1) (f1 : y.num = n2) (f2 : (y.den : Int) = d2 + 1) : mkRat (n1 * (d2 + 1) + n2 * (d1 + 1)) ((d1 + 1) * (d2 + 1)).toNat = x + y := by
  rw [rat_add_mk, e1, f1, ← e2, ← f2, ← Int.natCast_mul, Int.toNat_natCast]
theorem rMulC {w : World} {n1 d1 n2 d2 : Int} {p1 p2 : Option Addr} {x y : Rat} {k1 k2 : Nat} [h1 : CF w (.agg #[.int .i64 n1, .int .i64 d1, .pointer p1]) x k1] [h2 : CF w (.agg #[.int .i64 n2, .int .i64 d2, .pointer p2]) y k2] (b : k1 ≤ 300000 ∧ k2 ≤ 300000) :
    Calls Tryz.prog 213 #[.agg #[.int .i64 n1, .int .i64 d1, .pointer p1], .agg #[.int .i64 n2, .int .i64 d2, .pointer p2]] w (CFRet w (x * y) (k1 + k2 + 2)) := by
  have HM := Lib.hid (rat_mul_mk x y); go_enter Tryz.func213, Tryz.ntmps213
  go_upto_region 1 with fail
  go_cut [16] from 9 to 16 (fun t wx => (∃ c : Bool, t = .bool c ∧ c = (p1.isNone && p2.isNone)) ∧ wx = ((w.alloc (.cells #[.int .i64 n1, .int .i64 d1, .pointer p1] 147)).alloc (.cells #[.int .i64 n2, .int .i64 d2, .pointer p2] 147)).alloc (.cells #[.int .i64 0, .int .i64 0, .pointer none] 147))
  case first =>
    cases p1 <;> cases p2 <;> (go_wp2; go_meet; exact ⟨⟨_, rfl, rfl⟩, rfl⟩)
  obtain ⟨⟨c, rfl, hc⟩, rfl⟩ := hcut; have HC := Lib.hid hc; clear hc
  go_upto_if 16 with fail
  go_cut [] from 17 to 41 (fun wx => wx = ((w.alloc (.cells #[.int .i64 n1, .int .i64 d1, .pointer p1] 147)).alloc (.cells #[.int .i64 n2, .int .i64 d2, .pointer p2] 147)).alloc (.cells #[.int .i64 0, .int .i64 0, .pointer none] 147))
  case first =>
    rcases CF.cases h1 with ⟨rfl, en1, ed1, bn1, bm1, bd1, be1, bk1⟩ | ⟨rfl, rfl, hq1, q1, G1, A1, L1, C1, AA1, LL1, CC1, rfl, hB1, hZ1, hN1⟩
    · rcases CF.cases h2 with ⟨rfl, en2, ed2, bn2, bm2, bd2, be2, bk2⟩ | ⟨rfl, rfl, hq2, q2, G2, A2, L2, C2, AA2, LL2, CC2, rfl, hB2, hZ2, hN2⟩
      · obtain rfl : c = true := HC.out; have HE := Lib.hid (mkRat_toNat en1 ed1 en2 ed2); clear en1 ed1 en2 ed2
        by_cases hA : (n1 * n2).natAbs < 4611686018427387904
        · by_cases hB : ((d1 + 1) * (d2 + 1)).natAbs < 4611686018427387904
          · obtain ⟨t1, t2⟩ := tVal_ok hA; obtain ⟨t3, t4⟩ := tVal_ok hB
            have hp : 0 < (d1 + 1) * (d2 + 1) := Int.mul_pos (by omega) (by omega)
            have hq : -4611686018427387904 < n1 * n2 ∧ n1 * n2 < 4611686018427387904 := (by omega); have hr : 0 < (d1 + 1) * (d2 + 1) ∧ (d1 + 1) * (d2 + 1) < 4611686018427387904 := (by omega); clear hA hB hp
            go_wp2_with (first
    | (go_at_call 208; (with_reducible refine Calls.cS (timesX (by omega) (by omega) (by omega) (by omega)) ?_); intros)
    | (go_at_call 209; (with_reducible refine Calls.cF (lowestC ⟨hq.1, hq.2, hr.1, hr.2⟩) ?_); intros))
            refine ret_bx rfl Tryz.underlying147 rfl (by kernel_rfl) rfl rfl rfl ?_; exact CFRet.fin HE.out (by omega)
          · obtain ⟨t1, t2⟩ := tVal_ok hA; obtain ⟨t3, t4⟩ := tVal_no hB; clear hA hB
            go_wp2_with (first
    | (go_at_call 208; (with_reducible refine Calls.cS (timesX (by omega) (by omega) (by omega) (by omega)) ?_); intros))
            go_meet; rfl
        · obtain ⟨t1, t2⟩ := tVal_no hA; clear hA
          go_wp2_with (first
    | (go_at_call 208; (with_reducible refine Calls.cS (timesX (by omega) (by omega) (by omega) (by omega)) ?_); intros))
          go_meet; rfl
      · obtain rfl : c = false := HC.out; go_wp2; go_meet; rfl
    · obtain rfl : c = false := HC.out; go_wp2; go_meet; rfl
  case rest =>
    obtain rfl := hcut; go_wp2_with fail; refine rgn [w.heap.size + 1 + 1] [] fun hH => ?_; refine tk 0 hH ?_; refine tk 2 hH ?_; refine tk 5 hH ?_; refine tk 7 hH ?_; refine st 1 fun K hK => ?_; go_simp; (with_reducible refine Calls.cZ (rNumC (by omega)) ?_); intros; refine hd hK ?_; clear hH hK K; intro hH; refine st 3 fun K hK => ?_; go_simp; (with_reducible refine Calls.cZ (rNumC (by omega)) ?_); intros; refine hd hK ?_; clear hH hK K; intro hH; refine st 4 fun K hK => ?_; go_simp; (with_reducible refine Calls.cZ (intMulC (by omega)) ?_); intros; refine hd hK ?_; clear hH hK K; intro hH; refine st 6 fun K hK => ?_; go_simp; (with_reducible refine Calls.cN (rDenC (by omega)) ?_); intros; refine hd hK ?_; clear hH hK K; intro hH; refine st 8 fun K hK => ?_; go_simp; (with_reducible refine Calls.cN (rDenC (by omega)) ?_); intros; refine hd hK ?_; clear hH hK K; intro hH; refine st 9 fun K hK => ?_; go_simp; (with_reducible refine Calls.cN (mulC (by omega)) ?_); intros; refine hd hK ?_; clear hH hK K; intro hH; refine st 10 fun K hK => ?_; go_simp; (with_reducible refine Calls.cF (reduceC (by omega)) ?_); intros; refine hd hK ?_; clear hH hK K; intro hH; refine st 11 fun K hK => ?_; go_simp; refine hd hK ?_; clear hH hK K; intro hH; refine dn ?_; clear hH; go_wp2; refine ret_bx rfl Tryz.underlying147 rfl (by kernel_rfl) rfl rfl rfl ?_; exact CFRet.fin HM.out.symm (by omega)
theorem rAddC {w : World} {n1 d1 n2 d2 : Int} {p1 p2 : Option Addr} {x y : Rat} {k1 k2 : Nat} [h1 : CF w (.agg #[.int .i64 n1, .int .i64 d1, .pointer p1]) x k1] [h2 : CF w (.agg #[.int .i64 n2, .int .i64 d2, .pointer p2]) y k2] (b : k1 ≤ 300000 ∧ k2 ≤ 300000) :
    Calls Tryz.prog 152 #[.agg #[.int .i64 n1, .int .i64 d1, .pointer p1], .agg #[.int .i64 n2, .int .i64 d2, .pointer p2]] w (CFRet w (x + y) (k1 + k2 + 3)) := by
  have HM := Lib.hid (rat_add_mk x y); go_enter Tryz.func152, Tryz.ntmps152
  go_upto_region 1 with fail
  go_cut [20] from 13 to 20 (fun t wx => (∃ c : Bool, t = .bool c ∧ c = (p1.isNone && p2.isNone)) ∧ wx = ((w.alloc (.cells #[.int .i64 n1, .int .i64 d1, .pointer p1] 147)).alloc (.cells #[.int .i64 n2, .int .i64 d2, .pointer p2] 147)).alloc (.cells #[.int .i64 0, .int .i64 0, .pointer none] 147))
  case first =>
    cases p1 <;> cases p2 <;> (go_wp2; go_meet; exact ⟨⟨_, rfl, rfl⟩, rfl⟩)
  obtain ⟨⟨c, rfl, hc⟩, rfl⟩ := hcut; have HC := Lib.hid hc; clear hc
  go_upto_if 20 with fail
  go_cut [] from 21 to 83 (fun wx => wx = ((w.alloc (.cells #[.int .i64 n1, .int .i64 d1, .pointer p1] 147)).alloc (.cells #[.int .i64 n2, .int .i64 d2, .pointer p2] 147)).alloc (.cells #[.int .i64 0, .int .i64 0, .pointer none] 147))
  case first =>
    rcases CF.cases h1 with ⟨rfl, en1, ed1, bn1, bm1, bd1, be1, bk1⟩ | ⟨rfl, rfl, hq1, q1, G1, A1, L1, C1, AA1, LL1, CC1, rfl, hB1, hZ1, hN1⟩
    · rcases CF.cases h2 with ⟨rfl, en2, ed2, bn2, bm2, bd2, be2, bk2⟩ | ⟨rfl, rfl, hq2, q2, G2, A2, L2, C2, AA2, LL2, CC2, rfl, hB2, hZ2, hN2⟩
      · obtain rfl : c = true := HC.out
        by_cases hd1 : d1 = 0
        · have q1 : (d1 == 0) = true := by rw [hd1]; rfl
          by_cases hd2 : d2 = 0
          · have q2 : (d2 == 0) = true := by rw [hd2]; rfl
            have HE : Hid (((n1 + n2 : Int) : Rat) = x + y) := by show _ = _; rw [rat_add1 (x := x) (y := y) (by omega) (by omega), en1, en2]
            clear en1 ed1 en2 ed2 hd1 hd2; have b1 : -9223372036854775808 ≤ n1 + n2 := (by omega); have b2 : n1 + n2 < 9223372036854775808 := (by omega)
            go_wp2_with (first
    | (go_at_call 121; (with_reducible refine Calls.cF (fracIntC ⟨b1, b2⟩) ?_); intros))
            refine ret_bx rfl Tryz.underlying147 rfl (by kernel_rfl) rfl rfl rfl ?_; exact CFRet.fin HE.out (by omega)
          · have q2 : (d2 == 0) = false := by rw [beq_eq_false_iff_ne]; exact hd2
            clear hd1 hd2; have HE := Lib.hid (mkRat_toNat2 en1 ed1 en2 ed2); clear en1 ed1 en2 ed2
            by_cases hA : (n1 * (d2 + 1)).natAbs < 4611686018427387904
            · by_cases hB : (n2 * (d1 + 1)).natAbs < 4611686018427387904
              · obtain ⟨t1, t2⟩ := tVal_ok hA; obtain ⟨t3, t4⟩ := tVal_ok hB
                by_cases hC : ((d1 + 1) * (d2 + 1)).natAbs < 4611686018427387904
                · obtain ⟨t5, t6⟩ := tVal_ok hC
                  have hp : 0 < (d1 + 1) * (d2 + 1) := Int.mul_pos (by omega) (by omega)
                  have hr : 0 < (d1 + 1) * (d2 + 1) ∧ (d1 + 1) * (d2 + 1) < 4611686018427387904 := (by omega); have hA1 : -4611686018427387904 < n1 * (d2 + 1) ∧ n1 * (d2 + 1) < 4611686018427387904 := (by omega); have hB1 : -4611686018427387904 < n2 * (d1 + 1) ∧ n2 * (d1 + 1) < 4611686018427387904 := (by omega); obtain ⟨hA1, hA2⟩ := hA1; obtain ⟨hB1, hB2⟩ := hB1; clear hA hB hC hp
                  generalize n1 * (d2 + 1) = P at *
                  generalize n2 * (d1 + 1) = Q at *
                  generalize (d1 + 1) * (d2 + 1) = D at *
                  by_cases hS : -4611686018427387904 < P + Q
                  · by_cases hS2 : P + Q < 4611686018427387904
                    · go_wp2_with (first
    | (go_at_call 208; (with_reducible refine Calls.cS (timesX (by omega) (by omega) (by omega) (by omega)) ?_); intros)
    | (go_at_call 209; (with_reducible refine Calls.cF (lowestC ⟨hS, hS2, hr.1, hr.2⟩) ?_); intros))
                      refine ret_bx rfl Tryz.underlying147 rfl (by kernel_rfl) rfl rfl rfl ?_; exact CFRet.fin HE.out (by omega)
                    · have hS3 : 4611686018427387904 ≤ P + Q := by omega
                      clear hS2
                      go_wp2_with (first
    | (go_at_call 208; (with_reducible refine Calls.cS (timesX (by omega) (by omega) (by omega) (by omega)) ?_); intros))
                      go_meet; rfl
                  · have hS3 : P + Q ≤ -4611686018427387904 := by omega
                    clear hS
                    go_wp2_with (first
    | (go_at_call 208; (with_reducible refine Calls.cS (timesX (by omega) (by omega) (by omega) (by omega)) ?_); intros))
                    go_meet; rfl
                · obtain ⟨t5, t6⟩ := tVal_no hC; clear hC; have hA1 : -4611686018427387904 < n1 * (d2 + 1) ∧ n1 * (d2 + 1) < 4611686018427387904 := (by omega); have hB1 : -4611686018427387904 < n2 * (d1 + 1) ∧ n2 * (d1 + 1) < 4611686018427387904 := (by omega); obtain ⟨hA1, hA2⟩ := hA1; obtain ⟨hB1, hB2⟩ := hB1; clear hA hB
                  go_wp2_with (first
    | (go_at_call 208; (with_reducible refine Calls.cS (timesX (by omega) (by omega) (by omega) (by omega)) ?_); intros))
                  go_meet; rfl
              · obtain ⟨t1, t2⟩ := tVal_ok hA; obtain ⟨t3, t4⟩ := tVal_no hB; have hA1 : -4611686018427387904 < n1 * (d2 + 1) ∧ n1 * (d2 + 1) < 4611686018427387904 := (by omega); obtain ⟨hA1, hA2⟩ := hA1; clear hA hB
                go_wp2_with (first
    | (go_at_call 208; (with_reducible refine Calls.cS (timesX (by omega) (by omega) (by omega) (by omega)) ?_); intros))
                go_meet; rfl
            · obtain ⟨t1, t2⟩ := tVal_no hA; clear hA
              by_cases hB : (n2 * (d1 + 1)).natAbs < 4611686018427387904
              · obtain ⟨t3, t4⟩ := tVal_ok hB; have hB1 : -4611686018427387904 < n2 * (d1 + 1) ∧ n2 * (d1 + 1) < 4611686018427387904 := (by omega); obtain ⟨hB1, hB2⟩ := hB1; clear hB
                go_wp2_with (first
    | (go_at_call 208; (with_reducible refine Calls.cS (timesX (by omega) (by omega) (by omega) (by omega)) ?_); intros))
                go_meet; rfl
              · obtain ⟨t3, t4⟩ := tVal_no hB; clear hB
                go_wp2_with (first
    | (go_at_call 208; (with_reducible refine Calls.cS (timesX (by omega) (by omega) (by omega) (by omega)) ?_); intros))
                go_meet; rfl
        · have q1 : (d1 == 0) = false := by rw [beq_eq_false_iff_ne]; exact hd1
          clear hd1; have HE := Lib.hid (mkRat_toNat2 en1 ed1 en2 ed2); clear en1 ed1 en2 ed2
          by_cases hA : (n1 * (d2 + 1)).natAbs < 4611686018427387904
          · by_cases hB : (n2 * (d1 + 1)).natAbs < 4611686018427387904
            · obtain ⟨t1, t2⟩ := tVal_ok hA; obtain ⟨t3, t4⟩ := tVal_ok hB
              by_cases hC : ((d1 + 1) * (d2 + 1)).natAbs < 4611686018427387904
              · obtain ⟨t5, t6⟩ := tVal_ok hC
                have hp : 0 < (d1 + 1) * (d2 + 1) := Int.mul_pos (by omega) (by omega)
                have hr : 0 < (d1 + 1) * (d2 + 1) ∧ (d1 + 1) * (d2 + 1) < 4611686018427387904 := (by omega); have hA1 : -4611686018427387904 < n1 * (d2 + 1) ∧ n1 * (d2 + 1) < 4611686018427387904 := (by omega); have hB1 : -4611686018427387904 < n2 * (d1 + 1) ∧ n2 * (d1 + 1) < 4611686018427387904 := (by omega); obtain ⟨hA1, hA2⟩ := hA1; obtain ⟨hB1, hB2⟩ := hB1; clear hA hB hC hp
                generalize n1 * (d2 + 1) = P at *
                generalize n2 * (d1 + 1) = Q at *
                generalize (d1 + 1) * (d2 + 1) = D at *
                by_cases hS : -4611686018427387904 < P + Q
                · by_cases hS2 : P + Q < 4611686018427387904
                  · go_wp2_with (first
    | (go_at_call 208; (with_reducible refine Calls.cS (timesX (by omega) (by omega) (by omega) (by omega)) ?_); intros)
    | (go_at_call 209; (with_reducible refine Calls.cF (lowestC ⟨hS, hS2, hr.1, hr.2⟩) ?_); intros))
                    refine ret_bx rfl Tryz.underlying147 rfl (by kernel_rfl) rfl rfl rfl ?_; exact CFRet.fin HE.out (by omega)
                  · have hS3 : 4611686018427387904 ≤ P + Q := by omega
                    clear hS2
                    go_wp2_with (first
    | (go_at_call 208; (with_reducible refine Calls.cS (timesX (by omega) (by omega) (by omega) (by omega)) ?_); intros))
                    go_meet; rfl
                · have hS3 : P + Q ≤ -4611686018427387904 := by omega
                  clear hS
                  go_wp2_with (first
    | (go_at_call 208; (with_reducible refine Calls.cS (timesX (by omega) (by omega) (by omega) (by omega)) ?_); intros))
                  go_meet; rfl
              · obtain ⟨t5, t6⟩ := tVal_no hC; clear hC; have hA1 : -4611686018427387904 < n1 * (d2 + 1) ∧ n1 * (d2 + 1) < 4611686018427387904 := (by omega); have hB1 : -4611686018427387904 < n2 * (d1 + 1) ∧ n2 * (d1 + 1) < 4611686018427387904 := (by omega); obtain ⟨hA1, hA2⟩ := hA1; obtain ⟨hB1, hB2⟩ := hB1; clear hA hB
                go_wp2_with (first
    | (go_at_call 208; (with_reducible refine Calls.cS (timesX (by omega) (by omega) (by omega) (by omega)) ?_); intros))
                go_meet; rfl
            · obtain ⟨t1, t2⟩ := tVal_ok hA; obtain ⟨t3, t4⟩ := tVal_no hB; have hA1 : -4611686018427387904 < n1 * (d2 + 1) ∧ n1 * (d2 + 1) < 4611686018427387904 := (by omega); obtain ⟨hA1, hA2⟩ := hA1; clear hA hB
              go_wp2_with (first
    | (go_at_call 208; (with_reducible refine Calls.cS (timesX (by omega) (by omega) (by omega) (by omega)) ?_); intros))
              go_meet; rfl
          · obtain ⟨t1, t2⟩ := tVal_no hA; clear hA
            by_cases hB : (n2 * (d1 + 1)).natAbs < 4611686018427387904
            · obtain ⟨t3, t4⟩ := tVal_ok hB; have hB1 : -4611686018427387904 < n2 * (d1 + 1) ∧ n2 * (d1 + 1) < 4611686018427387904 := (by omega); obtain ⟨hB1, hB2⟩ := hB1; clear hB
              go_wp2_with (first
    | (go_at_call 208; (with_reducible refine Calls.cS (timesX (by omega) (by omega) (by omega) (by omega)) ?_); intros))
              go_meet; rfl
            · obtain ⟨t3, t4⟩ := tVal_no hB; clear hB
              go_wp2_with (first
    | (go_at_call 208; (with_reducible refine Calls.cS (timesX (by omega) (by omega) (by omega) (by omega)) ?_); intros))
              go_meet; rfl
      · obtain rfl : c = false := HC.out; go_wp2; go_meet; rfl
    · obtain rfl : c = false := HC.out; go_wp2; go_meet; rfl
  case rest =>
    obtain rfl := hcut
    go_upto_region 10 with fail
    go_cut [12] from 84 to 96 (fun t wx => ∃ (b : Nat) (g : Bool) (a : Option Addr) (l c : Nat), t = .pointer (some ⟨b, 0, none⟩) ∧ Bx wx b 27 [.bool g, .slice a l c] ∧ CZ wx (.agg #[.bool g, .slice a l c]) (x.num * (y.den : Int) + y.num * (x.den : Int)) (k1 + k2 + 1) ∧ Kp (((w.alloc (.cells #[.int .i64 n1, .int .i64 d1, .pointer p1] 147)).alloc (.cells #[.int .i64 n2, .int .i64 d2, .pointer p2] 147)).alloc (.cells #[.int .i64 0, .int .i64 0, .pointer none] 147)) wx ∧ LtN (w.heap.size + 1 + 1) b)
    case first =>
      refine rgn [w.heap.size + 1 + 1] [] fun hH => ?_; refine tk 0 hH ?_; refine tk 2 hH ?_; refine tk 6 hH ?_; refine tk 8 hH ?_; refine wpAnyT_ready (rs := [1, 13]) (by kernel_rfl) (by simp) ?_; refine AllT.cons (by simp; rfl) (fun K hK => ?_) (AllT.cons (by simp; rfl) (fun K hK => ?_) AllT.nil); go_simp; (with_reducible refine Calls.cZ (rNumC (by omega)) ?_); intros; refine hd hK ?_; clear hH hK K; intro hH; refine wpAnyT_ready (rs := [3, 13]) (by kernel_rfl) (by simp) ?_; refine AllT.cons (by simp; rfl) (fun K hK => ?_) (AllT.cons (by simp; rfl) (fun K hK => ?_) AllT.nil); go_simp; (with_reducible refine Calls.cN (rDenC (by omega)) ?_); intros; refine hd hK ?_; clear hH hK K; intro hH; refine tk 4 hH ?_; refine wpAnyT_ready (rs := [5, 13]) (by kernel_rfl) (by simp) ?_; refine AllT.cons (by simp; rfl) (fun K hK => ?_) (AllT.cons (by simp; rfl) (fun K hK => ?_) AllT.nil); go_simp; (with_reducible refine Calls.cZ (intMulC (by omega)) ?_); intros; refine hd hK ?_; clear hH hK K; intro hH; refine wpAnyT_ready (rs := [7, 13]) (by kernel_rfl) (by simp) ?_; refine AllT.cons (by simp; rfl) (fun K hK => ?_) (AllT.cons (by simp; rfl) (fun K hK => ?_) AllT.nil); go_simp; (with_reducible refine Calls.cZ (rNumC (by omega)) ?_); intros; refine hd hK ?_; clear hH hK K; intro hH; refine wpAnyT_ready (rs := [9, 13]) (by kernel_rfl) (by simp) ?_; refine AllT.cons (by simp; rfl) (fun K hK => ?_) (AllT.cons (by simp; rfl) (fun K hK => ?_) AllT.nil); go_simp; (with_reducible refine Calls.cN (rDenC (by omega)) ?_); intros; refine hd hK ?_; clear hH hK K; intro hH; refine tk 10 hH ?_; refine wpAnyT_ready (rs := [11, 13]) (by kernel_rfl) (by simp) ?_; refine AllT.cons (by simp; rfl) (fun K hK => ?_) (AllT.cons (by simp; rfl) (fun K hK => ?_) AllT.nil); go_simp; (with_reducible refine Calls.cZ (intMulC (by omega)) ?_); intros; refine hd hK ?_; clear hH hK K; intro hH; refine wpAnyT_ready (rs := [12, 13]) (by kernel_rfl) (by simp) ?_; refine AllT.cons (by simp; rfl) (fun K hK => ?_) (AllT.cons (by simp; rfl) (fun K hK => ?_) AllT.nil); go_simp; (with_reducible refine Calls.cZ (intAddC (by omega)) ?_); intros; refine hd hK ?_; clear hH hK K; intro hH; refine st 13 fun K hK => ?_; go_simp; refine hd hK ?_; clear hH hK K; intro hH; refine st 14 fun K hK => ?_; go_simp; refine hd hK ?_; clear hH hK K; intro hH; refine dn ?_; clear hH; go_wp2_with fail; go_meet; exact ⟨_, _, _, _, _, rfl, inferInstance, CZ.cast inferInstance rfl (by omega), inferInstance, inferInstance⟩; go_simp; refine hd hK ?_; clear hH hK K; intro hH; refine st 12 fun K hK => ?_; go_simp; (with_reducible refine Calls.cZ (intAddC (by omega)) ?_); intros; refine hd hK ?_; clear hH hK K; intro hH; refine st 14 fun K hK => ?_; go_simp; refine hd hK ?_; clear hH hK K; intro hH; refine dn ?_; clear hH; go_wp2_with fail; go_meet; exact ⟨_, _, _, _, _, rfl, inferInstance, CZ.cast inferInstance rfl (by omega), inferInstance, inferInstance⟩; go_simp; refine hd hK ?_; clear hH hK K; intro hH; refine st 11 fun K hK => ?_; go_simp; (with_reducible refine Calls.cZ (intMulC (by omega)) ?_); intros; refine hd hK ?_; clear hH hK K; intro hH; refine st 12 fun K hK => ?_; go_simp; (with_reducible refine Calls.cZ (intAddC (by omega)) ?_); intros; refine hd hK ?_; clear hH hK K; intro hH; refine st 14 fun K hK => ?_; go_simp; refine hd hK ?_; clear hH hK K; intro hH; refine dn ?_; clear hH; go_wp2_with fail; go_meet; exact ⟨_, _, _, _, _, rfl, inferInstance, CZ.cast inferInstance rfl (by omega), inferInstance, inferInstance⟩; go_simp; refine hd hK ?_; clear hH hK K; intro hH; refine st 9 fun K hK => ?_; go_simp; (with_reducible refine Calls.cN (rDenC (by omega)) ?_); intros; refine hd hK ?_; clear hH hK K; intro hH; refine tk 10 hH ?_; refine st 11 fun K hK => ?_; go_simp; (with_reducible refine Calls.cZ (intMulC (by omega)) ?_); intros; refine hd hK ?_; clear hH hK K; intro hH; refine st 12 fun K hK => ?_; go_simp; (with_reducible refine Calls.cZ (intAddC (by omega)) ?_); intros; refine hd hK ?_; clear hH hK K; intro hH; refine st 14 fun K hK => ?_; go_simp; refine hd hK ?_; clear hH hK K; intro hH; refine dn ?_; clear hH; go_wp2_with fail; go_meet; exact ⟨_, _, _, _, _, rfl, inferInstance, CZ.cast inferInstance rfl (by omega), inferInstance, inferInstance⟩; go_simp; refine hd hK ?_; clear hH hK K; intro hH; refine st 7 fun K hK => ?_; go_simp; (with_reducible refine Calls.cZ (rNumC (by omega)) ?_); intros; refine hd hK ?_; clear hH hK K; intro hH; refine st 9 fun K hK => ?_; go_simp; (with_reducible refine Calls.cN (rDenC (by omega)) ?_); intros; refine hd hK ?_; clear hH hK K; intro hH; refine tk 10 hH ?_; refine st 11 fun K hK => ?_; go_simp; (with_reducible refine Calls.cZ (intMulC (by omega)) ?_); intros; refine hd hK ?_; clear hH hK K; intro hH; refine st 12 fun K hK => ?_; go_simp; (with_reducible refine Calls.cZ (intAddC (by omega)) ?_); intros; refine hd hK ?_; clear hH hK K; intro hH; refine st 14 fun K hK => ?_; go_simp; refine hd hK ?_; clear hH hK K; intro hH; refine dn ?_; clear hH; go_wp2_with fail; go_meet; exact ⟨_, _, _, _, _, rfl, inferInstance, CZ.cast inferInstance rfl (by omega), inferInstance, inferInstance⟩; go_simp; refine hd hK ?_; clear hH hK K; intro hH; refine st 5 fun K hK => ?_; go_simp; (with_reducible refine Calls.cZ (intMulC (by omega)) ?_); intros; refine hd hK ?_; clear hH hK K; intro hH; refine st 7 fun K hK => ?_; go_simp; (with_reducible refine Calls.cZ (rNumC (by omega)) ?_); intros; refine hd hK ?_; clear hH hK K; intro hH; refine st 9 fun K hK => ?_; go_simp; (with_reducible refine Calls.cN (rDenC (by omega)) ?_); intros; refine hd hK ?_; clear hH hK K; intro hH; refine tk 10 hH ?_; refine st 11 fun K hK => ?_; go_simp; (with_reducible refine Calls.cZ (intMulC (by omega)) ?_); intros; refine hd hK ?_; clear hH hK K; intro hH; refine st 12 fun K hK => ?_; go_simp; (with_reducible refine Calls.cZ (intAddC (by omega)) ?_); intros; refine hd hK ?_; clear hH hK K; intro hH; refine st 14 fun K hK => ?_; go_simp; refine hd hK ?_; clear hH hK K; intro hH; refine dn ?_; clear hH; go_wp2_with fail; go_meet; exact ⟨_, _, _, _, _, rfl, inferInstance, CZ.cast inferInstance rfl (by omega), inferInstance, inferInstance⟩; go_simp; refine hd hK ?_; clear hH hK K; intro hH; refine st 3 fun K hK => ?_; go_simp; (with_reducible refine Calls.cN (rDenC (by omega)) ?_); intros; refine hd hK ?_; clear hH hK K; intro hH; refine tk 4 hH ?_; refine st 5 fun K hK => ?_; go_simp; (with_reducible refine Calls.cZ (intMulC (by omega)) ?_); intros; refine hd hK ?_; clear hH hK K; intro hH; refine st 7 fun K hK => ?_; go_simp; (with_reducible refine Calls.cZ (rNumC (by omega)) ?_); intros; refine hd hK ?_; clear hH hK K; intro hH; refine st 9 fun K hK => ?_; go_simp; (with_reducible refine Calls.cN (rDenC (by omega)) ?_); intros; refine hd hK ?_; clear hH hK K; intro hH; refine tk 10 hH ?_; refine st 11 fun K hK => ?_; go_simp; (with_reducible refine Calls.cZ (intMulC (by omega)) ?_); intros; refine hd hK ?_; clear hH hK K; intro hH; refine st 12 fun K hK => ?_; go_simp; (with_reducible refine Calls.cZ (intAddC (by omega)) ?_); intros; refine hd hK ?_; clear hH hK K; intro hH; refine st 14 fun K hK => ?_; go_simp; refine hd hK ?_; clear hH hK K; intro hH; refine dn ?_; clear hH; go_wp2_with fail; go_meet; exact ⟨_, _, _, _, _, rfl, inferInstance, CZ.cast inferInstance rfl (by omega), inferInstance, inferInstance⟩; go_simp; refine hd hK ?_; clear hH hK K; intro hH; refine st 1 fun K hK => ?_; go_simp; (with_reducible refine Calls.cZ (rNumC (by omega)) ?_); intros; refine hd hK ?_; clear hH hK K; intro hH; refine st 3 fun K hK => ?_; go_simp; (with_reducible refine Calls.cN (rDenC (by omega)) ?_); intros; refine hd hK ?_; clear hH hK K; intro hH; refine tk 4 hH ?_; refine st 5 fun K hK => ?_; go_simp; (with_reducible refine Calls.cZ (intMulC (by omega)) ?_); intros; refine hd hK ?_; clear hH hK K; intro hH; refine st 7 fun K hK => ?_; go_simp; (with_reducible refine Calls.cZ (rNumC (by omega)) ?_); intros; refine hd hK ?_; clear hH hK K; intro hH; refine st 9 fun K hK => ?_; go_simp; (with_reducible refine Calls.cN (rDenC (by omega)) ?_); intros; refine hd hK ?_; clear hH hK K; intro hH; refine tk 10 hH ?_; refine st 11 fun K hK => ?_; go_simp; (with_reducible refine Calls.cZ (intMulC (by omega)) ?_); intros; refine hd hK ?_; clear hH hK K; intro hH; refine st 12 fun K hK => ?_; go_simp; (with_reducible refine Calls.cZ (intAddC (by omega)) ?_); intros; refine hd hK ?_; clear hH hK K; intro hH; refine st 14 fun K hK => ?_; go_simp; refine hd hK ?_; clear hH hK K; intro hH; refine dn ?_; clear hH; go_wp2_with fail; go_meet; exact ⟨_, _, _, _, _, rfl, inferInstance, CZ.cast inferInstance rfl (by omega), inferInstance, inferInstance⟩
    case rest =>
      obtain ⟨b12, g12, a12, l12, c12, rfl, i1, i2, ⟨i3⟩, i4⟩ := hcut; have i3 := Kp1.mk i3; go_wp2_with fail; refine rgn [w.heap.size + 1 + 1] [] fun hH => ?_; refine tk 0 hH ?_; refine tk 1 hH ?_; refine tk 3 hH ?_; refine st 2 fun K hK => ?_; go_simp; (with_reducible refine Calls.cN (rDenC (by omega)) ?_); intros; refine hd hK ?_; clear hH hK K; intro hH; refine st 4 fun K hK => ?_; go_simp; (with_reducible refine Calls.cN (rDenC (by omega)) ?_); intros; refine hd hK ?_; clear hH hK K; intro hH; refine st 5 fun K hK => ?_; go_simp; (with_reducible refine Calls.cN (mulC (by omega)) ?_); intros; refine hd hK ?_; clear hH hK K; intro hH; refine st 6 fun K hK => ?_; go_simp; (with_reducible refine Calls.cF (reduceC (by omega)) ?_); intros; refine hd hK ?_; clear hH hK K; intro hH; refine st 7 fun K hK => ?_; go_simp; refine hd hK ?_; clear hH hK K; intro hH; refine dn ?_; clear hH; go_wp2; refine ret_bx rfl Tryz.underlying147 rfl (by kernel_rfl) rfl rfl rfl ?_; exact CFRet.fin HM.out.symm (by omega)
theorem rSubC {w : World} {n1 d1 n2 d2 : Int} {p1 p2 : Option Addr} {x y : Rat} {k1 k2 : Nat} [h1 : CF w (.agg #[.int .i64 n1, .int .i64 d1, .pointer p1]) x k1] [h2 : CF w (.agg #[.int .i64 n2, .int .i64 d2, .pointer p2]) y k2] (b : k1 ≤ 300000 ∧ k2 ≤ 300000) :
    Calls Tryz.prog 214 #[.agg #[.int .i64 n1, .int .i64 d1, .pointer p1], .agg #[.int .i64 n2, .int .i64 d2, .pointer p2]] w (CFRet w (x - y) (k1 + k2 + 3)) := by
  have HE := Lib.hid (Rat.sub_eq_add_neg x y); go_enter Tryz.func214, Tryz.ntmps214; go_wp2_with fail; refine rgn [w.heap.size + 1 + 1] [] fun hH => ?_; refine tk 0 hH ?_; refine tk 1 hH ?_; refine st 2 fun K hK => ?_; go_simp; (with_reducible refine Calls.cF (rNegC (by omega)) ?_); intros; refine hd hK ?_; clear hH hK K; intro hH; refine st 3 fun K hK => ?_; go_simp; (with_reducible refine Calls.cF (rAddC (by omega)) ?_); intros; refine hd hK ?_; clear hH hK K; intro hH; refine st 4 fun K hK => ?_; go_simp; refine hd hK ?_; clear hH hK K; intro hH; refine dn ?_; clear hH; go_wp2; refine ret_bx rfl Tryz.underlying147 rfl (by kernel_rfl) rfl rfl rfl ?_; exact CFRet.fin HE.out.symm (by omega)
end
section
theorem cmpN_ne {m n : Nat} (h : m ≠ n) : (cmpN m n == 0) = false ∧ (cmpN m n != 0) = true := by
  have : cmpN m n ≠ 0 := by
    rcases Nat.lt_or_gt_of_ne h with h' | h'
    · rw [cmpN_lt h']; decide
    · rw [cmpN_gt h']; decide
  exact ⟨by simpa using this, by simpa using this⟩
theorem sgn_div {g : Bool} {z : Int} {G : Nat} (hg : g = decide (z < 0)) (h : G ∣ z.natAbs) : sgn g (z.natAbs / G) = z / (G : Int) := by
  subst hg; obtain ⟨k, hk⟩ := h
  rcases Nat.eq_zero_or_pos G with h0 | h0
  · subst h0; simp [sgn]
  · have hG : (G : Int) ≠ 0 := by omega
    rw [hk, Nat.mul_div_cancel_left _ h0]
    by_cases hz : z < 0
    · rw [show z = (G : Int) * (-(k : Int)) by rw [Int.mul_neg, ← Int.natCast_mul, ← hk]; omega, Int.mul_ediv_cancel_left _ hG]
      have hz' : (G : Int) * (-(k : Int)) < 0 := by rw [Int.mul_neg, ← Int.natCast_mul, ← hk]; omega
      simp only [hz', decide_true, sgn_true]
    · have e : z = (G : Int) * (k : Int) := by rw [← Int.natCast_mul, ← hk]; omega
      have hz' : ¬ (G : Int) * (k : Int) < 0 := by rw [← e]; exact hz
      rw [e, Int.mul_ediv_cancel_left _ hG]; simp only [hz', decide_false, sgn_false]
theorem numFracC {w : World} {g1 : Bool} {a1 : Option Addr} {l1 c1 : Nat} {a2 : Option Addr} {l2 c2 : Nat} {z : Int} {m k1 k2 : Nat} [h1 : CZ w (.agg #[.bool g1, .slice a1 l1 c1]) z k1] [h2 : CN w (.slice a2 l2 c2) m k2] (b : k1 ≤ 100000 ∧ k2 ≤ 100000) (hm : m ≠ 0) :
    Calls Tryz.prog 75 #[.agg #[.bool g1, .slice a1 l1 c1], .slice a2 l2 c2] w (CQRet w (mkRat z m) (max k1 k2 + 2)) := by
  have hg := Lib.hid (zz_of h1).1
  have i1 : CN w (.slice a1 l1 c1) z.natAbs k1 := ⟨(zz_of h1).2⟩
  have hg0 : Nat.gcd z.natAbs m ≠ 0 := Nat.ne_of_gt (Nat.gcd_pos_of_pos_right _ (Nat.pos_of_ne_zero hm))
  have HQ := Lib.hid (And.intro (mk_num z hm) (mk_den z hm))
  by_cases hG : Nat.gcd z.natAbs m = 1
  · rw [hG] at HQ
    have HN := Lib.hid (show z = (mkRat z m).num by rw [HQ.out.1]; simp)
    rw [Nat.div_one] at HQ
    have e0 : cmpN (Nat.gcd z.natAbs m) 1 = 0 := cmpN_eq hG
    clear hG hm
    by_cases hD : m = 1
    · have HE := Lib.hid (show 0 = (if (mkRat z m).den = 1 then 0 else (mkRat z m).den) by rw [HQ.out.2]; rw [if_pos hD])
      have e2 : cmpN (m) 1 = 0 := cmpN_eq hD
      clear hD; go_enter Tryz.func75, Tryz.ntmps75
      go_wp2_with (first
          | (go_at_call 138; (with_reducible refine Calls.cN (commonC (by omega)) ?_); intros)
          | (go_at_call 73; (with_reducible refine Calls.cN (oneC) ?_); intros)
          | (go_at_call 139; (with_reducible refine Calls.cE (numCmpC) ?_); intros)
          | (go_at_call 140; (with_reducible refine Calls.cQR (divideC (by omega) (by assumption)) ?_); intros)
          | (go_at_call 119; (with_reducible refine Calls.cSg (makeC) ?_); intros))
      refine ret_bx rfl Tryz.underlying45 rfl (by kernel_rfl) rfl rfl rfl ?_; exact CQRet.fin (hx := CQ.mk' (k := max k1 k2 + 2) HN.out HE.out (by omega) (by omega)) rfl (by omega)
    · have HE := Lib.hid (show m = (if (mkRat z m).den = 1 then 0 else (mkRat z m).den) by rw [HQ.out.2]; rw [if_neg hD])
      obtain ⟨e2, e3⟩ := cmpN_ne hD; clear hD; go_enter Tryz.func75, Tryz.ntmps75
      go_wp2_with (first
          | (go_at_call 138; (with_reducible refine Calls.cN (commonC (by omega)) ?_); intros)
          | (go_at_call 73; (with_reducible refine Calls.cN (oneC) ?_); intros)
          | (go_at_call 139; (with_reducible refine Calls.cE (numCmpC) ?_); intros)
          | (go_at_call 140; (with_reducible refine Calls.cQR (divideC (by omega) (by assumption)) ?_); intros)
          | (go_at_call 119; (with_reducible refine Calls.cSg (makeC) ?_); intros))
      refine ret_bx rfl Tryz.underlying45 rfl (by kernel_rfl) rfl rfl rfl ?_; exact CQRet.fin (hx := CQ.mk' (k := max k1 k2 + 2) HN.out HE.out (by omega) (by omega)) rfl (by omega)
  · have HN := Lib.hid (show sgn g1 (z.natAbs / Nat.gcd z.natAbs m) = (mkRat z m).num by rw [HQ.out.1]; exact sgn_div hg.out (Nat.gcd_dvd_left _ _))
    obtain ⟨e0, e1⟩ := cmpN_ne hG; clear hG hm
    by_cases hD : m / Nat.gcd z.natAbs m = 1
    · have HE := Lib.hid (show 0 = (if (mkRat z m).den = 1 then 0 else (mkRat z m).den) by rw [HQ.out.2]; rw [if_pos hD])
      have e2 : cmpN (m / Nat.gcd z.natAbs m) 1 = 0 := cmpN_eq hD
      clear hD; go_enter Tryz.func75, Tryz.ntmps75
      go_wp2_with (first
          | (go_at_call 138; (with_reducible refine Calls.cN (commonC (by omega)) ?_); intros)
          | (go_at_call 73; (with_reducible refine Calls.cN (oneC) ?_); intros)
          | (go_at_call 139; (with_reducible refine Calls.cE (numCmpC) ?_); intros)
          | (go_at_call 140; (with_reducible refine Calls.cQR (divideC (by omega) (by assumption)) ?_); intros)
          | (go_at_call 119; (with_reducible refine Calls.cSg (makeC) ?_); intros))
      refine ret_bx rfl Tryz.underlying45 rfl (by kernel_rfl) rfl rfl rfl ?_; exact CQRet.fin (hx := CQ.mk' (k := max k1 k2 + 2) HN.out HE.out (by omega) (by omega)) rfl (by omega)
    · have HE := Lib.hid (show m / Nat.gcd z.natAbs m = (if (mkRat z m).den = 1 then 0 else (mkRat z m).den) by rw [HQ.out.2]; rw [if_neg hD])
      obtain ⟨e2, e3⟩ := cmpN_ne hD; clear hD; go_enter Tryz.func75, Tryz.ntmps75
      go_wp2_with (first
          | (go_at_call 138; (with_reducible refine Calls.cN (commonC (by omega)) ?_); intros)
          | (go_at_call 73; (with_reducible refine Calls.cN (oneC) ?_); intros)
          | (go_at_call 139; (with_reducible refine Calls.cE (numCmpC) ?_); intros)
          | (go_at_call 140; (with_reducible refine Calls.cQR (divideC (by omega) (by assumption)) ?_); intros)
          | (go_at_call 119; (with_reducible refine Calls.cSg (makeC) ?_); intros))
      refine ret_bx rfl Tryz.underlying45 rfl (by kernel_rfl) rfl rfl rfl ?_; exact CQRet.fin (hx := CQ.mk' (k := max k1 k2 + 2) HN.out HE.out (by omega) (by omega)) rfl (by omega)
theorem numDenC {w : World} {g1 : Bool} {a1 aa1 : Option Addr} {l1 c1 ll1 cc1 k1 : Nat} {x : Rat} [h1 : CQ w (.agg #[.bool g1, .slice a1 l1 c1, .slice aa1 ll1 cc1]) x k1] :
    Calls Tryz.prog 103 #[.agg #[.bool g1, .slice a1 l1 c1, .slice aa1 ll1 cc1]] w (CNRet w x.den (k1 + 1)) := by
  have hd := h1.den
  have hl := hd.out.len
  by_cases hx : x.den = 1
  · rw [if_pos hx] at hl; obtain rfl : ll1 = 0 := hl; have HE := Lib.hid hx; clear hd hx; go_enter Tryz.func103, Tryz.ntmps103
    go_wp2_with (first
    | (go_at_call 73; (with_reducible refine Calls.cN (oneC) ?_); intros))
    go_ret; exact CNRet.fin HE.out.symm (by omega)
  · rw [if_neg hx] at hl hd
    have hl0 : 0 < ll1 := by rw [hl]; exact nf_len_pos x.den_nz
    clear hl hx; go_enter Tryz.func103, Tryz.ntmps103
    go_wp2_with (first
    | (go_at_call 73; (with_reducible refine Calls.cN (oneC) ?_); intros))
    go_ret; exact CNRet.fin rfl (by omega)
theorem numOfC {w : World} {n : Int} (b : -9223372036854775808 ≤ n ∧ n < 9223372036854775808) : Calls Tryz.prog 76 #[.int .i64 n] w (CQRet w (n : Rat) 2) := by
  go_enter Tryz.func76, Tryz.ntmps76
  go_wp2_with (first
    | (go_at_call 141; (with_reducible refine Calls.cZ (numIntC (by omega)) ?_); intros))
  refine ret_bx rfl Tryz.underlying45 rfl (by kernel_rfl) rfl rfl rfl ?_; exact CQRet.fin rfl (by omega)
theorem toQC {w : World} {g1 : Bool} {a1 aa1 : Option Addr} {l1 c1 ll1 cc1 k1 : Nat} {x : Rat} [h1 : CQ w (.agg #[.bool g1, .slice a1 l1 c1, .slice aa1 ll1 cc1]) x k1] (b : k1 ≤ 800000) :
    Calls Tryz.prog 40 #[.agg #[.bool g1, .slice a1 l1 c1, .slice aa1 ll1 cc1]] w (CARet w x (k1 + 1)) := by
  have i1 := h1.num
  go_enter Tryz.func40, Tryz.ntmps40; go_wp2_with fail; refine rgn [w.heap.size + 1] [] fun hH => ?_; refine tk 0 hH ?_; refine tk 1 hH ?_; refine tk 3 hH ?_; refine st 2 fun K hK => ?_; go_simp; (with_reducible refine Calls.cZ (toIC (by omega)) ?_); intros; refine hd hK ?_; clear hH hK K; intro hH; refine st 4 fun K hK => ?_; go_simp; (with_reducible refine Calls.cN (numDenC) ?_); intros; refine hd hK ?_; clear hH hK K; intro hH; refine st 5 fun K hK => ?_; go_simp; (with_reducible refine Calls.cN (refToNC (by omega)) ?_); intros; refine hd hK ?_; clear hH hK K; intro hH; refine tk 6 hH ?_; refine st 7 fun K hK => ?_; go_simp; refine hd hK ?_; clear hH hK K; intro hH; refine dn ?_; clear hH; go_wp2; refine ret_bx rfl Tryz.underlying29 rfl (by kernel_rfl) rfl rfl rfl ?_; exact CARet.fin (hx := CA.mk' rfl rfl (by omega) (by omega)) rfl (Nat.le_refl _)
def NextRet (w : World) (t : Nat) (n : Int) (e : Ending) (w' : World) : Prop := ∃ v : Int, e = .returned (.int .i64 v) ∧ 0 ≤ v ∧ v < n ∧ Ct w' t ∧ Gb w w' t
theorem Calls.cNext {P : Program} {f : FuncId} {args : Array Value} {w : World} {t : Nat} {n : Int} {K : Ending → World → Prop} [ht : Ct w t] (h : Calls P f args w (NextRet w t n))
    (hK : ∀ w' [Tp1 w w' t] [Ct w' t] (v : Int), 0 ≤ v → v < n → K (.returned (.int .i64 v)) w') : Calls P f args w K := by
  refine h.mono ?_
  rintro e w' ⟨v, rfl, h0, h1, hc, hb⟩
  exact @hK w' ⟨hb.out, ht.out⟩ hc v h0 h1
theorem nextC {w : World} {t : Nat} {n : Int} [ht : Ct w t] (b : 0 < n ∧ n ≤ 1000000) : Calls Tryz.prog 26 #[.pointer (some ⟨t, 0, none⟩), .int .i64 n] w (NextRet w t n) := by
  refine (nextW ht.out b.1 b.2).mono ?_
  rintro e w' ⟨v, rfl, h0, h1, hc, hb⟩
  exact ⟨v, rfl, h0, h1, ⟨hc⟩, ⟨hb⟩⟩
theorem Calls.cNew {P : Program} {f : FuncId} {args : Array Value} {w : World} {K : Ending → World → Prop} (h : Calls P f args w (fun e w' => e = .returned (.pointer (some ⟨w.heap.size, 0, none⟩)) ∧ TapeAt w' w.heap.size ∧ Below w.heap.size w w'))
    (hK : ∀ w' [Kp1 w w'] [Ct w' w.heap.size], K (.returned (.pointer (some ⟨w.heap.size, 0, none⟩))) w') : Calls P f args w K := by
  refine h.mono ?_
  rintro e w' ⟨rfl, ht, hb⟩
  exact @hK w' ⟨hb⟩ ⟨ht⟩
end
section
theorem ptOfC {w : World} {g1x g1y : Bool} {a1x aa1x a1y aa1y : Option Addr} {l1x c1x ll1x cc1x l1y c1y ll1y cc1y k1x k1y : Nat} {x y : Rat} [h1x : CW w (.agg #[.bool g1x, .slice a1x l1x c1x, .slice aa1x ll1x cc1x]) x k1x] [h1y : CW w (.agg #[.bool g1y, .slice a1y l1y c1y, .slice aa1y ll1y cc1y]) y k1y] (b : k1x ≤ 300000 ∧ k1y ≤ 300000) :
    Calls Tryz.prog 123 #[.agg #[.bool g1x, .slice a1x l1x c1x, .slice aa1x ll1x cc1x, .bool g1y, .slice a1y l1y c1y, .slice aa1y ll1y cc1y]] w (CPFRet w (x) (y) (max k1x k1y + 2)) := by
  go_enter Tryz.func123, Tryz.ntmps123; go_wp2_with fail; refine rgn [w.heap.size + 1] [] fun hH => ?_; refine tk 0 hH ?_; refine tk 1 hH ?_; refine tk 3 hH ?_; refine tk 4 hH ?_; refine st 2 fun K hK => ?_; go_simp; (with_reducible refine Calls.cF (ofC (by omega)) ?_); intros; refine hd hK ?_; clear hH hK K; intro hH; refine st 5 fun K hK => ?_; go_simp; (with_reducible refine Calls.cF (ofC (by omega)) ?_); intros; refine hd hK ?_; clear hH hK K; intro hH; refine tk 6 hH ?_; refine st 7 fun K hK => ?_; go_simp; refine hd hK ?_; clear hH hK K; intro hH; refine dn ?_; clear hH; go_wp2; refine ret_bx rfl Tryz.underlying152 rfl (by kernel_rfl) rfl rfl rfl ?_; exact CPFRet.fin rfl (by omega) rfl (by omega)
theorem ptAddC {w : World} {n1x d1x n1y d1y n2x d2x n2y d2y : Int} {p1x p1y p2x p2y : Option Addr} {x1 y1 x2 y2 : Rat} {k1x k1y k2x k2y : Nat} [h1x : CF w (.agg #[.int .i64 n1x, .int .i64 d1x, .pointer p1x]) x1 k1x] [h1y : CF w (.agg #[.int .i64 n1y, .int .i64 d1y, .pointer p1y]) y1 k1y] [h2x : CF w (.agg #[.int .i64 n2x, .int .i64 d2x, .pointer p2x]) x2 k2x] [h2y : CF w (.agg #[.int .i64 n2y, .int .i64 d2y, .pointer p2y]) y2 k2y] (b : k1x ≤ 100000 ∧ k1y ≤ 100000 ∧ k2x ≤ 100000 ∧ k2y ≤ 100000) :
    Calls Tryz.prog 230 #[.agg #[.int .i64 n1x, .int .i64 d1x, .pointer p1x, .int .i64 n1y, .int .i64 d1y, .pointer p1y], .agg #[.int .i64 n2x, .int .i64 d2x, .pointer p2x, .int .i64 n2y, .int .i64 d2y, .pointer p2y]] w (CPFRet w (x1 + x2) (y1 + y2) (max k1x k1y + max k2x k2y + 3)) := by
  go_enter Tryz.func230, Tryz.ntmps230; go_wp2_with fail; refine rgn [w.heap.size + 1 + 1] [] fun hH => ?_; refine tk 0 hH ?_; refine tk 1 hH ?_; refine tk 2 hH ?_; refine tk 3 hH ?_; refine tk 5 hH ?_; refine tk 6 hH ?_; refine tk 7 hH ?_; refine tk 8 hH ?_; refine st 4 fun K hK => ?_; go_simp; (with_reducible refine Calls.cF (rAddC (by omega)) ?_); intros; refine hd hK ?_; clear hH hK K; intro hH; refine st 9 fun K hK => ?_; go_simp; (with_reducible refine Calls.cF (rAddC (by omega)) ?_); intros; refine hd hK ?_; clear hH hK K; intro hH; refine tk 10 hH ?_; refine st 11 fun K hK => ?_; go_simp; refine hd hK ?_; clear hH hK K; intro hH; refine dn ?_; clear hH; go_wp2; refine ret_bx rfl Tryz.underlying152 rfl (by kernel_rfl) rfl rfl rfl ?_; exact CPFRet.fin rfl (by omega) rfl (by omega)
theorem ptSubC {w : World} {n1x d1x n1y d1y n2x d2x n2y d2y : Int} {p1x p1y p2x p2y : Option Addr} {x1 y1 x2 y2 : Rat} {k1x k1y k2x k2y : Nat} [h1x : CF w (.agg #[.int .i64 n1x, .int .i64 d1x, .pointer p1x]) x1 k1x] [h1y : CF w (.agg #[.int .i64 n1y, .int .i64 d1y, .pointer p1y]) y1 k1y] [h2x : CF w (.agg #[.int .i64 n2x, .int .i64 d2x, .pointer p2x]) x2 k2x] [h2y : CF w (.agg #[.int .i64 n2y, .int .i64 d2y, .pointer p2y]) y2 k2y] (b : k1x ≤ 100000 ∧ k1y ≤ 100000 ∧ k2x ≤ 100000 ∧ k2y ≤ 100000) :
    Calls Tryz.prog 170 #[.agg #[.int .i64 n1x, .int .i64 d1x, .pointer p1x, .int .i64 n1y, .int .i64 d1y, .pointer p1y], .agg #[.int .i64 n2x, .int .i64 d2x, .pointer p2x, .int .i64 n2y, .int .i64 d2y, .pointer p2y]] w (CPFRet w (x1 - x2) (y1 - y2) (max k1x k1y + max k2x k2y + 3)) := by
  go_enter Tryz.func170, Tryz.ntmps170; go_wp2_with fail; refine rgn [w.heap.size + 1 + 1] [] fun hH => ?_; refine tk 0 hH ?_; refine tk 1 hH ?_; refine tk 2 hH ?_; refine tk 3 hH ?_; refine tk 5 hH ?_; refine tk 6 hH ?_; refine tk 7 hH ?_; refine tk 8 hH ?_; refine st 4 fun K hK => ?_; go_simp; (with_reducible refine Calls.cF (rSubC (by omega)) ?_); intros; refine hd hK ?_; clear hH hK K; intro hH; refine st 9 fun K hK => ?_; go_simp; (with_reducible refine Calls.cF (rSubC (by omega)) ?_); intros; refine hd hK ?_; clear hH hK K; intro hH; refine tk 10 hH ?_; refine st 11 fun K hK => ?_; go_simp; refine hd hK ?_; clear hH hK K; intro hH; refine dn ?_; clear hH; go_wp2; refine ret_bx rfl Tryz.underlying152 rfl (by kernel_rfl) rfl rfl rfl ?_; exact CPFRet.fin rfl (by omega) rfl (by omega)
theorem ptScaleC {w : World} {n1x d1x n1y d1y n2 d2 : Int} {p1x p1y p2 : Option Addr} {x1 y1 z : Rat} {k1x k1y k2 : Nat} [h1x : CF w (.agg #[.int .i64 n1x, .int .i64 d1x, .pointer p1x]) x1 k1x] [h1y : CF w (.agg #[.int .i64 n1y, .int .i64 d1y, .pointer p1y]) y1 k1y] [h2 : CF w (.agg #[.int .i64 n2, .int .i64 d2, .pointer p2]) z k2] (b : k1x ≤ 100000 ∧ k1y ≤ 100000 ∧ k2 ≤ 100000) :
    Calls Tryz.prog 231 #[.agg #[.int .i64 n1x, .int .i64 d1x, .pointer p1x, .int .i64 n1y, .int .i64 d1y, .pointer p1y], .agg #[.int .i64 n2, .int .i64 d2, .pointer p2]] w (CPFRet w (x1 * z) (y1 * z) (max k1x k1y + k2 + 2)) := by
  go_enter Tryz.func231, Tryz.ntmps231; go_wp2_with fail; refine rgn [w.heap.size + 1 + 1] [] fun hH => ?_; refine tk 0 hH ?_; refine tk 1 hH ?_; refine tk 2 hH ?_; refine tk 4 hH ?_; refine tk 5 hH ?_; refine tk 6 hH ?_; refine st 3 fun K hK => ?_; go_simp; (with_reducible refine Calls.cF (rMulC (by omega)) ?_); intros; refine hd hK ?_; clear hH hK K; intro hH; refine st 7 fun K hK => ?_; go_simp; (with_reducible refine Calls.cF (rMulC (by omega)) ?_); intros; refine hd hK ?_; clear hH hK K; intro hH; refine tk 8 hH ?_; refine st 9 fun K hK => ?_; go_simp; refine hd hK ?_; clear hH hK K; intro hH; refine dn ?_; clear hH; go_wp2; refine ret_bx rfl Tryz.underlying152 rfl (by kernel_rfl) rfl rfl rfl ?_; exact CPFRet.fin rfl (by omega) rfl (by omega)
theorem ptCrossC {w : World} {n1x d1x n1y d1y n2x d2x n2y d2y : Int} {p1x p1y p2x p2y : Option Addr} {x1 y1 x2 y2 : Rat} {k1x k1y k2x k2y : Nat} [h1x : CF w (.agg #[.int .i64 n1x, .int .i64 d1x, .pointer p1x]) x1 k1x] [h1y : CF w (.agg #[.int .i64 n1y, .int .i64 d1y, .pointer p1y]) y1 k1y] [h2x : CF w (.agg #[.int .i64 n2x, .int .i64 d2x, .pointer p2x]) x2 k2x] [h2y : CF w (.agg #[.int .i64 n2y, .int .i64 d2y, .pointer p2y]) y2 k2y] (b : k1x ≤ 50000 ∧ k1y ≤ 50000 ∧ k2x ≤ 50000 ∧ k2y ≤ 50000) :
    Calls Tryz.prog 153 #[.agg #[.int .i64 n1x, .int .i64 d1x, .pointer p1x, .int .i64 n1y, .int .i64 d1y, .pointer p1y], .agg #[.int .i64 n2x, .int .i64 d2x, .pointer p2x, .int .i64 n2y, .int .i64 d2y, .pointer p2y]] w (CFRet w (x1 * y2 - y1 * x2) (k1x + k1y + k2x + k2y + 7)) := by
  go_enter Tryz.func153, Tryz.ntmps153; go_wp2_with fail; refine rgn [w.heap.size + 1 + 1] [] fun hH => ?_; refine tk 0 hH ?_; refine tk 1 hH ?_; refine tk 2 hH ?_; refine tk 3 hH ?_; refine tk 5 hH ?_; refine tk 6 hH ?_; refine tk 7 hH ?_; refine tk 8 hH ?_; refine st 4 fun K hK => ?_; go_simp; (with_reducible refine Calls.cF (rMulC (by omega)) ?_); intros; refine hd hK ?_; clear hH hK K; intro hH; refine st 9 fun K hK => ?_; go_simp; (with_reducible refine Calls.cF (rMulC (by omega)) ?_); intros; refine hd hK ?_; clear hH hK K; intro hH; refine st 10 fun K hK => ?_; go_simp; (with_reducible refine Calls.cF (rSubC (by omega)) ?_); intros; refine hd hK ?_; clear hH hK K; intro hH; refine st 11 fun K hK => ?_; go_simp; refine hd hK ?_; clear hH hK K; intro hH; refine dn ?_; clear hH; go_wp2; refine ret_bx rfl Tryz.underlying147 rfl (by kernel_rfl) rfl rfl rfl ?_; exact CFRet.fin rfl (by omega)
def orientR (x1 y1 x2 y2 x3 y3 : Rat) : Int := isgn ((x2 - x1) * (y3 - y1) - (y2 - y1) * (x3 - x1)).num
theorem orientC {w : World} {n1x d1x n1y d1y n2x d2x n2y d2y n3x d3x n3y d3y : Int} {p1x p1y p2x p2y p3x p3y : Option Addr} {x1 y1 x2 y2 x3 y3 : Rat} {k1x k1y k2x k2y k3x k3y : Nat} [h1x : CF w (.agg #[.int .i64 n1x, .int .i64 d1x, .pointer p1x]) x1 k1x] [h1y : CF w (.agg #[.int .i64 n1y, .int .i64 d1y, .pointer p1y]) y1 k1y] [h2x : CF w (.agg #[.int .i64 n2x, .int .i64 d2x, .pointer p2x]) x2 k2x] [h2y : CF w (.agg #[.int .i64 n2y, .int .i64 d2y, .pointer p2y]) y2 k2y] [h3x : CF w (.agg #[.int .i64 n3x, .int .i64 d3x, .pointer p3x]) x3 k3x] [h3y : CF w (.agg #[.int .i64 n3y, .int .i64 d3y, .pointer p3y]) y3 k3y] (b : k1x ≤ 5000 ∧ k1y ≤ 5000 ∧ k2x ≤ 5000 ∧ k2y ≤ 5000 ∧ k3x ≤ 5000 ∧ k3y ≤ 5000) :
    Calls Tryz.prog 110 #[.agg #[.int .i64 n1x, .int .i64 d1x, .pointer p1x, .int .i64 n1y, .int .i64 d1y, .pointer p1y], .agg #[.int .i64 n2x, .int .i64 d2x, .pointer p2x, .int .i64 n2y, .int .i64 d2y, .pointer p2y], .agg #[.int .i64 n3x, .int .i64 d3x, .pointer p3x, .int .i64 n3y, .int .i64 d3y, .pointer p3y]] w (fun e w' => e = .returned (.int .i64 (orientR x1 y1 x2 y2 x3 y3)) ∧ Below w.heap.size w w') := by
  go_enter Tryz.func110, Tryz.ntmps110; go_wp2_with fail; refine rgn [] [] fun hH => ?_; refine tk 0 hH ?_; refine tk 1 hH ?_; refine tk 3 hH ?_; refine tk 4 hH ?_; refine st 2 fun K hK => ?_; go_simp; (with_reducible refine Calls.cPF (ptSubC (by omega)) ?_); intros; refine hd hK ?_; clear hH hK K; intro hH; refine st 5 fun K hK => ?_; go_simp; (with_reducible refine Calls.cPF (ptSubC (by omega)) ?_); intros; refine hd hK ?_; clear hH hK K; intro hH; refine st 6 fun K hK => ?_; go_simp; (with_reducible refine Calls.cF (ptCrossC (by omega)) ?_); intros; refine hd hK ?_; clear hH hK K; intro hH; refine st 7 fun K hK => ?_; go_simp; (with_reducible refine Calls.cE (rSignC (by omega)) ?_); intros; refine hd hK ?_; clear hH hK K; intro hH; refine tk 8 hH ?_; refine dn ?_; clear hH; go_wp2; go_ret; exact E.fin rfl
theorem toPC {w : World} {g1x g1y : Bool} {a1x aa1x a1y aa1y : Option Addr} {l1x c1x ll1x cc1x l1y c1y ll1y cc1y k1x k1y : Nat} {x y : Rat} [h1x : CQ w (.agg #[.bool g1x, .slice a1x l1x c1x, .slice aa1x ll1x cc1x]) x k1x] [h1y : CQ w (.agg #[.bool g1y, .slice a1y l1y c1y, .slice aa1y ll1y cc1y]) y k1y] (b : k1x ≤ 400000 ∧ k1y ≤ 400000) :
    Calls Tryz.prog 21 #[.agg #[.bool g1x, .slice a1x l1x c1x, .slice aa1x ll1x cc1x, .bool g1y, .slice a1y l1y c1y, .slice aa1y ll1y cc1y]] w (CPARet w (x) (y) (max k1x k1y + 1)) := by
  go_enter Tryz.func21, Tryz.ntmps21; go_wp2_with fail; refine rgn [w.heap.size + 1] [] fun hH => ?_; refine tk 0 hH ?_; refine tk 1 hH ?_; refine tk 3 hH ?_; refine tk 4 hH ?_; refine st 2 fun K hK => ?_; go_simp; (with_reducible refine Calls.cA (toQC (by omega)) ?_); intros; refine hd hK ?_; clear hH hK K; intro hH; refine st 5 fun K hK => ?_; go_simp; (with_reducible refine Calls.cA (toQC (by omega)) ?_); intros; refine hd hK ?_; clear hH hK K; intro hH; refine tk 6 hH ?_; refine st 7 fun K hK => ?_; go_simp; refine hd hK ?_; clear hH hK K; intro hH; refine dn ?_; clear hH; go_wp2; refine ret_bx rfl Tryz.underlying31 rfl (by kernel_rfl) rfl rfl rfl ?_; exact CPARet.fin rfl (by omega) rfl (by omega)
end
end Go.Proofs.YtdlnoeegboapkaaGreatDoor
