/-
  Texts of this claim, joined: Ref4, Ang, Ord, Tv, Nrm, Rg2, Ord2, Rg1, Rgs, Rgv, Lnp, Lnq.
-/
import Derived.Test.YtdlnoeegboapkaaGreatDoorCH
import Derived.Test.YtdlnoeegboapkaaGreatDoorCI
import Derived.Test.YtdlnoeegboapkaaGreatDoorCF
import Derived.Deep.CutRange
import Derived.Test.YtdlnoeegboapkaaGreatDoorCD
namespace Go.Proofs.YtdlnoeegboapkaaGreatDoor
open Go.RowKit
set_option maxHeartbeats 40000000
set_option maxRecDepth 100000
set_option synthInstance.maxHeartbeats 1000000
set_option synthInstance.maxSize 100000
section
theorem refPAddC {w : World} {g1x g1y g2 g3x g3y : Bool} {a1x aa1x a1y aa1y a2 aa2 a3x aa3x a3y aa3y : Option Addr} {l1x c1x ll1x cc1x l1y c1y ll1y cc1y l2 c2 ll2 cc2 l3x c3x ll3x cc3x l3y c3y ll3y cc3y k1x k1y k2 k3x k3y : Nat} {x1 y1 z x2 y2 : Rat} [h1x : CQ w (.agg #[.bool g1x, .slice a1x l1x c1x, .slice aa1x ll1x cc1x]) x1 k1x] [h1y : CQ w (.agg #[.bool g1y, .slice a1y l1y c1y, .slice aa1y ll1y cc1y]) y1 k1y] [h2 : CQ w (.agg #[.bool g2, .slice a2 l2 c2, .slice aa2 ll2 cc2]) z k2] [h3x : CQ w (.agg #[.bool g3x, .slice a3x l3x c3x, .slice aa3x ll3x cc3x]) x2 k3x] [h3y : CQ w (.agg #[.bool g3y, .slice a3y l3y c3y, .slice aa3y ll3y cc3y]) y2 k3y] (b : k1x ≤ 10000 ∧ k1y ≤ 10000 ∧ k2 ≤ 10000 ∧ k3x ≤ 10000 ∧ k3y ≤ 10000) :
    Calls Tryz.prog 82 #[.agg #[.bool g1x, .slice a1x l1x c1x, .slice aa1x ll1x cc1x, .bool g1y, .slice a1y l1y c1y, .slice aa1y ll1y cc1y], .agg #[.bool g2, .slice a2 l2 c2, .slice aa2 ll2 cc2], .agg #[.bool g3x, .slice a3x l3x c3x, .slice aa3x ll3x cc3x, .bool g3y, .slice a3y l3y c3y, .slice aa3y ll3y cc3y]] w (CPQRet w (x1 + z * x2) (y1 + z * y2) (max k1x k1y + k2 + max k3x k3y + 8)) := by
  go_enter Tryz.func82, Tryz.ntmps82; go_wp2_with fail; refine rgn [w.heap.size + 1 + 1 + 1] [] fun hH => ?_; refine tk 0 hH ?_; refine tk 1 hH ?_; refine tk 2 hH ?_; refine tk 3 hH ?_; refine tk 4 hH ?_; refine tk 7 hH ?_; refine tk 8 hH ?_; refine tk 9 hH ?_; refine tk 10 hH ?_; refine tk 11 hH ?_; refine st 5 fun K hK => ?_; go_simp; (with_reducible refine Calls.cQ (numTimesC (by omega)) ?_); intros; refine hd hK ?_; clear hH hK K; intro hH; refine st 6 fun K hK => ?_; go_simp; (with_reducible refine Calls.cQ (numPlusC (by omega)) ?_); intros; refine hd hK ?_; clear hH hK K; intro hH; refine st 12 fun K hK => ?_; go_simp; (with_reducible refine Calls.cQ (numTimesC (by omega)) ?_); intros; refine hd hK ?_; clear hH hK K; intro hH; refine st 13 fun K hK => ?_; go_simp; (with_reducible refine Calls.cQ (numPlusC (by omega)) ?_); intros; refine hd hK ?_; clear hH hK K; intro hH; refine tk 14 hH ?_; refine st 15 fun K hK => ?_; go_simp; refine hd hK ?_; clear hH hK K; intro hH; refine dn ?_; clear hH; go_wp2; refine ret_bx rfl Tryz.underlying47 rfl (by kernel_rfl) rfl rfl rfl ?_; exact CPQRet.fin rfl (by omega) rfl (by omega)
theorem refPSubC {w : World} {g1x g1y g2x g2y : Bool} {a1x aa1x a1y aa1y a2x aa2x a2y aa2y : Option Addr} {l1x c1x ll1x cc1x l1y c1y ll1y cc1y l2x c2x ll2x cc2x l2y c2y ll2y cc2y k1x k1y k2x k2y : Nat} {x1 y1 x2 y2 : Rat} [h1x : CQ w (.agg #[.bool g1x, .slice a1x l1x c1x, .slice aa1x ll1x cc1x]) x1 k1x] [h1y : CQ w (.agg #[.bool g1y, .slice a1y l1y c1y, .slice aa1y ll1y cc1y]) y1 k1y] [h2x : CQ w (.agg #[.bool g2x, .slice a2x l2x c2x, .slice aa2x ll2x cc2x]) x2 k2x] [h2y : CQ w (.agg #[.bool g2y, .slice a2y l2y c2y, .slice aa2y ll2y cc2y]) y2 k2y] (b : k1x ≤ 9000 ∧ k1y ≤ 9000 ∧ k2x ≤ 9000 ∧ k2y ≤ 9000) :
    Calls Tryz.prog 178 #[.agg #[.bool g1x, .slice a1x l1x c1x, .slice aa1x ll1x cc1x, .bool g1y, .slice a1y l1y c1y, .slice aa1y ll1y cc1y], .agg #[.bool g2x, .slice a2x l2x c2x, .slice aa2x ll2x cc2x, .bool g2y, .slice a2y l2y c2y, .slice aa2y ll2y cc2y]] w (CPQRet w (x1 - x2) (y1 - y2) (max k1x k1y + max k2x k2y + 10)) := by
  have EX := Lib.hid (show x1 + ((-1 : Int) : Rat) * x2 = x1 - x2 by rw [show ((-1 : Int) : Rat) = -1 from rfl]; grind)
  have EY := Lib.hid (show y1 + ((-1 : Int) : Rat) * y2 = y1 - y2 by rw [show ((-1 : Int) : Rat) = -1 from rfl]; grind)
  go_enter Tryz.func178, Tryz.ntmps178; go_wp2_with fail; refine rgn [w.heap.size + 1 + 1] [] fun hH => ?_; refine tk 0 hH ?_; refine tk 2 hH ?_; refine st 1 fun K hK => ?_; go_simp; (with_reducible refine Calls.cQ (numOfC (by omega)) ?_); intros; refine hd hK ?_; clear hH hK K; intro hH; refine st 3 fun K hK => ?_; go_simp; (with_reducible refine Calls.cPQ (refPAddC (by omega)) ?_); intros; refine hd hK ?_; clear hH hK K; intro hH; refine st 4 fun K hK => ?_; go_simp; refine hd hK ?_; clear hH hK K; intro hH; refine dn ?_; clear hH; go_wp2; refine ret_bx rfl Tryz.underlying47 rfl (by kernel_rfl) rfl rfl rfl ?_; exact CPQRet.fin EX.out (by omega) EY.out (by omega)
theorem refDotC {w : World} {g1x g1y g2x g2y : Bool} {a1x aa1x a1y aa1y a2x aa2x a2y aa2y : Option Addr} {l1x c1x ll1x cc1x l1y c1y ll1y cc1y l2x c2x ll2x cc2x l2y c2y ll2y cc2y k1x k1y k2x k2y : Nat} {x1 y1 x2 y2 : Rat} [h1x : CQ w (.agg #[.bool g1x, .slice a1x l1x c1x, .slice aa1x ll1x cc1x]) x1 k1x] [h1y : CQ w (.agg #[.bool g1y, .slice a1y l1y c1y, .slice aa1y ll1y cc1y]) y1 k1y] [h2x : CQ w (.agg #[.bool g2x, .slice a2x l2x c2x, .slice aa2x ll2x cc2x]) x2 k2x] [h2y : CQ w (.agg #[.bool g2y, .slice a2y l2y c2y, .slice aa2y ll2y cc2y]) y2 k2y] (b : k1x ≤ 9000 ∧ k1y ≤ 9000 ∧ k2x ≤ 9000 ∧ k2y ≤ 9000) :
    Calls Tryz.prog 220 #[.agg #[.bool g1x, .slice a1x l1x c1x, .slice aa1x ll1x cc1x, .bool g1y, .slice a1y l1y c1y, .slice aa1y ll1y cc1y], .agg #[.bool g2x, .slice a2x l2x c2x, .slice aa2x ll2x cc2x, .bool g2y, .slice a2y l2y c2y, .slice aa2y ll2y cc2y]] w (CQRet w (x1 * x2 + y1 * y2) (k1x + k1y + k2x + k2y + 12)) := by
  go_enter Tryz.func220, Tryz.ntmps220; go_wp2_with fail; refine rgn [w.heap.size + 1 + 1] [] fun hH => ?_; refine tk 0 hH ?_; refine tk 1 hH ?_; refine tk 2 hH ?_; refine tk 3 hH ?_; refine tk 5 hH ?_; refine tk 6 hH ?_; refine tk 7 hH ?_; refine tk 8 hH ?_; refine st 4 fun K hK => ?_; go_simp; (with_reducible refine Calls.cQ (numTimesC (by omega)) ?_); intros; refine hd hK ?_; clear hH hK K; intro hH; refine st 9 fun K hK => ?_; go_simp; (with_reducible refine Calls.cQ (numTimesC (by omega)) ?_); intros; refine hd hK ?_; clear hH hK K; intro hH; refine st 10 fun K hK => ?_; go_simp; (with_reducible refine Calls.cQ (numPlusC (by omega)) ?_); intros; refine hd hK ?_; clear hH hK K; intro hH; refine st 11 fun K hK => ?_; go_simp; refine hd hK ?_; clear hH hK K; intro hH; refine dn ?_; clear hH; go_wp2; refine ret_bx rfl Tryz.underlying45 rfl (by kernel_rfl) rfl rfl rfl ?_; exact CQRet.fin rfl (by omega)
theorem refCrossC {w : World} {g1x g1y g2x g2y : Bool} {a1x aa1x a1y aa1y a2x aa2x a2y aa2y : Option Addr} {l1x c1x ll1x cc1x l1y c1y ll1y cc1y l2x c2x ll2x cc2x l2y c2y ll2y cc2y k1x k1y k2x k2y : Nat} {x1 y1 x2 y2 : Rat} [h1x : CQ w (.agg #[.bool g1x, .slice a1x l1x c1x, .slice aa1x ll1x cc1x]) x1 k1x] [h1y : CQ w (.agg #[.bool g1y, .slice a1y l1y c1y, .slice aa1y ll1y cc1y]) y1 k1y] [h2x : CQ w (.agg #[.bool g2x, .slice a2x l2x c2x, .slice aa2x ll2x cc2x]) x2 k2x] [h2y : CQ w (.agg #[.bool g2y, .slice a2y l2y c2y, .slice aa2y ll2y cc2y]) y2 k2y] (b : k1x ≤ 9000 ∧ k1y ≤ 9000 ∧ k2x ≤ 9000 ∧ k2y ≤ 9000) :
    Calls Tryz.prog 81 #[.agg #[.bool g1x, .slice a1x l1x c1x, .slice aa1x ll1x cc1x, .bool g1y, .slice a1y l1y c1y, .slice aa1y ll1y cc1y], .agg #[.bool g2x, .slice a2x l2x c2x, .slice aa2x ll2x cc2x, .bool g2y, .slice a2y l2y c2y, .slice aa2y ll2y cc2y]] w (CQRet w (x1 * y2 - y1 * x2) (k1x + k1y + k2x + k2y + 12)) := by
  go_enter Tryz.func81, Tryz.ntmps81; go_wp2_with fail; refine rgn [w.heap.size + 1 + 1] [] fun hH => ?_; refine tk 0 hH ?_; refine tk 1 hH ?_; refine tk 2 hH ?_; refine tk 3 hH ?_; refine tk 5 hH ?_; refine tk 6 hH ?_; refine tk 7 hH ?_; refine tk 8 hH ?_; refine st 4 fun K hK => ?_; go_simp; (with_reducible refine Calls.cQ (numTimesC (by omega)) ?_); intros; refine hd hK ?_; clear hH hK K; intro hH; refine st 9 fun K hK => ?_; go_simp; (with_reducible refine Calls.cQ (numTimesC (by omega)) ?_); intros; refine hd hK ?_; clear hH hK K; intro hH; refine st 10 fun K hK => ?_; go_simp; (with_reducible refine Calls.cQ (numSubC (by omega)) ?_); intros; refine hd hK ?_; clear hH hK K; intro hH; refine st 11 fun K hK => ?_; go_simp; refine hd hK ?_; clear hH hK K; intro hH; refine dn ?_; clear hH; go_wp2; refine ret_bx rfl Tryz.underlying45 rfl (by kernel_rfl) rfl rfl rfl ?_; exact CQRet.fin rfl (by omega)
theorem refOrientC {w : World} {g1x g1y g2x g2y g3x g3y : Bool} {a1x aa1x a1y aa1y a2x aa2x a2y aa2y a3x aa3x a3y aa3y : Option Addr} {l1x c1x ll1x cc1x l1y c1y ll1y cc1y l2x c2x ll2x cc2x l2y c2y ll2y cc2y l3x c3x ll3x cc3x l3y c3y ll3y cc3y k1x k1y k2x k2y k3x k3y : Nat} {x1 y1 x2 y2 x3 y3 : Rat} [h1x : CQ w (.agg #[.bool g1x, .slice a1x l1x c1x, .slice aa1x ll1x cc1x]) x1 k1x] [h1y : CQ w (.agg #[.bool g1y, .slice a1y l1y c1y, .slice aa1y ll1y cc1y]) y1 k1y] [h2x : CQ w (.agg #[.bool g2x, .slice a2x l2x c2x, .slice aa2x ll2x cc2x]) x2 k2x] [h2y : CQ w (.agg #[.bool g2y, .slice a2y l2y c2y, .slice aa2y ll2y cc2y]) y2 k2y] [h3x : CQ w (.agg #[.bool g3x, .slice a3x l3x c3x, .slice aa3x ll3x cc3x]) x3 k3x] [h3y : CQ w (.agg #[.bool g3y, .slice a3y l3y c3y, .slice aa3y ll3y cc3y]) y3 k3y] (b : k1x ≤ 1000 ∧ k1y ≤ 1000 ∧ k2x ≤ 1000 ∧ k2y ≤ 1000 ∧ k3x ≤ 1000 ∧ k3y ≤ 1000) :
    Calls Tryz.prog 113 #[.agg #[.bool g1x, .slice a1x l1x c1x, .slice aa1x ll1x cc1x, .bool g1y, .slice a1y l1y c1y, .slice aa1y ll1y cc1y], .agg #[.bool g2x, .slice a2x l2x c2x, .slice aa2x ll2x cc2x, .bool g2y, .slice a2y l2y c2y, .slice aa2y ll2y cc2y], .agg #[.bool g3x, .slice a3x l3x c3x, .slice aa3x ll3x cc3x, .bool g3y, .slice a3y l3y c3y, .slice aa3y ll3y cc3y]] w (fun e w' => e = .returned (.int .i64 (orientR x1 y1 x2 y2 x3 y3)) ∧ Below w.heap.size w w') := by
  go_enter Tryz.func113, Tryz.ntmps113; go_wp2_with fail; refine rgn [] [] fun hH => ?_; refine tk 0 hH ?_; refine tk 1 hH ?_; refine tk 3 hH ?_; refine tk 4 hH ?_; refine st 2 fun K hK => ?_; go_simp; (with_reducible refine Calls.cPQ (refPSubC (by omega)) ?_); intros; refine hd hK ?_; clear hH hK K; intro hH; refine st 5 fun K hK => ?_; go_simp; (with_reducible refine Calls.cPQ (refPSubC (by omega)) ?_); intros; refine hd hK ?_; clear hH hK K; intro hH; refine st 6 fun K hK => ?_; go_simp; (with_reducible refine Calls.cQ (refCrossC (by omega)) ?_); intros; refine hd hK ?_; clear hH hK K; intro hH; refine st 7 fun K hK => ?_; go_simp; (with_reducible refine Calls.cE (numSC) ?_); intros; refine hd hK ?_; clear hH hK K; intro hH; refine tk 8 hH ?_; refine dn ?_; clear hH; go_wp2; go_ret; exact E.fin rfl
theorem gDotC {w : World} {n1x d1x n1y d1y n2x d2x n2y d2y : Int} {p1x p1y p2x p2y : Option Addr} {x1 y1 x2 y2 : Rat} {k1x k1y k2x k2y : Nat} [h1x : CF w (.agg #[.int .i64 n1x, .int .i64 d1x, .pointer p1x]) x1 k1x] [h1y : CF w (.agg #[.int .i64 n1y, .int .i64 d1y, .pointer p1y]) y1 k1y] [h2x : CF w (.agg #[.int .i64 n2x, .int .i64 d2x, .pointer p2x]) x2 k2x] [h2y : CF w (.agg #[.int .i64 n2y, .int .i64 d2y, .pointer p2y]) y2 k2y] (b : k1x ≤ 50000 ∧ k1y ≤ 50000 ∧ k2x ≤ 50000 ∧ k2y ≤ 50000) :
    Calls Tryz.prog 228 #[.agg #[.int .i64 n1x, .int .i64 d1x, .pointer p1x, .int .i64 n1y, .int .i64 d1y, .pointer p1y], .agg #[.int .i64 n2x, .int .i64 d2x, .pointer p2x, .int .i64 n2y, .int .i64 d2y, .pointer p2y]] w (CFRet w (x1 * x2 + y1 * y2) (k1x + k1y + k2x + k2y + 7)) := by
  go_enter Tryz.func228, Tryz.ntmps228; go_wp2_with fail; refine rgn [w.heap.size + 1 + 1] [] fun hH => ?_; refine tk 0 hH ?_; refine tk 1 hH ?_; refine tk 2 hH ?_; refine tk 3 hH ?_; refine tk 5 hH ?_; refine tk 6 hH ?_; refine tk 7 hH ?_; refine tk 8 hH ?_; refine st 4 fun K hK => ?_; go_simp; (with_reducible refine Calls.cF (rMulC (by omega)) ?_); intros; refine hd hK ?_; clear hH hK K; intro hH; refine st 9 fun K hK => ?_; go_simp; (with_reducible refine Calls.cF (rMulC (by omega)) ?_); intros; refine hd hK ?_; clear hH hK K; intro hH; refine st 10 fun K hK => ?_; go_simp; (with_reducible refine Calls.cF (rAddC (by omega)) ?_); intros; refine hd hK ?_; clear hH hK K; intro hH; refine st 11 fun K hK => ?_; go_simp; refine hd hK ?_; clear hH hK K; intro hH; refine dn ?_; clear hH; go_wp2; refine ret_bx rfl Tryz.underlying147 rfl (by kernel_rfl) rfl rfl rfl ?_; exact CFRet.fin rfl (by omega)
end
section
theorem isg_neg {x : Rat} : isgn x.num = -1 ↔ x < 0 := by
  rw [← rsgn_isgn, ← rsgn_neg]
  rcases rsgn_cases x with ⟨h, _⟩ | ⟨h, _⟩ | ⟨h, _⟩ <;> omega
theorem isg_pos {x : Rat} : isgn x.num = 1 ↔ 0 < x := by
  rw [← rsgn_isgn, ← rsgn_pos]
  rcases rsgn_cases x with ⟨h, _⟩ | ⟨h, _⟩ | ⟨h, _⟩ <;> omega
theorem isg_zero {x : Rat} : isgn x.num = 0 ↔ x = 0 := by
  rw [← rsgn_isgn, rsgn_zero]
theorem mul_ps {a b : Rat} (h1 : 0 < a) (h2 : 0 < b) : 0 < a * b := Rat.mul_pos h1 h2
def primX (x y : Rat) : Int := (x.num * (y.den : Int)) / ((Nat.gcd (x.num.natAbs * y.den) (y.num.natAbs * x.den) : Nat) : Int)
theorem primX_mul (x y : Rat) : ((primX x y : Int) : Rat) = x * (rgcd x y)⁻¹ := by
  have hd : x.den * y.den ≠ 0 := Nat.mul_ne_zero x.den_nz y.den_nz
  by_cases h : Nat.gcd (x.num.natAbs * y.den) (y.num.natAbs * x.den) = 0
  · have hx : x = 0 := by
      have := Nat.eq_zero_of_gcd_eq_zero_left h
      rcases Nat.mul_eq_zero.1 this with h' | h'
      · exact Rat.num_eq_zero.1 (by omega)
      · exact absurd h' y.den_nz
    subst hx; unfold primX; rw [h]; simp
  · unfold primX rgcd
    generalize hG : Nat.gcd (x.num.natAbs * y.den) (y.num.natAbs * x.den) = G at *
    have hdv : (G : Int) ∣ x.num * (y.den : Int) := by
      rw [← Int.natAbs_dvd_natAbs, Int.natAbs_mul]; simp only [Int.natAbs_natCast]
      rw [← hG]; exact Nat.gcd_dvd_left _ _
    obtain ⟨c, hc⟩ := hdv; have hG0 : (G : Int) ≠ 0 := (by omega); rw [hc, Int.mul_ediv_cancel_left _ hG0]
    have hGr : ((G : Int) : Rat) ≠ 0 := by exact_mod_cast hG0
    have hxd : ((x.den : Int) : Rat) ≠ 0 := by have := x.den_nz; exact_mod_cast this
    have hyd : ((y.den : Int) : Rat) ≠ 0 := by have := y.den_nz; exact_mod_cast this
    have e1 : mkRat (G : Int) (x.den * y.den) = ((G : Int) : Rat) / (((x.den : Int) : Rat) * ((y.den : Int) : Rat)) := by
      rw [Rat.mkRat_eq_div]; push_cast; rfl
    have e2 : x = (x.num : Rat) / ((x.den : Int) : Rat) := by
      have := Rat.mkRat_self x
      rw [Rat.mkRat_eq_div] at this; exact this.symm
    have e3 : (x.num : Rat) * ((y.den : Int) : Rat) = ((G : Int) : Rat) * (c : Rat) := by exact_mod_cast congrArg (fun z : Int => (z : Rat)) hc
    rw [e1]
    refine Eq.trans ?_ (congrArg (fun z : Rat => z * (((G : Int) : Rat) / (((x.den : Int) : Rat) * ((y.den : Int) : Rat)))⁻¹) e2.symm)
    show (c : Rat) = _ * _
    rw [Rat.div_def, Rat.div_def]
    generalize (x.num : Rat) = a at *
    generalize ((x.den : Int) : Rat) = b at *
    generalize ((y.den : Int) : Rat) = d at *
    generalize ((G : Int) : Rat) = g at *
    have i1 := Rat.mul_inv_cancel b hxd
    have i2 := Rat.mul_inv_cancel g hGr
    have i3 : (g * (b * d)⁻¹)⁻¹ = g⁻¹ * (b * d) := by rw [Rat.inv_mul_rev, Rat.inv_inv]; grind
    rw [i3]
    grind
theorem rgcd_comm (x y : Rat) : rgcd y x = rgcd x y := by
  unfold rgcd; rw [Nat.gcd_comm, Nat.mul_comm y.den x.den]
theorem prim_gcd (x y : Rat) (h : ¬ (x = 0 ∧ y = 0)) : Nat.gcd (primX x y).natAbs (primX y x).natAbs = 1 := by
  unfold primX; rw [Nat.gcd_comm (y.num.natAbs * x.den)]; rw [int_div_abs, int_div_abs]
  · simp only [Int.natAbs_mul, Int.natAbs_natCast]
    have h0 : 0 < Nat.gcd (x.num.natAbs * y.den) (y.num.natAbs * x.den) := by
      rcases Nat.eq_zero_or_pos (Nat.gcd (x.num.natAbs * y.den) (y.num.natAbs * x.den)) with h0 | h0
      · exfalso
        refine h ⟨?_, ?_⟩
        · have := Nat.eq_zero_of_gcd_eq_zero_left h0
          rcases Nat.mul_eq_zero.1 this with h' | h'
          · exact Rat.num_eq_zero.1 (by omega)
          · exact absurd h' y.den_nz
        · have := Nat.eq_zero_of_gcd_eq_zero_right h0
          rcases Nat.mul_eq_zero.1 this with h' | h'
          · exact Rat.num_eq_zero.1 (by omega)
          · exact absurd h' x.den_nz
      · exact h0
    rw [Nat.gcd_div (Nat.gcd_dvd_left _ _) (Nat.gcd_dvd_right _ _), Nat.div_self h0]
  · simp only [Int.natAbs_mul, Int.natAbs_natCast]; exact Nat.gcd_dvd_right _ _
  · simp only [Int.natAbs_mul, Int.natAbs_natCast]; exact Nat.gcd_dvd_left _ _
theorem rgcd_pos (x y : Rat) (h : ¬ (x = 0 ∧ y = 0)) : 0 < rgcd x y := by
  unfold rgcd
  have h0 : 0 < Nat.gcd (x.num.natAbs * y.den) (y.num.natAbs * x.den) := by
    rcases Nat.eq_zero_or_pos (Nat.gcd (x.num.natAbs * y.den) (y.num.natAbs * x.den)) with h0 | h0
    · exfalso
      refine h ⟨?_, ?_⟩
      · have := Nat.eq_zero_of_gcd_eq_zero_left h0
        rcases Nat.mul_eq_zero.1 this with h' | h'
        · exact Rat.num_eq_zero.1 (by omega)
        · exact absurd h' y.den_nz
      · have := Nat.eq_zero_of_gcd_eq_zero_right h0
        rcases Nat.mul_eq_zero.1 this with h' | h'
        · exact Rat.num_eq_zero.1 (by omega)
        · exact absurd h' x.den_nz
    · exact h0
  generalize Nat.gcd (x.num.natAbs * y.den) (y.num.natAbs * x.den) = G at *
  rw [Rat.mkRat_eq_div, Rat.div_def]
  refine mul_ps (by exact_mod_cast h0) (Rat.inv_pos.2 ?_)
  have := Nat.mul_pos (den_pos' x) (den_pos' y)
  exact_mod_cast this
theorem coprime_uniq {a b c d : Int} (h1 : Nat.gcd a.natAbs b.natAbs = 1) (h2 : Nat.gcd c.natAbs d.natAbs = 1) {t : Rat} (ht : 0 < t) (e1 : (a : Rat) = c * t) (e2 : (b : Rat) = d * t) : a = c ∧ b = d := by
  have hd : ((t.den : Int) : Rat) ≠ 0 := by have := t.den_nz; exact_mod_cast this
  have et : t * ((t.den : Int) : Rat) = (t.num : Rat) := by
    have := Rat.mkRat_self t
    rw [Rat.mkRat_eq_div, Rat.div_def] at this
    have i := Rat.mul_inv_cancel _ hd
    have e : ((t.den : Int) : Rat) = ((t.den : Nat) : Rat) := by push_cast; rfl
    rw [e] at *
    grind
  have f1 : a * (t.den : Int) = c * t.num := by
    have : (a : Rat) * ((t.den : Int) : Rat) = c * (t.num : Rat) := by rw [e1, ← et]; grind
    exact_mod_cast this
  have f2 : b * (t.den : Int) = d * t.num := by
    have : (b : Rat) * ((t.den : Int) : Rat) = d * (t.num : Rat) := by rw [e2, ← et]; grind
    exact_mod_cast this
  have hn : 0 < t.num := by
    have := (rsgn_pos (x := t)).2 ht
    rw [rsgn_isgn] at this
    rcases isgn_cases t.num with ⟨_, h⟩ | ⟨_, h⟩ | ⟨h, _⟩ <;> omega
  have g1 : t.den = t.num.natAbs := by
    have k1 : Nat.gcd (a * (t.den : Int)).natAbs (b * (t.den : Int)).natAbs = t.den := by
      rw [Int.natAbs_mul, Int.natAbs_mul, Int.natAbs_natCast, Nat.gcd_mul_right, h1, Nat.one_mul]
    have k2 : Nat.gcd (c * t.num).natAbs (d * t.num).natAbs = t.num.natAbs := by
      rw [Int.natAbs_mul, Int.natAbs_mul, Nat.gcd_mul_right, h2, Nat.one_mul]
    rw [← k1, ← k2, f1, f2]
  have g2 : (t.den : Int) = t.num := (by omega); rw [g2] at f1 f2; exact ⟨Int.eq_of_mul_eq_mul_right (by omega) f1, Int.eq_of_mul_eq_mul_right (by omega) f2⟩
end
section
theorem gcd_lt62 {n m : Int} (h1 : -4611686018427387904 < n) (h2 : n < 4611686018427387904) (h3 : -4611686018427387904 < m) (h4 : m < 4611686018427387904) : Nat.gcd n.natAbs m.natAbs < 4611686018427387904 := by
  rcases Nat.eq_zero_or_pos n.natAbs with h | h
  · rw [h, Nat.gcd_zero_left]; omega
  · have := Nat.gcd_le_left m.natAbs h; omega
theorem fracGcdC {w : World} {n1 d1 n2 d2 : Int} {p1 p2 : Option Addr} {x y : Rat} {k1 k2 : Nat} [h1 : CF w (.agg #[.int .i64 n1, .int .i64 d1, .pointer p1]) x k1] [h2 : CF w (.agg #[.int .i64 n2, .int .i64 d2, .pointer p2]) y k2] (b : k1 ≤ 100000 ∧ k2 ≤ 100000) :
    Calls Tryz.prog 290 #[.agg #[.int .i64 n1, .int .i64 d1, .pointer p1], .agg #[.int .i64 n2, .int .i64 d2, .pointer p2]] w (CFRet w (rgcd x y) (k1 + k2 + 6)) := by
  have hfld : ∀ (x0 x1 : Value) (W : World), (Instr.field 27 (.agg #[x0, x1]) 1).run Tryz.prog W = .ok x1 W := fun _ _ _ => by kernel_rfl
  have HE := Lib.hid (show mkRat (sgn false (Nat.gcd (x.num.natAbs * y.den) (y.num.natAbs * x.den))) (x.den * y.den) = rgcd x y from rfl)
  rcases CF.cases h1 with ⟨rfl, en1, ed1, bn1, bm1, bd1, be1, bk1⟩ | ⟨rfl, rfl, hq1, q1, G1, A1, L1, C1, AA1, LL1, CC1, rfl, hB1, hZ1, hN1⟩
  · rcases CF.cases h2 with ⟨rfl, en2, ed2, bn2, bm2, bd2, be2, bk2⟩ | ⟨rfl, rfl, hq2, q2, G2, A2, L2, C2, AA2, LL2, CC2, rfl, hB2, hZ2, hN2⟩
    · by_cases hd : d1 = 0 ∧ d2 = 0
      · obtain ⟨rfl, rfl⟩ := hd
        have hG0 := @rgcd1 x y (by omega) (by omega)
        rw [en1, en2] at hG0
        have hb := gcd_lt62 bn1 bm1 bn2 bm2
        generalize hG : Nat.gcd n1.natAbs n2.natAbs = G at *
        have HG := Lib.hid hG
        have hw : IntKind.i64.wrap ((G : Nat) : Int) = (G : Int) := by rw [IntKind.wrap_i64]; omega
        have HF : Hid (∀ W : World, CF W (.agg #[.int .i64 ((G : Nat) : Int), .int .i64 0, .pointer none]) (rgcd x y) 2) := fun W => CF.small (by rw [hG0]; rfl) (by rw [hG0]; rfl) (by omega) (by omega) (by omega) (by omega)
        clear hG hG0 en1 en2 ed1 ed2 HE; go_enter Tryz.func290, Tryz.ntmps290; go_wp2_with fail; refine rgn [w.heap.size + 1 + 1] [] fun hH => ?_; refine tk 0 hH ?_; refine tk 1 hH ?_; refine tk 3 hH ?_; refine tk 4 hH ?_; refine st 2 fun K hK => ?_; go_simp; (with_reducible refine Calls.cS (absX (by omega) (by omega)) ?_); intros; refine hd hK ?_; clear hH hK K; intro hH; refine st 5 fun K hK => ?_; go_simp; (with_reducible refine Calls.cS (absX (by omega) (by omega)) ?_); intros; refine hd hK ?_; clear hH hK K; intro hH; refine st 6 fun K hK => ?_; go_simp; (with_reducible refine Calls.cE (gcd64C (by omega) (by omega) HG) ?_); intros; refine hd hK ?_; clear hH hK K; intro hH; refine tk 7 hH ?_; refine tk 8 hH ?_; refine st 9 fun K hK => ?_; go_simp; refine hd hK ?_; clear hH hK K; intro hH; refine dn ?_; clear hH; go_wp2; refine ret_bx rfl Tryz.underlying147 rfl (by kernel_rfl) rfl rfl rfl ?_; exact CFRet.fin (hx := HF.out _) (kx := 2) rfl (by omega)
      · by_cases h1' : d1 = 0
        · have q : (d2 == 0) = false := by rw [beq_eq_false_iff_ne]; omega
          subst h1'
          clear en1 en2 ed1 ed2 hd; go_enter Tryz.func290, Tryz.ntmps290; go_wp2_with fail; refine rgn [w.heap.size + 1 + 1] [] fun hH => ?_; refine tk 0 hH ?_; refine tk 2 hH ?_; refine st 1 fun K hK => ?_; go_simp; (with_reducible refine Calls.cN (rDenC (by omega)) ?_); intros; refine hd hK ?_; clear hH hK K; intro hH; refine st 3 fun K hK => ?_; go_simp; (with_reducible refine Calls.cN (rDenC (by omega)) ?_); intros; refine hd hK ?_; clear hH hK K; intro hH; refine st 4 fun K hK => ?_; go_simp; (with_reducible refine Calls.cN (mulC (by omega)) ?_); intros; refine hd hK ?_; clear hH hK K; intro hH; refine tk 5 hH ?_; refine dn ?_; clear hH
          go_wp2_with (first
              | (go_at_call 182; (with_reducible refine Calls.cF (reduceC (by omega)) ?_); intros))
          refine rgn [w.heap.size + 1 + 1] [] fun hH => ?_; refine tk 0 hH ?_; refine tk 3 hH ?_; refine tk 6 hH ?_; refine tk 9 hH ?_; refine st 1 fun K hK => ?_; go_simp; (with_reducible refine Calls.cZn (rNumC (by omega)) ?_); intros; refine hd hK ?_; clear hH hK K; intro hH; refine tk 2 hH ?_; refine st 4 fun K hK => ?_; go_simp; (with_reducible refine Calls.cN (rDenC (by omega)) ?_); intros; refine hd hK ?_; clear hH hK K; intro hH; refine st 5 fun K hK => ?_; go_simp; (with_reducible refine Calls.cN (mulC (by omega)) ?_); intros; refine hd hK ?_; clear hH hK K; intro hH; refine st 7 fun K hK => ?_; go_simp; (with_reducible refine Calls.cZn (rNumC (by omega)) ?_); intros; refine hd hK ?_; clear hH hK K; intro hH; refine tk 8 hH ?_; refine st 10 fun K hK => ?_; go_simp; (with_reducible refine Calls.cN (rDenC (by omega)) ?_); intros; refine hd hK ?_; clear hH hK K; intro hH; refine st 11 fun K hK => ?_; go_simp; (with_reducible refine Calls.cN (mulC (by omega)) ?_); intros; refine hd hK ?_; clear hH hK K; intro hH; refine st 12 fun K hK => ?_; go_simp; (with_reducible refine Calls.cN (gcdC (by omega)) ?_); intros; refine hd hK ?_; clear hH hK K; intro hH; refine tk 13 hH ?_; refine dn ?_; clear hH
          go_wp2_with (first
              | (go_at_call 182; (with_reducible refine Calls.cF (reduceC (by omega)) ?_); intros))
          refine ret_bx rfl Tryz.underlying147 rfl (by kernel_rfl) rfl rfl rfl ?_; exact CFRet.fin HE.out (by omega)
        · have q : (d1 == 0) = false := by rw [beq_eq_false_iff_ne]; exact h1'
          clear en1 en2 ed1 ed2 hd h1'; go_enter Tryz.func290, Tryz.ntmps290; go_wp2_with fail; refine rgn [w.heap.size + 1 + 1] [] fun hH => ?_; refine tk 0 hH ?_; refine tk 2 hH ?_; refine st 1 fun K hK => ?_; go_simp; (with_reducible refine Calls.cN (rDenC (by omega)) ?_); intros; refine hd hK ?_; clear hH hK K; intro hH; refine st 3 fun K hK => ?_; go_simp; (with_reducible refine Calls.cN (rDenC (by omega)) ?_); intros; refine hd hK ?_; clear hH hK K; intro hH; refine st 4 fun K hK => ?_; go_simp; (with_reducible refine Calls.cN (mulC (by omega)) ?_); intros; refine hd hK ?_; clear hH hK K; intro hH; refine tk 5 hH ?_; refine dn ?_; clear hH
          go_wp2_with (first
              | (go_at_call 182; (with_reducible refine Calls.cF (reduceC (by omega)) ?_); intros))
          refine rgn [w.heap.size + 1 + 1] [] fun hH => ?_; refine tk 0 hH ?_; refine tk 3 hH ?_; refine tk 6 hH ?_; refine tk 9 hH ?_; refine st 1 fun K hK => ?_; go_simp; (with_reducible refine Calls.cZn (rNumC (by omega)) ?_); intros; refine hd hK ?_; clear hH hK K; intro hH; refine tk 2 hH ?_; refine st 4 fun K hK => ?_; go_simp; (with_reducible refine Calls.cN (rDenC (by omega)) ?_); intros; refine hd hK ?_; clear hH hK K; intro hH; refine st 5 fun K hK => ?_; go_simp; (with_reducible refine Calls.cN (mulC (by omega)) ?_); intros; refine hd hK ?_; clear hH hK K; intro hH; refine st 7 fun K hK => ?_; go_simp; (with_reducible refine Calls.cZn (rNumC (by omega)) ?_); intros; refine hd hK ?_; clear hH hK K; intro hH; refine tk 8 hH ?_; refine st 10 fun K hK => ?_; go_simp; (with_reducible refine Calls.cN (rDenC (by omega)) ?_); intros; refine hd hK ?_; clear hH hK K; intro hH; refine st 11 fun K hK => ?_; go_simp; (with_reducible refine Calls.cN (mulC (by omega)) ?_); intros; refine hd hK ?_; clear hH hK K; intro hH; refine st 12 fun K hK => ?_; go_simp; (with_reducible refine Calls.cN (gcdC (by omega)) ?_); intros; refine hd hK ?_; clear hH hK K; intro hH; refine tk 13 hH ?_; refine dn ?_; clear hH
          go_wp2_with (first
              | (go_at_call 182; (with_reducible refine Calls.cF (reduceC (by omega)) ?_); intros))
          refine ret_bx rfl Tryz.underlying147 rfl (by kernel_rfl) rfl rfl rfl ?_; exact CFRet.fin HE.out (by omega)
    · clear en1 ed1; go_enter Tryz.func290, Tryz.ntmps290; go_wp2_with fail; refine rgn [w.heap.size + 1 + 1] [] fun hH => ?_; refine tk 0 hH ?_; refine tk 2 hH ?_; refine st 1 fun K hK => ?_; go_simp; (with_reducible refine Calls.cN (rDenC (by omega)) ?_); intros; refine hd hK ?_; clear hH hK K; intro hH; refine st 3 fun K hK => ?_; go_simp; (with_reducible refine Calls.cN (rDenC (by omega)) ?_); intros; refine hd hK ?_; clear hH hK K; intro hH; refine st 4 fun K hK => ?_; go_simp; (with_reducible refine Calls.cN (mulC (by omega)) ?_); intros; refine hd hK ?_; clear hH hK K; intro hH; refine tk 5 hH ?_; refine dn ?_; clear hH
      go_wp2_with (first
          | (go_at_call 182; (with_reducible refine Calls.cF (reduceC (by omega)) ?_); intros))
      refine rgn [w.heap.size + 1 + 1] [] fun hH => ?_; refine tk 0 hH ?_; refine tk 3 hH ?_; refine tk 6 hH ?_; refine tk 9 hH ?_; refine st 1 fun K hK => ?_; go_simp; (with_reducible refine Calls.cZn (rNumC (by omega)) ?_); intros; refine hd hK ?_; clear hH hK K; intro hH; refine tk 2 hH ?_; refine st 4 fun K hK => ?_; go_simp; (with_reducible refine Calls.cN (rDenC (by omega)) ?_); intros; refine hd hK ?_; clear hH hK K; intro hH; refine st 5 fun K hK => ?_; go_simp; (with_reducible refine Calls.cN (mulC (by omega)) ?_); intros; refine hd hK ?_; clear hH hK K; intro hH; refine st 7 fun K hK => ?_; go_simp; (with_reducible refine Calls.cZn (rNumC (by omega)) ?_); intros; refine hd hK ?_; clear hH hK K; intro hH; refine tk 8 hH ?_; refine st 10 fun K hK => ?_; go_simp; (with_reducible refine Calls.cN (rDenC (by omega)) ?_); intros; refine hd hK ?_; clear hH hK K; intro hH; refine st 11 fun K hK => ?_; go_simp; (with_reducible refine Calls.cN (mulC (by omega)) ?_); intros; refine hd hK ?_; clear hH hK K; intro hH; refine st 12 fun K hK => ?_; go_simp; (with_reducible refine Calls.cN (gcdC (by omega)) ?_); intros; refine hd hK ?_; clear hH hK K; intro hH; refine tk 13 hH ?_; refine dn ?_; clear hH
      go_wp2_with (first
          | (go_at_call 182; (with_reducible refine Calls.cF (reduceC (by omega)) ?_); intros))
      refine ret_bx rfl Tryz.underlying147 rfl (by kernel_rfl) rfl rfl rfl ?_; exact CFRet.fin HE.out (by omega)
  · go_enter Tryz.func290, Tryz.ntmps290; go_wp2_with fail; refine rgn [w.heap.size + 1 + 1] [] fun hH => ?_; refine tk 0 hH ?_; refine tk 2 hH ?_; refine st 1 fun K hK => ?_; go_simp; (with_reducible refine Calls.cN (rDenC (by omega)) ?_); intros; refine hd hK ?_; clear hH hK K; intro hH; refine st 3 fun K hK => ?_; go_simp; (with_reducible refine Calls.cN (rDenC (by omega)) ?_); intros; refine hd hK ?_; clear hH hK K; intro hH; refine st 4 fun K hK => ?_; go_simp; (with_reducible refine Calls.cN (mulC (by omega)) ?_); intros; refine hd hK ?_; clear hH hK K; intro hH; refine tk 5 hH ?_; refine dn ?_; clear hH
    go_wp2_with (first
        | (go_at_call 182; (with_reducible refine Calls.cF (reduceC (by omega)) ?_); intros))
    refine rgn [w.heap.size + 1 + 1] [] fun hH => ?_; refine tk 0 hH ?_; refine tk 3 hH ?_; refine tk 6 hH ?_; refine tk 9 hH ?_; refine st 1 fun K hK => ?_; go_simp; (with_reducible refine Calls.cZn (rNumC (by omega)) ?_); intros; refine hd hK ?_; clear hH hK K; intro hH; refine tk 2 hH ?_; refine st 4 fun K hK => ?_; go_simp; (with_reducible refine Calls.cN (rDenC (by omega)) ?_); intros; refine hd hK ?_; clear hH hK K; intro hH; refine st 5 fun K hK => ?_; go_simp; (with_reducible refine Calls.cN (mulC (by omega)) ?_); intros; refine hd hK ?_; clear hH hK K; intro hH; refine st 7 fun K hK => ?_; go_simp; (with_reducible refine Calls.cZn (rNumC (by omega)) ?_); intros; refine hd hK ?_; clear hH hK K; intro hH; refine tk 8 hH ?_; refine st 10 fun K hK => ?_; go_simp; (with_reducible refine Calls.cN (rDenC (by omega)) ?_); intros; refine hd hK ?_; clear hH hK K; intro hH; refine st 11 fun K hK => ?_; go_simp; (with_reducible refine Calls.cN (mulC (by omega)) ?_); intros; refine hd hK ?_; clear hH hK K; intro hH; refine st 12 fun K hK => ?_; go_simp; (with_reducible refine Calls.cN (gcdC (by omega)) ?_); intros; refine hd hK ?_; clear hH hK K; intro hH; refine tk 13 hH ?_; refine dn ?_; clear hH
    go_wp2_with (first
        | (go_at_call 182; (with_reducible refine Calls.cF (reduceC (by omega)) ?_); intros))
    refine ret_bx rfl Tryz.underlying147 rfl (by kernel_rfl) rfl rfl rfl ?_; exact CFRet.fin HE.out (by omega)
theorem rCmpV {w : World} {v : Int} {n1 d1 n2 d2 : Int} {p1 p2 : Option Addr} {x y : Rat} {k1 k2 : Nat} [h1 : CF w (.agg #[.int .i64 n1, .int .i64 d1, .pointer p1]) x k1] [h2 : CF w (.agg #[.int .i64 n2, .int .i64 d2, .pointer p2]) y k2] (b : k1 ≤ 100000 ∧ k2 ≤ 100000) (hv : Hid (isgn (x - y).num = v)) :
    Calls Tryz.prog 204 #[.agg #[.int .i64 n1, .int .i64 d1, .pointer p1], .agg #[.int .i64 n2, .int .i64 d2, .pointer p2]] w (fun e w' => e = .returned (.int .i64 v) ∧ Below w.heap.size w w') := by
  rw [← hv.out]; exact rCmpC b
theorem numCV {w : World} {v : Int} {g1 g2 : Bool} {a1 aa1 a2 aa2 : Option Addr} {l1 c1 ll1 cc1 l2 c2 ll2 cc2 k1 k2 : Nat} {x y : Rat} [h1 : CQ w (.agg #[.bool g1, .slice a1 l1 c1, .slice aa1 ll1 cc1]) x k1] [h2 : CQ w (.agg #[.bool g2, .slice a2 l2 c2, .slice aa2 ll2 cc2]) y k2] (b : k1 ≤ 10000 ∧ k2 ≤ 10000) (hv : Hid (isgn (x - y).num = v)) :
    Calls Tryz.prog 78 #[.agg #[.bool g1, .slice a1 l1 c1, .slice aa1 ll1 cc1], .agg #[.bool g2, .slice a2 l2 c2, .slice aa2 ll2 cc2]] w (fun e w' => e = .returned (.int .i64 v) ∧ Below w.heap.size w w') := by
  rw [← hv.out]; exact numCC (by omega)
end
section
theorem isgn_dec {x y : Rat} : (isgn (x - y).num == 0) = decide (x = y) := by
  rw [Bool.eq_iff_iff, beq_iff_eq, decide_eq_true_eq]; rw [isg_zero]; constructor
  · intro h; grind
  · rintro rfl; grind
theorem refSameC {w : World} {g1x g1y g2x g2y : Bool} {a1x aa1x a1y aa1y a2x aa2x a2y aa2y : Option Addr} {l1x c1x ll1x cc1x l1y c1y ll1y cc1y l2x c2x ll2x cc2x l2y c2y ll2y cc2y k1x k1y k2x k2y : Nat} {x1 y1 x2 y2 : Rat} [h1x : CQ w (.agg #[.bool g1x, .slice a1x l1x c1x, .slice aa1x ll1x cc1x]) x1 k1x] [h1y : CQ w (.agg #[.bool g1y, .slice a1y l1y c1y, .slice aa1y ll1y cc1y]) y1 k1y] [h2x : CQ w (.agg #[.bool g2x, .slice a2x l2x c2x, .slice aa2x ll2x cc2x]) x2 k2x] [h2y : CQ w (.agg #[.bool g2y, .slice a2y l2y c2y, .slice aa2y ll2y cc2y]) y2 k2y] (b : k1x ≤ 9000 ∧ k1y ≤ 9000 ∧ k2x ≤ 9000 ∧ k2y ≤ 9000) :
    Calls Tryz.prog 83 #[.agg #[.bool g1x, .slice a1x l1x c1x, .slice aa1x ll1x cc1x, .bool g1y, .slice a1y l1y c1y, .slice aa1y ll1y cc1y], .agg #[.bool g2x, .slice a2x l2x c2x, .slice aa2x ll2x cc2x, .bool g2y, .slice a2y l2y c2y, .slice aa2y ll2y cc2y]] w (fun e w' => e = .returned (.bool (decide (x1 = x2) && decide (y1 = y2))) ∧ Below w.heap.size w w') := by
  have HX := Lib.hid (@isgn_dec x1 x2); have HY := Lib.hid (@isgn_dec y1 y2); obtain ⟨c, hc⟩ : ∃ c, isgn (x1 - x2).num = c := ⟨_, rfl⟩; obtain ⟨d, hd⟩ : ∃ d, isgn (y1 - y2).num = d := ⟨_, rfl⟩; rw [hc] at HX; rw [hd] at HY; have HC := Lib.hid hc; have HD := Lib.hid hd; clear hc hd
  by_cases h : c = 0
  · subst h; go_enter Tryz.func83, Tryz.ntmps83
    go_wp2_with (first
      | (go_at_call 78; (with_reducible refine Calls.cE (numCV (by omega) HC) ?_); intros)
      | (go_at_call 78; (with_reducible refine Calls.cE (numCV (by omega) HD) ?_); intros))
    go_ret
    exact E.fin (by rw [← HX.out, ← HY.out]; simp)
  · have q : (c == 0) = false := by rw [beq_eq_false_iff_ne]; exact h
    clear h; go_enter Tryz.func83, Tryz.ntmps83
    go_wp2_with (first
      | (go_at_call 78; (with_reducible refine Calls.cE (numCV (by omega) HC) ?_); intros)
      | (go_at_call 78; (with_reducible refine Calls.cE (numCV (by omega) HD) ?_); intros))
    go_ret
    exact E.fin (by rw [← HX.out, q]; rfl)
theorem ptEqualC {w : World} {n1x d1x n1y d1y n2x d2x n2y d2y : Int} {p1x p1y p2x p2y : Option Addr} {x1 y1 x2 y2 : Rat} {k1x k1y k2x k2y : Nat} [h1x : CF w (.agg #[.int .i64 n1x, .int .i64 d1x, .pointer p1x]) x1 k1x] [h1y : CF w (.agg #[.int .i64 n1y, .int .i64 d1y, .pointer p1y]) y1 k1y] [h2x : CF w (.agg #[.int .i64 n2x, .int .i64 d2x, .pointer p2x]) x2 k2x] [h2y : CF w (.agg #[.int .i64 n2y, .int .i64 d2y, .pointer p2y]) y2 k2y] (b : k1x ≤ 20000 ∧ k1y ≤ 20000 ∧ k2x ≤ 20000 ∧ k2y ≤ 20000) :
    Calls Tryz.prog 108 #[.agg #[.int .i64 n1x, .int .i64 d1x, .pointer p1x, .int .i64 n1y, .int .i64 d1y, .pointer p1y], .agg #[.int .i64 n2x, .int .i64 d2x, .pointer p2x, .int .i64 n2y, .int .i64 d2y, .pointer p2y]] w (fun e w' => e = .returned (.bool (decide (x1 = x2) && decide (y1 = y2))) ∧ Below w.heap.size w w') := by
  by_cases h : x1 = x2
  · have hd : decide (x1 = x2) = true := decide_eq_true h
    have HD := Lib.hid hd; clear h; go_enter Tryz.func108, Tryz.ntmps108
    go_wp2_with (first
    | (go_at_call 167; (with_reducible refine Calls.cE (rEqualC (by omega)) ?_); intros))
    go_ret
    exact E.fin (by rw [HD.out, Bool.true_and]; rfl)
  · have hd : decide (x1 = x2) = false := decide_eq_false h
    have HD := Lib.hid hd; clear h; go_enter Tryz.func108, Tryz.ntmps108
    go_wp2_with (first
    | (go_at_call 167; (with_reducible refine Calls.cE (rEqualC (by omega)) ?_); intros))
    go_ret
    exact E.fin (by rw [HD.out, Bool.false_and]; rfl)
theorem refXyC {w : World} {m n : Int} (b : (-9223372036854775808 ≤ m ∧ m < 9223372036854775808) ∧ -9223372036854775808 ≤ n ∧ n < 9223372036854775808) :
    Calls Tryz.prog 22 #[.int .i64 m, .int .i64 n] w (CPQRet w (m : Rat) (n : Rat) 4) := by
  go_enter Tryz.func22, Tryz.ntmps22
  go_wp2_with (first
    | (go_at_call 76; (with_reducible refine Calls.cQ (numOfC (by omega)) ?_); intros))
  refine ret_bx rfl Tryz.underlying47 rfl (by kernel_rfl) rfl rfl rfl ?_; exact CPQRet.fin rfl (by omega) rfl (by omega)
def TPIRet (w : World) (t : Nat) (k : Nat) (e : Ending) (w' : World) : Prop := ∃ (g : Bool) (a : Option Addr) (l c : Nat) (aa : Option Addr) (ll cc : Nat) (g2 : Bool) (a2 : Option Addr) (l2 c2 : Nat) (aa2 : Option Addr) (ll2 cc2 : Nat) (m n : Int), e = .returned (.agg #[.bool g, .slice a l c, .slice aa ll cc, .bool g2, .slice a2 l2 c2, .slice aa2 ll2 cc2]) ∧ CQ w' (.agg #[.bool g, .slice a l c, .slice aa ll cc]) ((m : Int) : Rat) k ∧ CQ w' (.agg #[.bool g2, .slice a2 l2 c2, .slice aa2 ll2 cc2]) ((n : Int) : Rat) k ∧ (-4 ≤ m ∧ m ≤ 4 ∧ -4 ≤ n ∧ n ≤ 4) ∧ Ct w' t ∧ Gb w w' t
theorem Calls.cTPI {P : Program} {f : FuncId} {args : Array Value} {w : World} {t k : Nat} {K : Ending → World → Prop} [ht : Ct w t] (h : Calls P f args w (TPIRet w t k))
    (hK : ∀ w' [Tp1 w w' t] [Ct w' t] (g : Bool) (a : Option Addr) (l c : Nat) (aa : Option Addr) (ll cc : Nat) (g2 : Bool) (a2 : Option Addr) (l2 c2 : Nat) (aa2 : Option Addr) (ll2 cc2 : Nat) (m n : Int) [CQ w' (.agg #[.bool g, .slice a l c, .slice aa ll cc]) ((m : Int) : Rat) k] [CQ w' (.agg #[.bool g2, .slice a2 l2 c2, .slice aa2 ll2 cc2]) ((n : Int) : Rat) k], Hid (-4 ≤ m ∧ m ≤ 4 ∧ -4 ≤ n ∧ n ≤ 4) → K (.returned (.agg #[.bool g, .slice a l c, .slice aa ll cc, .bool g2, .slice a2 l2 c2, .slice aa2 ll2 cc2])) w') : Calls P f args w K := by
  refine h.mono ?_
  rintro e w' ⟨g, a, l, c, aa, ll, cc, g2, a2, l2, c2, aa2, ll2, cc2, m, n, rfl, hx, hy, hz, hc, hb⟩
  exact @hK w' ⟨hb.out, ht.out⟩ hc g a l c aa ll cc g2 a2 l2 c2 aa2 ll2 cc2 m n hx hy hz
theorem tapePI {w : World} {t : Nat} [ht : Ct w t] : Calls Tryz.prog 79 #[.pointer (some ⟨t, 0, none⟩)] w (TPIRet w t 4) := by
  go_enter Tryz.func79, Tryz.ntmps79; go_wp2_with fail; with_reducible refine Calls.cNext (nextC (by omega)) ?_; intro W1 _ _ m m1 m2
  have e1 : IntKind.i64.wrap (m - 4) = m - 4 := by rw [IntKind.wrap_i64]; omega
  go_wp2_with fail; with_reducible refine Calls.cNext (nextC (by omega)) ?_; intro W2 _ _ n n1 n2
  have e2 : IntKind.i64.wrap (n - 4) = n - 4 := by rw [IntKind.wrap_i64]; omega
  go_wp2_with (first
    | (go_at_call 22; (with_reducible refine Calls.cPQ (refXyC (by omega)) ?_); intros))
  refine ret_bx rfl Tryz.underlying47 rfl (by kernel_rfl) rfl rfl rfl ?_
  exact ⟨_, _, _, _, _, _, _, _, _, _, _, _, _, _, _, _, rfl, inferInstance, inferInstance, ⟨by omega, by omega, by omega, by omega⟩, inferInstance, inferInstance⟩
def TVIRet (w : World) (t : Nat) (k : Nat) (e : Ending) (w' : World) : Prop := ∃ (g : Bool) (a : Option Addr) (l c : Nat) (aa : Option Addr) (ll cc : Nat) (g2 : Bool) (a2 : Option Addr) (l2 c2 : Nat) (aa2 : Option Addr) (ll2 cc2 : Nat) (m n : Int), e = .returned (.agg #[.bool g, .slice a l c, .slice aa ll cc, .bool g2, .slice a2 l2 c2, .slice aa2 ll2 cc2]) ∧ CQ w' (.agg #[.bool g, .slice a l c, .slice aa ll cc]) ((m : Int) : Rat) k ∧ CQ w' (.agg #[.bool g2, .slice a2 l2 c2, .slice aa2 ll2 cc2]) ((n : Int) : Rat) k ∧ (-4 ≤ m ∧ m ≤ 4 ∧ -4 ≤ n ∧ n ≤ 4 ∧ ¬ (m = 0 ∧ n = 0)) ∧ Ct w' t ∧ Gb w w' t
theorem Calls.cTVI {P : Program} {f : FuncId} {args : Array Value} {w : World} {t k : Nat} {K : Ending → World → Prop} [ht : Ct w t] (h : Calls P f args w (TVIRet w t k))
    (hK : ∀ w' [Tp1 w w' t] [Ct w' t] (g : Bool) (a : Option Addr) (l c : Nat) (aa : Option Addr) (ll cc : Nat) (g2 : Bool) (a2 : Option Addr) (l2 c2 : Nat) (aa2 : Option Addr) (ll2 cc2 : Nat) (m n : Int) [CQ w' (.agg #[.bool g, .slice a l c, .slice aa ll cc]) ((m : Int) : Rat) k] [CQ w' (.agg #[.bool g2, .slice a2 l2 c2, .slice aa2 ll2 cc2]) ((n : Int) : Rat) k], Hid (-4 ≤ m ∧ m ≤ 4 ∧ -4 ≤ n ∧ n ≤ 4 ∧ ¬ (m = 0 ∧ n = 0)) → K (.returned (.agg #[.bool g, .slice a l c, .slice aa ll cc, .bool g2, .slice a2 l2 c2, .slice aa2 ll2 cc2])) w') : Calls P f args w K := by
  refine h.mono ?_
  rintro e w' ⟨g, a, l, c, aa, ll, cc, g2, a2, l2, c2, aa2, ll2, cc2, m, n, rfl, hx, hy, hz, hc, hb⟩
  exact @hK w' ⟨hb.out, ht.out⟩ hc g a l c aa ll cc g2 a2 l2 c2 aa2 ll2 cc2 m n hx hy hz
theorem refSameV {w : World} {v : Bool} {g1x g1y g2x g2y : Bool} {a1x aa1x a1y aa1y a2x aa2x a2y aa2y : Option Addr} {l1x c1x ll1x cc1x l1y c1y ll1y cc1y l2x c2x ll2x cc2x l2y c2y ll2y cc2y k1x k1y k2x k2y : Nat} {x1 y1 x2 y2 : Rat} [h1x : CQ w (.agg #[.bool g1x, .slice a1x l1x c1x, .slice aa1x ll1x cc1x]) x1 k1x] [h1y : CQ w (.agg #[.bool g1y, .slice a1y l1y c1y, .slice aa1y ll1y cc1y]) y1 k1y] [h2x : CQ w (.agg #[.bool g2x, .slice a2x l2x c2x, .slice aa2x ll2x cc2x]) x2 k2x] [h2y : CQ w (.agg #[.bool g2y, .slice a2y l2y c2y, .slice aa2y ll2y cc2y]) y2 k2y] (b : k1x ≤ 9000 ∧ k1y ≤ 9000 ∧ k2x ≤ 9000 ∧ k2y ≤ 9000) (hv : Hid ((decide (x1 = x2) && decide (y1 = y2)) = v)) :
    Calls Tryz.prog 83 #[.agg #[.bool g1x, .slice a1x l1x c1x, .slice aa1x ll1x cc1x, .bool g1y, .slice a1y l1y c1y, .slice aa1y ll1y cc1y], .agg #[.bool g2x, .slice a2x l2x c2x, .slice aa2x ll2x cc2x, .bool g2y, .slice a2y l2y c2y, .slice aa2y ll2y cc2y]] w (fun e w' => e = .returned (.bool v) ∧ Below w.heap.size w w') := by
  rw [← hv.out]; exact refSameC b
theorem tapeVI {w : World} {t : Nat} [ht : Ct w t] : Calls Tryz.prog 80 #[.pointer (some ⟨t, 0, none⟩)] w (TVIRet w t 4) := by
  go_enter Tryz.func80, Tryz.ntmps80; go_wp2_with fail; with_reducible refine Calls.cTPI tapePI ?_; intro W1 _ _ g a l c aa ll cc g2 a2 l2 c2 aa2 ll2 cc2 m n _ _ hmn; obtain ⟨v, hv⟩ : ∃ v, (decide (((m : Int) : Rat) = ((0 : Int) : Rat)) && decide (((n : Int) : Rat) = ((0 : Int) : Rat))) = v := ⟨_, rfl⟩; have HV := Lib.hid hv; clear hv
  cases v with
  | true =>
    go_wp2_with (first
      | (go_at_call 83; (with_reducible refine Calls.cE (refSameV (by omega) HV) ?_); intros)
      | (go_at_call 22; (with_reducible refine Calls.cPQ (refXyC (by omega)) ?_); intros))
    refine ret_bx rfl Tryz.underlying47 rfl (by kernel_rfl) rfl rfl rfl ?_
    exact ⟨_, _, _, _, _, _, _, _, _, _, _, _, _, _, 1, 0, rfl, inferInstance, inferInstance, ⟨by omega, by omega, by omega, by omega, by omega⟩, inferInstance, inferInstance⟩
  | false =>
    have hz : ¬ (m = 0 ∧ n = 0) := fun h => by have := HV.out; rw [h.1, h.2] at this; revert this; decide +kernel
    have HZ := Lib.hid hz; clear hz
    go_wp2_with (first
      | (go_at_call 83; (with_reducible refine Calls.cE (refSameV (by omega) HV) ?_); intros))
    refine ret_bx rfl Tryz.underlying47 rfl (by kernel_rfl) rfl rfl rfl ?_; exact ⟨_, _, _, _, _, _, _, _, _, _, _, _, _, _, _, _, rfl, inferInstance, inferInstance, ⟨hmn.out.1, hmn.out.2.1, hmn.out.2.2.1, hmn.out.2.2.2, HZ.out⟩, inferInstance, inferInstance⟩
end
section
class RL (W : World) (v : Value) (l : outParam (List Nat)) : Prop where out : Rd W v l
instance RL.al {W : World} {v : Value} {l : (List Nat)} {o : Obj} [h : RL W v l] : RL (W.alloc o) v l := ⟨h.out.keep (blw_one _ _)⟩
instance RL.kp {W W2 : World} {v : Value} {l : (List Nat)} [b : Kp1 W W2] [h : RL W v l] : RL W2 v l := ⟨h.out.keep (b.out)⟩
instance (priority := low) CR.ofL {W : World} {v : Value} {l : List Nat} [h : RL W v l] : CR W v (val l) l.length := ⟨.of_rd h.out (Nat.le_refl _)⟩
theorem RL.len {W : World} {a : Option Addr} {n c : Nat} {l : List Nat} (h : RL W (.slice a n c) l) : n = l.length := h.out.len
theorem normalB_nfx (n : Nat) : normalB (nf n) = true := by
  by_cases h : n = 0
  · subst h; rfl
  · exact normalB_ne (nf_last n h)
theorem normalB_iff {l : List Nat} (hl : Dig l) : normalB l = true ↔ l = nf (val l) := by
  constructor
  · intro h
    refine (nf_of_normal hl ?_).symm
    simp only [normalB, Bool.or_eq_true, decide_eq_true_eq] at h
    rcases h with h | h
    · left; exact List.eq_nil_of_length_eq_zero h
    · right; exact h
  · intro h; rw [h]; exact normalB_nfx _
def nrmI (g : Bool) (l : List Nat) : Bool := normalB l && (!g || decide (0 < l.length))
def nrmQ (g : Bool) (l ll : List Nat) : Bool := nrmI g l && normalB ll && decide (0 < ll.length) && decide (Nat.gcd (val l) (val ll) = 1)
theorem natNormalLV {w : World} {a1 : Option Addr} {l1 c1 : Nat} {L : List Nat} {v : Bool} [h1 : RL w (.slice a1 l1 c1) L] (hv : Hid (normalB L = v)) :
    Calls Tryz.prog 263 #[.slice a1 l1 c1] w fun e w' => e = .returned (.bool v) ∧ w = w' := by
  rw [← hv.out]; exact normal_any _ _ _ h1.out
theorem intNormalL {w : World} {g1 v : Bool} {a1 : Option Addr} {l1 c1 : Nat} {L : List Nat} [h1 : RL w (.slice a1 l1 c1) L] (hv : Hid (nrmI g1 L = v)) :
    Calls Tryz.prog 262 #[.agg #[.bool g1, .slice a1 l1 c1]] w fun e w' => e = .returned (.bool v) ∧ Below w.heap.size w w' := by
  have hl := h1.len
  have HV : Hid ((normalB L && (!g1 || decide (0 < l1))) = v) := by show _ = _; rw [hl]; exact hv.out
  clear hv hl; obtain ⟨b, hb⟩ : ∃ b, normalB L = b := ⟨_, rfl⟩; rw [hb] at HV; have HB := Lib.hid hb; clear hb
  by_cases hp : 0 < l1
  · have hp2 : decide (0 < l1) = true := decide_eq_true hp
    rw [hp2] at HV
    cases b <;> cases g1
    all_goals
      go_enter Tryz.func262, Tryz.ntmps262
      go_wp2_with (first
    | (go_at_call 263; (with_reducible refine Calls.cS (natNormalLV HB) ?_); intros))
      go_ret
      exact E.fin (by rw [← HV.out]; rfl)
  · have hp2 : decide (0 < l1) = false := decide_eq_false hp
    obtain rfl : l1 = 0 := by omega
    clear hp; rw [hp2] at HV
    cases b <;> cases g1
    all_goals
      go_enter Tryz.func262, Tryz.ntmps262
      go_wp2_with (first
    | (go_at_call 263; (with_reducible refine Calls.cS (natNormalLV HB) ?_); intros))
      go_ret
      exact E.fin (by rw [← HV.out]; rfl)
theorem fracNormalL {w : World} {g1 v : Bool} {a1 aa1 : Option Addr} {l1 c1 ll1 cc1 : Nat} {L LL : List Nat} [h1 : RL w (.slice a1 l1 c1) L] [h1' : RL w (.slice aa1 ll1 cc1) LL] (b1 : L.length ≤ 900000 ∧ LL.length ≤ 900000) (hv : Hid (nrmQ g1 L LL = v)) :
    Calls Tryz.prog 200 #[.agg #[.bool g1, .slice a1 l1 c1, .slice aa1 ll1 cc1]] w fun e w' => e = .returned (.bool v) ∧ Below w.heap.size w w' := by
  have hl := h1'.len
  have HV : Hid ((nrmI g1 L && normalB LL && decide (0 < ll1) && decide (Nat.gcd (val L) (val LL) = 1)) = v) := by show _ = _; rw [hl]; exact hv.out
  clear hv; obtain ⟨b, hb⟩ : ∃ b, nrmI g1 L = b := ⟨_, rfl⟩; obtain ⟨c, hc⟩ : ∃ c, normalB LL = c := ⟨_, rfl⟩; rw [hb, hc] at HV; have HB := Lib.hid hb; have HC := Lib.hid hc
  have hg0 : val LL ≠ 0 → Nat.gcd (val L) (val LL) ≠ 0 := fun h e => h (Nat.eq_zero_of_gcd_eq_zero_right e)
  have hz : c = true → 0 < ll1 → val LL ≠ 0 := fun h1 h2 e => by
    rw [h1] at hc
    have := (normalB_iff h1'.out.dig).1 hc
    rw [e] at this; rw [hl, this] at h2; simp [nf_zero] at h2
  clear hb hc hl
  cases b
  · go_enter Tryz.func200, Tryz.ntmps200
    go_wp2_with (first
    | (go_at_call 262; (with_reducible refine Calls.cE (intNormalL HB) ?_); intros)
    | (go_at_call 263; (with_reducible refine Calls.cS (natNormalLV HC) ?_); intros)
    | (go_at_call 249; (with_reducible refine Calls.cN (gcdC (by omega)) ?_); intros)
    | (go_at_call 133; (with_reducible refine Calls.cS (bitsC (by omega)) ?_); intros))
    go_ret
    exact E.fin (by rw [← HV.out]; rfl)
  cases c
  · go_enter Tryz.func200, Tryz.ntmps200
    go_wp2_with (first
    | (go_at_call 262; (with_reducible refine Calls.cE (intNormalL HB) ?_); intros)
    | (go_at_call 263; (with_reducible refine Calls.cS (natNormalLV HC) ?_); intros)
    | (go_at_call 249; (with_reducible refine Calls.cN (gcdC (by omega)) ?_); intros)
    | (go_at_call 133; (with_reducible refine Calls.cS (bitsC (by omega)) ?_); intros))
    go_ret
    exact E.fin (by rw [← HV.out]; rfl)
  by_cases hp : 0 < ll1
  · have hgz := hg0 (hz rfl hp)
    rw [show decide (0 < ll1) = true from decide_eq_true hp] at HV
    clear hg0 hz
    by_cases hg : Nat.gcd (val L) (val LL) = 1
    · rw [show decide (Nat.gcd (val L) (val LL) = 1) = true from decide_eq_true hg] at HV
      have hn : (((nbits (Nat.gcd (val L) (val LL)) : Nat) : Int) == 1) = true := by rw [hg]; decide +kernel
      clear hg hgz; go_enter Tryz.func200, Tryz.ntmps200
      go_wp2_with (first
    | (go_at_call 262; (with_reducible refine Calls.cE (intNormalL HB) ?_); intros)
    | (go_at_call 263; (with_reducible refine Calls.cS (natNormalLV HC) ?_); intros)
    | (go_at_call 249; (with_reducible refine Calls.cN (gcdC (by omega)) ?_); intros)
    | (go_at_call 133; (with_reducible refine Calls.cS (bitsC (by omega)) ?_); intros))
      go_ret
      exact E.fin (by rw [← HV.out]; rfl)
    · rw [show decide (Nat.gcd (val L) (val LL) = 1) = false from decide_eq_false hg] at HV
      have hn : (((nbits (Nat.gcd (val L) (val LL)) : Nat) : Int) == 1) = false := by
        rw [beq_eq_false_iff_ne]
        have := @nbits1 (Nat.gcd (val L) (val LL))
        omega
      clear hg hgz; go_enter Tryz.func200, Tryz.ntmps200
      go_wp2_with (first
    | (go_at_call 262; (with_reducible refine Calls.cE (intNormalL HB) ?_); intros)
    | (go_at_call 263; (with_reducible refine Calls.cS (natNormalLV HC) ?_); intros)
    | (go_at_call 249; (with_reducible refine Calls.cN (gcdC (by omega)) ?_); intros)
    | (go_at_call 133; (with_reducible refine Calls.cS (bitsC (by omega)) ?_); intros))
      go_ret
      exact E.fin (by rw [← HV.out]; rfl)
  · rw [show decide (0 < ll1) = false from decide_eq_false hp] at HV
    obtain rfl : ll1 = 0 := by omega
    clear hp hg0 hz; go_enter Tryz.func200, Tryz.ntmps200
    go_wp2_with (first
    | (go_at_call 262; (with_reducible refine Calls.cE (intNormalL HB) ?_); intros)
    | (go_at_call 263; (with_reducible refine Calls.cS (natNormalLV HC) ?_); intros)
    | (go_at_call 249; (with_reducible refine Calls.cN (gcdC (by omega)) ?_); intros)
    | (go_at_call 133; (with_reducible refine Calls.cS (bitsC (by omega)) ?_); intros))
    go_ret
    exact E.fin (by rw [← HV.out]; rfl)
end
section
theorem ptEqualV {w : World} {n1x d1x n1y d1y n2x d2x n2y d2y : Int} {p1x p1y p2x p2y : Option Addr} {x1 y1 x2 y2 : Rat} {k1x k1y k2x k2y : Nat} {v : Bool} [h1x : CF w (.agg #[.int .i64 n1x, .int .i64 d1x, .pointer p1x]) x1 k1x] [h1y : CF w (.agg #[.int .i64 n1y, .int .i64 d1y, .pointer p1y]) y1 k1y] [h2x : CF w (.agg #[.int .i64 n2x, .int .i64 d2x, .pointer p2x]) x2 k2x] [h2y : CF w (.agg #[.int .i64 n2y, .int .i64 d2y, .pointer p2y]) y2 k2y] (b : k1x ≤ 20000 ∧ k1y ≤ 20000 ∧ k2x ≤ 20000 ∧ k2y ≤ 20000) (hv : Hid (decide ((x1, y1) = (x2, y2)) = v)) :
    Calls Tryz.prog 108 #[.agg #[.int .i64 n1x, .int .i64 d1x, .pointer p1x, .int .i64 n1y, .int .i64 d1y, .pointer p1y], .agg #[.int .i64 n2x, .int .i64 d2x, .pointer p2x, .int .i64 n2y, .int .i64 d2y, .pointer p2y]] w (fun e w' => e = .returned (.bool v) ∧ Below w.heap.size w w') :=
  (ptEqualC b).mono fun e w' ⟨h1, h2⟩ => ⟨by rw [h1, ← hv.out]; congr 2; rw [Bool.eq_iff_iff]; simp, h2⟩
def FirstRet (w : World) (L : List (Rat × Rat)) (p : Rat × Rat) (e : Ending) (w' : World) : Prop := ∃ m : Nat, e = .returned (.int .i64 (m : Int)) ∧ FirstAt L p m ∧ Below w.heap.size w w'
theorem Calls.cFirst {P : Program} {f : FuncId} {args : Array Value} {w : World} {L : List (Rat × Rat)} {p : Rat × Rat} {K : Ending → World → Prop} (h : Calls P f args w (FirstRet w L p))
    (hK : ∀ w' [Kp1 w w'] (m : Nat), FirstAt L p m → K (.returned (.int .i64 (m : Int))) w') : Calls P f args w K := by
  refine h.mono ?_
  rintro e w' ⟨m, rfl, hm, hb⟩
  exact @hK w' ⟨hb⟩ m hm
theorem firstC {w w0 : World} {a : Option Addr} {n c : Nat} {V : List FV} {L : List (Rat × Rat)} {k : Nat} [hs : Sl w (.slice a n c) V.length (rowF V) w0] [hp : PsF w V L k] {nx dx ny dy : Int} {px py : Option Addr} {x y : Rat} {kx ky : Nat} [hx : CF w (.agg #[.int .i64 nx, .int .i64 dx, .pointer px]) x kx] [hy : CF w (.agg #[.int .i64 ny, .int .i64 dy, .pointer py]) y ky] (b : k ≤ 20000 ∧ kx ≤ 20000 ∧ ky ≤ 20000) (hV : V.length ≤ 1000000) (hin : ∃ j, j < V.length ∧ pg L j = (x, y)) :
    Calls Tryz.prog 144 #[.slice a n c, .agg #[.int .i64 nx, .int .i64 dx, .pointer px, .int .i64 ny, .int .i64 dy, .pointer py]] w (FirstRet w L (x, y)) := by
  obtain rfl := hs.len; obtain ⟨j0, hj0, hj1⟩ := hin; obtain ⟨g, rfl, hA⟩ := hs.form (by omega); have hlen := Lib.hid hp.len; go_enter Tryz.func144, Tryz.ntmps144; go_wp2_with fail
  go_loopw [9] (fun i wr => ∃ q : Nat, i = .int .i64 (q : Int) ∧ q ≤ V.length ∧ Kp w wr ∧ Bx wr w.heap.size 152 [.int .i64 nx, .int .i64 dx, .pointer px, .int .i64 ny, .int .i64 dy, .pointer py] ∧ ∀ j, j < q → pg L j ≠ (x, y)) (fun i _ => V.length - (intOf i).toNat)
  case atStart => exact ⟨0, rfl, by omega, inferInstance, inferInstance, fun j hj => by omega⟩
  case round =>
    obtain ⟨q, rfl, hq, i1, i2, hno⟩ := hrel; have kw := Kp1.mk i1.out
    have hlt : q < V.length := by
      rcases Nat.lt_or_ge q V.length with h | h
      · exact h
      · exact absurd hj1 (hno j0 (by omega))
    have hlt' : (q : Int) < V.length := (by omega); have lq : LtN q V.length := ⟨hlt⟩
    have ew : IntKind.i64.wrap ((q : Int) + 1) = (q : Int) + 1 := wr_in (by omega) (by omega)
    by_cases he : pg L q = (x, y)
    · have hv : Hid (decide (((pg L q).1, (pg L q).2) = (x, y)) = true) := Lib.hid (by rw [show ((pg L q).1, (pg L q).2) = pg L q from rfl, he]; simp)
      go_wp2_with (first
        | (go_at_call 108; (with_reducible refine Calls.cE (ptEqualV (by omega) hv) ?_); intros))
      go_ret
      exact ⟨q, rfl, ⟨by have := hlen.out; omega, he, hno⟩, (inferInstance : Kp w _).out⟩
    · have hv : Hid (decide (((pg L q).1, (pg L q).2) = (x, y)) = false) := Lib.hid (by rw [show ((pg L q).1, (pg L q).2) = pg L q from rfl]; simpa using he)
      go_wp2_with (first
        | (go_at_call 108; (with_reducible refine Calls.cE (ptEqualV (by omega) hv) ?_); intros))
      go_roundw
      case rel => exact ⟨q + 1, by go_num, by omega, inferInstance, inferInstance, fun j hj => by
        rcases Nat.lt_or_ge j q with h | h
        · exact hno j h
        · have : j = q := by omega
          subst this; exact he⟩
      case measure => simp [intOf]; omega
theorem rlZ {w : World} {g : Bool} {a : Option Addr} {l c : Nat} {z : Int} {k : Nat} (h : CZ w (.agg #[.bool g, .slice a l c]) z k) : RL w (.slice a l c) (nf z.natAbs) := ⟨(zz_of h).2.1⟩
theorem nrmZ {w : World} {g : Bool} {a : Option Addr} {l c : Nat} {z : Int} {k : Nat} (h : CZ w (.agg #[.bool g, .slice a l c]) z k) : nrmI g (nf z.natAbs) = true := by
  have hg := (zz_of h).1
  unfold nrmI; rw [normalB_nfx, Bool.true_and]
  by_cases hz : z < 0
  · have : 0 < (nf z.natAbs).length := nf_len_pos (by omega)
    simp [this]
  · rw [hg, decide_eq_false hz]; rfl
theorem nrmA {w : World} {g : Bool} {a aa : Option Addr} {l c ll cc : Nat} {x : Rat} {k : Nat} (h : CA w (.agg #[.bool g, .slice a l c, .slice aa ll cc]) x k) : RL w (.slice a l c) (nf x.num.natAbs) ∧ RL w (.slice aa ll cc) (nf x.den) ∧ nrmQ g (nf x.num.natAbs) (nf x.den) = true := by
  have i1 := h.num
  have i2 := h.den
  refine ⟨rlZ i1, ⟨i2.out.1⟩, ?_⟩
  unfold nrmQ
  have h0 : 0 < (nf x.den).length := nf_len_pos x.den_nz
  simp only [nrmZ i1, normalB_nfx, val_nf, Bool.true_and, Bool.and_eq_true, decide_eq_true_eq]; exact ⟨h0, x.reduced⟩
theorem fracNormalA9 {w : World} {g1 : Bool} {a1 : Option Addr} {l1 c1 : Nat} {aa1 : Option Addr} {ll1 cc1 : Nat} {x : Rat} {k1 : Nat} [h1 : CA w (.agg #[.bool g1, .slice a1 l1 c1, .slice aa1 ll1 cc1]) x k1] (b : k1 ≤ 80000) :
    Calls Tryz.prog 200 #[.agg #[.bool g1, .slice a1 l1 c1, .slice aa1 ll1 cc1]] w (fun e w' => e = .returned (.bool true) ∧ Below w.heap.size w w') := by
  obtain ⟨i1, i2, i3⟩ := nrmA h1
  have e1 : (nf x.num.natAbs).length ≤ k1 := by have := (zz_of h1.num).2.2; exact this
  have e2 : (nf x.den).length ≤ k1 := h1.den.out.2
  exact fracNormalL (L := nf x.num.natAbs) (LL := nf x.den) ⟨by omega, by omega⟩ (Lib.hid i3)
theorem gNormalA {w : World} {g1x g1y : Bool} {a1x aa1x a1y aa1y : Option Addr} {l1x c1x ll1x cc1x l1y c1y ll1y cc1y k1x k1y : Nat} {x y : Rat} [h1x : CA w (.agg #[.bool g1x, .slice a1x l1x c1x, .slice aa1x ll1x cc1x]) x k1x] [h1y : CA w (.agg #[.bool g1y, .slice a1y l1y c1y, .slice aa1y ll1y cc1y]) y k1y] (b : k1x ≤ 80000 ∧ k1y ≤ 80000) :
    Calls Tryz.prog 142 #[.agg #[.bool g1x, .slice a1x l1x c1x, .slice aa1x ll1x cc1x, .bool g1y, .slice a1y l1y c1y, .slice aa1y ll1y cc1y]] w (fun e w' => e = .returned (.bool true) ∧ Below w.heap.size w w') := by
  go_enter Tryz.func142, Tryz.ntmps142
  go_wp2_with (first
    | (go_at_call 200; (with_reducible refine Calls.cE (fracNormalA9 (by omega)) ?_); intros))
  go_ret; exact E.fin rfl
theorem take_pg {L : List (Rat × Rat)} {q : Nat} (h : q < L.length) : L.take (q + 1) = L.take q ++ [((pg L q).1, (pg L q).2)] := by
  rw [List.take_succ_eq_append_getElem h, pg_get h]
theorem toPsC {w w0 : World} {a : Option Addr} {n c : Nat} {V : List AV} {L : List (Rat × Rat)} {k : Nat} [hs : Sl w (.slice a n c) V.length (rowA V) w0] [hp : PsQ w V L k] (b : k ≤ 400000) (hV : V.length ≤ 900000) :
    Calls Tryz.prog 27 #[.slice a n c] w (PsARet w L (k + 1)) := by
  obtain rfl := hs.len; have hlen := Lib.hid hp.len; go_enter Tryz.func27, Tryz.ntmps27; go_wp2_with fail
  go_loopw [8, 3] (fun i o wr => ∃ (q : Nat) (U : List AV), i = .int .i64 (q : Int) ∧ q ≤ V.length ∧ Rn wr o 31 6 U.length (rowA U) w.heap.size wr ∧ Hid (U.length = q) ∧ PsA wr U (L.take q) (k + 1) ∧ Kp w wr) (fun i _ _ => V.length - (intOf i).toNat)
  case atStart => exact ⟨0, [], rfl, by omega, Rn.nil (Nat.le_refl _), Lib.hid rfl, PsA.nil, inferInstance⟩
  case round =>
    obtain ⟨q, U, rfl, hq, i1, hU, i2, i3⟩ := hrel; have kw := Kp1.mk i3.out
    by_cases hlt : q < V.length
    · obtain ⟨g, rfl, hA⟩ := hs.form (by omega); have hlt' : (q : Int) < V.length := (by omega); have lq : LtN q V.length := ⟨hlt⟩
      have ew : IntKind.i64.wrap ((q : Int) + 1) = (q : Int) + 1 := wr_in (by omega) (by omega)
      go_wp2_with (first
        | (go_at_call 21; (with_reducible refine Calls.cPA (toPC (by omega)) ?_); intro w1 _ gx ax lx cx aax llx ccx gy ay ly cy aay lly ccy i7 i8)
        | (at_builtin; go_loud (refine app_rn1 (v := u3) rfl (.tmp 12) (.tmp 15) 55 rfl Tryz.underlying55 info_a rfl (by decide) (by decide) (by decide) inferInstance rfl (rowA_nd _) rfl (by rfl) ?h1 ?h2 (by first | omega | (have := hU.out; omega)) ?_); (case h1 => exact AV.one ⟨_, _, _, _, _, _, _, _, _, _, _, _, _, _⟩); (case h2 => exact AV.nd ⟨_, _, _, _, _, _, _, _, _, _, _, _, _, _⟩); intro g2 c2 w2 i9 i10 i11))
      go_roundw
      case rel => exact ⟨q + 1, U ++ [⟨gx, ax, lx, cx, aax, llx, ccx, gy, ay, ly, cy, aay, lly, ccy⟩], by go_num, by omega, Rn.cast2 (inferInstance) (by simp) (by rw [rowA_snoc]; rfl), Lib.hid (by rw [List.length_append, hU.out]; rfl), by rw [take_pg (by have := hlen.out; omega)]; exact PsA.add (by omega) (by omega), inferInstance⟩
      case measure => simp [intOf]; omega
    · obtain rfl : q = V.length := by omega
      rw [List.take_of_length_le (by have := hlen.out; omega)] at i2; obtain ⟨a3, c3, rfl⟩ := i1.slice; go_wp2_with fail; go_ret; exact PsARet.fin (V := U) rfl (by omega)
end
section
def cmpR (x1 y1 x2 y2 : Rat) : Int := if isgn (x1 - x2).num = 0 then isgn (y1 - y2).num else isgn (x1 - x2).num
theorem refCompareC {w : World} {g1x g1y g2x g2y : Bool} {a1x aa1x a1y aa1y a2x aa2x a2y aa2y : Option Addr} {l1x c1x ll1x cc1x l1y c1y ll1y cc1y l2x c2x ll2x cc2x l2y c2y ll2y cc2y k1x k1y k2x k2y : Nat} {x1 y1 x2 y2 : Rat} [h1x : CQ w (.agg #[.bool g1x, .slice a1x l1x c1x, .slice aa1x ll1x cc1x]) x1 k1x] [h1y : CQ w (.agg #[.bool g1y, .slice a1y l1y c1y, .slice aa1y ll1y cc1y]) y1 k1y] [h2x : CQ w (.agg #[.bool g2x, .slice a2x l2x c2x, .slice aa2x ll2x cc2x]) x2 k2x] [h2y : CQ w (.agg #[.bool g2y, .slice a2y l2y c2y, .slice aa2y ll2y cc2y]) y2 k2y] (b : k1x ≤ 9000 ∧ k1y ≤ 9000 ∧ k2x ≤ 9000 ∧ k2y ≤ 9000) :
    Calls Tryz.prog 88 #[.agg #[.bool g1x, .slice a1x l1x c1x, .slice aa1x ll1x cc1x, .bool g1y, .slice a1y l1y c1y, .slice aa1y ll1y cc1y], .agg #[.bool g2x, .slice a2x l2x c2x, .slice aa2x ll2x cc2x, .bool g2y, .slice a2y l2y c2y, .slice aa2y ll2y cc2y]] w (fun e w' => e = .returned (.int .i64 (cmpR x1 y1 x2 y2)) ∧ Below w.heap.size w w') := by
  obtain ⟨q1, q2⟩ := isgn_bd (x1 - x2).num
  by_cases hc : isgn (x1 - x2).num = 0
  · have HE : Hid (cmpR x1 y1 x2 y2 = isgn (y1 - y2).num) := if_pos hc
    have HC := Lib.hid hc; clear hc q1 q2; go_enter Tryz.func88, Tryz.ntmps88
    go_wp2_with (first
    | (go_at_call 78; (with_reducible refine Calls.cE (numCV (by omega) HC) ?_); intros)
    | (go_at_call 78; (with_reducible refine Calls.cE (numCC (by omega)) ?_); intros))
    go_ret
    exact E.fin (by rw [HE.out]; rfl)
  · have HE : Hid (cmpR x1 y1 x2 y2 = isgn (x1 - x2).num) := if_neg hc
    obtain ⟨c, hC⟩ : ∃ c, isgn (x1 - x2).num = c := ⟨_, rfl⟩; rw [hC] at HE hc q1 q2; have HC := Lib.hid hC
    have q : (c == 0) = false := by rw [beq_eq_false_iff_ne]; exact hc
    clear hC hc; go_enter Tryz.func88, Tryz.ntmps88
    go_wp2_with (first
    | (go_at_call 78; (with_reducible refine Calls.cE (numCV (by omega) HC) ?_); intros)
    | (go_at_call 78; (with_reducible refine Calls.cE (numCC (by omega)) ?_); intros))
    go_ret
    exact E.fin (by rw [HE.out]; rfl)
theorem orientV {w : World} {v : Int} {n1x d1x n1y d1y n2x d2x n2y d2y n3x d3x n3y d3y : Int} {p1x p1y p2x p2y p3x p3y : Option Addr} {x1 y1 x2 y2 x3 y3 : Rat} {k1x k1y k2x k2y k3x k3y : Nat} [h1x : CF w (.agg #[.int .i64 n1x, .int .i64 d1x, .pointer p1x]) x1 k1x] [h1y : CF w (.agg #[.int .i64 n1y, .int .i64 d1y, .pointer p1y]) y1 k1y] [h2x : CF w (.agg #[.int .i64 n2x, .int .i64 d2x, .pointer p2x]) x2 k2x] [h2y : CF w (.agg #[.int .i64 n2y, .int .i64 d2y, .pointer p2y]) y2 k2y] [h3x : CF w (.agg #[.int .i64 n3x, .int .i64 d3x, .pointer p3x]) x3 k3x] [h3y : CF w (.agg #[.int .i64 n3y, .int .i64 d3y, .pointer p3y]) y3 k3y] (b : k1x ≤ 5000 ∧ k1y ≤ 5000 ∧ k2x ≤ 5000 ∧ k2y ≤ 5000 ∧ k3x ≤ 5000 ∧ k3y ≤ 5000) (hv : Hid (orientR x1 y1 x2 y2 x3 y3 = v)) :
    Calls Tryz.prog 110 #[.agg #[.int .i64 n1x, .int .i64 d1x, .pointer p1x, .int .i64 n1y, .int .i64 d1y, .pointer p1y], .agg #[.int .i64 n2x, .int .i64 d2x, .pointer p2x, .int .i64 n2y, .int .i64 d2y, .pointer p2y], .agg #[.int .i64 n3x, .int .i64 d3x, .pointer p3x, .int .i64 n3y, .int .i64 d3y, .pointer p3y]] w (fun e w' => e = .returned (.int .i64 v) ∧ Below w.heap.size w w') := by
  rw [← hv.out]; exact orientC b
theorem refOrientV {w : World} {v : Int} {g1x g1y g2x g2y g3x g3y : Bool} {a1x aa1x a1y aa1y a2x aa2x a2y aa2y a3x aa3x a3y aa3y : Option Addr} {l1x c1x ll1x cc1x l1y c1y ll1y cc1y l2x c2x ll2x cc2x l2y c2y ll2y cc2y l3x c3x ll3x cc3x l3y c3y ll3y cc3y k1x k1y k2x k2y k3x k3y : Nat} {x1 y1 x2 y2 x3 y3 : Rat} [h1x : CQ w (.agg #[.bool g1x, .slice a1x l1x c1x, .slice aa1x ll1x cc1x]) x1 k1x] [h1y : CQ w (.agg #[.bool g1y, .slice a1y l1y c1y, .slice aa1y ll1y cc1y]) y1 k1y] [h2x : CQ w (.agg #[.bool g2x, .slice a2x l2x c2x, .slice aa2x ll2x cc2x]) x2 k2x] [h2y : CQ w (.agg #[.bool g2y, .slice a2y l2y c2y, .slice aa2y ll2y cc2y]) y2 k2y] [h3x : CQ w (.agg #[.bool g3x, .slice a3x l3x c3x, .slice aa3x ll3x cc3x]) x3 k3x] [h3y : CQ w (.agg #[.bool g3y, .slice a3y l3y c3y, .slice aa3y ll3y cc3y]) y3 k3y] (b : k1x ≤ 1000 ∧ k1y ≤ 1000 ∧ k2x ≤ 1000 ∧ k2y ≤ 1000 ∧ k3x ≤ 1000 ∧ k3y ≤ 1000) (hv : Hid (orientR x1 y1 x2 y2 x3 y3 = v)) :
    Calls Tryz.prog 113 #[.agg #[.bool g1x, .slice a1x l1x c1x, .slice aa1x ll1x cc1x, .bool g1y, .slice a1y l1y c1y, .slice aa1y ll1y cc1y], .agg #[.bool g2x, .slice a2x l2x c2x, .slice aa2x ll2x cc2x, .bool g2y, .slice a2y l2y c2y, .slice aa2y ll2y cc2y], .agg #[.bool g3x, .slice a3x l3x c3x, .slice aa3x ll3x cc3x, .bool g3y, .slice a3y l3y c3y, .slice aa3y ll3y cc3y]] w (fun e w' => e = .returned (.int .i64 v) ∧ Below w.heap.size w w') := by
  rw [← hv.out]; exact refOrientC (by omega)
end
section
def cmpP (p q : Rat × Rat) : Int := cmpR p.1 p.2 q.1 q.2
end
section
theorem cmpP_lt {p q : Rat × Rat} : cmpP p q < 0 ↔ p.1 < q.1 ∨ (p.1 = q.1 ∧ p.2 < q.2) := by
  unfold cmpP cmpR
  have b1 := isgn_bd (p.1 - q.1).num
  have b2 := isgn_bd (p.2 - q.2).num
  have n1 := @isg_neg (p.1 - q.1)
  have n2 := @isg_neg (p.2 - q.2)
  have z1 := @isg_zero (p.1 - q.1)
  split
  · rename_i h
    have hz := z1.1 h
    constructor
    · intro hl
      have : isgn (p.2 - q.2).num = -1 := by omega
      have := n2.1 this
      right; constructor <;> grind
    · rintro (hl | ⟨_, hl⟩)
      · grind
      · have := n2.2 (by grind); omega
  · rename_i h
    constructor
    · intro hl
      have : isgn (p.1 - q.1).num = -1 := by omega
      have := n1.1 this
      left; grind
    · rintro (hl | ⟨hl, _⟩)
      · have := n1.2 (by grind); omega
      · exact absurd (z1.2 (by grind)) h
theorem cmpP_zero {p q : Rat × Rat} : cmpP p q = 0 ↔ p = q := by
  unfold cmpP cmpR
  have z1 := @isg_zero (p.1 - q.1)
  have z2 := @isg_zero (p.2 - q.2)
  split
  · rename_i h
    have hz := z1.1 h
    rw [z2, Prod.ext_iff]; constructor
    · intro h2; constructor <;> grind
    · rintro ⟨_, h2⟩; grind
  · rename_i h
    constructor
    · intro h2; exact absurd h2 h
    · rintro rfl; exact absurd (z1.2 (by grind)) h
theorem cmpP_gt {p q : Rat × Rat} : 0 < cmpP p q ↔ cmpP q p < 0 := by
  have h0 := @cmpP_zero p q
  have h1 := @cmpP_lt p q
  have h2 := @cmpP_lt q p
  constructor
  · intro h; rw [h2]
    have n1 : ¬ (p.1 < q.1 ∨ (p.1 = q.1 ∧ p.2 < q.2)) := fun hh => by have := h1.2 hh; omega
    have n0 : p ≠ q := fun e => by have := h0.2 e; omega
    rw [Ne, Prod.ext_iff] at n0
    grind
  · intro h; rw [h2] at h
    have n1 : ¬ cmpP p q < 0 := fun hh => by have := h1.1 hh; grind
    have n0 : cmpP p q ≠ 0 := fun hh => by
      have := h0.1 hh
      subst this
      grind
    omega
theorem cmpP_trans {p q r : Rat × Rat} (h1 : cmpP p q < 0) (h2 : cmpP q r < 0) : cmpP p r < 0 := by
  rw [cmpP_lt] at h1 h2 ⊢; grind
def Asc (M : List (Rat × Rat)) : Prop := List.Pairwise (fun p q => cmpP p q < 0) M
def insP (M : List (Rat × Rat)) (i : Nat) (p : Rat × Rat) : List (Rat × Rat) := M.take i ++ p :: M.drop i
theorem insP_len {M : List (Rat × Rat)} {i : Nat} {p : Rat × Rat} (hi : i ≤ M.length) : (insP M i p).length = M.length + 1 := by simp [insP]; omega
theorem insP_mem {M : List (Rat × Rat)} {i : Nat} {p x : Rat × Rat} : x ∈ insP M i p ↔ x ∈ M ∨ x = p := by
  rw [insP, List.mem_append, List.mem_cons]; constructor
  · rintro (h | h | h)
    · exact .inl (List.mem_of_mem_take h)
    · exact .inr h
    · exact .inl (List.mem_of_mem_drop h)
  · rintro (h | h)
    · rw [← List.take_append_drop i M, List.mem_append] at h
      rcases h with h | h
      · exact .inl h
      · exact .inr (.inr h)
    · exact .inr (.inl h)
structure Place (M : List (Rat × Rat)) (p : Rat × Rat) (i : Nat) : Prop where
  le : i ≤ M.length
  below : ∀ j, j < i → cmpP (pg M j) p < 0
theorem asc_lt {M : List (Rat × Rat)} (h : Asc M) {i j : Nat} (hij : i < j) (hj : j < M.length) : cmpP (pg M i) (pg M j) < 0 := by
  rw [pg_get (by omega), pg_get hj]; exact List.pairwise_iff_getElem.1 h i j (by omega) hj hij
theorem mem_pg {M : List (Rat × Rat)} {x : Rat × Rat} : x ∈ M ↔ ∃ j, j < M.length ∧ pg M j = x := by
  have := mem_take_pg (L := M) (k := M.length) (Nat.le_refl _) (p := x)
  rwa [List.take_length] at this
theorem place_new {M : List (Rat × Rat)} {p : Rat × Rat} {i : Nat} (h : Asc M) (hp : Place M p i) (he : i = M.length ∨ 0 < cmpP (pg M i) p) : p ∉ M ∧ Asc (insP M i p) := by
  have hab : ∀ j, i ≤ j → j < M.length → cmpP p (pg M j) < 0 := by
    intro j h1 h2
    rcases he with he | he
    · omega
    · rw [cmpP_gt] at he
      rcases Nat.eq_or_lt_of_le h1 with rfl | h3
      · exact he
      · exact cmpP_trans he (asc_lt h h3 h2)
  constructor
  · intro hm; obtain ⟨j, hj, rfl⟩ := mem_pg.1 hm
    have hz : cmpP (pg M j) (pg M j) = 0 := cmpP_zero.2 rfl
    rcases Nat.lt_or_ge j i with hlt | hge
    · have := hp.below j hlt; omega
    · have := hab j hge hj; omega
  · unfold Asc insP; rw [List.pairwise_append, List.pairwise_cons]
    refine ⟨h.sublist (List.take_sublist _ _), ⟨?_, h.sublist (List.drop_sublist _ _)⟩, ?_⟩
    · intro x hx; obtain ⟨j, hj, rfl⟩ := List.mem_iff_getElem.1 hx; rw [List.getElem_drop]; rw [List.length_drop] at hj
      have := hab (i + j) (by omega) (by omega)
      rwa [pg_get (by omega)] at this
    · intro x hx y hy; obtain ⟨j, hj, rfl⟩ := (mem_take_pg hp.le).1 hx
      rcases List.mem_cons.1 hy with rfl | hy
      · exact hp.below j hj
      · obtain ⟨l, hl, rfl⟩ := List.mem_iff_getElem.1 hy; rw [List.length_drop] at hl
        have := asc_lt h (i := j) (j := i + l) (by omega) (by omega)
        rw [pg_get (L := M) (i := i + l) (by omega)] at this
        rw [List.getElem_drop]; exact this
theorem place_old {M : List (Rat × Rat)} {p : Rat × Rat} {i : Nat} (hi : i < M.length) (h1 : ¬ cmpP (pg M i) p < 0) (h2 : ¬ 0 < cmpP (pg M i) p) : p ∈ M :=
  mem_pg.2 ⟨i, hi, cmpP_zero.1 (by omega)⟩
structure SortOf (L : List (Rat × Rat)) (q : Nat) (M : List (Rat × Rat)) : Prop where
  asc : Asc M
  mem : ∀ x, x ∈ M ↔ x ∈ L.take q
  len : M.length = dsc L q
theorem SortOf.nil (L : List (Rat × Rat)) : SortOf L 0 [] := ⟨List.Pairwise.nil, fun x => by simp, rfl⟩
theorem take_succ_mem {L : List (Rat × Rat)} {q : Nat} (hq : q < L.length) {x : Rat × Rat} : x ∈ L.take (q + 1) ↔ x ∈ L.take q ∨ x = pg L q := by
  rw [List.take_succ_eq_append_getElem hq, List.mem_append, List.mem_singleton, pg_get hq]
theorem SortOf.new {L M : List (Rat × Rat)} {q i : Nat} (h : SortOf L q M) (hq : q < L.length) (hp : Place M (pg L q) i) (he : i = M.length ∨ 0 < cmpP (pg M i) (pg L q)) : SortOf L (q + 1) (insP M i (pg L q)) := by
  obtain ⟨h1, h2⟩ := place_new h.asc hp he
  refine ⟨h2, fun x => by rw [insP_mem, h.mem, take_succ_mem hq], ?_⟩
  rw [insP_len hp.le, h.len, dsc, if_neg]
  rw [← h.mem]; exact h1
theorem SortOf.old {L M : List (Rat × Rat)} {q i : Nat} (h : SortOf L q M) (hq : q < L.length) (hi : i < M.length) (h1 : ¬ cmpP (pg M i) (pg L q) < 0) (h2 : ¬ 0 < cmpP (pg M i) (pg L q)) : SortOf L (q + 1) M := by
  have hm := place_old hi h1 h2
  refine ⟨h.asc, fun x => by
    rw [h.mem, take_succ_mem hq]; constructor
    · exact .inl
    · rintro (hx | rfl)
      · exact hx
      · rwa [← h.mem], ?_⟩
  rw [h.len, dsc, if_pos (by rwa [← h.mem]), Nat.add_zero]
def Steps (L : List (Rat × Rat)) : Prop := ∀ i, i + 1 < L.length → pg L i ≠ pg L (i + 1)
theorem Steps.nil : Steps [] := fun i h => by simp at h
theorem Steps.snoc {L : List (Rat × Rat)} {p : Rat × Rat} (h : Steps L) (hp : L = [] ∨ pg L (L.length - 1) ≠ p) : Steps (L ++ [p]) := by
  intro i hi; rw [List.length_append, List.length_singleton] at hi
  rcases Nat.lt_or_ge (i + 1) L.length with hlt | hge
  · rw [pg_get (by simp; omega), pg_get (by simp; omega), List.getElem_append_left (by omega), List.getElem_append_left (by omega)]
    have := h i hlt
    rwa [pg_get (by omega), pg_get (by omega)] at this
  · have e : i + 1 = L.length := by omega
    rw [pg_get (i := i) (by simp; omega), List.getElem_append_left (by omega)]; rw [pg_get (i := i + 1) (by simp; omega), List.getElem_append_right (by omega)]
    rcases hp with hp | hp
    · subst hp; simp at e
    · rw [pg_get (by omega)] at hp; simp only [e, Nat.sub_self, List.getElem_singleton]; have e2 : L.length - 1 = i := (by omega)
      simpa only [e2] using hp
theorem Steps.take {L : List (Rat × Rat)} (h : Steps L) (k : Nat) : Steps (L.take k) := by
  intro i hi
  have hl := hi
  rw [List.length_take] at hl; rw [pg_get (by omega), pg_get hi, List.getElem_take, List.getElem_take]
  have := h i (by omega)
  rwa [pg_get (by omega), pg_get (by omega)] at this
theorem Steps.ring {L : List (Rat × Rat)} (h : Steps L) (h3 : 3 ≤ dsc L L.length) (hc : ¬ pg L 0 = pg L (L.length - 1)) : RingOK L := by
  refine ⟨h3, fun i hi => ?_⟩
  rcases Nat.lt_or_ge (i + 1) L.length with hlt | hge
  · rw [Nat.mod_eq_of_lt hlt]; exact h i hlt
  · have e : i + 1 = L.length := by omega
    rw [e, Nat.mod_self]
    have : i = L.length - 1 := by omega
    rw [this]
    exact fun hh => hc hh.symm
theorem dsc_le (L : List (Rat × Rat)) (k : Nat) : dsc L k ≤ k := by
  induction k with
  | zero => exact Nat.le_refl _
  | succ k ih => rw [dsc]; split <;> omega
theorem ring3 {p q r : Rat × Rat} (h1 : q ≠ p) (h2 : r ≠ p) (h3 : r ≠ q) : RingOK [p, q, r] := by
  refine ⟨dsc_three (by simp) h1 h2 h3, fun i hi => ?_⟩
  simp only [List.length_cons, List.length_nil] at hi
  rcases (by omega : i = 0 ∨ i = 1 ∨ i = 2) with rfl | rfl | rfl
  · exact fun e => h1 e.symm
  · exact fun e => h3 e.symm
  · have e : (2 + 1) % [p, q, r].length = 0 := by simp
    rw [e]; exact h2
theorem ring4 {p q r s : Rat × Rat} (h1 : q ≠ p) (h2 : r ≠ p) (h3 : r ≠ q) (h4 : s ≠ r) (h5 : s ≠ p) : RingOK [p, q, r, s] := by
  refine ⟨dsc_three (by simp) h1 h2 h3, fun i hi => ?_⟩
  simp only [List.length_cons, List.length_nil] at hi
  rcases (by omega : i = 0 ∨ i = 1 ∨ i = 2 ∨ i = 3) with rfl | rfl | rfl | rfl
  · exact fun e => h1 e.symm
  · exact fun e => h3 e.symm
  · exact fun e => h4 e.symm
  · have e : (3 + 1) % [p, q, r, s].length = 0 := by simp
    rw [e]; exact h5
end
section
def sumN (f : Nat → Rat) : Nat → Rat
  | 0 => 0
  | n + 1 => sumN f n + f n
def crs (p q : Rat × Rat) : Rat := p.1 * q.2 - p.2 * q.1
def pc (L : List (Rat × Rat)) (i : Nat) : Rat × Rat := pg L (i % L.length)
theorem pc_lt {L : List (Rat × Rat)} {i : Nat} (h : i < L.length) : pc L i = pg L i := by rw [pc, Nat.mod_eq_of_lt h]
def sumC (L : List (Rat × Rat)) (q : Nat) : Rat := sumN (fun i => crs (pc L i) (pc L (i + 1))) q
theorem sumC_succ {L : List (Rat × Rat)} {q : Nat} (h : q < L.length) : sumC L (q + 1) = sumC L q + crs (pg L q) (pg L ((q + 1) % L.length)) := by
  rw [sumC, sumN, ← sumC, pc_lt h, pc]
def areaL (L : List (Rat × Rat)) : Rat := sumC L L.length / 2
def det3 (p q r : Rat × Rat) : Rat := (q.1 - p.1) * (r.2 - p.2) - (q.2 - p.2) * (r.1 - p.1)
theorem det3_or (p q r : Rat × Rat) : orientR p.1 p.2 q.1 q.2 r.1 r.2 = isgn (det3 p q r).num := rfl
def CvxL (L : List (Rat × Rat)) : Prop := ∀ i, i < L.length → ∀ k, k < L.length → k ≠ i → k ≠ (i + 1) % L.length → 0 < det3 (pg L i) (pg L ((i + 1) % L.length)) (pg L k)
end
section
theorem rgcd_zero : rgcd 0 0 = 0 := by decide +kernel
theorem rgcd_mul (x y : Rat) {t : Rat} (ht : 0 < t) : rgcd (x * t) (y * t) = rgcd x y * t := by
  by_cases h : x = 0 ∧ y = 0
  · obtain ⟨rfl, rfl⟩ := h; rw [Rat.zero_mul, rgcd_zero, Rat.zero_mul]
  · have ht0 : t ≠ 0 := Rat.ne_of_gt ht
    have h' : ¬ (x * t = 0 ∧ y * t = 0) := by
      rintro ⟨h1, h2⟩
      exact h ⟨(Rat.mul_eq_zero.1 h1).resolve_right ht0, (Rat.mul_eq_zero.1 h2).resolve_right ht0⟩
    have p1 := rgcd_pos x y h
    have p2 := rgcd_pos _ _ h'
    have i1 := Rat.mul_inv_cancel _ (Rat.ne_of_gt p1)
    have i2 := Rat.mul_inv_cancel _ (Rat.ne_of_gt p2)
    have q1 := primX_mul x y
    have q2 := primX_mul y x
    have q3 := primX_mul (x * t) (y * t)
    have q4 := primX_mul (y * t) (x * t)
    rw [rgcd_comm] at q2 q4
    have hu := coprime_uniq (prim_gcd _ _ h') (prim_gcd x y h) (t := t * rgcd x y * (rgcd (x * t) (y * t))⁻¹) (mul_ps (mul_ps ht p1) (Rat.inv_pos.2 p2))
      (by rw [q3, q1]; grind) (by rw [q4, q2]; grind)
    rw [hu.1, q1] at q3; rw [hu.2, q2] at q4
    generalize rgcd (x * t) (y * t) = g' at *
    generalize rgcd x y = g at *
    rcases Classical.em (x = 0) with hx | hx
    · have hy : y ≠ 0 := fun e => h ⟨hx, e⟩
      have : y * (g' - g * t) = 0 := by grind
      rcases Rat.mul_eq_zero.1 this with h1 | h1
      · exact absurd h1 hy
      · grind
    · have : x * (g' - g * t) = 0 := by grind
      rcases Rat.mul_eq_zero.1 this with h1 | h1
      · exact absurd h1 hx
      · grind
theorem rgcd_int (a b : Int) : rgcd (a : Rat) (b : Rat) = (((Nat.gcd a.natAbs b.natAbs : Nat) : Int) : Rat) := by
  rw [rgcd1 (by rfl) (by rfl)]; rfl
def lnG (a b c : Rat) : Rat := rgcd (rgcd a b) c
def lnK (x a b c : Rat) : Rat := x * (lnG a b c)⁻¹
theorem lnG_pos {a b : Rat} (c : Rat) (h : ¬ (a = 0 ∧ b = 0)) : 0 < lnG a b c := rgcd_pos _ _ (fun e => by have := rgcd_pos a b h; rw [e.1] at this; exact absurd this (by decide))
theorem lnG_mul (a b c : Rat) {t : Rat} (ht : 0 < t) : lnG (a * t) (b * t) (c * t) = lnG a b c * t := by
  unfold lnG; rw [rgcd_mul _ _ ht, rgcd_mul _ _ ht]
theorem lnK_mul (x a b c : Rat) {t : Rat} (ht : 0 < t) : lnK (x * t) (a * t) (b * t) (c * t) = lnK x a b c := by
  unfold lnK; rw [lnG_mul _ _ _ ht, Rat.inv_mul_rev]
  have := Rat.mul_inv_cancel t (Rat.ne_of_gt ht)
  grind
def gcd3 (a b c : Int) : Nat := Nat.gcd (Nat.gcd a.natAbs b.natAbs) c.natAbs
theorem lnG_int (a b c : Int) : lnG (a : Rat) (b : Rat) (c : Rat) = ((gcd3 a b c : Nat) : Int) := by
  unfold lnG gcd3; rw [rgcd_int, rgcd_int]; simp
theorem gcd3_dvd (a b c : Int) : ((gcd3 a b c : Nat) : Int) ∣ a ∧ ((gcd3 a b c : Nat) : Int) ∣ b ∧ ((gcd3 a b c : Nat) : Int) ∣ c := by
  refine ⟨?_, ?_, ?_⟩
  · rw [← Int.natAbs_dvd_natAbs, Int.natAbs_natCast]; exact Nat.dvd_trans (Nat.gcd_dvd_left _ _) (Nat.gcd_dvd_left _ _)
  · rw [← Int.natAbs_dvd_natAbs, Int.natAbs_natCast]; exact Nat.dvd_trans (Nat.gcd_dvd_left _ _) (Nat.gcd_dvd_right _ _)
  · rw [← Int.natAbs_dvd_natAbs, Int.natAbs_natCast]; exact Nat.gcd_dvd_right _ _
theorem gcd3_pos {a b : Int} (c : Int) (h : ¬ (a = 0 ∧ b = 0)) : 0 < gcd3 a b c := by
  unfold gcd3
  rcases Nat.eq_zero_or_pos (Nat.gcd (Nat.gcd a.natAbs b.natAbs) c.natAbs) with e | e
  · have e1 := Nat.eq_zero_of_gcd_eq_zero_left e
    exact absurd ⟨by have := Nat.eq_zero_of_gcd_eq_zero_left e1; omega, by have := Nat.eq_zero_of_gcd_eq_zero_right e1; omega⟩ h
  · exact e
theorem lnK_int {x a b c : Int} (h : ¬ (a = 0 ∧ b = 0)) (hx : ((gcd3 a b c : Nat) : Int) ∣ x) : lnK (x : Rat) (a : Rat) (b : Rat) (c : Rat) = ((x / ((gcd3 a b c : Nat) : Int) : Int) : Rat) := by
  unfold lnK; rw [lnG_int]; obtain ⟨k, hk⟩ := hx
  have hp := gcd3_pos c h
  have hz : ((gcd3 a b c : Nat) : Int) ≠ 0 := (by omega)
  generalize ((gcd3 a b c : Nat) : Int) = g at *
  subst hk; rw [Int.mul_ediv_cancel_left _ hz]
  have hr : (g : Rat) ≠ 0 := by exact_mod_cast hz
  have := Rat.mul_inv_cancel _ hr
  have e : ((g * k : Int) : Rat) = (g : Rat) * (k : Rat) := by push_cast; rfl
  rw [e]
  grind
theorem gcd3_one {a b c : Int} (h : ¬ (a = 0 ∧ b = 0)) : gcd3 (a / ((gcd3 a b c : Nat) : Int)) (b / ((gcd3 a b c : Nat) : Int)) (c / ((gcd3 a b c : Nat) : Int)) = 1 := by
  have hp := gcd3_pos c h
  obtain ⟨h1, h2, h3⟩ := gcd3_dvd a b c
  have key : ∀ x : Int, ((gcd3 a b c : Nat) : Int) ∣ x → (x / ((gcd3 a b c : Nat) : Int)).natAbs = x.natAbs / gcd3 a b c := fun x hx => int_div_abs _ _ (by rw [← Int.natAbs_dvd_natAbs, Int.natAbs_natCast] at hx; exact hx)
  have e : gcd3 (a / ((gcd3 a b c : Nat) : Int)) (b / ((gcd3 a b c : Nat) : Int)) (c / ((gcd3 a b c : Nat) : Int)) = Nat.gcd (Nat.gcd (a.natAbs / gcd3 a b c) (b.natAbs / gcd3 a b c)) (c.natAbs / gcd3 a b c) := by
    show Nat.gcd (Nat.gcd _ _) _ = _
    rw [key a h1, key b h2, key c h3]
  rw [e]; rw [← Int.natAbs_dvd_natAbs, Int.natAbs_natCast] at h1 h2 h3; rw [Nat.gcd_div h1 h2, Nat.gcd_div (Nat.dvd_gcd h1 h2) h3]; exact Nat.div_self hp
theorem int_mul_den (x : Rat) : x * (((x.den : Nat) : Int) : Rat) = (x.num : Rat) := by
  have hd : ((x.den : Int) : Rat) ≠ 0 := by have := x.den_nz; exact_mod_cast this
  have h := Rat.mkRat_self x
  rw [Rat.mkRat_eq_div, Rat.div_def] at h
  have i := Rat.mul_inv_cancel _ hd
  have e : ((x.den : Nat) : Rat) = ((x.den : Int) : Rat) := by push_cast; rfl
  rw [e] at h
  generalize ((x.den : Int) : Rat) = d at *
  generalize (x.num : Rat) = n at *
  grind
theorem mulD_int (x : Rat) {m : Nat} (h : x.den ∣ m) : x * ((m : Int) : Rat) = ((x * ((m : Int) : Rat)).num : Rat) := by
  obtain ⟨k, rfl⟩ := h
  have e : x * (((x.den * k : Nat) : Int) : Rat) = ((x.num * (k : Int) : Int) : Rat) := by
    have := int_mul_den x
    have e1 : (((x.den * k : Nat) : Int) : Rat) = (((x.den : Nat) : Int) : Rat) * ((k : Int) : Rat) := by push_cast; rfl
    have e2 : ((x.num * (k : Int) : Int) : Rat) = (x.num : Rat) * ((k : Int) : Rat) := by push_cast; rfl
    rw [e1, e2, ← this]; grind
  rw [e]; rfl
end
section
def LnV (a b c : Int) : Prop := ¬ (a = 0 ∧ b = 0) ∧ gcd3 a b c = 1
theorem LnV.rev {a b c : Int} (h : LnV a b c) : LnV (-a) (-b) (-c) := by
  refine ⟨fun e => h.1 ⟨by omega, by omega⟩, ?_⟩
  unfold gcd3; rw [Int.natAbs_neg, Int.natAbs_neg, Int.natAbs_neg]; exact h.2
theorem lnK_valid {a b c : Rat} (h : ¬ (a = 0 ∧ b = 0)) : ∃ A B C : Int, (A : Rat) = lnK a a b c ∧ (B : Rat) = lnK b a b c ∧ (C : Rat) = lnK c a b c ∧ LnV A B C := by
  have hm : (0 : Rat) < (((a.den * b.den * c.den : Nat) : Int) : Rat) := by
    have : 0 < a.den * b.den * c.den := Nat.mul_pos (Nat.mul_pos a.den_pos b.den_pos) c.den_pos
    exact Rat.intCast_pos.2 (by omega)
  have ha := mulD_int a (m := a.den * b.den * c.den) ⟨b.den * c.den, by rw [Nat.mul_assoc]⟩
  have hb := mulD_int b (m := a.den * b.den * c.den) ⟨a.den * c.den, by rw [Nat.mul_comm a.den b.den, Nat.mul_assoc]⟩
  have hc := mulD_int c (m := a.den * b.den * c.den) ⟨a.den * b.den, by rw [Nat.mul_comm]⟩
  generalize (((a.den * b.den * c.den : Nat) : Int) : Rat) = m at *
  generalize (a * m).num = x at *
  generalize (b * m).num = y at *
  generalize (c * m).num = z at *
  have hxy : ¬ (x = 0 ∧ y = 0) := by
    rintro ⟨rfl, rfl⟩
    refine h ⟨?_, ?_⟩
    · rcases Rat.mul_eq_zero.1 (ha.trans rfl) with e | e
      · exact e
      · rw [e] at hm; exact absurd hm (by decide)
    · rcases Rat.mul_eq_zero.1 (hb.trans rfl) with e | e
      · exact e
      · rw [e] at hm; exact absurd hm (by decide)
  have hd := gcd3_dvd x y z
  refine ⟨x / ((gcd3 x y z : Nat) : Int), y / ((gcd3 x y z : Nat) : Int), z / ((gcd3 x y z : Nat) : Int), ?_, ?_, ?_, ?_, gcd3_one hxy⟩
  · rw [← lnK_int hxy hd.1, ← ha, ← hb, ← hc, lnK_mul _ _ _ _ hm]
  · rw [← lnK_int hxy hd.2.1, ← ha, ← hb, ← hc, lnK_mul _ _ _ _ hm]
  · rw [← lnK_int hxy hd.2.2, ← ha, ← hb, ← hc, lnK_mul _ _ _ _ hm]
  · rintro ⟨e1, e2⟩
    have h1 := Int.ediv_mul_cancel hd.1
    have h2 := Int.ediv_mul_cancel hd.2.1
    rw [e1] at h1; rw [e2] at h2
    exact hxy ⟨by rw [← h1]; simp, by rw [← h2]; simp⟩
theorem lnK_self {a b c x : Int} (h : LnV a b c) : lnK (x : Rat) (a : Rat) (b : Rat) (c : Rat) = (x : Rat) := by
  have := @lnK_int x a b c h.1 (by rw [h.2]; exact ⟨x, by simp⟩)
  rw [this, h.2]; simp
theorem lnK_pos {a b c x : Int} (h : LnV a b c) {t : Rat} (ht : 0 < t) : lnK ((x : Rat) * t) ((a : Rat) * t) ((b : Rat) * t) ((c : Rat) * t) = (x : Rat) := by
  rw [lnK_mul _ _ _ _ ht, lnK_self h]
theorem sq_ne {a b : Int} (h : ¬ (a = 0 ∧ b = 0)) : (a : Rat) * a + (b : Rat) * b ≠ 0 := by
  have h1 : (a : Rat) * a + (b : Rat) * b = ((a * a + b * b : Int) : Rat) := by simp [Rat.intCast_add, Rat.intCast_mul]
  rw [h1]; intro e
  have e2 : a * a + b * b = 0 := by exact_mod_cast e
  have p1 : 0 ≤ a * a := by rcases Int.le_total 0 a with h | h; exact Int.mul_nonneg h h; exact Int.mul_nonneg_of_nonpos_of_nonpos h h
  have p2 : 0 ≤ b * b := by rcases Int.le_total 0 b with h | h; exact Int.mul_nonneg h h; exact Int.mul_nonneg_of_nonpos_of_nonpos h h
  have q1 : a * a = 0 := (by omega); have q2 : b * b = 0 := (by omega)
  exact h ⟨by rcases Int.mul_eq_zero.1 q1 with e | e <;> exact e, by rcases Int.mul_eq_zero.1 q2 with e | e <;> exact e⟩
theorem on_line {a b c t : Rat} (h : a * a + b * b ≠ 0) : a * (a * (-c / (a * a + b * b)) + b * t) + b * (b * (-c / (a * a + b * b)) + -a * t) + c = 0 := by grind
theorem par_line {a b c t : Rat} (h : a * a + b * b ≠ 0) : (b * (a * (-c / (a * a + b * b)) + b * t) + -a * (b * (-c / (a * a + b * b)) + -a * t)) / (b * b + -a * -a) = t := by
  have h2 : b * b + -a * -a = a * a + b * b := by grind
  rw [h2]
  grind
end
end Go.Proofs.YtdlnoeegboapkaaGreatDoor
