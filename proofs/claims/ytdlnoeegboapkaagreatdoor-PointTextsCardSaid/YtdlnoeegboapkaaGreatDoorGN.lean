/-
  Texts of this claim, joined: Ref4, Inv, Rough.
-/
import Derived.Test.YtdlnoeegboapkaaGreatDoorGM
import Derived.Test.YtdlnoeegboapkaaGreatDoorGI
import Derived.Deep.CutRange
/- The reference's points, the products of package point, and what the laws of layer 4 compare. printed by a small program (mkref4.py). -/
namespace Go.Proofs.YtdlnoeegboapkaaGreatDoor
open Go.RowKit
set_option maxRecDepth 100000
set_option maxHeartbeats 40000000
set_option synthInstance.maxSize 100000
set_option synthInstance.maxHeartbeats 1000000

theorem refPtC {w : World} {g1x g1y : Bool} {a1x aa1x a1y aa1y : Option Addr} {l1x c1x ll1x cc1x l1y c1y ll1y cc1y k1x k1y : Nat} {x y : Rat} [h1x : CW w (.agg #[.bool g1x, .slice a1x l1x c1x, .slice aa1x ll1x cc1x]) x k1x] [h1y : CW w (.agg #[.bool g1y, .slice a1y l1y c1y, .slice aa1y ll1y cc1y]) y k1y] (b : k1x ≤ 90000 ∧ k1y ≤ 90000) :
    Calls Tryz.prog 16 #[.agg #[.bool g1x, .slice a1x l1x c1x, .slice aa1x ll1x cc1x, .bool g1y, .slice a1y l1y c1y, .slice aa1y ll1y cc1y]] w (CPQRet w (x) (y) (max k1x k1y + 2)) := by
  go_enter Tryz.func16, Tryz.ntmps16
  go_wp2_with fail
  refine rgn [w.heap.size + 1] [] fun hHeld => ?_
  refine tk 0 hHeld ?_
  refine tk 1 hHeld ?_
  refine tk 3 hHeld ?_
  refine tk 4 hHeld ?_
  refine st 2 fun K hK => ?_
  go_simp
  (with_reducible refine Calls.cQ (refQC (by omega)) ?_); intros
  refine hd hK ?_
  clear hHeld hK K
  intro hHeld
  refine st 5 fun K hK => ?_
  go_simp
  (with_reducible refine Calls.cQ (refQC (by omega)) ?_); intros
  refine hd hK ?_
  clear hHeld hK K
  intro hHeld
  refine tk 6 hHeld ?_
  refine st 7 fun K hK => ?_
  go_simp
  refine hd hK ?_
  clear hHeld hK K
  intro hHeld
  refine dn ?_
  clear hHeld
  go_wp2
  refine ret_bx rfl Tryz.underlying47 rfl (by kernel_rfl) rfl rfl rfl ?_
  exact CPQRet.fin rfl (by omega) rfl (by omega)

theorem refPAddC {w : World} {g1x g1y g2 g3x g3y : Bool} {a1x aa1x a1y aa1y a2 aa2 a3x aa3x a3y aa3y : Option Addr} {l1x c1x ll1x cc1x l1y c1y ll1y cc1y l2 c2 ll2 cc2 l3x c3x ll3x cc3x l3y c3y ll3y cc3y k1x k1y k2 k3x k3y : Nat} {x1 y1 z x2 y2 : Rat} [h1x : CQ w (.agg #[.bool g1x, .slice a1x l1x c1x, .slice aa1x ll1x cc1x]) x1 k1x] [h1y : CQ w (.agg #[.bool g1y, .slice a1y l1y c1y, .slice aa1y ll1y cc1y]) y1 k1y] [h2 : CQ w (.agg #[.bool g2, .slice a2 l2 c2, .slice aa2 ll2 cc2]) z k2] [h3x : CQ w (.agg #[.bool g3x, .slice a3x l3x c3x, .slice aa3x ll3x cc3x]) x2 k3x] [h3y : CQ w (.agg #[.bool g3y, .slice a3y l3y c3y, .slice aa3y ll3y cc3y]) y2 k3y] (b : k1x ≤ 10000 ∧ k1y ≤ 10000 ∧ k2 ≤ 10000 ∧ k3x ≤ 10000 ∧ k3y ≤ 10000) :
    Calls Tryz.prog 82 #[.agg #[.bool g1x, .slice a1x l1x c1x, .slice aa1x ll1x cc1x, .bool g1y, .slice a1y l1y c1y, .slice aa1y ll1y cc1y], .agg #[.bool g2, .slice a2 l2 c2, .slice aa2 ll2 cc2], .agg #[.bool g3x, .slice a3x l3x c3x, .slice aa3x ll3x cc3x, .bool g3y, .slice a3y l3y c3y, .slice aa3y ll3y cc3y]] w (CPQRet w (x1 + z * x2) (y1 + z * y2) (max k1x k1y + k2 + max k3x k3y + 8)) := by
  go_enter Tryz.func82, Tryz.ntmps82
  go_wp2_with fail
  refine rgn [w.heap.size + 1 + 1 + 1] [] fun hHeld => ?_
  refine tk 0 hHeld ?_
  refine tk 1 hHeld ?_
  refine tk 2 hHeld ?_
  refine tk 3 hHeld ?_
  refine tk 4 hHeld ?_
  refine tk 7 hHeld ?_
  refine tk 8 hHeld ?_
  refine tk 9 hHeld ?_
  refine tk 10 hHeld ?_
  refine tk 11 hHeld ?_
  refine st 5 fun K hK => ?_
  go_simp
  (with_reducible refine Calls.cQ (numTimesC (by omega)) ?_); intros
  refine hd hK ?_
  clear hHeld hK K
  intro hHeld
  refine st 6 fun K hK => ?_
  go_simp
  (with_reducible refine Calls.cQ (numPlusC (by omega)) ?_); intros
  refine hd hK ?_
  clear hHeld hK K
  intro hHeld
  refine st 12 fun K hK => ?_
  go_simp
  (with_reducible refine Calls.cQ (numTimesC (by omega)) ?_); intros
  refine hd hK ?_
  clear hHeld hK K
  intro hHeld
  refine st 13 fun K hK => ?_
  go_simp
  (with_reducible refine Calls.cQ (numPlusC (by omega)) ?_); intros
  refine hd hK ?_
  clear hHeld hK K
  intro hHeld
  refine tk 14 hHeld ?_
  refine st 15 fun K hK => ?_
  go_simp
  refine hd hK ?_
  clear hHeld hK K
  intro hHeld
  refine dn ?_
  clear hHeld
  go_wp2
  refine ret_bx rfl Tryz.underlying47 rfl (by kernel_rfl) rfl rfl rfl ?_
  exact CPQRet.fin rfl (by omega) rfl (by omega)

theorem refPSubC {w : World} {g1x g1y g2x g2y : Bool} {a1x aa1x a1y aa1y a2x aa2x a2y aa2y : Option Addr} {l1x c1x ll1x cc1x l1y c1y ll1y cc1y l2x c2x ll2x cc2x l2y c2y ll2y cc2y k1x k1y k2x k2y : Nat} {x1 y1 x2 y2 : Rat} [h1x : CQ w (.agg #[.bool g1x, .slice a1x l1x c1x, .slice aa1x ll1x cc1x]) x1 k1x] [h1y : CQ w (.agg #[.bool g1y, .slice a1y l1y c1y, .slice aa1y ll1y cc1y]) y1 k1y] [h2x : CQ w (.agg #[.bool g2x, .slice a2x l2x c2x, .slice aa2x ll2x cc2x]) x2 k2x] [h2y : CQ w (.agg #[.bool g2y, .slice a2y l2y c2y, .slice aa2y ll2y cc2y]) y2 k2y] (b : k1x ≤ 9000 ∧ k1y ≤ 9000 ∧ k2x ≤ 9000 ∧ k2y ≤ 9000) :
    Calls Tryz.prog 178 #[.agg #[.bool g1x, .slice a1x l1x c1x, .slice aa1x ll1x cc1x, .bool g1y, .slice a1y l1y c1y, .slice aa1y ll1y cc1y], .agg #[.bool g2x, .slice a2x l2x c2x, .slice aa2x ll2x cc2x, .bool g2y, .slice a2y l2y c2y, .slice aa2y ll2y cc2y]] w (CPQRet w (x1 - x2) (y1 - y2) (max k1x k1y + max k2x k2y + 10)) := by
  have EX := Lib.hid (show x1 + ((-1 : Int) : Rat) * x2 = x1 - x2 by rw [show ((-1 : Int) : Rat) = -1 from rfl]; grind)
  have EY := Lib.hid (show y1 + ((-1 : Int) : Rat) * y2 = y1 - y2 by rw [show ((-1 : Int) : Rat) = -1 from rfl]; grind)
  go_enter Tryz.func178, Tryz.ntmps178
  go_wp2_with fail
  refine rgn [w.heap.size + 1 + 1] [] fun hHeld => ?_
  refine tk 0 hHeld ?_
  refine tk 2 hHeld ?_
  refine st 1 fun K hK => ?_
  go_simp
  (with_reducible refine Calls.cQ (numOfC (by omega)) ?_); intros
  refine hd hK ?_
  clear hHeld hK K
  intro hHeld
  refine st 3 fun K hK => ?_
  go_simp
  (with_reducible refine Calls.cPQ (refPAddC (by omega)) ?_); intros
  refine hd hK ?_
  clear hHeld hK K
  intro hHeld
  refine st 4 fun K hK => ?_
  go_simp
  refine hd hK ?_
  clear hHeld hK K
  intro hHeld
  refine dn ?_
  clear hHeld
  go_wp2
  refine ret_bx rfl Tryz.underlying47 rfl (by kernel_rfl) rfl rfl rfl ?_
  exact CPQRet.fin EX.out (by omega) EY.out (by omega)

theorem refDotC {w : World} {g1x g1y g2x g2y : Bool} {a1x aa1x a1y aa1y a2x aa2x a2y aa2y : Option Addr} {l1x c1x ll1x cc1x l1y c1y ll1y cc1y l2x c2x ll2x cc2x l2y c2y ll2y cc2y k1x k1y k2x k2y : Nat} {x1 y1 x2 y2 : Rat} [h1x : CQ w (.agg #[.bool g1x, .slice a1x l1x c1x, .slice aa1x ll1x cc1x]) x1 k1x] [h1y : CQ w (.agg #[.bool g1y, .slice a1y l1y c1y, .slice aa1y ll1y cc1y]) y1 k1y] [h2x : CQ w (.agg #[.bool g2x, .slice a2x l2x c2x, .slice aa2x ll2x cc2x]) x2 k2x] [h2y : CQ w (.agg #[.bool g2y, .slice a2y l2y c2y, .slice aa2y ll2y cc2y]) y2 k2y] (b : k1x ≤ 9000 ∧ k1y ≤ 9000 ∧ k2x ≤ 9000 ∧ k2y ≤ 9000) :
    Calls Tryz.prog 220 #[.agg #[.bool g1x, .slice a1x l1x c1x, .slice aa1x ll1x cc1x, .bool g1y, .slice a1y l1y c1y, .slice aa1y ll1y cc1y], .agg #[.bool g2x, .slice a2x l2x c2x, .slice aa2x ll2x cc2x, .bool g2y, .slice a2y l2y c2y, .slice aa2y ll2y cc2y]] w (CQRet w (x1 * x2 + y1 * y2) (k1x + k1y + k2x + k2y + 12)) := by
  go_enter Tryz.func220, Tryz.ntmps220
  go_wp2_with fail
  refine rgn [w.heap.size + 1 + 1] [] fun hHeld => ?_
  refine tk 0 hHeld ?_
  refine tk 1 hHeld ?_
  refine tk 2 hHeld ?_
  refine tk 3 hHeld ?_
  refine tk 5 hHeld ?_
  refine tk 6 hHeld ?_
  refine tk 7 hHeld ?_
  refine tk 8 hHeld ?_
  refine st 4 fun K hK => ?_
  go_simp
  (with_reducible refine Calls.cQ (numTimesC (by omega)) ?_); intros
  refine hd hK ?_
  clear hHeld hK K
  intro hHeld
  refine st 9 fun K hK => ?_
  go_simp
  (with_reducible refine Calls.cQ (numTimesC (by omega)) ?_); intros
  refine hd hK ?_
  clear hHeld hK K
  intro hHeld
  refine st 10 fun K hK => ?_
  go_simp
  (with_reducible refine Calls.cQ (numPlusC (by omega)) ?_); intros
  refine hd hK ?_
  clear hHeld hK K
  intro hHeld
  refine st 11 fun K hK => ?_
  go_simp
  refine hd hK ?_
  clear hHeld hK K
  intro hHeld
  refine dn ?_
  clear hHeld
  go_wp2
  refine ret_bx rfl Tryz.underlying45 rfl (by kernel_rfl) rfl rfl rfl ?_
  exact CQRet.fin rfl (by omega)

theorem refCrossC {w : World} {g1x g1y g2x g2y : Bool} {a1x aa1x a1y aa1y a2x aa2x a2y aa2y : Option Addr} {l1x c1x ll1x cc1x l1y c1y ll1y cc1y l2x c2x ll2x cc2x l2y c2y ll2y cc2y k1x k1y k2x k2y : Nat} {x1 y1 x2 y2 : Rat} [h1x : CQ w (.agg #[.bool g1x, .slice a1x l1x c1x, .slice aa1x ll1x cc1x]) x1 k1x] [h1y : CQ w (.agg #[.bool g1y, .slice a1y l1y c1y, .slice aa1y ll1y cc1y]) y1 k1y] [h2x : CQ w (.agg #[.bool g2x, .slice a2x l2x c2x, .slice aa2x ll2x cc2x]) x2 k2x] [h2y : CQ w (.agg #[.bool g2y, .slice a2y l2y c2y, .slice aa2y ll2y cc2y]) y2 k2y] (b : k1x ≤ 9000 ∧ k1y ≤ 9000 ∧ k2x ≤ 9000 ∧ k2y ≤ 9000) :
    Calls Tryz.prog 81 #[.agg #[.bool g1x, .slice a1x l1x c1x, .slice aa1x ll1x cc1x, .bool g1y, .slice a1y l1y c1y, .slice aa1y ll1y cc1y], .agg #[.bool g2x, .slice a2x l2x c2x, .slice aa2x ll2x cc2x, .bool g2y, .slice a2y l2y c2y, .slice aa2y ll2y cc2y]] w (CQRet w (x1 * y2 - y1 * x2) (k1x + k1y + k2x + k2y + 12)) := by
  go_enter Tryz.func81, Tryz.ntmps81
  go_wp2_with fail
  refine rgn [w.heap.size + 1 + 1] [] fun hHeld => ?_
  refine tk 0 hHeld ?_
  refine tk 1 hHeld ?_
  refine tk 2 hHeld ?_
  refine tk 3 hHeld ?_
  refine tk 5 hHeld ?_
  refine tk 6 hHeld ?_
  refine tk 7 hHeld ?_
  refine tk 8 hHeld ?_
  refine st 4 fun K hK => ?_
  go_simp
  (with_reducible refine Calls.cQ (numTimesC (by omega)) ?_); intros
  refine hd hK ?_
  clear hHeld hK K
  intro hHeld
  refine st 9 fun K hK => ?_
  go_simp
  (with_reducible refine Calls.cQ (numTimesC (by omega)) ?_); intros
  refine hd hK ?_
  clear hHeld hK K
  intro hHeld
  refine st 10 fun K hK => ?_
  go_simp
  (with_reducible refine Calls.cQ (numSubC (by omega)) ?_); intros
  refine hd hK ?_
  clear hHeld hK K
  intro hHeld
  refine st 11 fun K hK => ?_
  go_simp
  refine hd hK ?_
  clear hHeld hK K
  intro hHeld
  refine dn ?_
  clear hHeld
  go_wp2
  refine ret_bx rfl Tryz.underlying45 rfl (by kernel_rfl) rfl rfl rfl ?_
  exact CQRet.fin rfl (by omega)

theorem refOrientC {w : World} {g1x g1y g2x g2y g3x g3y : Bool} {a1x aa1x a1y aa1y a2x aa2x a2y aa2y a3x aa3x a3y aa3y : Option Addr} {l1x c1x ll1x cc1x l1y c1y ll1y cc1y l2x c2x ll2x cc2x l2y c2y ll2y cc2y l3x c3x ll3x cc3x l3y c3y ll3y cc3y k1x k1y k2x k2y k3x k3y : Nat} {x1 y1 x2 y2 x3 y3 : Rat} [h1x : CQ w (.agg #[.bool g1x, .slice a1x l1x c1x, .slice aa1x ll1x cc1x]) x1 k1x] [h1y : CQ w (.agg #[.bool g1y, .slice a1y l1y c1y, .slice aa1y ll1y cc1y]) y1 k1y] [h2x : CQ w (.agg #[.bool g2x, .slice a2x l2x c2x, .slice aa2x ll2x cc2x]) x2 k2x] [h2y : CQ w (.agg #[.bool g2y, .slice a2y l2y c2y, .slice aa2y ll2y cc2y]) y2 k2y] [h3x : CQ w (.agg #[.bool g3x, .slice a3x l3x c3x, .slice aa3x ll3x cc3x]) x3 k3x] [h3y : CQ w (.agg #[.bool g3y, .slice a3y l3y c3y, .slice aa3y ll3y cc3y]) y3 k3y] (b : k1x ≤ 1000 ∧ k1y ≤ 1000 ∧ k2x ≤ 1000 ∧ k2y ≤ 1000 ∧ k3x ≤ 1000 ∧ k3y ≤ 1000) :
    Calls Tryz.prog 113 #[.agg #[.bool g1x, .slice a1x l1x c1x, .slice aa1x ll1x cc1x, .bool g1y, .slice a1y l1y c1y, .slice aa1y ll1y cc1y], .agg #[.bool g2x, .slice a2x l2x c2x, .slice aa2x ll2x cc2x, .bool g2y, .slice a2y l2y c2y, .slice aa2y ll2y cc2y], .agg #[.bool g3x, .slice a3x l3x c3x, .slice aa3x ll3x cc3x, .bool g3y, .slice a3y l3y c3y, .slice aa3y ll3y cc3y]] w (fun e w' => e = .returned (.int .i64 (orientR x1 y1 x2 y2 x3 y3)) ∧ Below w.heap.size w w') := by
  go_enter Tryz.func113, Tryz.ntmps113
  go_wp2_with fail
  refine rgn [] [] fun hHeld => ?_
  refine tk 0 hHeld ?_
  refine tk 1 hHeld ?_
  refine tk 3 hHeld ?_
  refine tk 4 hHeld ?_
  refine st 2 fun K hK => ?_
  go_simp
  (with_reducible refine Calls.cPQ (refPSubC (by omega)) ?_); intros
  refine hd hK ?_
  clear hHeld hK K
  intro hHeld
  refine st 5 fun K hK => ?_
  go_simp
  (with_reducible refine Calls.cPQ (refPSubC (by omega)) ?_); intros
  refine hd hK ?_
  clear hHeld hK K
  intro hHeld
  refine st 6 fun K hK => ?_
  go_simp
  (with_reducible refine Calls.cQ (refCrossC (by omega)) ?_); intros
  refine hd hK ?_
  clear hHeld hK K
  intro hHeld
  refine st 7 fun K hK => ?_
  go_simp
  (with_reducible refine Calls.cE (numSC) ?_); intros
  refine hd hK ?_
  clear hHeld hK K
  intro hHeld
  refine tk 8 hHeld ?_
  refine dn ?_
  clear hHeld
  go_wp2
  go_ret
  exact E.fin rfl

theorem gDotC {w : World} {n1x d1x n1y d1y n2x d2x n2y d2y : Int} {p1x p1y p2x p2y : Option Addr} {x1 y1 x2 y2 : Rat} {k1x k1y k2x k2y : Nat} [h1x : CF w (.agg #[.int .i64 n1x, .int .i64 d1x, .pointer p1x]) x1 k1x] [h1y : CF w (.agg #[.int .i64 n1y, .int .i64 d1y, .pointer p1y]) y1 k1y] [h2x : CF w (.agg #[.int .i64 n2x, .int .i64 d2x, .pointer p2x]) x2 k2x] [h2y : CF w (.agg #[.int .i64 n2y, .int .i64 d2y, .pointer p2y]) y2 k2y] (b : k1x ≤ 50000 ∧ k1y ≤ 50000 ∧ k2x ≤ 50000 ∧ k2y ≤ 50000) :
    Calls Tryz.prog 228 #[.agg #[.int .i64 n1x, .int .i64 d1x, .pointer p1x, .int .i64 n1y, .int .i64 d1y, .pointer p1y], .agg #[.int .i64 n2x, .int .i64 d2x, .pointer p2x, .int .i64 n2y, .int .i64 d2y, .pointer p2y]] w (CFRet w (x1 * x2 + y1 * y2) (k1x + k1y + k2x + k2y + 7)) := by
  go_enter Tryz.func228, Tryz.ntmps228
  go_wp2_with fail
  refine rgn [w.heap.size + 1 + 1] [] fun hHeld => ?_
  refine tk 0 hHeld ?_
  refine tk 1 hHeld ?_
  refine tk 2 hHeld ?_
  refine tk 3 hHeld ?_
  refine tk 5 hHeld ?_
  refine tk 6 hHeld ?_
  refine tk 7 hHeld ?_
  refine tk 8 hHeld ?_
  refine st 4 fun K hK => ?_
  go_simp
  (with_reducible refine Calls.cF (rMulC (by omega)) ?_); intros
  refine hd hK ?_
  clear hHeld hK K
  intro hHeld
  refine st 9 fun K hK => ?_
  go_simp
  (with_reducible refine Calls.cF (rMulC (by omega)) ?_); intros
  refine hd hK ?_
  clear hHeld hK K
  intro hHeld
  refine st 10 fun K hK => ?_
  go_simp
  (with_reducible refine Calls.cF (rAddC (by omega)) ?_); intros
  refine hd hK ?_
  clear hHeld hK K
  intro hHeld
  refine st 11 fun K hK => ?_
  go_simp
  refine hd hK ?_
  clear hHeld hK K
  intro hHeld
  refine dn ?_
  clear hHeld
  go_wp2
  refine ret_bx rfl Tryz.underlying147 rfl (by kernel_rfl) rfl rfl rfl ?_
  exact CFRet.fin rfl (by omega)

theorem samePC {w : World} {g1x g1y g2x g2y : Bool} {a1x aa1x a1y aa1y a2x aa2x a2y aa2y : Option Addr} {l1x c1x ll1x cc1x l1y c1y ll1y cc1y l2x c2x ll2x cc2x l2y c2y ll2y cc2y k1x k1y k2x k2y : Nat} {x1 y1 x2 y2 : Rat} [h1x : CA w (.agg #[.bool g1x, .slice a1x l1x c1x, .slice aa1x ll1x cc1x]) x1 k1x] [h1y : CA w (.agg #[.bool g1y, .slice a1y l1y c1y, .slice aa1y ll1y cc1y]) y1 k1y] [h2x : CA w (.agg #[.bool g2x, .slice a2x l2x c2x, .slice aa2x ll2x cc2x]) x2 k2x] [h2y : CA w (.agg #[.bool g2y, .slice a2y l2y c2y, .slice aa2y ll2y cc2y]) y2 k2y] (hx : x1 = x2) (hy : y1 = y2) :
    Calls Tryz.prog 20 #[.agg #[.bool g1x, .slice a1x l1x c1x, .slice aa1x ll1x cc1x, .bool g1y, .slice a1y l1y c1y, .slice aa1y ll1y cc1y], .agg #[.bool g2x, .slice a2x l2x c2x, .slice aa2x ll2x cc2x, .bool g2y, .slice a2y l2y c2y, .slice aa2y ll2y cc2y]] w (fun e w' => e = .returned (.bool true) ∧ Below w.heap.size w w') := by
  subst hx hy
  go_enter Tryz.func20, Tryz.ntmps20
  go_wp2_with (first
    | (go_at_call 39; (with_reducible refine Calls.cE (sameQC rfl) ?_); intros))
  go_ret
  exact E.fin rfl

theorem same04C {w : World} {g1x g1y g2x g2y : Bool} {a1x aa1x a1y aa1y a2x aa2x a2y aa2y : Option Addr} {l1x c1x ll1x cc1x l1y c1y ll1y cc1y l2x c2x ll2x cc2x l2y c2y ll2y cc2y k1x k1y k2x k2y : Nat} {x1 y1 x2 y2 : Rat} [h1x : CA w (.agg #[.bool g1x, .slice a1x l1x c1x, .slice aa1x ll1x cc1x]) x1 k1x] [h1y : CA w (.agg #[.bool g1y, .slice a1y l1y c1y, .slice aa1y ll1y cc1y]) y1 k1y] [h2x : CQ w (.agg #[.bool g2x, .slice a2x l2x c2x, .slice aa2x ll2x cc2x]) x2 k2x] [h2y : CQ w (.agg #[.bool g2y, .slice a2y l2y c2y, .slice aa2y ll2y cc2y]) y2 k2y] (b : k1x ≤ 90000 ∧ k1y ≤ 90000 ∧ k2x ≤ 90000 ∧ k2y ≤ 90000) (hx : x1 = x2) (hy : y1 = y2) :
    Calls Tryz.prog 15 #[.agg #[.bool g1x, .slice a1x l1x c1x, .slice aa1x ll1x cc1x, .bool g1y, .slice a1y l1y c1y, .slice aa1y ll1y cc1y], .agg #[.bool g2x, .slice a2x l2x c2x, .slice aa2x ll2x cc2x, .bool g2y, .slice a2y l2y c2y, .slice aa2y ll2y cc2y]] w (fun e w' => e = .returned (.bool true) ∧ Below w.heap.size w w') := by
  subst hx hy
  go_enter Tryz.func15, Tryz.ntmps15
  go_wp2_with fail
  refine rgn [] [] fun hHeld => ?_
  refine tk 0 hHeld ?_
  refine tk 1 hHeld ?_
  refine st 2 fun K hK => ?_
  go_simp
  (with_reducible refine Calls.cPA (toPC (by omega)) ?_); intros
  refine hd hK ?_
  clear hHeld hK K
  intro hHeld
  refine st 3 fun K hK => ?_
  go_simp
  (with_reducible refine Calls.cE (samePC rfl rfl) ?_); intros
  refine hd hK ?_
  clear hHeld hK K
  intro hHeld
  refine tk 4 hHeld ?_
  refine dn ?_
  clear hHeld
  go_wp2
  go_ret
  exact E.fin rfl

end Go.Proofs.YtdlnoeegboapkaaGreatDoor

/- A region that draws its order, by an invariant: every operation of a list 'todo' is met once, whatever ran before it, and what an operation gives lasts. The number of goals is the number of operations, not of orders. -/
namespace Go.Proofs.YtdlnoeegboapkaaGreatDoor
open Go.RowKit
section
variable {P : Program} {ops : Array Oper} {Q : Exit → Act → World → Prop} {md : Region.Mode} {S : World → Prop} {T : Nat → Bool}
def dstOf (ops : Array Oper) (i : Nat) : Option Tmp := (ops[i]?).bind (·.dst)
def putAll (f : Nat → Value) : List (Nat × Tmp) → Act → Act
  | [], a => a
  | p :: r, a => putAll f r (a.put (some p.2) (f p.1))
def upd (f : Nat → Value) (i : Nat) (v : Value) : Nat → Value := fun j => if j = i then v else f j
theorem put_put {a : Act} {d : Option Tmp} {x v : Value} : (a.put d x).put d v = a.put d v := by
  cases d with
  | none => rfl
  | some d => simp [Act.put]
theorem put_comm {a : Act} {d e : Option Tmp} {x v : Value} (h : d ≠ e) : (a.put d x).put e v = (a.put e v).put d x := by
  cases d with
  | none => rfl
  | some d =>
    cases e with
    | none => rfl
    | some e =>
      have hde : d ≠ e := fun h' => h (by rw [h'])
      simp only [Act.put]
      rw [Array.setIfInBounds_comm _ _ hde]
theorem putAll_put {f : Nat → Value} {d : Tmp} {v : Value} : ∀ (r : List (Nat × Tmp)) (a : Act), (∀ p ∈ r, p.2 ≠ d) → (putAll f r a).put (some d) v = putAll f r (a.put (some d) v)
  | [], _, _ => rfl
  | p :: r, a, h => by
    show (putAll f r _).put _ v = putAll f r _
    rw [putAll_put r _ (fun k hk => h k (List.mem_cons_of_mem _ hk)), put_comm (fun e => h p (List.mem_cons_self ..) (Option.some.inj e))]
theorem putAll_congr {f g : Nat → Value} : ∀ (r : List (Nat × Tmp)) (a : Act), (∀ p ∈ r, f p.1 = g p.1) → putAll f r a = putAll g r a
  | [], _, _ => rfl
  | p :: r, a, h => by
    show putAll f r _ = putAll g r _
    rw [h p (List.mem_cons_self ..), putAll_congr r _ (fun k hk => h k (List.mem_cons_of_mem _ hk))]
theorem putAll_upd {f : Nat → Value} {i : Nat} {d : Tmp} {v : Value} : ∀ (r : List (Nat × Tmp)) (a : Act), (r.map (·.2)).Nodup → (r.map (·.1)).Nodup → (i, d) ∈ r → (putAll f r a).put (some d) v = putAll (upd f i v) r a
  | [], _, _, _, hi => nomatch hi
  | p :: r, a, hn, hm, hi => by
    rw [List.map_cons, List.nodup_cons] at hn hm
    obtain ⟨hj, hn⟩ := hn
    obtain ⟨hk, hm⟩ := hm
    rcases List.mem_cons.1 hi with e | hi'
    · subst e
      have hne : ∀ k ∈ r, k.2 ≠ d := fun k hk' e => hj (List.mem_map.2 ⟨k, hk', e⟩)
      show (putAll f r _).put _ v = putAll (upd f i v) r _
      rw [putAll_put r _ hne, put_put, show upd f i v i = v from if_pos rfl]
      exact putAll_congr r _ (fun k hk' => (if_neg (fun e => hk (List.mem_map.2 ⟨k, hk', e⟩))).symm)
    · have hij : p.1 ≠ i := fun e => hk (List.mem_map.2 ⟨_, hi', e.symm⟩)
      show (putAll f r (a.put _ (f p.1))).put _ v = putAll (upd f i v) r (a.put _ (upd f i v p.1))
      rw [show upd f i v p.1 = f p.1 from if_neg hij]
      exact putAll_upd r _ hn hm hi'
theorem put_self (a : Act) (d : Tmp) : a.put (some d) (a.tmps.getD d undef) = a := by
  obtain ⟨t, ds⟩ := a
  simp only [Act.put, Act.mk.injEq, and_true]
  apply Array.ext_getElem?
  intro i
  rw [Array.getElem?_setIfInBounds]
  split
  · rename_i h
    subst h
    split
    · rename_i h; simp [h]
    · rename_i h; simp [h]
  · rfl
theorem putAll_self {f : Nat → Value} (a : Act) : ∀ r : List (Nat × Tmp), (∀ p ∈ r, f p.1 = a.tmps.getD p.2 undef) → putAll f r a = a
  | [], _ => rfl
  | p :: r, h => by
    show putAll f r (a.put (some p.2) (f p.1)) = a
    rw [h p (List.mem_cons_self ..), put_self]
    exact putAll_self a r (fun q hq => h q (List.mem_cons_of_mem _ hq))
/-- The value in the slot of an operation. -/
def slotOf (a : Act) : List (Nat × Tmp) → Nat → Value
  | [], _ => undef
  | p :: r, i => if i = p.1 then a.tmps.getD p.2 undef else slotOf a r i
theorem slotOf_eq (a : Act) : ∀ r : List (Nat × Tmp), (r.map (·.1)).Nodup → ∀ p ∈ r, slotOf a r p.1 = a.tmps.getD p.2 undef
  | [], _, _, h => nomatch h
  | q :: r, hn, p, h => by
    rw [List.map_cons, List.nodup_cons] at hn
    rcases List.mem_cons.1 h with rfl | h
    · exact if_pos rfl
    · show (if p.1 = q.1 then _ else slotOf a r p.1) = _
      rw [if_neg (fun e => hn.1 (List.mem_map.2 ⟨p, h, e⟩))]
      exact slotOf_eq a r hn.2 p h
def lset : List Nat → Array Bool → Array Bool
  | [], L => L
  | i :: s, L => lset s (L.setIfInBounds i true)
theorem lset_get : ∀ (s : List Nat) (L : Array Bool) (j : Nat), (lset s L)[j]? = if j ∈ s ∧ j < L.size then some true else L[j]?
  | [], L, j => by simp [lset]
  | i :: s, L, j => by
    show (lset s _)[j]? = _
    rw [lset_get s, Array.getElem?_setIfInBounds, Array.size_setIfInBounds]
    by_cases hij : i = j
    · subst hij
      by_cases hl : i < L.size <;> simp [hl]
    · have hji : ¬ j = i := fun e => hij e.symm
      simp [hij, hji]
theorem lset_step (todo : List Nat) (g : Nat → Bool) {i : Nat} (hi : i ∈ todo) (L : Array Bool) : (lset (todo.filter g) L).setIfInBounds i true = lset (todo.filter (fun j => g j || j == i)) L := by
  apply Array.ext_getElem?
  intro j
  have hs : ∀ (s : List Nat) (L : Array Bool), (lset s L).size = L.size := by
    intro s
    induction s with
    | nil => intro L; rfl
    | cons i s ih => intro L; show (lset s _).size = _; rw [ih, Array.size_setIfInBounds]
  rw [Array.getElem?_setIfInBounds, lset_get, lset_get, hs]
  simp only [List.mem_filter, Bool.or_eq_true, beq_iff_eq]
  by_cases hij : i = j
  · subst hij
    by_cases hl : i < L.size <;> simp [hl, hi]
  · have hji : ¬ j = i := fun e => hij e.symm
    simp [hij, hji]
def subs : List Nat → List (List Nat)
  | [] => [[]]
  | i :: r => (subs r).flatMap fun s => [s, i :: s]
theorem filter_subs (g : Nat → Bool) : ∀ l, l.filter g ∈ subs l
  | [] => List.mem_cons_self ..
  | i :: r => by
    rw [List.filter_cons]
    refine List.mem_flatMap.2 ⟨_, filter_subs g r, ?_⟩
    split
    · exact List.mem_cons_of_mem _ (List.mem_cons_self ..)
    · exact List.mem_cons_self ..
/-- Whatever part of 'todo' has run: one of the rest may come up, and nothing else; what it reads has run. -/
def chkS (md : Region.Mode) (ops : Array Oper) (L0 : Array Bool) (todo : List Nat) (pre : Nat → List Nat) : Bool :=
  (subs todo).all fun s => !(s.all fun i => (pre i).all fun j => s.contains j) || s == todo || (!(Region.ready md ops (lset s L0)).isEmpty && (Region.ready md ops (lset s L0)).all fun i => todo.contains i && !s.contains i && (pre i).all fun j => s.contains j)
theorem count_step {g : Nat → Bool} {i : Nat} (hg : g i = false) : ∀ l : List Nat, l.Nodup → i ∈ l → (l.filter fun j => !g j).length = (l.filter fun j => !(g j || j == i)).length + 1
  | [], _, hi => nomatch hi
  | j :: r, hn, hi => by
    rw [List.nodup_cons] at hn
    by_cases hij : j = i
    · subst hij
      have h0 : (r.filter fun k => !g k) = r.filter fun k => !(g k || k == j) := by
        apply List.filter_congr
        intro k hk
        have : k ≠ j := fun e => hn.1 (e ▸ hk)
        simp [this]
      simp [hg, h0]
    · have := count_step hg r hn.2 ((List.mem_cons.1 hi).resolve_left (fun e => hij e.symm))
      simp only [List.filter_cons, Bool.or_false, show (j == i) = false by simpa using hij]
      split <;> simp [this]
/-- What lasts while memory grows. -/
class Last (φ : Value → World → Prop) : Prop where out : ∀ v W W', Below W.heap.size W W' → φ v W → φ v W'
def phi : List (Value → World → Prop) → List Nat → Nat → Value → World → Prop
  | φ :: r, j :: s, i => if i = j then φ else phi r s i
  | _, _, _ => fun _ _ => True
class Lasts (l : List (Value → World → Prop)) : Prop where out : ∀ (s : List Nat) (i : Nat), Last (phi l s i)
instance Lasts.nil : Lasts [] := ⟨fun _ _ => ⟨fun _ _ _ _ _ => trivial⟩⟩
instance Lasts.cons {φ : Value → World → Prop} {l : List (Value → World → Prop)} [h1 : Last φ] [h2 : Lasts l] : Lasts (φ :: l) := ⟨fun s i => by
  cases s with
  | nil => exact ⟨fun _ _ _ _ _ => trivial⟩
  | cons j s =>
    show Last (if i = j then φ else phi l s i)
    split
    · exact h1
    · exact h2.out s i⟩
/-- A pointer to a block that was made after W; to one that is there in W. -/
def NewP (v : Value) (W : World) : Prop := ∃ b, v = .pointer (some ⟨b, 0, none⟩) ∧ W.heap.size ≤ b
def OldP (v : Value) (W : World) : Prop := ∃ b, v = .pointer (some ⟨b, 0, none⟩) ∧ b < W.heap.size
theorem newP_ne {u v : Value} {W : World} (h1 : NewP v W) (h2 : OldP u W) : u ≠ v := by
  obtain ⟨b, rfl, hb⟩ := h1
  obtain ⟨c, rfl, hc⟩ := h2
  intro e
  simp only [Value.pointer.injEq, Option.some.injEq, Addr.mk.injEq, and_true] at e
  omega
theorem ptr_ne {b c : Nat} (h : (Value.pointer (some ⟨b, 0, none⟩)) ≠ .pointer (some ⟨c, 0, none⟩)) : NeN b c := ⟨fun e => h (by rw [e])⟩
theorem wpAnyT_inv (dl : List (Nat × Tmp)) (pre : Nat → List Nat) (φs : List (Value → World → Prop)) [hΦ : Lasts φs] (A : List Nat) {L0 : Array Bool} {a0 : Act} {w : World} {F : Nat} (m : Nat) (hF : F = m + dl.length)
    (hchk : chkS md ops L0 (dl.map (·.1)) pre = true) (hd : (dl.map (·.2)).Nodup) (hnd : (dl.map (·.1)).Nodup) (hds : (dl.all fun p => dstOf ops p.1 == some p.2) = true) (hA : ∀ i ∈ A, ∀ v W, phi φs (dl.map (·.1)) i v W → OldP v W) (hSk : ∀ W W', Below W.heap.size W W' → S W → S W') (hS : S w)
    (hop : ∀ i ∈ dl.map (·.1), ∀ (f : Nat → Value) (W : World), S W → Below w.heap.size w W → (∀ j ∈ pre i, phi φs (dl.map (·.1)) j (f j) W) → ∃ o, ops[i]? = some o ∧ ∀ K' : Act → World → Prop,
      Shut (∀ a' v W', a' = (putAll f dl a0).put o.dst v → Below W.heap.size W W' → phi φs (dl.map (·.1)) i v W' → (i ∈ A → NewP v W) → K' a' W') →
      if Region.wanted o (yielded ops (putAll f dl a0).tmps) = true then Oper.wp P o (putAll f dl a0) W K' Q else K' ((putAll f dl a0).put o.dst undef) W)
    (hend : ∀ (f : Nat → Value) (W : World), S W → Below w.heap.size w W → (∀ j ∈ dl.map (·.1), phi φs (dl.map (·.1)) j (f j) W) → (∀ j k, j ∈ A → k ∈ A → j ∈ dl.map (·.1) → k ∈ dl.map (·.1) → j ≠ k → f j ≠ f k) → wpAnyT P md ops Q S T m (lset (dl.map (·.1)) L0) (putAll f dl a0) W) :
    wpAnyT P md ops Q S T F L0 a0 w := by
  subst hF
  have hlen : dl.length = (dl.map (·.1)).length := by rw [List.length_map]
  rw [hlen]
  have hds' : ∀ i ∈ dl.map (·.1), ∃ d, (i, d) ∈ dl ∧ dstOf ops i = some d := fun i hi => by
    obtain ⟨p, hp, rfl⟩ := List.mem_map.1 hi
    exact ⟨p.2, hp, by simpa using List.all_eq_true.1 hds p hp⟩
  generalize hT : dl.map (·.1) = todo at *
  have key : ∀ (n : Nat) (g : Nat → Bool) (f : Nat → Value) (W : World), (todo.filter fun j => !g j).length = n → S W → Below w.heap.size w W → (∀ j ∈ todo, g j = true → phi φs todo j (f j) W) → (∀ j k, j ∈ A → k ∈ A → j ∈ todo → k ∈ todo → g j = true → g k = true → j ≠ k → f j ≠ f k) → (∀ j ∈ todo, g j = true → ∀ k ∈ pre j, k ∈ todo ∧ g k = true) →
      wpAnyT P md ops Q S T (m + n) (lset (todo.filter g) L0) (putAll f dl a0) W := by
    intro n
    induction n with
    | zero =>
      intro g f W hn hSW hB hf hne _
      have hall : ∀ j ∈ todo, g j = true := fun j hj => by
        have h0 := List.eq_nil_of_length_eq_zero hn
        have := List.filter_eq_nil_iff.1 h0 j hj
        simpa using this
      rw [List.filter_eq_self.2 hall]
      exact hend f W hSW hB (fun j hj => hf j hj (hall j hj)) (fun j k ha hb hj hk => hne j k ha hb hj hk (hall j hj) (hall k hk))
    | succ n ih =>
      intro g f W hn hSW hB hf hnf hcl
      have hs := List.all_eq_true.1 hchk _ (filter_subs g todo)
      have hne : ((todo.filter g == todo) : Bool) = false := by
        rw [beq_eq_false_iff_ne]
        intro e
        have hall := List.filter_eq_self.1 e
        have : (todo.filter fun j => !g j) = [] := List.filter_eq_nil_iff.2 (fun j hj => by simp [hall j hj])
        rw [this] at hn
        simp at hn
      have hcl2 : ((todo.filter g).all fun i => (pre i).all fun j => (todo.filter g).contains j) = true := by
        simp only [List.all_eq_true, List.contains_iff_mem, List.mem_filter]
        exact fun i hi j hj => hcl i hi.1 hi.2 j hj
      rw [hne, hcl2, Bool.not_true, Bool.false_or, Bool.false_or, Bool.and_eq_true] at hs
      obtain ⟨hr, hs⟩ := hs
      refine ⟨fun h0 => (by rw [h0] at hr; simp at hr), fun i hi => ?_⟩
      have hi2 := List.all_eq_true.1 hs i hi
      simp only [Bool.and_eq_true, List.contains_iff_mem, Bool.not_eq_true', List.all_eq_true] at hi2
      obtain ⟨⟨hit, his⟩, hp⟩ := hi2
      have hgi : g i = false := by
        cases hg : g i with
        | false => rfl
        | true =>
          have : (todo.filter g).contains i = true := List.contains_iff_mem.2 (List.mem_filter.2 ⟨hit, hg⟩)
          rw [this] at his
          cases his
      obtain ⟨o, ho, H⟩ := hop i hit f W hSW hB (fun j hj => by
        have := List.mem_filter.1 (hp j hj)
        exact hf j this.1 this.2)
      obtain ⟨d, hdm, hdo⟩ := hds' i hit
      refine wpOp_step ho (fun K' hK => H K' (fun a' v W' ha hb hv hnw => hK _ _ ⟨fun _ => hSk _ _ hb hSW, ?_⟩))
      have hdst : o.dst = some d := by rw [← hdo]; simp [dstOf, ho]
      rw [ha, lset_step todo g hit, hdst, putAll_upd dl a0 hd (hT ▸ hnd) hdm]
      refine ih _ _ W' (by have := count_step hgi todo hnd hit; omega) (hSk _ _ hb hSW) (blw_trans hB hb) (fun j hj hgj => ?_) (fun j k haj hak hj hk hgj hgk hjk => ?_) (fun j hj hgj k hk => ?_)
      · by_cases hji : j = i
        · subst hji
          rw [show upd f j v j = v from if_pos rfl]
          exact hv
        · rw [show upd f i v j = f j from if_neg hji]
          refine (hΦ.out todo j).out _ _ _ hb (hf j hj ?_)
          simpa [hji] using hgj
      · by_cases hji : j = i
        · have hki : ¬ k = i := fun e => hjk (hji.trans e.symm)
          have hgk' : g k = true := by simpa [hki] using hgk
          rw [show upd f i v k = f k from if_neg hki, show upd f i v j = v from if_pos hji]
          exact (newP_ne (hnw (hji ▸ haj)) (hA k hak _ _ (hf k hk hgk'))).symm
        · have hgj' : g j = true := by simpa [hji] using hgj
          rw [show upd f i v j = f j from if_neg hji]
          by_cases hki : k = i
          · rw [show upd f i v k = v from if_pos hki]
            exact newP_ne (hnw (hki ▸ hak)) (hA j haj _ _ (hf j hj hgj'))
          · rw [show upd f i v k = f k from if_neg hki]
            exact hnf j k haj hak hj hk hgj' (by simpa [hki] using hgk) hjk
      · by_cases hji : j = i
        · subst hji
          have := List.mem_filter.1 (hp k hk)
          exact ⟨this.1, by simp [this.2]⟩
        · have := hcl j hj (by simpa [hji] using hgj) k hk
          exact ⟨this.1, by simp [this.2]⟩
  have h0 := key todo.length (fun _ => false) (slotOf a0 dl) w (by simp) hS (Below.refl _ _) (fun _ _ h => nomatch h) (fun _ _ _ _ _ _ h => nomatch h) (fun _ _ h => nomatch h)
  rw [putAll_self a0 dl (slotOf_eq a0 dl (hT ▸ hnd))] at h0
  have hnil : todo.filter (fun _ => false) = [] := List.filter_eq_nil_iff.2 (fun _ _ => by simp)
  rw [hnil] at h0
  exact h0
theorem Ex.below {w W W' : World} {L : List Nat} (h : Below W.heap.size W W') (e : Ex w L W) : Ex w L W' :=
  have := Kp1.mk h
  inferInstance
end
/-- Kinds of what lasts. -/
def phiN (n k : Nat) (v : Value) (W : World) : Prop := ∃ a l c, v = .slice a l c ∧ CN W (.slice a l c) n k
def phiR (n k : Nat) (v : Value) (W : World) : Prop := ∃ a l c, v = .slice a l c ∧ CR W (.slice a l c) n k
/-- A box of type t with the cells l that was made after w0. -/
def phiB (w0 : World) (t : TypeId) (l : List Value) (v : Value) (W : World) : Prop := ∃ b, v = .pointer (some ⟨b, 0, none⟩) ∧ Bx W b t l ∧ Ge w0 b ∧ Gg w0 b
instance {n k : Nat} : Last (phiN n k) := ⟨fun _ _ _ hb ⟨a, l, c, e, _⟩ => have := Kp1.mk hb; ⟨a, l, c, e, inferInstance⟩⟩
instance {n k : Nat} : Last (phiR n k) := ⟨fun _ _ _ hb ⟨a, l, c, e, _⟩ => have := Kp1.mk hb; ⟨a, l, c, e, inferInstance⟩⟩
instance {w0 : World} {t : TypeId} {l : List Value} : Last (phiB w0 t l) := ⟨fun _ _ _ hb ⟨b, e, _, h1, h2⟩ => have := Kp1.mk hb; ⟨b, e, inferInstance, h1, h2⟩⟩
def phiV (v0 v : Value) (_ : World) : Prop := v = v0
instance {v0 : Value} : Last (phiV v0) := ⟨fun _ _ _ _ e => e⟩
theorem phiN.fin {n n' k k' : Nat} {a : Option Addr} {l c : Nat} {W : World} [h : CN W (.slice a l c) n' k'] (e : n' = n) (b : k' ≤ k) : phiN n k (.slice a l c) W := ⟨a, l, c, rfl, by subst e; exact ⟨h.out.mono b⟩⟩
theorem phiR.fin {n n' k k' : Nat} {a : Option Addr} {l c : Nat} {W : World} [h : CR W (.slice a l c) n' k'] (e : n' = n) (b : k' ≤ k) : phiR n k (.slice a l c) W := ⟨a, l, c, rfl, by subst e; exact ⟨h.out.mono b⟩⟩
theorem phiB.fin {w0 W : World} {t : TypeId} {l : List Value} {b : Nat} [h : Bx W b t l] [h1 : Ge w0 b] [h2 : Gg w0 b] : phiB w0 t l (.pointer (some ⟨b, 0, none⟩)) W := ⟨b, rfl, h, h1, h2⟩
theorem phiB.old {w0 W : World} {t : TypeId} {l : List Value} {v : Value} (h : phiB w0 t l v W) : OldP v W := by
  obtain ⟨b, e, h, _, _⟩ := h
  exact ⟨b, e, h.lt⟩
end Go.Proofs.YtdlnoeegboapkaaGreatDoor

/- Points that need not be in normal form, off the tape. printed by a small program (mkrough.py). -/
namespace Go.Proofs.YtdlnoeegboapkaaGreatDoor
open Go.RowKit
set_option maxRecDepth 100000
set_option maxHeartbeats 40000000
set_option synthInstance.maxSize 100000
set_option synthInstance.maxHeartbeats 1000000

instance CN.six {W : World} {b : Nat} [h : Sz W b] : CN (W.alloc (.cells #[.int .u32 6] 106)) (.slice (some ⟨b, 0, none⟩) 1 1) 6 1 := ⟨by
  rw [← h.out]
  exact .lit (rd_lit rfl [6] (dig1 (by omega)) (by simp) #[.int .u32 6] rfl 1 rfl) (nf_one (by omega) (by omega)) (by simp)⟩
theorem natsC {w : World} {a1 : Option Addr} {l1 c1 m k1 : Nat} {k : Int} [h1 : CN w (.slice a1 l1 c1) m k1] (b : k1 ≤ 900000 ∧ 0 ≤ k ∧ k ≤ 1000000) : Calls Tryz.prog 61 #[.slice a1 l1 c1, .int .i64 k] w (RetR w m (k1 + 2)) :=
  natsW h1.out b.1 b.2.1 b.2.2
/-- A point, perhaps not in normal form, is read off the tape. -/
def TRRet (w : World) (t : Nat) (k : Nat) (e : Ending) (w' : World) : Prop := ∃ (g : Bool) (a : Option Addr) (l c : Nat) (aa : Option Addr) (ll cc : Nat) (g2 : Bool) (a2 : Option Addr) (l2 c2 : Nat) (aa2 : Option Addr) (ll2 cc2 : Nat) (x y : Rat), e = .returned (.agg #[.bool g, .slice a l c, .slice aa ll cc, .bool g2, .slice a2 l2 c2, .slice aa2 ll2 cc2]) ∧ CW w' (.agg #[.bool g, .slice a l c, .slice aa ll cc]) x k ∧ CW w' (.agg #[.bool g2, .slice a2 l2 c2, .slice aa2 ll2 cc2]) y k ∧ Ct w' t ∧ Gb w w' t
theorem Calls.cTR {P : Program} {f : FuncId} {args : Array Value} {w : World} {t k : Nat} {K : Ending → World → Prop} [ht : Ct w t] (h : Calls P f args w (TRRet w t k))
    (hK : ∀ w' [Tp1 w w' t] [Ct w' t] (g : Bool) (a : Option Addr) (l c : Nat) (aa : Option Addr) (ll cc : Nat) (g2 : Bool) (a2 : Option Addr) (l2 c2 : Nat) (aa2 : Option Addr) (ll2 cc2 : Nat) (x y : Rat) [CW w' (.agg #[.bool g, .slice a l c, .slice aa ll cc]) x k] [CW w' (.agg #[.bool g2, .slice a2 l2 c2, .slice aa2 ll2 cc2]) y k], K (.returned (.agg #[.bool g, .slice a l c, .slice aa ll cc, .bool g2, .slice a2 l2 c2, .slice aa2 ll2 cc2])) w') : Calls P f args w K := by
  refine h.mono ?_
  rintro e w' ⟨g, a, l, c, aa, ll, cc, g2, a2, l2, c2, aa2, ll2, cc2, x, y, rfl, hx, hy, hc, hb⟩
  exact @hK w' ⟨hb.out, ht.out⟩ hc g a l c aa ll cc g2 a2 l2 c2 aa2 ll2 cc2 x y hx hy
theorem roughC {w : World} {t : Nat} [ht : Ct w t] : Calls Tryz.prog 11 #[.pointer (some ⟨t, 0, none⟩)] w (TRRet w t 12) := by
  go_enter Tryz.func11, Tryz.ntmps11
  go_wp2_with fail
  with_reducible refine Calls.cTP tapePointC ?_
  intro W1 _ _ G A L C AA LL CC G2 A2 L2 C2 AA2 LL2 CC2 x y _ _
  go_wp2_with fail
  with_reducible refine Calls.cPA (toPC (by omega)) ?_
  intro W2 _ g a l c aa ll cc g2 a2 l2 c2 aa2 ll2 cc2 ix iy
  have jx := ix.num
  have jd := ix.den
  have jn : CN W2 (.slice a l c) x.num.natAbs 5 := ⟨(zz_of jx).2⟩
  go_wp2_with fail
  with_reducible refine Calls.cNext (nextC (by omega)) ?_
  intro W3 _ _ v hv0 hv1
  by_cases hv : v = 0
  · subst hv
    go_upto_region 3 with fail
    go_cut [] from 10 to 29 (fun wx => ∃ (m n : Nat) (a' : Option Addr) (l' c' : Nat) (aa' : Option Addr) (ll' cc' : Nat), Bx wx W2.heap.size 31 [.bool g, .slice a' l' c', .slice aa' ll' cc', .bool g2, .slice a2 l2 c2, .slice aa2 ll2 cc2] ∧
      Bx wx w.heap.size 31 [.bool false, .slice none 0 0, .slice none 0 0, .bool false, .slice none 0 0, .slice none 0 0] ∧ CR wx (.slice a' l' c') m 10 ∧ CR wx (.slice aa' ll' cc') n 10 ∧ CA wx (.agg #[.bool g2, .slice a2 l2 c2, .slice aa2 ll2 cc2]) y 5 ∧ Ct wx t ∧ Gb w wx t)
    case first =>
      refine region_t (by kernel_rfl) [] (List.contains [17, 18, 19, 20, 21]) (fun hHeld => ?_)
      refine wpAnyT_take (i := 0) (v := ?z172) (by simp; rfl) (by kernel_rfl) (by kernel_rfl) (by kernel_rfl) (by exact fun _ _ _ h => h) (T_waits (by kernel_rfl)) (Or.inl ⟨by rfl, ?yz172⟩) hHeld ?_
      case yz172 => (intro wx hSw; have hSx := Ex1.mk hSw; go_simp; (try with_reducible rfl))
      try simp only [Act.put, List.setIfInBounds_toArray, List.set_cons_zero, List.set_cons_succ]
      refine wpAnyT_take (i := 1) (v := ?z173) (by simp; rfl) (by kernel_rfl) (by kernel_rfl) (by kernel_rfl) (by exact fun _ _ _ h => h) (T_waits (by kernel_rfl)) (Or.inl ⟨by rfl, ?yz173⟩) hHeld ?_
      case yz173 => (intro wx hSw; have hSx := Ex1.mk hSw; go_simp; (try with_reducible rfl))
      try simp only [Act.put, List.setIfInBounds_toArray, List.set_cons_zero, List.set_cons_succ]
      refine wpAnyT_take (i := 2) (v := ?z174) (by simp; rfl) (by kernel_rfl) (by kernel_rfl) (by kernel_rfl) (by exact fun _ _ _ h => h) (T_waits (by kernel_rfl)) (Or.inl ⟨by rfl, ?yz174⟩) hHeld ?_
      case yz174 => (intro wx hSw; have hSx := Ex1.mk hSw; go_simp; (try with_reducible rfl))
      try simp only [Act.put, List.setIfInBounds_toArray, List.set_cons_zero, List.set_cons_succ]
      refine wpAnyT_take (i := 7) (v := ?z175) (by simp; rfl) (by kernel_rfl) (by kernel_rfl) (by kernel_rfl) (by exact fun _ _ _ h => h) (T_waits (by kernel_rfl)) (Or.inl ⟨by rfl, ?yz175⟩) hHeld ?_
      case yz175 => (intro wx hSw; have hSx := Ex1.mk hSw; go_simp; (try with_reducible rfl))
      try simp only [Act.put, List.setIfInBounds_toArray, List.set_cons_zero, List.set_cons_succ]
      refine wpAnyT_take (i := 8) (v := ?z176) (by simp; rfl) (by kernel_rfl) (by kernel_rfl) (by kernel_rfl) (by exact fun _ _ _ h => h) (T_waits (by kernel_rfl)) (Or.inl ⟨by rfl, ?yz176⟩) hHeld ?_
      case yz176 => (intro wx hSw; have hSx := Ex1.mk hSw; go_simp; (try with_reducible rfl))
      try simp only [Act.put, List.setIfInBounds_toArray, List.set_cons_zero, List.set_cons_succ]
      refine wpAnyT_take (i := 9) (v := ?z177) (by simp; rfl) (by kernel_rfl) (by kernel_rfl) (by kernel_rfl) (by exact fun _ _ _ h => h) (T_waits (by kernel_rfl)) (Or.inl ⟨by rfl, ?yz177⟩) hHeld ?_
      case yz177 => (intro wx hSw; have hSx := Ex1.mk hSw; go_simp; (try with_reducible rfl))
      try simp only [Act.put, List.setIfInBounds_toArray, List.set_cons_zero, List.set_cons_succ]
      refine wpAnyT_take (i := 10) (v := ?z178) (by simp; rfl) (by kernel_rfl) (by kernel_rfl) (by kernel_rfl) (by exact fun _ _ _ h => h) (T_waits (by kernel_rfl)) (Or.inl ⟨by rfl, ?yz178⟩) hHeld ?_
      case yz178 => (intro wx hSw; have hSx := Ex1.mk hSw; go_simp; (try with_reducible rfl))
      try simp only [Act.put, List.setIfInBounds_toArray, List.set_cons_zero, List.set_cons_succ]
      refine wpAnyT_inv [(3, 13), (4, 14), (5, 15), (6, 16), (11, 21), (12, 22), (13, 23), (14, 24), (15, 25), (16, 26)] (fun i => match i with | 3 => [] | 4 => [] | 5 => [3, 4] | 6 => [5] | 11 => [6] | 12 => [] | 13 => [11, 12] | 14 => [13] | 15 => [3, 4, 5, 6] | 16 => [3, 4, 5, 6, 15] | _ => []) [phiN x.den 5, phiN 6 1, phiN (x.den * 6) 6, phiR (x.den * 6) 8, phiN x.num.natAbs 5, phiN 6 1, phiN (x.num.natAbs * 6) 6, phiR (x.num.natAbs * 6) 8, phiV (.pointer (some ⟨W2.heap.size, 0, none⟩)), phiV (.pointer (some ⟨W2.heap.size, 2, none⟩))] [] 5 (by rfl) (by decide +kernel) (by decide) (by decide) (by kernel_rfl) ?_ (fun _ _ => Ex.below) hHeld ?_ ?_
      · exact fun i hi => nomatch hi
      · intro i hi f W hSw hbw hp
        have kw := Kp1.mk hbw
        have hSx := Ex1.mk hSw
        clear hHeld
        simp only [List.map_cons, List.map_nil, List.mem_cons, List.not_mem_nil, or_false] at hi
        rcases hi with rfl | rfl | rfl | rfl | rfl | rfl | rfl | rfl | rfl | rfl
        · refine ⟨_, by simp; rfl, fun K' hK => ?_⟩
          clear hp
          simp only [putAll, Act.put, List.setIfInBounds_toArray, List.set_cons_zero, List.set_cons_succ] at hK ⊢
          generalize f 3 = v3 at *
          generalize f 4 = v4 at *
          generalize f 5 = v5 at *
          generalize f 6 = v6 at *
          generalize f 11 = v11 at *
          generalize f 12 = v12 at *
          generalize f 13 = v13 at *
          generalize f 14 = v14 at *
          generalize f 15 = v15 at *
          generalize f 16 = v16 at *
          go_simp
          (go_at_call 63; (with_reducible refine Calls.cN (refNC (by omega)) ?_); intros)
          refine hK.out _ _ _ rfl ?_ ?_ ?_
          · exact (inferInstance : Kp W _).out
          · show phiN x.den 5 _ _
            exact phiN.fin rfl (by first | omega | decide)
          · exact fun h => absurd h (by decide)
        · refine ⟨_, by simp; rfl, fun K' hK => ?_⟩
          clear hp
          simp only [putAll, Act.put, List.setIfInBounds_toArray, List.set_cons_zero, List.set_cons_succ] at hK ⊢
          generalize f 3 = v3 at *
          generalize f 4 = v4 at *
          generalize f 5 = v5 at *
          generalize f 6 = v6 at *
          generalize f 11 = v11 at *
          generalize f 12 = v12 at *
          generalize f 13 = v13 at *
          generalize f 14 = v14 at *
          generalize f 15 = v15 at *
          generalize f 16 = v16 at *
          go_simp
          refine hK.out _ _ _ rfl ?_ ?_ ?_
          · exact (inferInstance : Kp W _).out
          · show phiN 6 1 _ _
            exact phiN.fin rfl (by first | omega | decide)
          · exact fun h => absurd h (by decide)
        · have h3 : phiN x.den 5 (f 3) W := hp 3 (by decide)
          have h4 : phiN 6 1 (f 4) W := hp 4 (by decide)
          refine ⟨_, by simp; rfl, fun K' hK => ?_⟩
          clear hp
          simp only [putAll, Act.put, List.setIfInBounds_toArray, List.set_cons_zero, List.set_cons_succ] at hK ⊢
          generalize f 3 = v3 at *
          generalize f 4 = v4 at *
          generalize f 5 = v5 at *
          generalize f 6 = v6 at *
          generalize f 11 = v11 at *
          generalize f 12 = v12 at *
          generalize f 13 = v13 at *
          generalize f 14 = v14 at *
          generalize f 15 = v15 at *
          generalize f 16 = v16 at *
          obtain ⟨a3, l3, c3, rfl, i3⟩ := h3
          obtain ⟨a4, l4, c4, rfl, i4⟩ := h4
          go_simp
          (go_at_call 62; (with_reducible refine Calls.cN (numProductC (by omega)) ?_); intros)
          refine hK.out _ _ _ rfl ?_ ?_ ?_
          · exact (inferInstance : Kp W _).out
          · show phiN (x.den * 6) 6 _ _
            exact phiN.fin rfl (by first | omega | decide)
          · exact fun h => absurd h (by decide)
        · have h5 : phiN (x.den * 6) 6 (f 5) W := hp 5 (by decide)
          refine ⟨_, by simp; rfl, fun K' hK => ?_⟩
          clear hp
          simp only [putAll, Act.put, List.setIfInBounds_toArray, List.set_cons_zero, List.set_cons_succ] at hK ⊢
          generalize f 3 = v3 at *
          generalize f 4 = v4 at *
          generalize f 5 = v5 at *
          generalize f 6 = v6 at *
          generalize f 11 = v11 at *
          generalize f 12 = v12 at *
          generalize f 13 = v13 at *
          generalize f 14 = v14 at *
          generalize f 15 = v15 at *
          generalize f 16 = v16 at *
          obtain ⟨a5, l5, c5, rfl, i5⟩ := h5
          go_simp
          (go_at_call 61; (with_reducible refine Calls.cR (natsC (by omega)) ?_); intros)
          refine hK.out _ _ _ rfl ?_ ?_ ?_
          · exact (inferInstance : Kp W _).out
          · show phiR (x.den * 6) 8 _ _
            exact phiR.fin rfl (by first | omega | decide)
          · exact fun h => absurd h (by decide)
        · have h6 : phiR (x.den * 6) 8 (f 6) W := hp 6 (by decide)
          refine ⟨_, by simp; rfl, fun K' hK => ?_⟩
          clear hp
          simp only [putAll, Act.put, List.setIfInBounds_toArray, List.set_cons_zero, List.set_cons_succ] at hK ⊢
          generalize f 3 = v3 at *
          generalize f 4 = v4 at *
          generalize f 5 = v5 at *
          generalize f 6 = v6 at *
          generalize f 11 = v11 at *
          generalize f 12 = v12 at *
          generalize f 13 = v13 at *
          generalize f 14 = v14 at *
          generalize f 15 = v15 at *
          generalize f 16 = v16 at *
          obtain ⟨a6, l6, c6, rfl, i6⟩ := h6
          go_simp
          (go_at_call 63; (with_reducible refine Calls.cN (refNC (by omega)) ?_); intros)
          refine hK.out _ _ _ rfl ?_ ?_ ?_
          · exact (inferInstance : Kp W _).out
          · show phiN x.num.natAbs 5 _ _
            exact phiN.fin rfl (by first | omega | decide)
          · exact fun h => absurd h (by decide)
        · refine ⟨_, by simp; rfl, fun K' hK => ?_⟩
          clear hp
          simp only [putAll, Act.put, List.setIfInBounds_toArray, List.set_cons_zero, List.set_cons_succ] at hK ⊢
          generalize f 3 = v3 at *
          generalize f 4 = v4 at *
          generalize f 5 = v5 at *
          generalize f 6 = v6 at *
          generalize f 11 = v11 at *
          generalize f 12 = v12 at *
          generalize f 13 = v13 at *
          generalize f 14 = v14 at *
          generalize f 15 = v15 at *
          generalize f 16 = v16 at *
          go_simp
          refine hK.out _ _ _ rfl ?_ ?_ ?_
          · exact (inferInstance : Kp W _).out
          · show phiN 6 1 _ _
            exact phiN.fin rfl (by first | omega | decide)
          · exact fun h => absurd h (by decide)
        · have h11 : phiN x.num.natAbs 5 (f 11) W := hp 11 (by decide)
          have h12 : phiN 6 1 (f 12) W := hp 12 (by decide)
          refine ⟨_, by simp; rfl, fun K' hK => ?_⟩
          clear hp
          simp only [putAll, Act.put, List.setIfInBounds_toArray, List.set_cons_zero, List.set_cons_succ] at hK ⊢
          generalize f 3 = v3 at *
          generalize f 4 = v4 at *
          generalize f 5 = v5 at *
          generalize f 6 = v6 at *
          generalize f 11 = v11 at *
          generalize f 12 = v12 at *
          generalize f 13 = v13 at *
          generalize f 14 = v14 at *
          generalize f 15 = v15 at *
          generalize f 16 = v16 at *
          obtain ⟨a11, l11, c11, rfl, i11⟩ := h11
          obtain ⟨a12, l12, c12, rfl, i12⟩ := h12
          go_simp
          (go_at_call 62; (with_reducible refine Calls.cN (numProductC (by omega)) ?_); intros)
          refine hK.out _ _ _ rfl ?_ ?_ ?_
          · exact (inferInstance : Kp W _).out
          · show phiN (x.num.natAbs * 6) 6 _ _
            exact phiN.fin rfl (by first | omega | decide)
          · exact fun h => absurd h (by decide)
        · have h13 : phiN (x.num.natAbs * 6) 6 (f 13) W := hp 13 (by decide)
          refine ⟨_, by simp; rfl, fun K' hK => ?_⟩
          clear hp
          simp only [putAll, Act.put, List.setIfInBounds_toArray, List.set_cons_zero, List.set_cons_succ] at hK ⊢
          generalize f 3 = v3 at *
          generalize f 4 = v4 at *
          generalize f 5 = v5 at *
          generalize f 6 = v6 at *
          generalize f 11 = v11 at *
          generalize f 12 = v12 at *
          generalize f 13 = v13 at *
          generalize f 14 = v14 at *
          generalize f 15 = v15 at *
          generalize f 16 = v16 at *
          obtain ⟨a13, l13, c13, rfl, i13⟩ := h13
          go_simp
          (go_at_call 61; (with_reducible refine Calls.cR (natsC (by omega)) ?_); intros)
          refine hK.out _ _ _ rfl ?_ ?_ ?_
          · exact (inferInstance : Kp W _).out
          · show phiR (x.num.natAbs * 6) 8 _ _
            exact phiR.fin rfl (by first | omega | decide)
          · exact fun h => absurd h (by decide)
        · have h3 : phiN x.den 5 (f 3) W := hp 3 (by decide)
          have h4 : phiN 6 1 (f 4) W := hp 4 (by decide)
          have h5 : phiN (x.den * 6) 6 (f 5) W := hp 5 (by decide)
          have h6 : phiR (x.den * 6) 8 (f 6) W := hp 6 (by decide)
          refine ⟨_, by simp; rfl, fun K' hK => ?_⟩
          clear hp
          simp only [putAll, Act.put, List.setIfInBounds_toArray, List.set_cons_zero, List.set_cons_succ] at hK ⊢
          generalize f 3 = v3 at *
          generalize f 4 = v4 at *
          generalize f 5 = v5 at *
          generalize f 6 = v6 at *
          generalize f 11 = v11 at *
          generalize f 12 = v12 at *
          generalize f 13 = v13 at *
          generalize f 14 = v14 at *
          generalize f 15 = v15 at *
          generalize f 16 = v16 at *
          obtain ⟨a3, l3, c3, rfl, i3⟩ := h3
          obtain ⟨a4, l4, c4, rfl, i4⟩ := h4
          obtain ⟨a5, l5, c5, rfl, i5⟩ := h5
          obtain ⟨a6, l6, c6, rfl, i6⟩ := h6
          go_simp
          refine hK.out _ _ _ rfl ?_ ?_ ?_
          · exact (inferInstance : Kp W _).out
          · exact rfl
          · exact fun h => absurd h (by decide)
        · have h3 : phiN x.den 5 (f 3) W := hp 3 (by decide)
          have h4 : phiN 6 1 (f 4) W := hp 4 (by decide)
          have h5 : phiN (x.den * 6) 6 (f 5) W := hp 5 (by decide)
          have h6 : phiR (x.den * 6) 8 (f 6) W := hp 6 (by decide)
          have h15 : phiV (.pointer (some ⟨W2.heap.size, 0, none⟩)) (f 15) W := hp 15 (by decide)
          refine ⟨_, by simp; rfl, fun K' hK => ?_⟩
          clear hp
          simp only [putAll, Act.put, List.setIfInBounds_toArray, List.set_cons_zero, List.set_cons_succ] at hK ⊢
          generalize f 3 = v3 at *
          generalize f 4 = v4 at *
          generalize f 5 = v5 at *
          generalize f 6 = v6 at *
          generalize f 11 = v11 at *
          generalize f 12 = v12 at *
          generalize f 13 = v13 at *
          generalize f 14 = v14 at *
          generalize f 15 = v15 at *
          generalize f 16 = v16 at *
          obtain ⟨a3, l3, c3, rfl, i3⟩ := h3
          obtain ⟨a4, l4, c4, rfl, i4⟩ := h4
          obtain ⟨a5, l5, c5, rfl, i5⟩ := h5
          obtain ⟨a6, l6, c6, rfl, i6⟩ := h6
          obtain rfl := h15
          go_simp
          refine hK.out _ _ _ rfl ?_ ?_ ?_
          · exact (inferInstance : Kp W _).out
          · exact rfl
          · exact fun h => absurd h (by decide)
      · intro f W hSw hbw hf hne
        have kw := Kp1.mk hbw
        have hSx := Ex1.mk hSw
        clear hHeld
        have h3 : phiN x.den 5 (f 3) W := hf 3 (by decide)
        have h4 : phiN 6 1 (f 4) W := hf 4 (by decide)
        have h5 : phiN (x.den * 6) 6 (f 5) W := hf 5 (by decide)
        have h6 : phiR (x.den * 6) 8 (f 6) W := hf 6 (by decide)
        have h11 : phiN x.num.natAbs 5 (f 11) W := hf 11 (by decide)
        have h12 : phiN 6 1 (f 12) W := hf 12 (by decide)
        have h13 : phiN (x.num.natAbs * 6) 6 (f 13) W := hf 13 (by decide)
        have h14 : phiR (x.num.natAbs * 6) 8 (f 14) W := hf 14 (by decide)
        have h15 : phiV (.pointer (some ⟨W2.heap.size, 0, none⟩)) (f 15) W := hf 15 (by decide)
        have h16 : phiV (.pointer (some ⟨W2.heap.size, 2, none⟩)) (f 16) W := hf 16 (by decide)
        clear hf hne
        simp only [putAll, lset, List.map_cons, List.map_nil, Act.put, List.setIfInBounds_toArray, List.set_cons_zero, List.set_cons_succ]
        generalize f 3 = v3 at *
        generalize f 4 = v4 at *
        generalize f 5 = v5 at *
        generalize f 6 = v6 at *
        generalize f 11 = v11 at *
        generalize f 12 = v12 at *
        generalize f 13 = v13 at *
        generalize f 14 = v14 at *
        generalize f 15 = v15 at *
        generalize f 16 = v16 at *
        obtain ⟨a3, l3, c3, rfl, i3⟩ := h3
        obtain ⟨a4, l4, c4, rfl, i4⟩ := h4
        obtain ⟨a5, l5, c5, rfl, i5⟩ := h5
        obtain ⟨a6, l6, c6, rfl, i6⟩ := h6
        obtain ⟨a11, l11, c11, rfl, i11⟩ := h11
        obtain ⟨a12, l12, c12, rfl, i12⟩ := h12
        obtain ⟨a13, l13, c13, rfl, i13⟩ := h13
        obtain ⟨a14, l14, c14, rfl, i14⟩ := h14
        obtain rfl := h15
        obtain rfl := h16
        have hHeld := hSw
        refine wpAnyT_ready (rs := [17]) (by kernel_rfl) (by simp) ?_
        refine AllT.cons (by simp; rfl) (fun K hK => ?_) AllT.nil
        go_simp
        refine hK.out _ _ (fun h => absurd h (by decide)) ?_
        clear hHeld hK K
        intro hHeld
        try simp only [Act.put, List.setIfInBounds_toArray, List.set_cons_zero, List.set_cons_succ]
        refine wpAnyT_take0 (i := 18) (v := ?z179) (by simp; rfl) (by kernel_rfl) (by kernel_rfl) (by kernel_rfl) (by exact fun _ _ _ h => h) (by rfl) (Or.inl ⟨by rfl, ?yz179⟩) ?_
        case yz179 => (intro wx _; go_simp; (try with_reducible rfl))
        try simp only [Act.put, List.setIfInBounds_toArray, List.set_cons_zero, List.set_cons_succ]
        refine wpAnyT_take0 (i := 19) (v := ?z180) (by simp; rfl) (by kernel_rfl) (by kernel_rfl) (by kernel_rfl) (by exact fun _ _ _ h => h) (by rfl) (Or.inl ⟨by rfl, ?yz180⟩) ?_
        case yz180 => (intro wx _; go_simp; (try with_reducible rfl))
        try simp only [Act.put, List.setIfInBounds_toArray, List.set_cons_zero, List.set_cons_succ]
        refine wpAnyT_take0 (i := 20) (v := ?z181) (by simp; rfl) (by kernel_rfl) (by kernel_rfl) (by kernel_rfl) (by exact fun _ _ _ h => h) (by rfl) (Or.inl ⟨by rfl, ?yz181⟩) ?_
        case yz181 => (intro wx _; go_simp; (try with_reducible rfl))
        try simp only [Act.put, List.setIfInBounds_toArray, List.set_cons_zero, List.set_cons_succ]
        refine wpAnyT_ready (rs := [21]) (by kernel_rfl) (by simp) ?_
        refine AllT.cons (by simp; rfl) (fun K hK => ?_) AllT.nil
        go_simp
        refine hK.out _ _ (fun h => absurd h (by decide)) ?_
        clear hHeld hK K
        intro hHeld
        try simp only [Act.put, List.setIfInBounds_toArray, List.set_cons_zero, List.set_cons_succ]
        refine wpAnyT_done (by kernel_rfl) ?_ _
        clear hHeld
        go_wp2_with fail
        go_meet
        exact ⟨_, _, _, _, _, _, _, _, inferInstance, inferInstance, CR.cast inferInstance rfl (by omega), CR.cast inferInstance rfl (by omega), inferInstance, inferInstance, inferInstance⟩
    case rest =>
      obtain ⟨m, n, a', l', c', aa', ll', cc', i1, i2, i3, i4, i5, i6, i7⟩ := hcut
      go_wp2_with (first
    | (go_at_call 26; (with_reducible refine Calls.cNext (nextC (by omega)) ?_); intros))
      all_goals
        refine ret_bx rfl Tryz.underlying31 rfl (by kernel_rfl) rfl rfl rfl ?_
        exact ⟨_, _, _, _, _, _, _, _, _, _, _, _, _, _, _, _, rfl, CW.cast inferInstance rfl (by omega), CW.cast inferInstance rfl (by omega), inferInstance, inferInstance⟩
  · have hv2 : (v == 0) = false := by rw [beq_eq_false_iff_ne]; exact hv
    clear hv
    go_wp2_with (first
    | (go_at_call 26; (with_reducible refine Calls.cNext (nextC (by omega)) ?_); intros))
    all_goals
      refine ret_bx rfl Tryz.underlying31 rfl (by kernel_rfl) rfl rfl rfl ?_
      exact ⟨_, _, _, _, _, _, _, _, _, _, _, _, _, _, _, _, rfl, CW.cast inferInstance rfl (by omega), CW.cast inferInstance rfl (by omega), inferInstance, inferInstance⟩

def phiPQ (x y : Rat) (k : Nat) (v : Value) (W : World) : Prop := ∃ g a l c aa ll cc g2 a2 l2 c2 aa2 ll2 cc2, v = .agg #[.bool g, .slice a l c, .slice aa ll cc, .bool g2, .slice a2 l2 c2, .slice aa2 ll2 cc2] ∧ CQ W (.agg #[.bool g, .slice a l c, .slice aa ll cc]) x k ∧ CQ W (.agg #[.bool g2, .slice a2 l2 c2, .slice aa2 ll2 cc2]) y k
instance {x y : Rat} {k : Nat} : Last (phiPQ x y k) := ⟨fun _ _ _ hb ⟨g, a, l, c, aa, ll, cc, g2, a2, l2, c2, aa2, ll2, cc2, e, _, _⟩ => have := Kp1.mk hb; ⟨g, a, l, c, aa, ll, cc, g2, a2, l2, c2, aa2, ll2, cc2, e, inferInstance, inferInstance⟩⟩
theorem phiPQ.fin {x y : Rat} {k k1 k2 : Nat} {g g2 : Bool} {a aa a2 aa2 : Option Addr} {l c ll cc l2 c2 ll2 cc2 : Nat} {W : World} [h1 : CQ W (.agg #[.bool g, .slice a l c, .slice aa ll cc]) x k1] [h2 : CQ W (.agg #[.bool g2, .slice a2 l2 c2, .slice aa2 ll2 cc2]) y k2] (b1 : k1 ≤ k) (b2 : k2 ≤ k) :
    phiPQ x y k (.agg #[.bool g, .slice a l c, .slice aa ll cc, .bool g2, .slice a2 l2 c2, .slice aa2 ll2 cc2]) W := ⟨_, _, _, _, _, _, _, _, _, _, _, _, _, _, rfl, h1.cast rfl b1, h2.cast rfl b2⟩
end Go.Proofs.YtdlnoeegboapkaaGreatDoor
