/-
  Texts of this claim, joined: Ord, Tv, Nrm, Rg2.
-/
import Derived.Test.YtdlnoeegboapkaaGreatDoorCM
import Derived.Test.YtdlnoeegboapkaaGreatDoorCH
import Derived.Deep.CutRange
import Derived.Test.YtdlnoeegboapkaaGreatDoorCE
import Derived.Test.YtdlnoeegboapkaaGreatDoorCL
/- The orders of points and of directions, primitive vectors: packages frac, geo and point, and the reference. printed by a small program (mkord.py). -/
namespace Go.Proofs.YtdlnoeegboapkaaGreatDoor
open Go.RowKit
set_option maxRecDepth 100000
set_option maxHeartbeats 40000000
set_option synthInstance.maxSize 100000
set_option synthInstance.maxHeartbeats 1000000

theorem gcd_lt62 {n m : Int} (h1 : -4611686018427387904 < n) (h2 : n < 4611686018427387904) (h3 : -4611686018427387904 < m) (h4 : m < 4611686018427387904) : Nat.gcd n.natAbs m.natAbs < 4611686018427387904 := by
  rcases Nat.eq_zero_or_pos n.natAbs with h | h
  · rw [h, Nat.gcd_zero_left]; omega
  · have := Nat.gcd_le_left m.natAbs h; omega
theorem fracGcdC {w : World} {n1 d1 n2 d2 : Int} {p1 p2 : Option Addr} {x y : Rat} {k1 k2 : Nat} [h1 : CF w (.agg #[.int .i64 n1, .int .i64 d1, .pointer p1]) x k1] [h2 : CF w (.agg #[.int .i64 n2, .int .i64 d2, .pointer p2]) y k2] (b : k1 ≤ 100000 ∧ k2 ≤ 100000) :
    Calls Tryz.prog 290 #[.agg #[.int .i64 n1, .int .i64 d1, .pointer p1], .agg #[.int .i64 n2, .int .i64 d2, .pointer p2]] w (CFRet w (rgcd x y) (k1 + k2 + 6)) := by
  have hfld : ∀ (x0 x1 : Value) (W : World), (Instr.field 27 (.agg #[x0, x1]) 1).run Tryz.prog W = .ok x1 W := fun _ _ _ => by kernel_rfl
  have HE := Lib.hid (show mkRat (sgn false (Nat.gcd (x.num.natAbs * y.den) (y.num.natAbs * x.den))) (x.den * y.den) = rgcd x y from rfl)
  rcases CF.cases h1 with ⟨rfl, en1, ed1, bn1, bm1, bd1, be1, bk1⟩ | ⟨rfl, rfl, hq1, q1, G1, A1, L1, C1, AA1, LL1, CC1, rfl, hB1, hZ1, hN1⟩
  · rcases CF.cases h2 with ⟨rfl, en2, ed2, bn2, bm2, bd2, be2, bk2⟩ | ⟨rfl, rfl, hq2, q2, G2, A2, L2, C2, AA2, LL2, CC2, rfl, hB2, hZ2, hN2⟩
    · by_cases hd : d1 = 0 ∧ d2 = 0
      · obtain ⟨rfl, rfl⟩ := hd
        have hG0 := @rgcd1 x y (by omega) (by omega)
        rw [en1, en2] at hG0
        have hb := gcd_lt62 bn1 bm1 bn2 bm2
        generalize hG : Nat.gcd n1.natAbs n2.natAbs = G at *
        have HG := Lib.hid hG
        have hw : IntKind.i64.wrap ((G : Nat) : Int) = (G : Int) := by rw [IntKind.wrap_i64]; omega
        have HF : Hid (∀ W : World, CF W (.agg #[.int .i64 ((G : Nat) : Int), .int .i64 0, .pointer none]) (rgcd x y) 2) := fun W => CF.small (by rw [hG0]; rfl) (by rw [hG0]; rfl) (by omega) (by omega) (by omega) (by omega)
        clear hG hG0 en1 en2 ed1 ed2 HE
        go_enter Tryz.func290, Tryz.ntmps290
        go_wp2_with fail
        refine rgn [w.heap.size + 1 + 1] [] fun hHeld => ?_
        refine tk 0 hHeld ?_
        refine tk 1 hHeld ?_
        refine tk 3 hHeld ?_
        refine tk 4 hHeld ?_
        refine st 2 fun K hK => ?_
        go_simp
        (with_reducible refine Calls.cS (absX (by omega) (by omega)) ?_); intros
        refine hd hK ?_
        clear hHeld hK K
        intro hHeld
        refine st 5 fun K hK => ?_
        go_simp
        (with_reducible refine Calls.cS (absX (by omega) (by omega)) ?_); intros
        refine hd hK ?_
        clear hHeld hK K
        intro hHeld
        refine st 6 fun K hK => ?_
        go_simp
        (with_reducible refine Calls.cE (gcd64C (by omega) (by omega) HG) ?_); intros
        refine hd hK ?_
        clear hHeld hK K
        intro hHeld
        refine tk 7 hHeld ?_
        refine tk 8 hHeld ?_
        refine st 9 fun K hK => ?_
        go_simp
        refine hd hK ?_
        clear hHeld hK K
        intro hHeld
        refine dn ?_
        clear hHeld
        go_wp2
        refine ret_bx rfl Tryz.underlying147 rfl (by kernel_rfl) rfl rfl rfl ?_
        exact CFRet.fin (hx := HF.out _) (kx := 2) rfl (by omega)
      · by_cases h1' : d1 = 0
        · have q : (d2 == 0) = false := by rw [beq_eq_false_iff_ne]; omega
          subst h1'
          clear en1 en2 ed1 ed2 hd
          go_enter Tryz.func290, Tryz.ntmps290
          go_wp2_with fail
          refine rgn [w.heap.size + 1 + 1] [] fun hHeld => ?_
          refine tk 0 hHeld ?_
          refine tk 2 hHeld ?_
          refine st 1 fun K hK => ?_
          go_simp
          (with_reducible refine Calls.cN (rDenC (by omega)) ?_); intros
          refine hd hK ?_
          clear hHeld hK K
          intro hHeld
          refine st 3 fun K hK => ?_
          go_simp
          (with_reducible refine Calls.cN (rDenC (by omega)) ?_); intros
          refine hd hK ?_
          clear hHeld hK K
          intro hHeld
          refine st 4 fun K hK => ?_
          go_simp
          (with_reducible refine Calls.cN (mulC (by omega)) ?_); intros
          refine hd hK ?_
          clear hHeld hK K
          intro hHeld
          refine tk 5 hHeld ?_
          refine dn ?_
          clear hHeld
          go_wp2_with (first
              | (go_at_call 182; (with_reducible refine Calls.cF (reduceC (by omega)) ?_); intros))
          refine rgn [w.heap.size + 1 + 1] [] fun hHeld => ?_
          refine tk 0 hHeld ?_
          refine tk 3 hHeld ?_
          refine tk 6 hHeld ?_
          refine tk 9 hHeld ?_
          refine st 1 fun K hK => ?_
          go_simp
          (with_reducible refine Calls.cZn (rNumC (by omega)) ?_); intros
          refine hd hK ?_
          clear hHeld hK K
          intro hHeld
          refine tk 2 hHeld ?_
          refine st 4 fun K hK => ?_
          go_simp
          (with_reducible refine Calls.cN (rDenC (by omega)) ?_); intros
          refine hd hK ?_
          clear hHeld hK K
          intro hHeld
          refine st 5 fun K hK => ?_
          go_simp
          (with_reducible refine Calls.cN (mulC (by omega)) ?_); intros
          refine hd hK ?_
          clear hHeld hK K
          intro hHeld
          refine st 7 fun K hK => ?_
          go_simp
          (with_reducible refine Calls.cZn (rNumC (by omega)) ?_); intros
          refine hd hK ?_
          clear hHeld hK K
          intro hHeld
          refine tk 8 hHeld ?_
          refine st 10 fun K hK => ?_
          go_simp
          (with_reducible refine Calls.cN (rDenC (by omega)) ?_); intros
          refine hd hK ?_
          clear hHeld hK K
          intro hHeld
          refine st 11 fun K hK => ?_
          go_simp
          (with_reducible refine Calls.cN (mulC (by omega)) ?_); intros
          refine hd hK ?_
          clear hHeld hK K
          intro hHeld
          refine st 12 fun K hK => ?_
          go_simp
          (with_reducible refine Calls.cN (gcdC (by omega)) ?_); intros
          refine hd hK ?_
          clear hHeld hK K
          intro hHeld
          refine tk 13 hHeld ?_
          refine dn ?_
          clear hHeld
          go_wp2_with (first
              | (go_at_call 182; (with_reducible refine Calls.cF (reduceC (by omega)) ?_); intros))
          refine ret_bx rfl Tryz.underlying147 rfl (by kernel_rfl) rfl rfl rfl ?_
          exact CFRet.fin HE.out (by omega)
        · have q : (d1 == 0) = false := by rw [beq_eq_false_iff_ne]; exact h1'
          clear en1 en2 ed1 ed2 hd h1'
          go_enter Tryz.func290, Tryz.ntmps290
          go_wp2_with fail
          refine rgn [w.heap.size + 1 + 1] [] fun hHeld => ?_
          refine tk 0 hHeld ?_
          refine tk 2 hHeld ?_
          refine st 1 fun K hK => ?_
          go_simp
          (with_reducible refine Calls.cN (rDenC (by omega)) ?_); intros
          refine hd hK ?_
          clear hHeld hK K
          intro hHeld
          refine st 3 fun K hK => ?_
          go_simp
          (with_reducible refine Calls.cN (rDenC (by omega)) ?_); intros
          refine hd hK ?_
          clear hHeld hK K
          intro hHeld
          refine st 4 fun K hK => ?_
          go_simp
          (with_reducible refine Calls.cN (mulC (by omega)) ?_); intros
          refine hd hK ?_
          clear hHeld hK K
          intro hHeld
          refine tk 5 hHeld ?_
          refine dn ?_
          clear hHeld
          go_wp2_with (first
              | (go_at_call 182; (with_reducible refine Calls.cF (reduceC (by omega)) ?_); intros))
          refine rgn [w.heap.size + 1 + 1] [] fun hHeld => ?_
          refine tk 0 hHeld ?_
          refine tk 3 hHeld ?_
          refine tk 6 hHeld ?_
          refine tk 9 hHeld ?_
          refine st 1 fun K hK => ?_
          go_simp
          (with_reducible refine Calls.cZn (rNumC (by omega)) ?_); intros
          refine hd hK ?_
          clear hHeld hK K
          intro hHeld
          refine tk 2 hHeld ?_
          refine st 4 fun K hK => ?_
          go_simp
          (with_reducible refine Calls.cN (rDenC (by omega)) ?_); intros
          refine hd hK ?_
          clear hHeld hK K
          intro hHeld
          refine st 5 fun K hK => ?_
          go_simp
          (with_reducible refine Calls.cN (mulC (by omega)) ?_); intros
          refine hd hK ?_
          clear hHeld hK K
          intro hHeld
          refine st 7 fun K hK => ?_
          go_simp
          (with_reducible refine Calls.cZn (rNumC (by omega)) ?_); intros
          refine hd hK ?_
          clear hHeld hK K
          intro hHeld
          refine tk 8 hHeld ?_
          refine st 10 fun K hK => ?_
          go_simp
          (with_reducible refine Calls.cN (rDenC (by omega)) ?_); intros
          refine hd hK ?_
          clear hHeld hK K
          intro hHeld
          refine st 11 fun K hK => ?_
          go_simp
          (with_reducible refine Calls.cN (mulC (by omega)) ?_); intros
          refine hd hK ?_
          clear hHeld hK K
          intro hHeld
          refine st 12 fun K hK => ?_
          go_simp
          (with_reducible refine Calls.cN (gcdC (by omega)) ?_); intros
          refine hd hK ?_
          clear hHeld hK K
          intro hHeld
          refine tk 13 hHeld ?_
          refine dn ?_
          clear hHeld
          go_wp2_with (first
              | (go_at_call 182; (with_reducible refine Calls.cF (reduceC (by omega)) ?_); intros))
          refine ret_bx rfl Tryz.underlying147 rfl (by kernel_rfl) rfl rfl rfl ?_
          exact CFRet.fin HE.out (by omega)
    · clear en1 ed1
      go_enter Tryz.func290, Tryz.ntmps290
      go_wp2_with fail
      refine rgn [w.heap.size + 1 + 1] [] fun hHeld => ?_
      refine tk 0 hHeld ?_
      refine tk 2 hHeld ?_
      refine st 1 fun K hK => ?_
      go_simp
      (with_reducible refine Calls.cN (rDenC (by omega)) ?_); intros
      refine hd hK ?_
      clear hHeld hK K
      intro hHeld
      refine st 3 fun K hK => ?_
      go_simp
      (with_reducible refine Calls.cN (rDenC (by omega)) ?_); intros
      refine hd hK ?_
      clear hHeld hK K
      intro hHeld
      refine st 4 fun K hK => ?_
      go_simp
      (with_reducible refine Calls.cN (mulC (by omega)) ?_); intros
      refine hd hK ?_
      clear hHeld hK K
      intro hHeld
      refine tk 5 hHeld ?_
      refine dn ?_
      clear hHeld
      go_wp2_with (first
          | (go_at_call 182; (with_reducible refine Calls.cF (reduceC (by omega)) ?_); intros))
      refine rgn [w.heap.size + 1 + 1] [] fun hHeld => ?_
      refine tk 0 hHeld ?_
      refine tk 3 hHeld ?_
      refine tk 6 hHeld ?_
      refine tk 9 hHeld ?_
      refine st 1 fun K hK => ?_
      go_simp
      (with_reducible refine Calls.cZn (rNumC (by omega)) ?_); intros
      refine hd hK ?_
      clear hHeld hK K
      intro hHeld
      refine tk 2 hHeld ?_
      refine st 4 fun K hK => ?_
      go_simp
      (with_reducible refine Calls.cN (rDenC (by omega)) ?_); intros
      refine hd hK ?_
      clear hHeld hK K
      intro hHeld
      refine st 5 fun K hK => ?_
      go_simp
      (with_reducible refine Calls.cN (mulC (by omega)) ?_); intros
      refine hd hK ?_
      clear hHeld hK K
      intro hHeld
      refine st 7 fun K hK => ?_
      go_simp
      (with_reducible refine Calls.cZn (rNumC (by omega)) ?_); intros
      refine hd hK ?_
      clear hHeld hK K
      intro hHeld
      refine tk 8 hHeld ?_
      refine st 10 fun K hK => ?_
      go_simp
      (with_reducible refine Calls.cN (rDenC (by omega)) ?_); intros
      refine hd hK ?_
      clear hHeld hK K
      intro hHeld
      refine st 11 fun K hK => ?_
      go_simp
      (with_reducible refine Calls.cN (mulC (by omega)) ?_); intros
      refine hd hK ?_
      clear hHeld hK K
      intro hHeld
      refine st 12 fun K hK => ?_
      go_simp
      (with_reducible refine Calls.cN (gcdC (by omega)) ?_); intros
      refine hd hK ?_
      clear hHeld hK K
      intro hHeld
      refine tk 13 hHeld ?_
      refine dn ?_
      clear hHeld
      go_wp2_with (first
          | (go_at_call 182; (with_reducible refine Calls.cF (reduceC (by omega)) ?_); intros))
      refine ret_bx rfl Tryz.underlying147 rfl (by kernel_rfl) rfl rfl rfl ?_
      exact CFRet.fin HE.out (by omega)
  · go_enter Tryz.func290, Tryz.ntmps290
    go_wp2_with fail
    refine rgn [w.heap.size + 1 + 1] [] fun hHeld => ?_
    refine tk 0 hHeld ?_
    refine tk 2 hHeld ?_
    refine st 1 fun K hK => ?_
    go_simp
    (with_reducible refine Calls.cN (rDenC (by omega)) ?_); intros
    refine hd hK ?_
    clear hHeld hK K
    intro hHeld
    refine st 3 fun K hK => ?_
    go_simp
    (with_reducible refine Calls.cN (rDenC (by omega)) ?_); intros
    refine hd hK ?_
    clear hHeld hK K
    intro hHeld
    refine st 4 fun K hK => ?_
    go_simp
    (with_reducible refine Calls.cN (mulC (by omega)) ?_); intros
    refine hd hK ?_
    clear hHeld hK K
    intro hHeld
    refine tk 5 hHeld ?_
    refine dn ?_
    clear hHeld
    go_wp2_with (first
        | (go_at_call 182; (with_reducible refine Calls.cF (reduceC (by omega)) ?_); intros))
    refine rgn [w.heap.size + 1 + 1] [] fun hHeld => ?_
    refine tk 0 hHeld ?_
    refine tk 3 hHeld ?_
    refine tk 6 hHeld ?_
    refine tk 9 hHeld ?_
    refine st 1 fun K hK => ?_
    go_simp
    (with_reducible refine Calls.cZn (rNumC (by omega)) ?_); intros
    refine hd hK ?_
    clear hHeld hK K
    intro hHeld
    refine tk 2 hHeld ?_
    refine st 4 fun K hK => ?_
    go_simp
    (with_reducible refine Calls.cN (rDenC (by omega)) ?_); intros
    refine hd hK ?_
    clear hHeld hK K
    intro hHeld
    refine st 5 fun K hK => ?_
    go_simp
    (with_reducible refine Calls.cN (mulC (by omega)) ?_); intros
    refine hd hK ?_
    clear hHeld hK K
    intro hHeld
    refine st 7 fun K hK => ?_
    go_simp
    (with_reducible refine Calls.cZn (rNumC (by omega)) ?_); intros
    refine hd hK ?_
    clear hHeld hK K
    intro hHeld
    refine tk 8 hHeld ?_
    refine st 10 fun K hK => ?_
    go_simp
    (with_reducible refine Calls.cN (rDenC (by omega)) ?_); intros
    refine hd hK ?_
    clear hHeld hK K
    intro hHeld
    refine st 11 fun K hK => ?_
    go_simp
    (with_reducible refine Calls.cN (mulC (by omega)) ?_); intros
    refine hd hK ?_
    clear hHeld hK K
    intro hHeld
    refine st 12 fun K hK => ?_
    go_simp
    (with_reducible refine Calls.cN (gcdC (by omega)) ?_); intros
    refine hd hK ?_
    clear hHeld hK K
    intro hHeld
    refine tk 13 hHeld ?_
    refine dn ?_
    clear hHeld
    go_wp2_with (first
        | (go_at_call 182; (with_reducible refine Calls.cF (reduceC (by omega)) ?_); intros))
    refine ret_bx rfl Tryz.underlying147 rfl (by kernel_rfl) rfl rfl rfl ?_
    exact CFRet.fin HE.out (by omega)

theorem rCmpV {w : World} {v : Int} {n1 d1 n2 d2 : Int} {p1 p2 : Option Addr} {x y : Rat} {k1 k2 : Nat} [h1 : CF w (.agg #[.int .i64 n1, .int .i64 d1, .pointer p1]) x k1] [h2 : CF w (.agg #[.int .i64 n2, .int .i64 d2, .pointer p2]) y k2] (b : k1 ≤ 100000 ∧ k2 ≤ 100000) (hv : Hid (isgn (x - y).num = v)) :
    Calls Tryz.prog 204 #[.agg #[.int .i64 n1, .int .i64 d1, .pointer p1], .agg #[.int .i64 n2, .int .i64 d2, .pointer p2]] w (fun e w' => e = .returned (.int .i64 v) ∧ Below w.heap.size w w') := by
  rw [← hv.out]; exact rCmpC b
theorem numCV {w : World} {v : Int} {g1 g2 : Bool} {a1 aa1 a2 aa2 : Option Addr} {l1 c1 ll1 cc1 l2 c2 ll2 cc2 k1 k2 : Nat} {x y : Rat} [h1 : CQ w (.agg #[.bool g1, .slice a1 l1 c1, .slice aa1 ll1 cc1]) x k1] [h2 : CQ w (.agg #[.bool g2, .slice a2 l2 c2, .slice aa2 ll2 cc2]) y k2] (b : k1 ≤ 10000 ∧ k2 ≤ 10000) (hv : Hid (isgn (x - y).num = v)) :
    Calls Tryz.prog 78 #[.agg #[.bool g1, .slice a1 l1 c1, .slice aa1 ll1 cc1], .agg #[.bool g2, .slice a2 l2 c2, .slice aa2 ll2 cc2]] w (fun e w' => e = .returned (.int .i64 v) ∧ Below w.heap.size w w') := by
  rw [← hv.out]; exact numCC (by omega)
end Go.Proofs.YtdlnoeegboapkaaGreatDoor

/- Points and vectors of small integers off the tape; whether two points are the same. printed by a small program (mktv.py). -/
namespace Go.Proofs.YtdlnoeegboapkaaGreatDoor
open Go.RowKit
set_option maxRecDepth 100000
set_option maxHeartbeats 40000000
set_option synthInstance.maxSize 100000
set_option synthInstance.maxHeartbeats 1000000

theorem isgn_dec {x y : Rat} : (isgn (x - y).num == 0) = decide (x = y) := by
  rw [Bool.eq_iff_iff, beq_iff_eq, decide_eq_true_eq]
  rw [isg_zero]
  constructor
  · intro h; grind
  · rintro rfl; grind
theorem refSameC {w : World} {g1x g1y g2x g2y : Bool} {a1x aa1x a1y aa1y a2x aa2x a2y aa2y : Option Addr} {l1x c1x ll1x cc1x l1y c1y ll1y cc1y l2x c2x ll2x cc2x l2y c2y ll2y cc2y k1x k1y k2x k2y : Nat} {x1 y1 x2 y2 : Rat} [h1x : CQ w (.agg #[.bool g1x, .slice a1x l1x c1x, .slice aa1x ll1x cc1x]) x1 k1x] [h1y : CQ w (.agg #[.bool g1y, .slice a1y l1y c1y, .slice aa1y ll1y cc1y]) y1 k1y] [h2x : CQ w (.agg #[.bool g2x, .slice a2x l2x c2x, .slice aa2x ll2x cc2x]) x2 k2x] [h2y : CQ w (.agg #[.bool g2y, .slice a2y l2y c2y, .slice aa2y ll2y cc2y]) y2 k2y] (b : k1x ≤ 9000 ∧ k1y ≤ 9000 ∧ k2x ≤ 9000 ∧ k2y ≤ 9000) :
    Calls Tryz.prog 83 #[.agg #[.bool g1x, .slice a1x l1x c1x, .slice aa1x ll1x cc1x, .bool g1y, .slice a1y l1y c1y, .slice aa1y ll1y cc1y], .agg #[.bool g2x, .slice a2x l2x c2x, .slice aa2x ll2x cc2x, .bool g2y, .slice a2y l2y c2y, .slice aa2y ll2y cc2y]] w (fun e w' => e = .returned (.bool (decide (x1 = x2) && decide (y1 = y2))) ∧ Below w.heap.size w w') := by
  have HX := Lib.hid (@isgn_dec x1 x2)
  have HY := Lib.hid (@isgn_dec y1 y2)
  obtain ⟨c, hc⟩ : ∃ c, isgn (x1 - x2).num = c := ⟨_, rfl⟩
  obtain ⟨d, hd⟩ : ∃ d, isgn (y1 - y2).num = d := ⟨_, rfl⟩
  rw [hc] at HX
  rw [hd] at HY
  have HC := Lib.hid hc
  have HD := Lib.hid hd
  clear hc hd
  by_cases h : c = 0
  · subst h
    go_enter Tryz.func83, Tryz.ntmps83
    go_wp2_with (first
      | (go_at_call 78; (with_reducible refine Calls.cE (numCV (by omega) HC) ?_); intros)
      | (go_at_call 78; (with_reducible refine Calls.cE (numCV (by omega) HD) ?_); intros))
    go_ret
    exact E.fin (by rw [← HX.out, ← HY.out]; simp)
  · have q : (c == 0) = false := by rw [beq_eq_false_iff_ne]; exact h
    clear h
    go_enter Tryz.func83, Tryz.ntmps83
    go_wp2_with (first
      | (go_at_call 78; (with_reducible refine Calls.cE (numCV (by omega) HC) ?_); intros)
      | (go_at_call 78; (with_reducible refine Calls.cE (numCV (by omega) HD) ?_); intros))
    go_ret
    exact E.fin (by rw [← HX.out, q]; rfl)

theorem ptEqualC {w : World} {n1x d1x n1y d1y n2x d2x n2y d2y : Int} {p1x p1y p2x p2y : Option Addr} {x1 y1 x2 y2 : Rat} {k1x k1y k2x k2y : Nat} [h1x : CF w (.agg #[.int .i64 n1x, .int .i64 d1x, .pointer p1x]) x1 k1x] [h1y : CF w (.agg #[.int .i64 n1y, .int .i64 d1y, .pointer p1y]) y1 k1y] [h2x : CF w (.agg #[.int .i64 n2x, .int .i64 d2x, .pointer p2x]) x2 k2x] [h2y : CF w (.agg #[.int .i64 n2y, .int .i64 d2y, .pointer p2y]) y2 k2y] (b : k1x ≤ 20000 ∧ k1y ≤ 20000 ∧ k2x ≤ 20000 ∧ k2y ≤ 20000) :
    Calls Tryz.prog 108 #[.agg #[.int .i64 n1x, .int .i64 d1x, .pointer p1x, .int .i64 n1y, .int .i64 d1y, .pointer p1y], .agg #[.int .i64 n2x, .int .i64 d2x, .pointer p2x, .int .i64 n2y, .int .i64 d2y, .pointer p2y]] w (fun e w' => e = .returned (.bool (decide (x1 = x2) && decide (y1 = y2))) ∧ Below w.heap.size w w') := by
  by_cases h : x1 = x2
  · have hd : decide (x1 = x2) = true := decide_eq_true h
    have HD := Lib.hid hd
    clear h
    go_enter Tryz.func108, Tryz.ntmps108
    go_wp2_with (first
    | (go_at_call 167; (with_reducible refine Calls.cE (rEqualC (by omega)) ?_); intros))
    go_ret
    exact E.fin (by rw [HD.out, Bool.true_and]; rfl)
  · have hd : decide (x1 = x2) = false := decide_eq_false h
    have HD := Lib.hid hd
    clear h
    go_enter Tryz.func108, Tryz.ntmps108
    go_wp2_with (first
    | (go_at_call 167; (with_reducible refine Calls.cE (rEqualC (by omega)) ?_); intros))
    go_ret
    exact E.fin (by rw [HD.out, Bool.false_and]; rfl)

theorem refXyC {w : World} {m n : Int} (b : (-9223372036854775808 ≤ m ∧ m < 9223372036854775808) ∧ -9223372036854775808 ≤ n ∧ n < 9223372036854775808) :
    Calls Tryz.prog 22 #[.int .i64 m, .int .i64 n] w (CPQRet w (m : Rat) (n : Rat) 4) := by
  go_enter Tryz.func22, Tryz.ntmps22
  go_wp2_with (first
    | (go_at_call 76; (with_reducible refine Calls.cQ (numOfC (by omega)) ?_); intros))
  refine ret_bx rfl Tryz.underlying47 rfl (by kernel_rfl) rfl rfl rfl ?_
  exact CPQRet.fin rfl (by omega) rfl (by omega)

/-- A point with integer coordinates is read off the tape. -/
def TPIRet (w : World) (t : Nat) (k : Nat) (e : Ending) (w' : World) : Prop := ∃ (g : Bool) (a : Option Addr) (l c : Nat) (aa : Option Addr) (ll cc : Nat) (g2 : Bool) (a2 : Option Addr) (l2 c2 : Nat) (aa2 : Option Addr) (ll2 cc2 : Nat) (m n : Int), e = .returned (.agg #[.bool g, .slice a l c, .slice aa ll cc, .bool g2, .slice a2 l2 c2, .slice aa2 ll2 cc2]) ∧ CQ w' (.agg #[.bool g, .slice a l c, .slice aa ll cc]) ((m : Int) : Rat) k ∧ CQ w' (.agg #[.bool g2, .slice a2 l2 c2, .slice aa2 ll2 cc2]) ((n : Int) : Rat) k ∧ (-4 ≤ m ∧ m ≤ 4 ∧ -4 ≤ n ∧ n ≤ 4) ∧ Ct w' t ∧ Gb w w' t
theorem Calls.cTPI {P : Program} {f : FuncId} {args : Array Value} {w : World} {t k : Nat} {K : Ending → World → Prop} [ht : Ct w t] (h : Calls P f args w (TPIRet w t k))
    (hK : ∀ w' [Tp1 w w' t] [Ct w' t] (g : Bool) (a : Option Addr) (l c : Nat) (aa : Option Addr) (ll cc : Nat) (g2 : Bool) (a2 : Option Addr) (l2 c2 : Nat) (aa2 : Option Addr) (ll2 cc2 : Nat) (m n : Int) [CQ w' (.agg #[.bool g, .slice a l c, .slice aa ll cc]) ((m : Int) : Rat) k] [CQ w' (.agg #[.bool g2, .slice a2 l2 c2, .slice aa2 ll2 cc2]) ((n : Int) : Rat) k], Hid (-4 ≤ m ∧ m ≤ 4 ∧ -4 ≤ n ∧ n ≤ 4) → K (.returned (.agg #[.bool g, .slice a l c, .slice aa ll cc, .bool g2, .slice a2 l2 c2, .slice aa2 ll2 cc2])) w') : Calls P f args w K := by
  refine h.mono ?_
  rintro e w' ⟨g, a, l, c, aa, ll, cc, g2, a2, l2, c2, aa2, ll2, cc2, m, n, rfl, hx, hy, hz, hc, hb⟩
  exact @hK w' ⟨hb.out, ht.out⟩ hc g a l c aa ll cc g2 a2 l2 c2 aa2 ll2 cc2 m n hx hy hz
theorem tapePI {w : World} {t : Nat} [ht : Ct w t] : Calls Tryz.prog 79 #[.pointer (some ⟨t, 0, none⟩)] w (TPIRet w t 4) := by
  go_enter Tryz.func79, Tryz.ntmps79
  go_wp2_with fail
  with_reducible refine Calls.cNext (nextC (by omega)) ?_
  intro W1 _ _ m m1 m2
  have e1 : IntKind.i64.wrap (m - 4) = m - 4 := by rw [IntKind.wrap_i64]; omega
  go_wp2_with fail
  with_reducible refine Calls.cNext (nextC (by omega)) ?_
  intro W2 _ _ n n1 n2
  have e2 : IntKind.i64.wrap (n - 4) = n - 4 := by rw [IntKind.wrap_i64]; omega
  go_wp2_with (first
    | (go_at_call 22; (with_reducible refine Calls.cPQ (refXyC (by omega)) ?_); intros))
  refine ret_bx rfl Tryz.underlying47 rfl (by kernel_rfl) rfl rfl rfl ?_
  exact ⟨_, _, _, _, _, _, _, _, _, _, _, _, _, _, _, _, rfl, inferInstance, inferInstance, ⟨by omega, by omega, by omega, by omega⟩, inferInstance, inferInstance⟩

theorem tapePC {w : World} {t : Nat} [ht : Ct w t] : Calls Tryz.prog 79 #[.pointer (some ⟨t, 0, none⟩)] w (TPRet w t 4) := by
  refine tapePI.mono ?_
  rintro e w' ⟨g, a, l, c, aa, ll, cc, g2, a2, l2, c2, aa2, ll2, cc2, m, n, rfl, hx, hy, hz, hc, hb⟩
  exact ⟨_, _, _, _, _, _, _, _, _, _, _, _, _, _, _, _, rfl, hx, hy, hc, hb⟩

/-- A vector other than 0 is read off the tape. -/
def TVRet (w : World) (t : Nat) (k : Nat) (e : Ending) (w' : World) : Prop := ∃ (g : Bool) (a : Option Addr) (l c : Nat) (aa : Option Addr) (ll cc : Nat) (g2 : Bool) (a2 : Option Addr) (l2 c2 : Nat) (aa2 : Option Addr) (ll2 cc2 : Nat) (x y : Rat), e = .returned (.agg #[.bool g, .slice a l c, .slice aa ll cc, .bool g2, .slice a2 l2 c2, .slice aa2 ll2 cc2]) ∧ CQ w' (.agg #[.bool g, .slice a l c, .slice aa ll cc]) x k ∧ CQ w' (.agg #[.bool g2, .slice a2 l2 c2, .slice aa2 ll2 cc2]) y k ∧ ¬ (x = 0 ∧ y = 0) ∧ Ct w' t ∧ Gb w w' t
theorem Calls.cTV {P : Program} {f : FuncId} {args : Array Value} {w : World} {t k : Nat} {K : Ending → World → Prop} [ht : Ct w t] (h : Calls P f args w (TVRet w t k))
    (hK : ∀ w' [Tp1 w w' t] [Ct w' t] (g : Bool) (a : Option Addr) (l c : Nat) (aa : Option Addr) (ll cc : Nat) (g2 : Bool) (a2 : Option Addr) (l2 c2 : Nat) (aa2 : Option Addr) (ll2 cc2 : Nat) (x y : Rat) [CQ w' (.agg #[.bool g, .slice a l c, .slice aa ll cc]) x k] [CQ w' (.agg #[.bool g2, .slice a2 l2 c2, .slice aa2 ll2 cc2]) y k], ¬ (x = 0 ∧ y = 0) → K (.returned (.agg #[.bool g, .slice a l c, .slice aa ll cc, .bool g2, .slice a2 l2 c2, .slice aa2 ll2 cc2])) w') : Calls P f args w K := by
  refine h.mono ?_
  rintro e w' ⟨g, a, l, c, aa, ll, cc, g2, a2, l2, c2, aa2, ll2, cc2, x, y, rfl, hx, hy, hz, hc, hb⟩
  exact @hK w' ⟨hb.out, ht.out⟩ hc g a l c aa ll cc g2 a2 l2 c2 aa2 ll2 cc2 x y hx hy hz
/-- A vector other than 0 with integer coordinates is read off the tape. -/
def TVIRet (w : World) (t : Nat) (k : Nat) (e : Ending) (w' : World) : Prop := ∃ (g : Bool) (a : Option Addr) (l c : Nat) (aa : Option Addr) (ll cc : Nat) (g2 : Bool) (a2 : Option Addr) (l2 c2 : Nat) (aa2 : Option Addr) (ll2 cc2 : Nat) (m n : Int), e = .returned (.agg #[.bool g, .slice a l c, .slice aa ll cc, .bool g2, .slice a2 l2 c2, .slice aa2 ll2 cc2]) ∧ CQ w' (.agg #[.bool g, .slice a l c, .slice aa ll cc]) ((m : Int) : Rat) k ∧ CQ w' (.agg #[.bool g2, .slice a2 l2 c2, .slice aa2 ll2 cc2]) ((n : Int) : Rat) k ∧ (-4 ≤ m ∧ m ≤ 4 ∧ -4 ≤ n ∧ n ≤ 4 ∧ ¬ (m = 0 ∧ n = 0)) ∧ Ct w' t ∧ Gb w w' t
theorem Calls.cTVI {P : Program} {f : FuncId} {args : Array Value} {w : World} {t k : Nat} {K : Ending → World → Prop} [ht : Ct w t] (h : Calls P f args w (TVIRet w t k))
    (hK : ∀ w' [Tp1 w w' t] [Ct w' t] (g : Bool) (a : Option Addr) (l c : Nat) (aa : Option Addr) (ll cc : Nat) (g2 : Bool) (a2 : Option Addr) (l2 c2 : Nat) (aa2 : Option Addr) (ll2 cc2 : Nat) (m n : Int) [CQ w' (.agg #[.bool g, .slice a l c, .slice aa ll cc]) ((m : Int) : Rat) k] [CQ w' (.agg #[.bool g2, .slice a2 l2 c2, .slice aa2 ll2 cc2]) ((n : Int) : Rat) k], Hid (-4 ≤ m ∧ m ≤ 4 ∧ -4 ≤ n ∧ n ≤ 4 ∧ ¬ (m = 0 ∧ n = 0)) → K (.returned (.agg #[.bool g, .slice a l c, .slice aa ll cc, .bool g2, .slice a2 l2 c2, .slice aa2 ll2 cc2])) w') : Calls P f args w K := by
  refine h.mono ?_
  rintro e w' ⟨g, a, l, c, aa, ll, cc, g2, a2, l2, c2, aa2, ll2, cc2, m, n, rfl, hx, hy, hz, hc, hb⟩
  exact @hK w' ⟨hb.out, ht.out⟩ hc g a l c aa ll cc g2 a2 l2 c2 aa2 ll2 cc2 m n hx hy hz
theorem refSameV {w : World} {v : Bool} {g1x g1y g2x g2y : Bool} {a1x aa1x a1y aa1y a2x aa2x a2y aa2y : Option Addr} {l1x c1x ll1x cc1x l1y c1y ll1y cc1y l2x c2x ll2x cc2x l2y c2y ll2y cc2y k1x k1y k2x k2y : Nat} {x1 y1 x2 y2 : Rat} [h1x : CQ w (.agg #[.bool g1x, .slice a1x l1x c1x, .slice aa1x ll1x cc1x]) x1 k1x] [h1y : CQ w (.agg #[.bool g1y, .slice a1y l1y c1y, .slice aa1y ll1y cc1y]) y1 k1y] [h2x : CQ w (.agg #[.bool g2x, .slice a2x l2x c2x, .slice aa2x ll2x cc2x]) x2 k2x] [h2y : CQ w (.agg #[.bool g2y, .slice a2y l2y c2y, .slice aa2y ll2y cc2y]) y2 k2y] (b : k1x ≤ 9000 ∧ k1y ≤ 9000 ∧ k2x ≤ 9000 ∧ k2y ≤ 9000) (hv : Hid ((decide (x1 = x2) && decide (y1 = y2)) = v)) :
    Calls Tryz.prog 83 #[.agg #[.bool g1x, .slice a1x l1x c1x, .slice aa1x ll1x cc1x, .bool g1y, .slice a1y l1y c1y, .slice aa1y ll1y cc1y], .agg #[.bool g2x, .slice a2x l2x c2x, .slice aa2x ll2x cc2x, .bool g2y, .slice a2y l2y c2y, .slice aa2y ll2y cc2y]] w (fun e w' => e = .returned (.bool v) ∧ Below w.heap.size w w') := by
  rw [← hv.out]; exact refSameC b
theorem tapeVI {w : World} {t : Nat} [ht : Ct w t] : Calls Tryz.prog 80 #[.pointer (some ⟨t, 0, none⟩)] w (TVIRet w t 4) := by
  go_enter Tryz.func80, Tryz.ntmps80
  go_wp2_with fail
  with_reducible refine Calls.cTPI tapePI ?_
  intro W1 _ _ g a l c aa ll cc g2 a2 l2 c2 aa2 ll2 cc2 m n _ _ hmn
  obtain ⟨v, hv⟩ : ∃ v, (decide (((m : Int) : Rat) = ((0 : Int) : Rat)) && decide (((n : Int) : Rat) = ((0 : Int) : Rat))) = v := ⟨_, rfl⟩
  have HV := Lib.hid hv
  clear hv
  cases v with
  | true =>
    go_wp2_with (first
      | (go_at_call 83; (with_reducible refine Calls.cE (refSameV (by omega) HV) ?_); intros)
      | (go_at_call 22; (with_reducible refine Calls.cPQ (refXyC (by omega)) ?_); intros))
    refine ret_bx rfl Tryz.underlying47 rfl (by kernel_rfl) rfl rfl rfl ?_
    exact ⟨_, _, _, _, _, _, _, _, _, _, _, _, _, _, 1, 0, rfl, inferInstance, inferInstance, ⟨by omega, by omega, by omega, by omega, by omega⟩, inferInstance, inferInstance⟩
  | false =>
    have hz : ¬ (m = 0 ∧ n = 0) := fun h => by have := HV.out; rw [h.1, h.2] at this; revert this; decide +kernel
    have HZ := Lib.hid hz
    clear hz
    go_wp2_with (first
      | (go_at_call 83; (with_reducible refine Calls.cE (refSameV (by omega) HV) ?_); intros))
    refine ret_bx rfl Tryz.underlying47 rfl (by kernel_rfl) rfl rfl rfl ?_
    exact ⟨_, _, _, _, _, _, _, _, _, _, _, _, _, _, _, _, rfl, inferInstance, inferInstance, ⟨hmn.out.1, hmn.out.2.1, hmn.out.2.2.1, hmn.out.2.2.2, HZ.out⟩, inferInstance, inferInstance⟩
theorem tapeVC {w : World} {t : Nat} [ht : Ct w t] : Calls Tryz.prog 80 #[.pointer (some ⟨t, 0, none⟩)] w (TVRet w t 4) := by
  refine tapeVI.mono ?_
  rintro e w' ⟨g, a, l, c, aa, ll, cc, g2, a2, l2, c2, aa2, ll2, cc2, m, n, rfl, hx, hy, hz, hc, hb⟩
  exact ⟨_, _, _, _, _, _, _, _, _, _, _, _, _, _, _, _, rfl, hx, hy, fun h => hz.2.2.2.2 ⟨by exact_mod_cast h.1, by exact_mod_cast h.2⟩, hc, hb⟩

end Go.Proofs.YtdlnoeegboapkaaGreatDoor

/- Normal forms of numbers that came in as arguments: the digits are any digits. Package frac and the reference decide alike. printed by a small program (mknrm.py). -/
namespace Go.Proofs.YtdlnoeegboapkaaGreatDoor
open Go.RowKit
set_option maxRecDepth 100000
set_option maxHeartbeats 40000000
set_option synthInstance.maxSize 100000
set_option synthInstance.maxHeartbeats 1000000

/-- The slice v reads as the digits l. -/
class RL (W : World) (v : Value) (l : outParam (List Nat)) : Prop where out : Rd W v l
instance RL.al {W : World} {v : Value} {l : (List Nat)} {o : Obj} [h : RL W v l] : RL (W.alloc o) v l := ⟨h.out.keep (blw_one _ _)⟩
instance RL.dr {W : World} {v : Value} {l : (List Nat)} [h : RL W v l] : RL W.drew v l := ⟨h.out.keep (blw_drew (Below.refl _ _))⟩
instance RL.drN {W : World} {v : Value} {l : (List Nat)} {j : Nat} [h : RL W v l] : RL (W.drewN j) v l := ⟨h.out.keep (blw_drewN (Below.refl _ _) _)⟩
instance RL.kp {W W2 : World} {v : Value} {l : (List Nat)} [b : Kp1 W W2] [h : RL W v l] : RL W2 v l := ⟨h.out.keep (b.out)⟩
instance RL.tp {W W2 : World} {v : Value} {l : (List Nat)} {g : Nat} [b : Tp1 W W2 g] [h : RL W v l] : RL W2 v l := ⟨h.out.tp b.tp b.gb⟩
instance RL.st {W : World} {v : Value} {l : (List Nat)} {qb ib : Nat} {xv : Value} [b : SoftB W qb] [h : RL W v l] : RL (W.setCell ⟨qb, ib, none⟩ xv) v l := ⟨h.out.soft b⟩
instance (priority := low) CR.ofL {W : World} {v : Value} {l : List Nat} [h : RL W v l] : CR W v (val l) l.length := ⟨.of_rd h.out (Nat.le_refl _)⟩
theorem RL.len {W : World} {a : Option Addr} {n c : Nat} {l : List Nat} (h : RL W (.slice a n c) l) : n = l.length := h.out.len
theorem rl_row {w : World} {a : Option Addr} {len cap : Nat} {zs : List Int} (h : IsRow .u32 w a len cap zs) : ∃ l, l.length = len ∧ RL w (.slice a len cap) l := by
  obtain ⟨l, h1, h2⟩ := rd_of_row h
  exact ⟨l, h1, ⟨h2⟩⟩
theorem normalB_nfx (n : Nat) : normalB (nf n) = true := by
  by_cases h : n = 0
  · subst h; rfl
  · exact normalB_ne (nf_last n h)
theorem normalB_iff {l : List Nat} (hl : Dig l) : normalB l = true ↔ l = nf (val l) := by
  constructor
  · intro h
    refine (nf_of_normal hl ?_).symm
    simp only [normalB, Bool.or_eq_true, decide_eq_true_eq] at h
    rcases h with h | h
    · left; exact List.eq_nil_of_length_eq_zero h
    · right; exact h
  · intro h; rw [h]; exact normalB_nfx _
/-- The integer with sign g and digits l is in normal form. -/
def nrmI (g : Bool) (l : List Nat) : Bool := normalB l && (!g || decide (0 < l.length))
def nrmQ (g : Bool) (l ll : List Nat) : Bool := nrmI g l && normalB ll && decide (0 < ll.length) && decide (Nat.gcd (val l) (val ll) = 1)
def sameP (g : Bool) (l ll : List Nat) (x : Rat) : Bool := (decide (g = decide (x.num < 0)) && sameB l (nf x.num.natAbs)) && sameB ll (nf x.den)
def refB (g : Bool) (l ll : List Nat) (x : Rat) : Bool := sameP g l ll x && decide (0 < ll.length)
theorem nrm_ref {g : Bool} {l ll : List Nat} (hl : Dig l) (hll : Dig ll) : refB g l ll (mkRat (sgn g (val l)) (val ll)) = nrmQ g l ll := by
  rw [Bool.eq_iff_iff]
  simp only [refB, sameP, nrmQ, nrmI, sameB, Bool.and_eq_true, Bool.or_eq_true, decide_eq_true_eq, Bool.not_eq_true', normalB_iff hl, normalB_iff hll]
  generalize hx : mkRat (sgn g (val l)) (val ll) = x
  constructor
  · rintro ⟨⟨⟨h1, h2⟩, h3⟩, h4⟩
    have e2 : val l = x.num.natAbs := by rw [h2, val_nf]
    have e3 : val ll = x.den := by rw [h3, val_nf]
    refine ⟨⟨⟨⟨by rw [e2]; exact h2, ?_⟩, by rw [e3]; exact h3⟩, h4⟩, by rw [e2, e3]; exact x.reduced⟩
    cases g with
    | false => left; rfl
    | true =>
      right
      have hn : x.num < 0 := by simpa using h1.symm
      rw [h2]
      exact nf_len_pos (by omega)
  · rintro ⟨⟨⟨⟨h1, h2⟩, h3⟩, h4⟩, h5⟩
    have hz : val ll ≠ 0 := by
      intro e
      rw [e] at h3
      rw [h3] at h4
      simp [nf_zero] at h4
    by_cases h0 : val l = 0
    · have e1 : l = [] := by rw [h1, h0]; rfl
      have hg : g = false := by
        rcases h2 with h2 | h2
        · exact h2
        · rw [e1] at h2; simp at h2
      have e2 : val ll = 1 := by rw [h0, Nat.gcd_zero_left] at h5; exact h5
      have ex : x = 0 := by rw [← hx, h0, hg, sgn_false]; exact Rat.zero_mkRat _
      rw [ex]
      refine ⟨⟨⟨by rw [hg]; decide +kernel, by rw [e1]; rfl⟩, ?_⟩, h4⟩
      rw [h3, e2]; rfl
    · obtain ⟨q1, q2, _⟩ := sgn_mk (g := g) hz h0
      rw [hx, h5, Nat.div_one] at q1 q2
      refine ⟨⟨⟨?_, by rw [q1, sgn_abs]; exact h1⟩, by rw [q2]; exact h3⟩, h4⟩
      rw [q1]
      cases g with
      | false => simp [sgn]
      | true => simp [sgn]; omega
theorem natNormalLV {w : World} {a1 : Option Addr} {l1 c1 : Nat} {L : List Nat} {v : Bool} [h1 : RL w (.slice a1 l1 c1) L] (hv : Hid (normalB L = v)) :
    Calls Tryz.prog 263 #[.slice a1 l1 c1] w fun e w' => e = .returned (.bool v) ∧ w = w' := by
  rw [← hv.out]
  exact normal_any _ _ _ h1.out
theorem sameNL {w : World} {a1 a2 : Option Addr} {l1 c1 l2 c2 n k2 : Nat} {L : List Nat} [h1 : RL w (.slice a1 l1 c1) L] [h2 : CN w (.slice a2 l2 c2) n k2] :
    Calls Tryz.prog 100 #[.slice a1 l1 c1, .slice a2 l2 c2] w fun e w' => e = .returned (.bool (sameB L (nf n))) ∧ Below w.heap.size w w' := sameN_any _ _ _ _ _ h1.out h2.out.1
theorem natNormalL {w : World} {a1 : Option Addr} {l1 c1 : Nat} {L : List Nat} [h1 : RL w (.slice a1 l1 c1) L] :
    Calls Tryz.prog 263 #[.slice a1 l1 c1] w fun e w' => e = .returned (.bool (normalB L)) ∧ w = w' := normal_any _ _ _ h1.out
theorem sameIL {w : World} {g1 g2 v : Bool} {a1 a2 : Option Addr} {l1 c1 l2 c2 k2 : Nat} {L : List Nat} {x : Int} [h1 : RL w (.slice a1 l1 c1) L] [h2 : CZ w (.agg #[.bool g2, .slice a2 l2 c2]) x k2] (hv : Hid ((decide (g1 = decide (x < 0)) && sameB L (nf x.natAbs)) = v)) :
    Calls Tryz.prog 99 #[.agg #[.bool g1, .slice a1 l1 c1], .agg #[.bool g2, .slice a2 l2 c2]] w fun e w' => e = .returned (.bool v) ∧ Below w.heap.size w w' := by
  have e2 := (zz_of h2).1
  have i2 : CN w (.slice a2 l2 c2) x.natAbs k2 := ⟨(zz_of h2).2⟩
  have HV := Lib.hid hv.out
  clear h2 hv
  rw [← e2] at HV
  clear e2
  cases g1 <;> cases g2
  · go_enter Tryz.func99, Tryz.ntmps99
    go_wp2_with (first
    | (go_at_call 100; (with_reducible refine Calls.cE (sameNL) ?_); intros))
    go_ret
    exact E.fin (by rw [← HV.out]; rfl)
  · go_enter Tryz.func99, Tryz.ntmps99
    go_wp2_with fail
    go_ret
    exact E.fin (by rw [← HV.out]; rfl)
  · go_enter Tryz.func99, Tryz.ntmps99
    go_wp2_with fail
    go_ret
    exact E.fin (by rw [← HV.out]; rfl)
  · go_enter Tryz.func99, Tryz.ntmps99
    go_wp2_with (first
    | (go_at_call 100; (with_reducible refine Calls.cE (sameNL) ?_); intros))
    go_ret
    exact E.fin (by rw [← HV.out]; rfl)
theorem sameQL {w : World} {g1 g2 v : Bool} {a1 a2 aa1 aa2 : Option Addr} {l1 c1 l2 c2 ll1 cc1 ll2 cc2 k2 : Nat} {L LL : List Nat} {x : Rat} [h1 : RL w (.slice a1 l1 c1) L] [h1' : RL w (.slice aa1 ll1 cc1) LL] [h2 : CA w (.agg #[.bool g2, .slice a2 l2 c2, .slice aa2 ll2 cc2]) x k2] (hv : Hid (sameP g1 L LL x = v)) :
    Calls Tryz.prog 39 #[.agg #[.bool g1, .slice a1 l1 c1, .slice aa1 ll1 cc1], .agg #[.bool g2, .slice a2 l2 c2, .slice aa2 ll2 cc2]] w fun e w' => e = .returned (.bool v) ∧ Below w.heap.size w w' := by
  have i1 := h2.num
  have i2 := h2.den
  obtain ⟨b, hb⟩ : ∃ b, (decide (g1 = decide (x.num < 0)) && sameB L (nf x.num.natAbs)) = b := ⟨_, rfl⟩
  have HB := Lib.hid hb
  have HV : Hid ((b && sameB LL (nf x.den)) = v) := by show _ = _; rw [← hb]; exact hv.out
  clear hb hv
  cases b
  all_goals
    go_enter Tryz.func39, Tryz.ntmps39
    go_wp2_with (first
    | (go_at_call 99; (with_reducible refine Calls.cE (sameIL HB) ?_); intros)
    | (go_at_call 100; (with_reducible refine Calls.cE (sameNL) ?_); intros))
    go_ret
    exact E.fin (by rw [← HV.out]; rfl)
theorem intNormalL {w : World} {g1 v : Bool} {a1 : Option Addr} {l1 c1 : Nat} {L : List Nat} [h1 : RL w (.slice a1 l1 c1) L] (hv : Hid (nrmI g1 L = v)) :
    Calls Tryz.prog 262 #[.agg #[.bool g1, .slice a1 l1 c1]] w fun e w' => e = .returned (.bool v) ∧ Below w.heap.size w w' := by
  have hl := h1.len
  have HV : Hid ((normalB L && (!g1 || decide (0 < l1))) = v) := by show _ = _; rw [hl]; exact hv.out
  clear hv hl
  obtain ⟨b, hb⟩ : ∃ b, normalB L = b := ⟨_, rfl⟩
  rw [hb] at HV
  have HB := Lib.hid hb
  clear hb
  by_cases hp : 0 < l1
  · have hp2 : decide (0 < l1) = true := decide_eq_true hp
    rw [hp2] at HV
    cases b <;> cases g1
    all_goals
      go_enter Tryz.func262, Tryz.ntmps262
      go_wp2_with (first
    | (go_at_call 263; (with_reducible refine Calls.cS (natNormalLV HB) ?_); intros))
      go_ret
      exact E.fin (by rw [← HV.out]; rfl)
  · have hp2 : decide (0 < l1) = false := decide_eq_false hp
    obtain rfl : l1 = 0 := by omega
    clear hp
    rw [hp2] at HV
    cases b <;> cases g1
    all_goals
      go_enter Tryz.func262, Tryz.ntmps262
      go_wp2_with (first
    | (go_at_call 263; (with_reducible refine Calls.cS (natNormalLV HB) ?_); intros))
      go_ret
      exact E.fin (by rw [← HV.out]; rfl)
theorem fracNormalL {w : World} {g1 v : Bool} {a1 aa1 : Option Addr} {l1 c1 ll1 cc1 : Nat} {L LL : List Nat} [h1 : RL w (.slice a1 l1 c1) L] [h1' : RL w (.slice aa1 ll1 cc1) LL] (b1 : L.length ≤ 900000 ∧ LL.length ≤ 900000) (hv : Hid (nrmQ g1 L LL = v)) :
    Calls Tryz.prog 200 #[.agg #[.bool g1, .slice a1 l1 c1, .slice aa1 ll1 cc1]] w fun e w' => e = .returned (.bool v) ∧ Below w.heap.size w w' := by
  have hl := h1'.len
  have HV : Hid ((nrmI g1 L && normalB LL && decide (0 < ll1) && decide (Nat.gcd (val L) (val LL) = 1)) = v) := by show _ = _; rw [hl]; exact hv.out
  clear hv
  obtain ⟨b, hb⟩ : ∃ b, nrmI g1 L = b := ⟨_, rfl⟩
  obtain ⟨c, hc⟩ : ∃ c, normalB LL = c := ⟨_, rfl⟩
  rw [hb, hc] at HV
  have HB := Lib.hid hb
  have HC := Lib.hid hc
  have hg0 : val LL ≠ 0 → Nat.gcd (val L) (val LL) ≠ 0 := fun h e => h (Nat.eq_zero_of_gcd_eq_zero_right e)
  have hz : c = true → 0 < ll1 → val LL ≠ 0 := fun h1 h2 e => by
    rw [h1] at hc
    have := (normalB_iff h1'.out.dig).1 hc
    rw [e] at this
    rw [hl, this] at h2
    simp [nf_zero] at h2
  clear hb hc hl
  cases b
  · go_enter Tryz.func200, Tryz.ntmps200
    go_wp2_with (first
    | (go_at_call 262; (with_reducible refine Calls.cE (intNormalL HB) ?_); intros)
    | (go_at_call 263; (with_reducible refine Calls.cS (natNormalLV HC) ?_); intros)
    | (go_at_call 249; (with_reducible refine Calls.cN (gcdC (by omega)) ?_); intros)
    | (go_at_call 133; (with_reducible refine Calls.cS (bitsC (by omega)) ?_); intros))
    go_ret
    exact E.fin (by rw [← HV.out]; rfl)
  cases c
  · go_enter Tryz.func200, Tryz.ntmps200
    go_wp2_with (first
    | (go_at_call 262; (with_reducible refine Calls.cE (intNormalL HB) ?_); intros)
    | (go_at_call 263; (with_reducible refine Calls.cS (natNormalLV HC) ?_); intros)
    | (go_at_call 249; (with_reducible refine Calls.cN (gcdC (by omega)) ?_); intros)
    | (go_at_call 133; (with_reducible refine Calls.cS (bitsC (by omega)) ?_); intros))
    go_ret
    exact E.fin (by rw [← HV.out]; rfl)
  by_cases hp : 0 < ll1
  · have hgz := hg0 (hz rfl hp)
    rw [show decide (0 < ll1) = true from decide_eq_true hp] at HV
    clear hg0 hz
    by_cases hg : Nat.gcd (val L) (val LL) = 1
    · rw [show decide (Nat.gcd (val L) (val LL) = 1) = true from decide_eq_true hg] at HV
      have hn : (((nbits (Nat.gcd (val L) (val LL)) : Nat) : Int) == 1) = true := by rw [hg]; decide +kernel
      clear hg hgz
      go_enter Tryz.func200, Tryz.ntmps200
      go_wp2_with (first
    | (go_at_call 262; (with_reducible refine Calls.cE (intNormalL HB) ?_); intros)
    | (go_at_call 263; (with_reducible refine Calls.cS (natNormalLV HC) ?_); intros)
    | (go_at_call 249; (with_reducible refine Calls.cN (gcdC (by omega)) ?_); intros)
    | (go_at_call 133; (with_reducible refine Calls.cS (bitsC (by omega)) ?_); intros))
      go_ret
      exact E.fin (by rw [← HV.out]; rfl)
    · rw [show decide (Nat.gcd (val L) (val LL) = 1) = false from decide_eq_false hg] at HV
      have hn : (((nbits (Nat.gcd (val L) (val LL)) : Nat) : Int) == 1) = false := by
        rw [beq_eq_false_iff_ne]
        have := @nbits1 (Nat.gcd (val L) (val LL))
        omega
      clear hg hgz
      go_enter Tryz.func200, Tryz.ntmps200
      go_wp2_with (first
    | (go_at_call 262; (with_reducible refine Calls.cE (intNormalL HB) ?_); intros)
    | (go_at_call 263; (with_reducible refine Calls.cS (natNormalLV HC) ?_); intros)
    | (go_at_call 249; (with_reducible refine Calls.cN (gcdC (by omega)) ?_); intros)
    | (go_at_call 133; (with_reducible refine Calls.cS (bitsC (by omega)) ?_); intros))
      go_ret
      exact E.fin (by rw [← HV.out]; rfl)
  · rw [show decide (0 < ll1) = false from decide_eq_false hp] at HV
    obtain rfl : ll1 = 0 := by omega
    clear hp hg0 hz
    go_enter Tryz.func200, Tryz.ntmps200
    go_wp2_with (first
    | (go_at_call 262; (with_reducible refine Calls.cE (intNormalL HB) ?_); intros)
    | (go_at_call 263; (with_reducible refine Calls.cS (natNormalLV HC) ?_); intros)
    | (go_at_call 249; (with_reducible refine Calls.cN (gcdC (by omega)) ?_); intros)
    | (go_at_call 133; (with_reducible refine Calls.cS (bitsC (by omega)) ?_); intros))
    go_ret
    exact E.fin (by rw [← HV.out]; rfl)
theorem normalQL {w : World} {g1 v : Bool} {a1 aa1 : Option Addr} {l1 c1 ll1 cc1 : Nat} {L LL : List Nat} [h1 : RL w (.slice a1 l1 c1) L] [h1' : RL w (.slice aa1 ll1 cc1) LL] (b1 : L.length ≤ 40000 ∧ LL.length ≤ 40000) (hv : Hid (nrmQ g1 L LL = v)) :
    Calls Tryz.prog 179 #[.agg #[.bool g1, .slice a1 l1 c1, .slice aa1 ll1 cc1]] w fun e w' => e = .returned (.bool v) ∧ Below w.heap.size w w' := by
  have HV : Hid ((sameP g1 L LL (mkRat (sgn g1 (val L)) (val LL)) && decide (0 < ll1)) = v) := by
    show _ = _
    rw [← hv.out, ← nrm_ref h1.out.dig h1'.out.dig, h1'.len]
    rfl
  clear hv
  obtain ⟨b, hb⟩ : ∃ b, sameP g1 L LL (mkRat (sgn g1 (val L)) (val LL)) = b := ⟨_, rfl⟩
  rw [hb] at HV
  have HB := Lib.hid hb
  clear hb
  by_cases hp : 0 < ll1
  · rw [show decide (0 < ll1) = true from decide_eq_true hp] at HV
    cases b
    · go_enter Tryz.func179, Tryz.ntmps179
      go_wp2_with fail
      refine rgn [] [] fun hHeld => ?_
      refine tk 0 hHeld ?_
      refine tk 1 hHeld ?_
      refine st 2 fun K hK => ?_
      go_simp
      (with_reducible refine Calls.cQ (refQC (by omega)) ?_); intros
      refine hd hK ?_
      clear hHeld hK K
      intro hHeld
      refine st 3 fun K hK => ?_
      go_simp
      (with_reducible refine Calls.cA (toQC (by omega)) ?_); intros
      refine hd hK ?_
      clear hHeld hK K
      intro hHeld
      refine st 4 fun K hK => ?_
      go_simp
      (with_reducible refine Calls.cE (sameQL HB) ?_); intros
      refine hd hK ?_
      clear hHeld hK K
      intro hHeld
      refine tk 5 hHeld ?_
      refine tkU 6 hHeld ?_
      refine tkU 7 hHeld ?_
      refine tkU 8 hHeld ?_
      refine tkU 9 hHeld ?_
      refine tk 10 hHeld ?_
      refine tk 11 hHeld ?_
      refine dn ?_
      clear hHeld
      go_wp2
      go_ret
      exact E.fin (by rw [← HV.out]; rfl)
    · go_enter Tryz.func179, Tryz.ntmps179
      go_wp2_with fail
      refine rgn [] [] fun hHeld => ?_
      refine tk 0 hHeld ?_
      refine tk 1 hHeld ?_
      refine st 2 fun K hK => ?_
      go_simp
      (with_reducible refine Calls.cQ (refQC (by omega)) ?_); intros
      refine hd hK ?_
      clear hHeld hK K
      intro hHeld
      refine st 3 fun K hK => ?_
      go_simp
      (with_reducible refine Calls.cA (toQC (by omega)) ?_); intros
      refine hd hK ?_
      clear hHeld hK K
      intro hHeld
      refine st 4 fun K hK => ?_
      go_simp
      (with_reducible refine Calls.cE (sameQL HB) ?_); intros
      refine hd hK ?_
      clear hHeld hK K
      intro hHeld
      refine tk 5 hHeld ?_
      refine tk 6 hHeld ?_
      refine tk 7 hHeld ?_
      refine tk 8 hHeld ?_
      refine tk 9 hHeld ?_
      refine tk 10 hHeld ?_
      refine tk 11 hHeld ?_
      refine dn ?_
      clear hHeld
      go_wp2
      go_ret
      exact E.fin (by rw [← HV.out]; rfl)
  · rw [show decide (0 < ll1) = false from decide_eq_false hp] at HV
    obtain rfl : ll1 = 0 := by omega
    clear hp
    cases b
    · go_enter Tryz.func179, Tryz.ntmps179
      go_wp2_with fail
      refine rgn [] [] fun hHeld => ?_
      refine tk 0 hHeld ?_
      refine tk 1 hHeld ?_
      refine st 2 fun K hK => ?_
      go_simp
      (with_reducible refine Calls.cQ (refQC (by omega)) ?_); intros
      refine hd hK ?_
      clear hHeld hK K
      intro hHeld
      refine st 3 fun K hK => ?_
      go_simp
      (with_reducible refine Calls.cA (toQC (by omega)) ?_); intros
      refine hd hK ?_
      clear hHeld hK K
      intro hHeld
      refine st 4 fun K hK => ?_
      go_simp
      (with_reducible refine Calls.cE (sameQL HB) ?_); intros
      refine hd hK ?_
      clear hHeld hK K
      intro hHeld
      refine tk 5 hHeld ?_
      refine tkU 6 hHeld ?_
      refine tkU 7 hHeld ?_
      refine tkU 8 hHeld ?_
      refine tkU 9 hHeld ?_
      refine tk 10 hHeld ?_
      refine tk 11 hHeld ?_
      refine dn ?_
      clear hHeld
      go_wp2
      go_ret
      exact E.fin (by rw [← HV.out]; rfl)
    · go_enter Tryz.func179, Tryz.ntmps179
      go_wp2_with fail
      refine rgn [] [] fun hHeld => ?_
      refine tk 0 hHeld ?_
      refine tk 1 hHeld ?_
      refine st 2 fun K hK => ?_
      go_simp
      (with_reducible refine Calls.cQ (refQC (by omega)) ?_); intros
      refine hd hK ?_
      clear hHeld hK K
      intro hHeld
      refine st 3 fun K hK => ?_
      go_simp
      (with_reducible refine Calls.cA (toQC (by omega)) ?_); intros
      refine hd hK ?_
      clear hHeld hK K
      intro hHeld
      refine st 4 fun K hK => ?_
      go_simp
      (with_reducible refine Calls.cE (sameQL HB) ?_); intros
      refine hd hK ?_
      clear hHeld hK K
      intro hHeld
      refine tk 5 hHeld ?_
      refine tk 6 hHeld ?_
      refine tk 7 hHeld ?_
      refine tk 8 hHeld ?_
      refine tk 9 hHeld ?_
      refine tk 10 hHeld ?_
      refine tk 11 hHeld ?_
      refine dn ?_
      clear hHeld
      go_wp2
      go_ret
      exact E.fin (by rw [← HV.out]; rfl)
end Go.Proofs.YtdlnoeegboapkaaGreatDoor

/- Lists of points: the first of the equal ones, normal forms, and the functions that turn each point into another kind. printed by a small program (mkrg2.py). -/
namespace Go.Proofs.YtdlnoeegboapkaaGreatDoor
open Go.RowKit
set_option maxRecDepth 100000
set_option maxHeartbeats 40000000
set_option synthInstance.maxSize 100000
set_option synthInstance.maxHeartbeats 1000000

theorem ptEqualV {w : World} {n1x d1x n1y d1y n2x d2x n2y d2y : Int} {p1x p1y p2x p2y : Option Addr} {x1 y1 x2 y2 : Rat} {k1x k1y k2x k2y : Nat} {v : Bool} [h1x : CF w (.agg #[.int .i64 n1x, .int .i64 d1x, .pointer p1x]) x1 k1x] [h1y : CF w (.agg #[.int .i64 n1y, .int .i64 d1y, .pointer p1y]) y1 k1y] [h2x : CF w (.agg #[.int .i64 n2x, .int .i64 d2x, .pointer p2x]) x2 k2x] [h2y : CF w (.agg #[.int .i64 n2y, .int .i64 d2y, .pointer p2y]) y2 k2y] (b : k1x ≤ 20000 ∧ k1y ≤ 20000 ∧ k2x ≤ 20000 ∧ k2y ≤ 20000) (hv : Hid (decide ((x1, y1) = (x2, y2)) = v)) :
    Calls Tryz.prog 108 #[.agg #[.int .i64 n1x, .int .i64 d1x, .pointer p1x, .int .i64 n1y, .int .i64 d1y, .pointer p1y], .agg #[.int .i64 n2x, .int .i64 d2x, .pointer p2x, .int .i64 n2y, .int .i64 d2y, .pointer p2y]] w (fun e w' => e = .returned (.bool v) ∧ Below w.heap.size w w') :=
  (ptEqualC b).mono fun e w' ⟨h1, h2⟩ => ⟨by rw [h1, ← hv.out]; congr 2; rw [Bool.eq_iff_iff]; simp, h2⟩
/-- The first place of a point that is there. -/
def FirstRet (w : World) (L : List (Rat × Rat)) (p : Rat × Rat) (e : Ending) (w' : World) : Prop := ∃ m : Nat, e = .returned (.int .i64 (m : Int)) ∧ FirstAt L p m ∧ Below w.heap.size w w'
theorem Calls.cFirst {P : Program} {f : FuncId} {args : Array Value} {w : World} {L : List (Rat × Rat)} {p : Rat × Rat} {K : Ending → World → Prop} (h : Calls P f args w (FirstRet w L p))
    (hK : ∀ w' [Kp1 w w'] (m : Nat), FirstAt L p m → K (.returned (.int .i64 (m : Int))) w') : Calls P f args w K := by
  refine h.mono ?_
  rintro e w' ⟨m, rfl, hm, hb⟩
  exact @hK w' ⟨hb⟩ m hm
theorem firstC {w w0 : World} {a : Option Addr} {n c : Nat} {V : List FV} {L : List (Rat × Rat)} {k : Nat} [hs : Sl w (.slice a n c) V.length (rowF V) w0] [hp : PsF w V L k] {nx dx ny dy : Int} {px py : Option Addr} {x y : Rat} {kx ky : Nat} [hx : CF w (.agg #[.int .i64 nx, .int .i64 dx, .pointer px]) x kx] [hy : CF w (.agg #[.int .i64 ny, .int .i64 dy, .pointer py]) y ky] (b : k ≤ 20000 ∧ kx ≤ 20000 ∧ ky ≤ 20000) (hV : V.length ≤ 1000000) (hin : ∃ j, j < V.length ∧ pg L j = (x, y)) :
    Calls Tryz.prog 144 #[.slice a n c, .agg #[.int .i64 nx, .int .i64 dx, .pointer px, .int .i64 ny, .int .i64 dy, .pointer py]] w (FirstRet w L (x, y)) := by
  obtain rfl := hs.len
  obtain ⟨j0, hj0, hj1⟩ := hin
  obtain ⟨g, rfl, hA⟩ := hs.form (by omega)
  have hlen := Lib.hid hp.len
  go_enter Tryz.func144, Tryz.ntmps144
  go_wp2_with fail
  go_loopw [9] (fun i wr => ∃ q : Nat, i = .int .i64 (q : Int) ∧ q ≤ V.length ∧ Kp w wr ∧ Bx wr w.heap.size 152 [.int .i64 nx, .int .i64 dx, .pointer px, .int .i64 ny, .int .i64 dy, .pointer py] ∧ ∀ j, j < q → pg L j ≠ (x, y)) (fun i _ => V.length - (intOf i).toNat)
  case atStart => exact ⟨0, rfl, by omega, inferInstance, inferInstance, fun j hj => by omega⟩
  case round =>
    obtain ⟨q, rfl, hq, i1, i2, hno⟩ := hrel
    have kw := Kp1.mk i1.out
    have hlt : q < V.length := by
      rcases Nat.lt_or_ge q V.length with h | h
      · exact h
      · exact absurd hj1 (hno j0 (by omega))
    have hlt' : (q : Int) < V.length := by omega
    have lq : LtN q V.length := ⟨hlt⟩
    have ew : IntKind.i64.wrap ((q : Int) + 1) = (q : Int) + 1 := wr_in (by omega) (by omega)
    by_cases he : pg L q = (x, y)
    · have hv : Hid (decide (((pg L q).1, (pg L q).2) = (x, y)) = true) := Lib.hid (by rw [show ((pg L q).1, (pg L q).2) = pg L q from rfl, he]; simp)
      go_wp2_with (first
        | (go_at_call 108; (with_reducible refine Calls.cE (ptEqualV (by omega) hv) ?_); intros))
      go_ret
      exact ⟨q, rfl, ⟨by have := hlen.out; omega, he, hno⟩, (inferInstance : Kp w _).out⟩
    · have hv : Hid (decide (((pg L q).1, (pg L q).2) = (x, y)) = false) := Lib.hid (by rw [show ((pg L q).1, (pg L q).2) = pg L q from rfl]; simpa using he)
      go_wp2_with (first
        | (go_at_call 108; (with_reducible refine Calls.cE (ptEqualV (by omega) hv) ?_); intros))
      go_roundw
      case rel => exact ⟨q + 1, by go_num, by omega, inferInstance, inferInstance, fun j hj => by
        rcases Nat.lt_or_ge j q with h | h
        · exact hno j h
        · have : j = q := by omega
          subst this; exact he⟩
      case measure => simp [intOf]; omega
theorem rlZ {w : World} {g : Bool} {a : Option Addr} {l c : Nat} {z : Int} {k : Nat} (h : CZ w (.agg #[.bool g, .slice a l c]) z k) : RL w (.slice a l c) (nf z.natAbs) := ⟨(zz_of h).2.1⟩
theorem nrmZ {w : World} {g : Bool} {a : Option Addr} {l c : Nat} {z : Int} {k : Nat} (h : CZ w (.agg #[.bool g, .slice a l c]) z k) : nrmI g (nf z.natAbs) = true := by
  have hg := (zz_of h).1
  unfold nrmI
  rw [normalB_nfx, Bool.true_and]
  by_cases hz : z < 0
  · have : 0 < (nf z.natAbs).length := nf_len_pos (by omega)
    simp [this]
  · rw [hg, decide_eq_false hz]; rfl
theorem nrmA {w : World} {g : Bool} {a aa : Option Addr} {l c ll cc : Nat} {x : Rat} {k : Nat} (h : CA w (.agg #[.bool g, .slice a l c, .slice aa ll cc]) x k) : RL w (.slice a l c) (nf x.num.natAbs) ∧ RL w (.slice aa ll cc) (nf x.den) ∧ nrmQ g (nf x.num.natAbs) (nf x.den) = true := by
  have i1 := h.num
  have i2 := h.den
  refine ⟨rlZ i1, ⟨i2.out.1⟩, ?_⟩
  unfold nrmQ
  have h0 : 0 < (nf x.den).length := nf_len_pos x.den_nz
  simp only [nrmZ i1, normalB_nfx, val_nf, Bool.true_and, Bool.and_eq_true, decide_eq_true_eq]
  exact ⟨h0, x.reduced⟩
theorem fracNormalA9 {w : World} {g1 : Bool} {a1 : Option Addr} {l1 c1 : Nat} {aa1 : Option Addr} {ll1 cc1 : Nat} {x : Rat} {k1 : Nat} [h1 : CA w (.agg #[.bool g1, .slice a1 l1 c1, .slice aa1 ll1 cc1]) x k1] (b : k1 ≤ 80000) :
    Calls Tryz.prog 200 #[.agg #[.bool g1, .slice a1 l1 c1, .slice aa1 ll1 cc1]] w (fun e w' => e = .returned (.bool true) ∧ Below w.heap.size w w') := by
  obtain ⟨i1, i2, i3⟩ := nrmA h1
  have e1 : (nf x.num.natAbs).length ≤ k1 := by have := (zz_of h1.num).2.2; exact this
  have e2 : (nf x.den).length ≤ k1 := h1.den.out.2
  exact fracNormalL (L := nf x.num.natAbs) (LL := nf x.den) ⟨by omega, by omega⟩ (Lib.hid i3)
theorem gNormalA {w : World} {g1x g1y : Bool} {a1x aa1x a1y aa1y : Option Addr} {l1x c1x ll1x cc1x l1y c1y ll1y cc1y k1x k1y : Nat} {x y : Rat} [h1x : CA w (.agg #[.bool g1x, .slice a1x l1x c1x, .slice aa1x ll1x cc1x]) x k1x] [h1y : CA w (.agg #[.bool g1y, .slice a1y l1y c1y, .slice aa1y ll1y cc1y]) y k1y] (b : k1x ≤ 80000 ∧ k1y ≤ 80000) :
    Calls Tryz.prog 142 #[.agg #[.bool g1x, .slice a1x l1x c1x, .slice aa1x ll1x cc1x, .bool g1y, .slice a1y l1y c1y, .slice aa1y ll1y cc1y]] w (fun e w' => e = .returned (.bool true) ∧ Below w.heap.size w w') := by
  go_enter Tryz.func142, Tryz.ntmps142
  go_wp2_with (first
    | (go_at_call 200; (with_reducible refine Calls.cE (fracNormalA9 (by omega)) ?_); intros))
  go_ret
  exact E.fin rfl
theorem take_pg {L : List (Rat × Rat)} {q : Nat} (h : q < L.length) : L.take (q + 1) = L.take q ++ [((pg L q).1, (pg L q).2)] := by
  rw [List.take_succ_eq_append_getElem h, pg_get h]
theorem toPsC {w w0 : World} {a : Option Addr} {n c : Nat} {V : List AV} {L : List (Rat × Rat)} {k : Nat} [hs : Sl w (.slice a n c) V.length (rowA V) w0] [hp : PsQ w V L k] (b : k ≤ 400000) (hV : V.length ≤ 900000) :
    Calls Tryz.prog 27 #[.slice a n c] w (PsARet w L (k + 1)) := by
  obtain rfl := hs.len
  have hlen := Lib.hid hp.len
  go_enter Tryz.func27, Tryz.ntmps27
  go_wp2_with fail
  go_loopw [8, 3] (fun i o wr => ∃ (q : Nat) (U : List AV), i = .int .i64 (q : Int) ∧ q ≤ V.length ∧ Rn wr o 31 6 U.length (rowA U) w.heap.size wr ∧ Hid (U.length = q) ∧ PsA wr U (L.take q) (k + 1) ∧ Kp w wr) (fun i _ _ => V.length - (intOf i).toNat)
  case atStart => exact ⟨0, [], rfl, by omega, Rn.nil (Nat.le_refl _), Lib.hid rfl, PsA.nil, inferInstance⟩
  case round =>
    obtain ⟨q, U, rfl, hq, i1, hU, i2, i3⟩ := hrel
    have kw := Kp1.mk i3.out
    by_cases hlt : q < V.length
    · obtain ⟨g, rfl, hA⟩ := hs.form (by omega)
      have hlt' : (q : Int) < V.length := by omega
      have lq : LtN q V.length := ⟨hlt⟩
      have ew : IntKind.i64.wrap ((q : Int) + 1) = (q : Int) + 1 := wr_in (by omega) (by omega)
      go_wp2_with (first
        | (go_at_call 21; (with_reducible refine Calls.cPA (toPC (by omega)) ?_); intro w1 _ gx ax lx cx aax llx ccx gy ay ly cy aay lly ccy i7 i8)
        | (at_builtin; go_loud (refine app_rn1 (v := u3) rfl (.tmp 12) (.tmp 15) 55 rfl Tryz.underlying55 info_a rfl (by decide) (by decide) (by decide) inferInstance rfl (rowA_nd _) rfl (by rfl) ?h1 ?h2 (by first | omega | (have := hU.out; omega)) ?_); (case h1 => exact AV.one ⟨_, _, _, _, _, _, _, _, _, _, _, _, _, _⟩); (case h2 => exact AV.nd ⟨_, _, _, _, _, _, _, _, _, _, _, _, _, _⟩); intro g2 c2 w2 i9 i10 i11))
      go_roundw
      case rel => exact ⟨q + 1, U ++ [⟨gx, ax, lx, cx, aax, llx, ccx, gy, ay, ly, cy, aay, lly, ccy⟩], by go_num, by omega, Rn.cast2 (inferInstance) (by simp) (by rw [rowA_snoc]; rfl), Lib.hid (by rw [List.length_append, hU.out]; rfl), by rw [take_pg (by have := hlen.out; omega)]; exact PsA.add (by omega) (by omega), inferInstance⟩
      case measure => simp [intOf]; omega
    · obtain rfl : q = V.length := by omega
      rw [List.take_of_length_le (by have := hlen.out; omega)] at i2
      obtain ⟨a3, c3, rfl⟩ := i1.slice
      go_wp2_with fail
      go_ret
      exact PsARet.fin (V := U) rfl (by omega)
theorem ringApiC {w w0 : World} {a : Option Addr} {n c : Nat} {V : List FV} {L : List (Rat × Rat)} {k : Nat} [hs : Sl w (.slice a n c) V.length (rowF V) w0] [hp : PsF w V L k] (b : k ≤ 400000) (hV : V.length ≤ 900000) :
    Calls Tryz.prog 86 #[.slice a n c] w (PsARet w L (k)) := by
  obtain rfl := hs.len
  have hlen := Lib.hid hp.len
  go_enter Tryz.func86, Tryz.ntmps86
  go_wp2_with fail
  go_loopw [8, 3] (fun i o wr => ∃ (q : Nat) (U : List AV), i = .int .i64 (q : Int) ∧ q ≤ V.length ∧ Rn wr o 31 6 U.length (rowA U) w.heap.size wr ∧ Hid (U.length = q) ∧ PsA wr U (L.take q) (k) ∧ Kp w wr) (fun i _ _ => V.length - (intOf i).toNat)
  case atStart => exact ⟨0, [], rfl, by omega, Rn.nil (Nat.le_refl _), Lib.hid rfl, PsA.nil, inferInstance⟩
  case round =>
    obtain ⟨q, U, rfl, hq, i1, hU, i2, i3⟩ := hrel
    have kw := Kp1.mk i3.out
    by_cases hlt : q < V.length
    · obtain ⟨g, rfl, hA⟩ := hs.form (by omega)
      have hlt' : (q : Int) < V.length := by omega
      have lq : LtN q V.length := ⟨hlt⟩
      have ew : IntKind.i64.wrap ((q : Int) + 1) = (q : Int) + 1 := wr_in (by omega) (by omega)
      go_wp2_with (first
        | (go_at_call 122; (with_reducible refine Calls.cPA (ptApiC (by omega)) ?_); intro w1 _ gx ax lx cx aax llx ccx gy ay ly cy aay lly ccy i7 i8)
        | (at_builtin; go_loud (refine app_rn1 (v := u3) rfl (.tmp 12) (.tmp 15) 56 rfl Tryz.underlying56 info_a rfl (by decide) (by decide) (by decide) inferInstance rfl (rowA_nd _) rfl (by rfl) ?h1 ?h2 (by first | omega | (have := hU.out; omega)) ?_); (case h1 => exact AV.one ⟨_, _, _, _, _, _, _, _, _, _, _, _, _, _⟩); (case h2 => exact AV.nd ⟨_, _, _, _, _, _, _, _, _, _, _, _, _, _⟩); intro g2 c2 w2 i9 i10 i11))
      go_roundw
      case rel => exact ⟨q + 1, U ++ [⟨gx, ax, lx, cx, aax, llx, ccx, gy, ay, ly, cy, aay, lly, ccy⟩], by go_num, by omega, Rn.cast2 (inferInstance) (by simp) (by rw [rowA_snoc]; rfl), Lib.hid (by rw [List.length_append, hU.out]; rfl), by rw [take_pg (by have := hlen.out; omega)]; exact PsA.add (by omega) (by omega), inferInstance⟩
      case measure => simp [intOf]; omega
    · obtain rfl : q = V.length := by omega
      rw [List.take_of_length_le (by have := hlen.out; omega)] at i2
      obtain ⟨a3, c3, rfl⟩ := i1.slice
      go_wp2_with fail
      go_ret
      exact PsARet.fin (V := U) rfl (by omega)
end Go.Proofs.YtdlnoeegboapkaaGreatDoor
