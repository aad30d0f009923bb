/-
  Texts of this claim, joined: Frac3, NumQ, Ref4, Ang.
-/
import Derived.Test.YtdlnoeegboapkaaGreatDoorCK
/- Package frac: contracts of the comparison, the quotient, the greatest common divisor. printed by a small program (mkfrac3.py). -/
namespace Go.Proofs.YtdlnoeegboapkaaGreatDoor
open Go.RowKit
set_option maxRecDepth 100000
set_option maxHeartbeats 40000000
set_option synthInstance.maxSize 100000
set_option synthInstance.maxHeartbeats 1000000

theorem rsgn_isgn (x : Rat) : rsgn x = isgn x.num := by
  unfold rsgn isgn
  repeat' split
  all_goals omega
theorem isgn0 {z : Int} : isgn z = 0 ↔ z = 0 := by
  unfold isgn
  repeat' split
  all_goals omega
theorem cmp_same {x y : Rat} (h : x.den = y.den) : isgn (x - y).num = if x.num < y.num then -1 else if x.num = y.num then 0 else 1 := by
  rw [← rsgn_isgn]; exact sub_same_den h
theorem inv_sgn {x : Rat} (h : x ≠ 0) : mkRat (sgn (decide (x.num < 0)) x.den) x.num.natAbs = x⁻¹ := by
  rw [rat_inv_mk x h]
  by_cases hn : x.num < 0 <;> simp [hn, sgn]
theorem Calls.cZn {P : Program} {f : FuncId} {args : Array Value} {w : World} {x : Int} {k : Nat} {K : Ending → World → Prop} (h : Calls P f args w (CZRet w x k))
    (hK : ∀ w' [Kp1 w w'] (g : Bool) (a : Option Addr) (l : Nat) (c : Nat) [CZ w' (.agg #[.bool g, .slice a l c]) x k] [CN w' (.slice a l c) x.natAbs k], K (.returned (.agg #[.bool g, .slice a l c])) w') : Calls P f args w K := by
  refine h.mono ?_
  rintro e w' ⟨g, a, l, c, rfl, hx, hb⟩
  exact @hK w' ⟨hb⟩ g a l c hx ⟨(zz_of hx).2⟩
theorem rZeroC {w : World} {n1 d1 : Int} {p1 : Option Addr} {x : Rat} {k1 : Nat} [h1 : CF w (.agg #[.int .i64 n1, .int .i64 d1, .pointer p1]) x k1]  :
    Calls Tryz.prog 225 #[.agg #[.int .i64 n1, .int .i64 d1, .pointer p1]] w (fun e w' => e = .returned (.bool (decide (x = 0))) ∧ Below w.heap.size w w') := by
  rcases CF.cases h1 with ⟨rfl, en1, ed1, bn1, bm1, bd1, be1, bk1⟩ | ⟨rfl, rfl, hq1, q1, G1, A1, L1, C1, AA1, LL1, CC1, rfl, hB1, hZ1, hN1⟩
  · by_cases hx : x = 0
    · have HE : Hid (decide (x = 0) = true) := by show _ = _; simp [hx]
      obtain rfl : n1 = 0 := by rw [← en1, hx]; rfl
      clear hx en1 ed1
      go_enter Tryz.func225, Tryz.ntmps225
      go_wp2
      go_ret
      exact E.fin (by rw [HE.out]; rfl)
    · have HE : Hid (decide (x = 0) = false) := by show _ = _; simp [hx]
      have hn : (n1 == 0) = false := by rw [beq_eq_false_iff_ne]; intro e; exact hx (Rat.num_eq_zero.1 (by rw [en1, e]))
      clear hx en1 ed1
      go_enter Tryz.func225, Tryz.ntmps225
      go_wp2
      go_ret
      exact E.fin (by rw [HE.out]; rfl)
  · have HE : Hid (decide (x = 0) = false) := by show _ = _; simp [hq1]
    go_enter Tryz.func225, Tryz.ntmps225
    go_wp2
    go_ret
    exact E.fin (by rw [HE.out]; rfl)

theorem rCmpC {w : World} {n1 d1 n2 d2 : Int} {p1 p2 : Option Addr} {x y : Rat} {k1 k2 : Nat} [h1 : CF w (.agg #[.int .i64 n1, .int .i64 d1, .pointer p1]) x k1] [h2 : CF w (.agg #[.int .i64 n2, .int .i64 d2, .pointer p2]) y k2] (b : k1 ≤ 100000 ∧ k2 ≤ 100000) :
    Calls Tryz.prog 204 #[.agg #[.int .i64 n1, .int .i64 d1, .pointer p1], .agg #[.int .i64 n2, .int .i64 d2, .pointer p2]] w (fun e w' => e = .returned (.int .i64 (isgn (x - y).num)) ∧ Below w.heap.size w w') := by
  rcases CF.cases h1 with ⟨rfl, en1, ed1, bn1, bm1, bd1, be1, bk1⟩ | ⟨rfl, rfl, hq1, q1, G1, A1, L1, C1, AA1, LL1, CC1, rfl, hB1, hZ1, hN1⟩
  · rcases CF.cases h2 with ⟨rfl, en2, ed2, bn2, bm2, bd2, be2, bk2⟩ | ⟨rfl, rfl, hq2, q2, G2, A2, L2, C2, AA2, LL2, CC2, rfl, hB2, hZ2, hN2⟩
    · by_cases hd : d1 = d2
      · obtain rfl : d1 = d2 := hd
        have HC := Lib.hid (cmp_same (x := x) (y := y) (by omega))
        rw [en1, en2] at HC
        clear en1 en2 ed1 ed2
        rcases Int.lt_trichotomy n1 n2 with h | h | h
        · have HE : Hid (isgn (x - y).num = -1) := by show _ = _; rw [HC.out, if_pos h]
          go_enter Tryz.func204, Tryz.ntmps204
          go_wp2
          go_ret
          exact E.fin (by rw [HE.out]; rfl)
        · subst h
          have HE : Hid (isgn (x - y).num = 0) := by show _ = _; rw [HC.out, if_neg (by omega), if_pos rfl]
          go_enter Tryz.func204, Tryz.ntmps204
          go_wp2
          go_ret
          exact E.fin (by rw [HE.out]; rfl)
        · have HE : Hid (isgn (x - y).num = 1) := by show _ = _; rw [HC.out, if_neg (by omega), if_neg (by omega)]
          go_enter Tryz.func204, Tryz.ntmps204
          go_wp2
          go_ret
          exact E.fin (by rw [HE.out]; rfl)
      · have q : (d1 == d2) = false := by rw [beq_eq_false_iff_ne]; exact hd
        clear en1 en2 ed1 ed2 hd
        go_enter Tryz.func204, Tryz.ntmps204
        go_wp2_with (first
    | (go_at_call 214; (with_reducible refine Calls.cF (rSubC (by omega)) ?_); intros)
    | (go_at_call 171; (with_reducible refine Calls.cE (rSignC (by omega)) ?_); intros))
        go_ret
        exact E.fin rfl
    · clear en1 ed1
      go_enter Tryz.func204, Tryz.ntmps204
      go_wp2_with (first
    | (go_at_call 214; (with_reducible refine Calls.cF (rSubC (by omega)) ?_); intros)
    | (go_at_call 171; (with_reducible refine Calls.cE (rSignC (by omega)) ?_); intros))
      go_ret
      exact E.fin rfl
  · go_enter Tryz.func204, Tryz.ntmps204
    go_wp2_with (first
    | (go_at_call 214; (with_reducible refine Calls.cF (rSubC (by omega)) ?_); intros)
    | (go_at_call 171; (with_reducible refine Calls.cE (rSignC (by omega)) ?_); intros))
    go_ret
    exact E.fin rfl

theorem rEqualC {w : World} {n1 d1 n2 d2 : Int} {p1 p2 : Option Addr} {x y : Rat} {k1 k2 : Nat} [h1 : CF w (.agg #[.int .i64 n1, .int .i64 d1, .pointer p1]) x k1] [h2 : CF w (.agg #[.int .i64 n2, .int .i64 d2, .pointer p2]) y k2] (b : k1 ≤ 100000 ∧ k2 ≤ 100000) :
    Calls Tryz.prog 167 #[.agg #[.int .i64 n1, .int .i64 d1, .pointer p1], .agg #[.int .i64 n2, .int .i64 d2, .pointer p2]] w (fun e w' => e = .returned (.bool (decide (x = y))) ∧ Below w.heap.size w w') := by
  by_cases hx : x = y
  · have HE : Hid (decide (x = y) = true) := by show _ = _; simp [hx]
    have e0 : isgn (x - y).num = 0 := by rw [isgn0, hx, Rat.num_eq_zero]; grind
    clear hx
    go_enter Tryz.func167, Tryz.ntmps167
    go_wp2_with (first
    | (go_at_call 204; (with_reducible refine Calls.cE (rCmpC (by omega)) ?_); intros))
    go_ret
    exact E.fin (by rw [HE.out]; rfl)
  · have HE : Hid (decide (x = y) = false) := by show _ = _; simp [hx]
    have e0 : (isgn (x - y).num == 0) = false := by
      rw [beq_eq_false_iff_ne]; intro e
      rw [isgn0, Rat.num_eq_zero] at e
      exact hx (by grind)
    clear hx
    go_enter Tryz.func167, Tryz.ntmps167
    go_wp2_with (first
    | (go_at_call 204; (with_reducible refine Calls.cE (rCmpC (by omega)) ?_); intros))
    go_ret
    exact E.fin (by rw [HE.out]; rfl)

theorem rInvC {w : World} {n1 d1 : Int} {p1 : Option Addr} {x : Rat} {k1 : Nat} [h1 : CF w (.agg #[.int .i64 n1, .int .i64 d1, .pointer p1]) x k1] (b : k1 ≤ 400000) :
    Calls Tryz.prog 276 #[.agg #[.int .i64 n1, .int .i64 d1, .pointer p1]] w (CFRet w x⁻¹ (k1 + 2)) := by
  rcases CF.cases h1 with ⟨rfl, en1, ed1, bn1, bm1, bd1, be1, bk1⟩ | ⟨rfl, rfl, hq1, q1, G1, A1, L1, C1, AA1, LL1, CC1, rfl, hB1, hZ1, hN1⟩
  · rcases Int.lt_trichotomy n1 0 with h | h | h
    · have HF : Hid (∀ W : World, CF W (.agg #[.int .i64 (-(d1 + 1)), .int .i64 (-n1 - 1), .pointer none]) x⁻¹ (k1 + 2)) := fun W => CF.small (by rw [inv_num, en1, ed1, Int.sign_eq_neg_one_of_neg h]; omega) (by rw [inv_den (by omega), en1]; omega) (by omega) (by omega) (by omega) (by omega)
      clear en1 ed1
      go_enter Tryz.func276, Tryz.ntmps276
      go_wp2
      refine ret_bx rfl Tryz.underlying147 rfl (by kernel_rfl) rfl rfl rfl ?_
      exact CFRet.fin (hx := HF.out _) rfl (by omega)
    · have HF : Hid (∀ W : World, CF W (.agg #[.int .i64 0, .int .i64 0, .pointer none]) x⁻¹ (k1 + 2)) := fun W => by
        rw [show x = 0 from Rat.num_eq_zero.1 (by omega), Rat.inv_zero]; exact CF.zero (by omega)
      subst h
      clear en1 ed1
      go_enter Tryz.func276, Tryz.ntmps276
      go_wp2
      refine ret_bx rfl Tryz.underlying147 rfl (by kernel_rfl) rfl rfl rfl ?_
      exact CFRet.fin (hx := HF.out _) rfl (by omega)
    · have HF : Hid (∀ W : World, CF W (.agg #[.int .i64 (d1 + 1), .int .i64 (n1 - 1), .pointer none]) x⁻¹ (k1 + 2)) := fun W => CF.small (by rw [inv_num, en1, ed1, Int.sign_eq_one_of_pos h]; omega) (by rw [inv_den (by omega), en1]; omega) (by omega) (by omega) (by omega) (by omega)
      clear en1 ed1
      go_enter Tryz.func276, Tryz.ntmps276
      go_wp2
      refine ret_bx rfl Tryz.underlying147 rfl (by kernel_rfl) rfl rfl rfl ?_
      exact CFRet.fin (hx := HF.out _) rfl (by omega)
  · have hz := zz_of hZ1
    have i1 : CN w (.slice A1 L1 C1) x.num.natAbs k1 := ⟨hz.2⟩
    have HE := Lib.hid (show mkRat (sgn G1 x.den) x.num.natAbs = x⁻¹ by rw [hz.1]; exact inv_sgn hq1)
    clear hz
    go_enter Tryz.func276, Tryz.ntmps276
    go_wp2_with fail
    refine rgn [w.heap.size + 1] [] fun hHeld => ?_
    refine tk 0 hHeld ?_
    refine tk 1 hHeld ?_
    refine tk 2 hHeld ?_
    refine tk 3 hHeld ?_
    refine tk 4 hHeld ?_
    refine tk 5 hHeld ?_
    refine tk 6 hHeld ?_
    refine tk 7 hHeld ?_
    refine tk 8 hHeld ?_
    refine tk 9 hHeld ?_
    refine tk 10 hHeld ?_
    refine tk 11 hHeld ?_
    refine tk 12 hHeld ?_
    refine tk 13 hHeld ?_
    refine tk 14 hHeld ?_
    refine tk 15 hHeld ?_
    refine tk 16 hHeld ?_
    refine tk 17 hHeld ?_
    refine st 18 fun K hK => ?_
    go_simp
    (with_reducible refine Calls.cF (reduceC (by omega)) ?_); intros
    refine hd hK ?_
    clear hHeld hK K
    intro hHeld
    refine st 19 fun K hK => ?_
    go_simp
    refine hd hK ?_
    clear hHeld hK K
    intro hHeld
    refine dn ?_
    clear hHeld
    go_wp2
    refine ret_bx rfl Tryz.underlying147 rfl (by kernel_rfl) rfl rfl rfl ?_
    exact CFRet.fin HE.out (by omega)

theorem rQuoC {w : World} {n1 d1 n2 d2 : Int} {p1 p2 : Option Addr} {x y : Rat} {k1 k2 : Nat} [h1 : CF w (.agg #[.int .i64 n1, .int .i64 d1, .pointer p1]) x k1] [h2 : CF w (.agg #[.int .i64 n2, .int .i64 d2, .pointer p2]) y k2] (b : k1 ≤ 100000 ∧ k2 ≤ 100000) :
    Calls Tryz.prog 226 #[.agg #[.int .i64 n1, .int .i64 d1, .pointer p1], .agg #[.int .i64 n2, .int .i64 d2, .pointer p2]] w (CFRet w (x / y) (k1 + k2 + 4)) := by
  have HE := Lib.hid (Rat.div_def x y)
  go_enter Tryz.func226, Tryz.ntmps226
  go_wp2_with fail
  refine rgn [w.heap.size + 1 + 1] [] fun hHeld => ?_
  refine tk 0 hHeld ?_
  refine tk 1 hHeld ?_
  refine st 2 fun K hK => ?_
  go_simp
  (with_reducible refine Calls.cF (rInvC (by omega)) ?_); intros
  refine hd hK ?_
  clear hHeld hK K
  intro hHeld
  refine st 3 fun K hK => ?_
  go_simp
  (with_reducible refine Calls.cF (rMulC (by omega)) ?_); intros
  refine hd hK ?_
  clear hHeld hK K
  intro hHeld
  refine st 4 fun K hK => ?_
  go_simp
  refine hd hK ?_
  clear hHeld hK K
  intro hHeld
  refine dn ?_
  clear hHeld
  go_wp2
  refine ret_bx rfl Tryz.underlying147 rfl (by kernel_rfl) rfl rfl rfl ?_
  exact CFRet.fin HE.out.symm (by omega)

end Go.Proofs.YtdlnoeegboapkaaGreatDoor

/- The reference's arithmetic on rational numbers, and its conversions. printed by a small program (mknumq.py). -/
namespace Go.Proofs.YtdlnoeegboapkaaGreatDoor
open Go.RowKit
set_option maxRecDepth 100000
set_option maxHeartbeats 40000000
set_option synthInstance.maxSize 100000
set_option synthInstance.maxHeartbeats 1000000

theorem CQ.len {w : World} {g : Bool} {a aa : Option Addr} {l c ll cc : Nat} {x : Rat} {k : Nat} (h : CQ w (.agg #[.bool g, .slice a l c, .slice aa ll cc]) x k) : (x.den = 1 → ll = 0) ∧ (x.den ≠ 1 → 0 < ll) := by
  have hl := h.den.out.len
  refine ⟨fun e => ?_, fun e => ?_⟩
  · rw [if_pos e] at hl; exact hl
  · rw [if_neg e] at hl; rw [hl]; exact nf_len_pos x.den_nz
theorem add_parts (x y : Rat) : mkRat (x.num * sgn false y.den + y.num * sgn false x.den) (x.den * y.den) = x + y := by rw [rat_add_mk]; rfl
theorem mul_parts (x y : Rat) : mkRat (x.num * y.num) (x.den * y.den) = x * y := (rat_mul_mk x y).symm
theorem numSC {w : World} {g1 : Bool} {a1 aa1 : Option Addr} {l1 c1 ll1 cc1 k1 : Nat} {x : Rat} [h1 : CQ w (.agg #[.bool g1, .slice a1 l1 c1, .slice aa1 ll1 cc1]) x k1] :
    Calls Tryz.prog 54 #[.agg #[.bool g1, .slice a1 l1 c1, .slice aa1 ll1 cc1]] w (fun e w' => e = .returned (.int .i64 (isgn x.num)) ∧ Below w.heap.size w w') := by
  have i1 := h1.num
  go_enter Tryz.func54, Tryz.ntmps54
  go_wp2_with (first
    | (go_at_call 116; (with_reducible refine Calls.cE (numSignC) ?_); intros))
  go_ret
  exact E.fin rfl

theorem numOppC {w : World} {g1 : Bool} {a1 aa1 : Option Addr} {l1 c1 ll1 cc1 k1 : Nat} {x : Rat} [h1 : CQ w (.agg #[.bool g1, .slice a1 l1 c1, .slice aa1 ll1 cc1]) x k1] :
    Calls Tryz.prog 203 #[.agg #[.bool g1, .slice a1 l1 c1, .slice aa1 ll1 cc1]] w (CQRet w (-x) k1) := by
  have i1 := h1.num
  have i2 := h1.den
  go_enter Tryz.func203, Tryz.ntmps203
  go_wp2_with fail
  refine rgn [w.heap.size + 1] [] fun hHeld => ?_
  refine tk 0 hHeld ?_
  refine tk 1 hHeld ?_
  refine tk 3 hHeld ?_
  refine tk 4 hHeld ?_
  refine st 2 fun K hK => ?_
  go_simp
  (with_reducible refine Calls.cZ (numMinusC) ?_); intros
  refine hd hK ?_
  clear hHeld hK K
  intro hHeld
  refine tk 5 hHeld ?_
  refine st 6 fun K hK => ?_
  go_simp
  refine hd hK ?_
  clear hHeld hK K
  intro hHeld
  refine dn ?_
  clear hHeld
  go_wp2
  refine ret_bx rfl Tryz.underlying45 rfl (by kernel_rfl) rfl rfl rfl ?_
  exact CQRet.fin (hx := CQ.mk' (k := k1) (Rat.neg_num x).symm (by rw [Rat.neg_den]) (Nat.le_refl _) (Nat.le_refl _)) rfl (Nat.le_refl _)

theorem numPlusC {w : World} {g1 g2 : Bool} {a1 aa1 a2 aa2 : Option Addr} {l1 c1 ll1 cc1 l2 c2 ll2 cc2 k1 k2 : Nat} {x y : Rat} [h1 : CQ w (.agg #[.bool g1, .slice a1 l1 c1, .slice aa1 ll1 cc1]) x k1] [h2 : CQ w (.agg #[.bool g2, .slice a2 l2 c2, .slice aa2 ll2 cc2]) y k2] (b : k1 ≤ 40000 ∧ k2 ≤ 40000) :
    Calls Tryz.prog 55 #[.agg #[.bool g1, .slice a1 l1 c1, .slice aa1 ll1 cc1], .agg #[.bool g2, .slice a2 l2 c2, .slice aa2 ll2 cc2]] w (CQRet w (x + y) (k1 + k2 + 4)) := by
  have i1 := h1.num
  have i2 := h2.num
  obtain ⟨p1, p2⟩ := h1.len
  obtain ⟨p3, p4⟩ := h2.len
  have hm : x.den * y.den ≠ 0 := Nat.mul_ne_zero x.den_nz y.den_nz
  have HE := Lib.hid (add_parts x y)
  by_cases hx : x.den = 1
  · have l1 := p1 hx
    clear p1 p2
    by_cases hy : y.den = 1
    · have l2 := p3 hy
      clear p3 p4
      have HF := Lib.hid (rat_add1 (x := x) (y := y) hx hy)
      subst l1 l2
      clear hx hy
      go_enter Tryz.func55, Tryz.ntmps55
      go_wp2_with (first
    | (go_at_call 117; (with_reducible refine Calls.cZ (numAddC (by omega)) ?_); intros))
      refine ret_bx rfl Tryz.underlying45 rfl (by kernel_rfl) rfl rfl rfl ?_
      exact CQRet.fin (by exact HF.out.symm) (by omega)
    · have l2 := p4 hy
      clear p3 p4
      subst l1
      clear hx hy
      go_enter Tryz.func55, Tryz.ntmps55
      go_wp2_with fail
      refine rgn [w.heap.size + 1 + 1] [] fun hHeld => ?_
      refine tk 0 hHeld ?_
      refine tk 1 hHeld ?_
      refine tk 2 hHeld ?_
      refine tk 6 hHeld ?_
      refine tk 7 hHeld ?_
      refine tk 8 hHeld ?_
      refine tk 13 hHeld ?_
      refine tk 15 hHeld ?_
      refine st 3 fun K hK => ?_
      go_simp
      (with_reducible refine Calls.cN (numDenC) ?_); intros
      refine hd hK ?_
      clear hHeld hK K
      intro hHeld
      refine st 4 fun K hK => ?_
      go_simp
      (with_reducible refine Calls.cSg (makeC) ?_); intros
      refine hd hK ?_
      clear hHeld hK K
      intro hHeld
      refine st 5 fun K hK => ?_
      go_simp
      (with_reducible refine Calls.cZ (numMulC (by omega)) ?_); intros
      refine hd hK ?_
      clear hHeld hK K
      intro hHeld
      refine st 9 fun K hK => ?_
      go_simp
      (with_reducible refine Calls.cN (numDenC) ?_); intros
      refine hd hK ?_
      clear hHeld hK K
      intro hHeld
      refine st 10 fun K hK => ?_
      go_simp
      (with_reducible refine Calls.cSg (makeC) ?_); intros
      refine hd hK ?_
      clear hHeld hK K
      intro hHeld
      refine st 11 fun K hK => ?_
      go_simp
      (with_reducible refine Calls.cZ (numMulC (by omega)) ?_); intros
      refine hd hK ?_
      clear hHeld hK K
      intro hHeld
      refine st 12 fun K hK => ?_
      go_simp
      (with_reducible refine Calls.cZ (numAddC (by omega)) ?_); intros
      refine hd hK ?_
      clear hHeld hK K
      intro hHeld
      refine st 14 fun K hK => ?_
      go_simp
      (with_reducible refine Calls.cN (numDenC) ?_); intros
      refine hd hK ?_
      clear hHeld hK K
      intro hHeld
      refine st 16 fun K hK => ?_
      go_simp
      (with_reducible refine Calls.cN (numDenC) ?_); intros
      refine hd hK ?_
      clear hHeld hK K
      intro hHeld
      refine st 17 fun K hK => ?_
      go_simp
      (with_reducible refine Calls.cN (numProductC (by omega)) ?_); intros
      refine hd hK ?_
      clear hHeld hK K
      intro hHeld
      refine st 18 fun K hK => ?_
      go_simp
      (with_reducible refine Calls.cQ (numFracC (by omega) hm) ?_); intros
      refine hd hK ?_
      clear hHeld hK K
      intro hHeld
      refine st 19 fun K hK => ?_
      go_simp
      refine hd hK ?_
      clear hHeld hK K
      intro hHeld
      refine dn ?_
      clear hHeld
      go_wp2
      refine ret_bx rfl Tryz.underlying45 rfl (by kernel_rfl) rfl rfl rfl ?_
      exact CQRet.fin HE.out (by omega)
  · have l1 := p2 hx
    clear p1 p2 p3 p4 hx
    go_enter Tryz.func55, Tryz.ntmps55
    go_wp2_with fail
    refine rgn [w.heap.size + 1 + 1] [] fun hHeld => ?_
    refine tk 0 hHeld ?_
    refine tk 1 hHeld ?_
    refine tk 2 hHeld ?_
    refine tk 6 hHeld ?_
    refine tk 7 hHeld ?_
    refine tk 8 hHeld ?_
    refine tk 13 hHeld ?_
    refine tk 15 hHeld ?_
    refine st 3 fun K hK => ?_
    go_simp
    (with_reducible refine Calls.cN (numDenC) ?_); intros
    refine hd hK ?_
    clear hHeld hK K
    intro hHeld
    refine st 4 fun K hK => ?_
    go_simp
    (with_reducible refine Calls.cSg (makeC) ?_); intros
    refine hd hK ?_
    clear hHeld hK K
    intro hHeld
    refine st 5 fun K hK => ?_
    go_simp
    (with_reducible refine Calls.cZ (numMulC (by omega)) ?_); intros
    refine hd hK ?_
    clear hHeld hK K
    intro hHeld
    refine st 9 fun K hK => ?_
    go_simp
    (with_reducible refine Calls.cN (numDenC) ?_); intros
    refine hd hK ?_
    clear hHeld hK K
    intro hHeld
    refine st 10 fun K hK => ?_
    go_simp
    (with_reducible refine Calls.cSg (makeC) ?_); intros
    refine hd hK ?_
    clear hHeld hK K
    intro hHeld
    refine st 11 fun K hK => ?_
    go_simp
    (with_reducible refine Calls.cZ (numMulC (by omega)) ?_); intros
    refine hd hK ?_
    clear hHeld hK K
    intro hHeld
    refine st 12 fun K hK => ?_
    go_simp
    (with_reducible refine Calls.cZ (numAddC (by omega)) ?_); intros
    refine hd hK ?_
    clear hHeld hK K
    intro hHeld
    refine st 14 fun K hK => ?_
    go_simp
    (with_reducible refine Calls.cN (numDenC) ?_); intros
    refine hd hK ?_
    clear hHeld hK K
    intro hHeld
    refine st 16 fun K hK => ?_
    go_simp
    (with_reducible refine Calls.cN (numDenC) ?_); intros
    refine hd hK ?_
    clear hHeld hK K
    intro hHeld
    refine st 17 fun K hK => ?_
    go_simp
    (with_reducible refine Calls.cN (numProductC (by omega)) ?_); intros
    refine hd hK ?_
    clear hHeld hK K
    intro hHeld
    refine st 18 fun K hK => ?_
    go_simp
    (with_reducible refine Calls.cQ (numFracC (by omega) hm) ?_); intros
    refine hd hK ?_
    clear hHeld hK K
    intro hHeld
    refine st 19 fun K hK => ?_
    go_simp
    refine hd hK ?_
    clear hHeld hK K
    intro hHeld
    refine dn ?_
    clear hHeld
    go_wp2
    refine ret_bx rfl Tryz.underlying45 rfl (by kernel_rfl) rfl rfl rfl ?_
    exact CQRet.fin HE.out (by omega)

theorem numTimesC {w : World} {g1 g2 : Bool} {a1 aa1 a2 aa2 : Option Addr} {l1 c1 ll1 cc1 l2 c2 ll2 cc2 k1 k2 : Nat} {x y : Rat} [h1 : CQ w (.agg #[.bool g1, .slice a1 l1 c1, .slice aa1 ll1 cc1]) x k1] [h2 : CQ w (.agg #[.bool g2, .slice a2 l2 c2, .slice aa2 ll2 cc2]) y k2] (b : k1 ≤ 40000 ∧ k2 ≤ 40000) :
    Calls Tryz.prog 147 #[.agg #[.bool g1, .slice a1 l1 c1, .slice aa1 ll1 cc1], .agg #[.bool g2, .slice a2 l2 c2, .slice aa2 ll2 cc2]] w (CQRet w (x * y) (k1 + k2 + 4)) := by
  have i1 := h1.num
  have i2 := h2.num
  obtain ⟨p1, p2⟩ := h1.len
  obtain ⟨p3, p4⟩ := h2.len
  have hm : x.den * y.den ≠ 0 := Nat.mul_ne_zero x.den_nz y.den_nz
  have HE := Lib.hid (mul_parts x y)
  by_cases hx : x.den = 1
  · have l1 := p1 hx
    clear p1 p2
    by_cases hy : y.den = 1
    · have l2 := p3 hy
      clear p3 p4
      have HF := Lib.hid (rat_mul1 (x := x) (y := y) hx hy)
      subst l1 l2
      clear hx hy
      go_enter Tryz.func147, Tryz.ntmps147
      go_wp2_with (first
    | (go_at_call 118; (with_reducible refine Calls.cZ (numMulC (by omega)) ?_); intros))
      refine ret_bx rfl Tryz.underlying45 rfl (by kernel_rfl) rfl rfl rfl ?_
      exact CQRet.fin (by exact HF.out.symm) (by omega)
    · have l2 := p4 hy
      clear p3 p4
      subst l1
      clear hx hy
      go_enter Tryz.func147, Tryz.ntmps147
      go_wp2_with fail
      refine rgn [w.heap.size + 1 + 1] [] fun hHeld => ?_
      refine tk 0 hHeld ?_
      refine tk 1 hHeld ?_
      refine tk 2 hHeld ?_
      refine tk 3 hHeld ?_
      refine tk 5 hHeld ?_
      refine tk 7 hHeld ?_
      refine st 4 fun K hK => ?_
      go_simp
      (with_reducible refine Calls.cZ (numMulC (by omega)) ?_); intros
      refine hd hK ?_
      clear hHeld hK K
      intro hHeld
      refine st 6 fun K hK => ?_
      go_simp
      (with_reducible refine Calls.cN (numDenC) ?_); intros
      refine hd hK ?_
      clear hHeld hK K
      intro hHeld
      refine st 8 fun K hK => ?_
      go_simp
      (with_reducible refine Calls.cN (numDenC) ?_); intros
      refine hd hK ?_
      clear hHeld hK K
      intro hHeld
      refine st 9 fun K hK => ?_
      go_simp
      (with_reducible refine Calls.cN (numProductC (by omega)) ?_); intros
      refine hd hK ?_
      clear hHeld hK K
      intro hHeld
      refine st 10 fun K hK => ?_
      go_simp
      (with_reducible refine Calls.cQ (numFracC (by omega) hm) ?_); intros
      refine hd hK ?_
      clear hHeld hK K
      intro hHeld
      refine st 11 fun K hK => ?_
      go_simp
      refine hd hK ?_
      clear hHeld hK K
      intro hHeld
      refine dn ?_
      clear hHeld
      go_wp2
      refine ret_bx rfl Tryz.underlying45 rfl (by kernel_rfl) rfl rfl rfl ?_
      exact CQRet.fin HE.out (by omega)
  · have l1 := p2 hx
    clear p1 p2 p3 p4 hx
    go_enter Tryz.func147, Tryz.ntmps147
    go_wp2_with fail
    refine rgn [w.heap.size + 1 + 1] [] fun hHeld => ?_
    refine tk 0 hHeld ?_
    refine tk 1 hHeld ?_
    refine tk 2 hHeld ?_
    refine tk 3 hHeld ?_
    refine tk 5 hHeld ?_
    refine tk 7 hHeld ?_
    refine st 4 fun K hK => ?_
    go_simp
    (with_reducible refine Calls.cZ (numMulC (by omega)) ?_); intros
    refine hd hK ?_
    clear hHeld hK K
    intro hHeld
    refine st 6 fun K hK => ?_
    go_simp
    (with_reducible refine Calls.cN (numDenC) ?_); intros
    refine hd hK ?_
    clear hHeld hK K
    intro hHeld
    refine st 8 fun K hK => ?_
    go_simp
    (with_reducible refine Calls.cN (numDenC) ?_); intros
    refine hd hK ?_
    clear hHeld hK K
    intro hHeld
    refine st 9 fun K hK => ?_
    go_simp
    (with_reducible refine Calls.cN (numProductC (by omega)) ?_); intros
    refine hd hK ?_
    clear hHeld hK K
    intro hHeld
    refine st 10 fun K hK => ?_
    go_simp
    (with_reducible refine Calls.cQ (numFracC (by omega) hm) ?_); intros
    refine hd hK ?_
    clear hHeld hK K
    intro hHeld
    refine st 11 fun K hK => ?_
    go_simp
    refine hd hK ?_
    clear hHeld hK K
    intro hHeld
    refine dn ?_
    clear hHeld
    go_wp2
    refine ret_bx rfl Tryz.underlying45 rfl (by kernel_rfl) rfl rfl rfl ?_
    exact CQRet.fin HE.out (by omega)

theorem numSubC {w : World} {g1 g2 : Bool} {a1 aa1 a2 aa2 : Option Addr} {l1 c1 ll1 cc1 l2 c2 ll2 cc2 k1 k2 : Nat} {x y : Rat} [h1 : CQ w (.agg #[.bool g1, .slice a1 l1 c1, .slice aa1 ll1 cc1]) x k1] [h2 : CQ w (.agg #[.bool g2, .slice a2 l2 c2, .slice aa2 ll2 cc2]) y k2] (b : k1 ≤ 40000 ∧ k2 ≤ 40000) :
    Calls Tryz.prog 146 #[.agg #[.bool g1, .slice a1 l1 c1, .slice aa1 ll1 cc1], .agg #[.bool g2, .slice a2 l2 c2, .slice aa2 ll2 cc2]] w (CQRet w (x - y) (k1 + k2 + 4)) := by
  have HE := Lib.hid (Rat.sub_eq_add_neg x y)
  go_enter Tryz.func146, Tryz.ntmps146
  go_wp2_with fail
  refine rgn [w.heap.size + 1 + 1] [] fun hHeld => ?_
  refine tk 0 hHeld ?_
  refine tk 1 hHeld ?_
  refine st 2 fun K hK => ?_
  go_simp
  (with_reducible refine Calls.cQ (numOppC) ?_); intros
  refine hd hK ?_
  clear hHeld hK K
  intro hHeld
  refine st 3 fun K hK => ?_
  go_simp
  (with_reducible refine Calls.cQ (numPlusC (by omega)) ?_); intros
  refine hd hK ?_
  clear hHeld hK K
  intro hHeld
  refine st 4 fun K hK => ?_
  go_simp
  refine hd hK ?_
  clear hHeld hK K
  intro hHeld
  refine dn ?_
  clear hHeld
  go_wp2
  refine ret_bx rfl Tryz.underlying45 rfl (by kernel_rfl) rfl rfl rfl ?_
  exact CQRet.fin HE.out.symm (by omega)

theorem numCC {w : World} {g1 g2 : Bool} {a1 aa1 a2 aa2 : Option Addr} {l1 c1 ll1 cc1 l2 c2 ll2 cc2 k1 k2 : Nat} {x y : Rat} [h1 : CQ w (.agg #[.bool g1, .slice a1 l1 c1, .slice aa1 ll1 cc1]) x k1] [h2 : CQ w (.agg #[.bool g2, .slice a2 l2 c2, .slice aa2 ll2 cc2]) y k2] (b : k1 ≤ 40000 ∧ k2 ≤ 40000) :
    Calls Tryz.prog 78 #[.agg #[.bool g1, .slice a1 l1 c1, .slice aa1 ll1 cc1], .agg #[.bool g2, .slice a2 l2 c2, .slice aa2 ll2 cc2]] w (fun e w' => e = .returned (.int .i64 (isgn (x - y).num)) ∧ Below w.heap.size w w') := by
  go_enter Tryz.func78, Tryz.ntmps78
  go_wp2_with (first
    | (go_at_call 146; (with_reducible refine Calls.cQ (numSubC (by omega)) ?_); intros)
    | (go_at_call 54; (with_reducible refine Calls.cE (numSC) ?_); intros))
  go_ret
  exact E.fin rfl

theorem refQC {w : World} {g1 : Bool} {a1 aa1 : Option Addr} {l1 c1 ll1 cc1 k1 : Nat} {x : Rat} [h1 : CW w (.agg #[.bool g1, .slice a1 l1 c1, .slice aa1 ll1 cc1]) x k1] (b : k1 ≤ 90000) :
    Calls Tryz.prog 56 #[.agg #[.bool g1, .slice a1 l1 c1, .slice aa1 ll1 cc1]] w (CQRet w x (k1 + 2)) := by
  obtain ⟨z, m, rfl, i1, i2⟩ := CW.parts h1
  by_cases hm : m = 0
  · subst hm
    rw [Rat.mkRat_zero]
    go_enter Tryz.func56, Tryz.ntmps56
    go_wp2_with fail
    with_reducible refine Calls.cN (refNC (by omega)) ?_
    intro W1 _ a3 l3 c3 i3
    have hl : l3 = 0 := i3.out.len
    subst hl
    go_wp2
    refine ret_bx rfl Tryz.underlying45 rfl (by kernel_rfl) rfl rfl rfl ?_
    exact CQRet.fin (hx := CQ.mk' (z := 0) (n := 0) (k := k1 + 2) (by simp) (by simp) (by omega) (by omega)) rfl (by omega)
  · go_enter Tryz.func56, Tryz.ntmps56
    go_wp2_with fail
    with_reducible refine Calls.cN (refNC (by omega)) ?_
    intro W1 _ a3 l3 c3 i3
    have hl := i3.out.len
    have hl0 : 0 < l3 := by rw [hl]; exact nf_len_pos hm
    clear hl
    go_wp2_with (first
    | (go_at_call 120; (with_reducible refine Calls.cZ (refIC (by omega)) ?_); intros)
    | (go_at_call 75; (with_reducible refine Calls.cQ (numFracC (by omega) hm) ?_); intros))
    refine ret_bx rfl Tryz.underlying45 rfl (by kernel_rfl) rfl rfl rfl ?_
    exact CQRet.fin rfl (by omega)

theorem sameQC {w : World} {g1 g2 : Bool} {a1 aa1 a2 aa2 : Option Addr} {l1 c1 ll1 cc1 l2 c2 ll2 cc2 k1 k2 : Nat} {x y : Rat} [h1 : CA w (.agg #[.bool g1, .slice a1 l1 c1, .slice aa1 ll1 cc1]) x k1] [h2 : CA w (.agg #[.bool g2, .slice a2 l2 c2, .slice aa2 ll2 cc2]) y k2] (hxy : x = y) :
    Calls Tryz.prog 39 #[.agg #[.bool g1, .slice a1 l1 c1, .slice aa1 ll1 cc1], .agg #[.bool g2, .slice a2 l2 c2, .slice aa2 ll2 cc2]] w (fun e w' => e = .returned (.bool true) ∧ Below w.heap.size w w') := by
  have i1 := h1.num
  have i2 := h1.den
  have i3 := h2.num
  have i4 := h2.den
  subst hxy
  go_enter Tryz.func39, Tryz.ntmps39
  go_wp2_with (first
    | (go_at_call 99; (with_reducible refine Calls.cE (sameIC rfl) ?_); intros)
    | (go_at_call 100; (with_reducible refine Calls.cE (sameNC rfl) ?_); intros))
  go_ret
  exact E.fin rfl

end Go.Proofs.YtdlnoeegboapkaaGreatDoor

/- The reference's points, the products of package point, and what the laws of layer 4 compare. printed by a small program (mkref4.py). -/
namespace Go.Proofs.YtdlnoeegboapkaaGreatDoor
open Go.RowKit
set_option maxRecDepth 100000
set_option maxHeartbeats 40000000
set_option synthInstance.maxSize 100000
set_option synthInstance.maxHeartbeats 1000000

theorem refPtC {w : World} {g1x g1y : Bool} {a1x aa1x a1y aa1y : Option Addr} {l1x c1x ll1x cc1x l1y c1y ll1y cc1y k1x k1y : Nat} {x y : Rat} [h1x : CW w (.agg #[.bool g1x, .slice a1x l1x c1x, .slice aa1x ll1x cc1x]) x k1x] [h1y : CW w (.agg #[.bool g1y, .slice a1y l1y c1y, .slice aa1y ll1y cc1y]) y k1y] (b : k1x ≤ 90000 ∧ k1y ≤ 90000) :
    Calls Tryz.prog 16 #[.agg #[.bool g1x, .slice a1x l1x c1x, .slice aa1x ll1x cc1x, .bool g1y, .slice a1y l1y c1y, .slice aa1y ll1y cc1y]] w (CPQRet w (x) (y) (max k1x k1y + 2)) := by
  go_enter Tryz.func16, Tryz.ntmps16
  go_wp2_with fail
  refine rgn [w.heap.size + 1] [] fun hHeld => ?_
  refine tk 0 hHeld ?_
  refine tk 1 hHeld ?_
  refine tk 3 hHeld ?_
  refine tk 4 hHeld ?_
  refine st 2 fun K hK => ?_
  go_simp
  (with_reducible refine Calls.cQ (refQC (by omega)) ?_); intros
  refine hd hK ?_
  clear hHeld hK K
  intro hHeld
  refine st 5 fun K hK => ?_
  go_simp
  (with_reducible refine Calls.cQ (refQC (by omega)) ?_); intros
  refine hd hK ?_
  clear hHeld hK K
  intro hHeld
  refine tk 6 hHeld ?_
  refine st 7 fun K hK => ?_
  go_simp
  refine hd hK ?_
  clear hHeld hK K
  intro hHeld
  refine dn ?_
  clear hHeld
  go_wp2
  refine ret_bx rfl Tryz.underlying47 rfl (by kernel_rfl) rfl rfl rfl ?_
  exact CPQRet.fin rfl (by omega) rfl (by omega)

theorem refPAddC {w : World} {g1x g1y g2 g3x g3y : Bool} {a1x aa1x a1y aa1y a2 aa2 a3x aa3x a3y aa3y : Option Addr} {l1x c1x ll1x cc1x l1y c1y ll1y cc1y l2 c2 ll2 cc2 l3x c3x ll3x cc3x l3y c3y ll3y cc3y k1x k1y k2 k3x k3y : Nat} {x1 y1 z x2 y2 : Rat} [h1x : CQ w (.agg #[.bool g1x, .slice a1x l1x c1x, .slice aa1x ll1x cc1x]) x1 k1x] [h1y : CQ w (.agg #[.bool g1y, .slice a1y l1y c1y, .slice aa1y ll1y cc1y]) y1 k1y] [h2 : CQ w (.agg #[.bool g2, .slice a2 l2 c2, .slice aa2 ll2 cc2]) z k2] [h3x : CQ w (.agg #[.bool g3x, .slice a3x l3x c3x, .slice aa3x ll3x cc3x]) x2 k3x] [h3y : CQ w (.agg #[.bool g3y, .slice a3y l3y c3y, .slice aa3y ll3y cc3y]) y2 k3y] (b : k1x ≤ 10000 ∧ k1y ≤ 10000 ∧ k2 ≤ 10000 ∧ k3x ≤ 10000 ∧ k3y ≤ 10000) :
    Calls Tryz.prog 82 #[.agg #[.bool g1x, .slice a1x l1x c1x, .slice aa1x ll1x cc1x, .bool g1y, .slice a1y l1y c1y, .slice aa1y ll1y cc1y], .agg #[.bool g2, .slice a2 l2 c2, .slice aa2 ll2 cc2], .agg #[.bool g3x, .slice a3x l3x c3x, .slice aa3x ll3x cc3x, .bool g3y, .slice a3y l3y c3y, .slice aa3y ll3y cc3y]] w (CPQRet w (x1 + z * x2) (y1 + z * y2) (max k1x k1y + k2 + max k3x k3y + 8)) := by
  go_enter Tryz.func82, Tryz.ntmps82
  go_wp2_with fail
  refine rgn [w.heap.size + 1 + 1 + 1] [] fun hHeld => ?_
  refine tk 0 hHeld ?_
  refine tk 1 hHeld ?_
  refine tk 2 hHeld ?_
  refine tk 3 hHeld ?_
  refine tk 4 hHeld ?_
  refine tk 7 hHeld ?_
  refine tk 8 hHeld ?_
  refine tk 9 hHeld ?_
  refine tk 10 hHeld ?_
  refine tk 11 hHeld ?_
  refine st 5 fun K hK => ?_
  go_simp
  (with_reducible refine Calls.cQ (numTimesC (by omega)) ?_); intros
  refine hd hK ?_
  clear hHeld hK K
  intro hHeld
  refine st 6 fun K hK => ?_
  go_simp
  (with_reducible refine Calls.cQ (numPlusC (by omega)) ?_); intros
  refine hd hK ?_
  clear hHeld hK K
  intro hHeld
  refine st 12 fun K hK => ?_
  go_simp
  (with_reducible refine Calls.cQ (numTimesC (by omega)) ?_); intros
  refine hd hK ?_
  clear hHeld hK K
  intro hHeld
  refine st 13 fun K hK => ?_
  go_simp
  (with_reducible refine Calls.cQ (numPlusC (by omega)) ?_); intros
  refine hd hK ?_
  clear hHeld hK K
  intro hHeld
  refine tk 14 hHeld ?_
  refine st 15 fun K hK => ?_
  go_simp
  refine hd hK ?_
  clear hHeld hK K
  intro hHeld
  refine dn ?_
  clear hHeld
  go_wp2
  refine ret_bx rfl Tryz.underlying47 rfl (by kernel_rfl) rfl rfl rfl ?_
  exact CPQRet.fin rfl (by omega) rfl (by omega)

theorem refPSubC {w : World} {g1x g1y g2x g2y : Bool} {a1x aa1x a1y aa1y a2x aa2x a2y aa2y : Option Addr} {l1x c1x ll1x cc1x l1y c1y ll1y cc1y l2x c2x ll2x cc2x l2y c2y ll2y cc2y k1x k1y k2x k2y : Nat} {x1 y1 x2 y2 : Rat} [h1x : CQ w (.agg #[.bool g1x, .slice a1x l1x c1x, .slice aa1x ll1x cc1x]) x1 k1x] [h1y : CQ w (.agg #[.bool g1y, .slice a1y l1y c1y, .slice aa1y ll1y cc1y]) y1 k1y] [h2x : CQ w (.agg #[.bool g2x, .slice a2x l2x c2x, .slice aa2x ll2x cc2x]) x2 k2x] [h2y : CQ w (.agg #[.bool g2y, .slice a2y l2y c2y, .slice aa2y ll2y cc2y]) y2 k2y] (b : k1x ≤ 9000 ∧ k1y ≤ 9000 ∧ k2x ≤ 9000 ∧ k2y ≤ 9000) :
    Calls Tryz.prog 178 #[.agg #[.bool g1x, .slice a1x l1x c1x, .slice aa1x ll1x cc1x, .bool g1y, .slice a1y l1y c1y, .slice aa1y ll1y cc1y], .agg #[.bool g2x, .slice a2x l2x c2x, .slice aa2x ll2x cc2x, .bool g2y, .slice a2y l2y c2y, .slice aa2y ll2y cc2y]] w (CPQRet w (x1 - x2) (y1 - y2) (max k1x k1y + max k2x k2y + 10)) := by
  have EX := Lib.hid (show x1 + ((-1 : Int) : Rat) * x2 = x1 - x2 by rw [show ((-1 : Int) : Rat) = -1 from rfl]; grind)
  have EY := Lib.hid (show y1 + ((-1 : Int) : Rat) * y2 = y1 - y2 by rw [show ((-1 : Int) : Rat) = -1 from rfl]; grind)
  go_enter Tryz.func178, Tryz.ntmps178
  go_wp2_with fail
  refine rgn [w.heap.size + 1 + 1] [] fun hHeld => ?_
  refine tk 0 hHeld ?_
  refine tk 2 hHeld ?_
  refine st 1 fun K hK => ?_
  go_simp
  (with_reducible refine Calls.cQ (numOfC (by omega)) ?_); intros
  refine hd hK ?_
  clear hHeld hK K
  intro hHeld
  refine st 3 fun K hK => ?_
  go_simp
  (with_reducible refine Calls.cPQ (refPAddC (by omega)) ?_); intros
  refine hd hK ?_
  clear hHeld hK K
  intro hHeld
  refine st 4 fun K hK => ?_
  go_simp
  refine hd hK ?_
  clear hHeld hK K
  intro hHeld
  refine dn ?_
  clear hHeld
  go_wp2
  refine ret_bx rfl Tryz.underlying47 rfl (by kernel_rfl) rfl rfl rfl ?_
  exact CPQRet.fin EX.out (by omega) EY.out (by omega)

theorem refDotC {w : World} {g1x g1y g2x g2y : Bool} {a1x aa1x a1y aa1y a2x aa2x a2y aa2y : Option Addr} {l1x c1x ll1x cc1x l1y c1y ll1y cc1y l2x c2x ll2x cc2x l2y c2y ll2y cc2y k1x k1y k2x k2y : Nat} {x1 y1 x2 y2 : Rat} [h1x : CQ w (.agg #[.bool g1x, .slice a1x l1x c1x, .slice aa1x ll1x cc1x]) x1 k1x] [h1y : CQ w (.agg #[.bool g1y, .slice a1y l1y c1y, .slice aa1y ll1y cc1y]) y1 k1y] [h2x : CQ w (.agg #[.bool g2x, .slice a2x l2x c2x, .slice aa2x ll2x cc2x]) x2 k2x] [h2y : CQ w (.agg #[.bool g2y, .slice a2y l2y c2y, .slice aa2y ll2y cc2y]) y2 k2y] (b : k1x ≤ 9000 ∧ k1y ≤ 9000 ∧ k2x ≤ 9000 ∧ k2y ≤ 9000) :
    Calls Tryz.prog 220 #[.agg #[.bool g1x, .slice a1x l1x c1x, .slice aa1x ll1x cc1x, .bool g1y, .slice a1y l1y c1y, .slice aa1y ll1y cc1y], .agg #[.bool g2x, .slice a2x l2x c2x, .slice aa2x ll2x cc2x, .bool g2y, .slice a2y l2y c2y, .slice aa2y ll2y cc2y]] w (CQRet w (x1 * x2 + y1 * y2) (k1x + k1y + k2x + k2y + 12)) := by
  go_enter Tryz.func220, Tryz.ntmps220
  go_wp2_with fail
  refine rgn [w.heap.size + 1 + 1] [] fun hHeld => ?_
  refine tk 0 hHeld ?_
  refine tk 1 hHeld ?_
  refine tk 2 hHeld ?_
  refine tk 3 hHeld ?_
  refine tk 5 hHeld ?_
  refine tk 6 hHeld ?_
  refine tk 7 hHeld ?_
  refine tk 8 hHeld ?_
  refine st 4 fun K hK => ?_
  go_simp
  (with_reducible refine Calls.cQ (numTimesC (by omega)) ?_); intros
  refine hd hK ?_
  clear hHeld hK K
  intro hHeld
  refine st 9 fun K hK => ?_
  go_simp
  (with_reducible refine Calls.cQ (numTimesC (by omega)) ?_); intros
  refine hd hK ?_
  clear hHeld hK K
  intro hHeld
  refine st 10 fun K hK => ?_
  go_simp
  (with_reducible refine Calls.cQ (numPlusC (by omega)) ?_); intros
  refine hd hK ?_
  clear hHeld hK K
  intro hHeld
  refine st 11 fun K hK => ?_
  go_simp
  refine hd hK ?_
  clear hHeld hK K
  intro hHeld
  refine dn ?_
  clear hHeld
  go_wp2
  refine ret_bx rfl Tryz.underlying45 rfl (by kernel_rfl) rfl rfl rfl ?_
  exact CQRet.fin rfl (by omega)

theorem refCrossC {w : World} {g1x g1y g2x g2y : Bool} {a1x aa1x a1y aa1y a2x aa2x a2y aa2y : Option Addr} {l1x c1x ll1x cc1x l1y c1y ll1y cc1y l2x c2x ll2x cc2x l2y c2y ll2y cc2y k1x k1y k2x k2y : Nat} {x1 y1 x2 y2 : Rat} [h1x : CQ w (.agg #[.bool g1x, .slice a1x l1x c1x, .slice aa1x ll1x cc1x]) x1 k1x] [h1y : CQ w (.agg #[.bool g1y, .slice a1y l1y c1y, .slice aa1y ll1y cc1y]) y1 k1y] [h2x : CQ w (.agg #[.bool g2x, .slice a2x l2x c2x, .slice aa2x ll2x cc2x]) x2 k2x] [h2y : CQ w (.agg #[.bool g2y, .slice a2y l2y c2y, .slice aa2y ll2y cc2y]) y2 k2y] (b : k1x ≤ 9000 ∧ k1y ≤ 9000 ∧ k2x ≤ 9000 ∧ k2y ≤ 9000) :
    Calls Tryz.prog 81 #[.agg #[.bool g1x, .slice a1x l1x c1x, .slice aa1x ll1x cc1x, .bool g1y, .slice a1y l1y c1y, .slice aa1y ll1y cc1y], .agg #[.bool g2x, .slice a2x l2x c2x, .slice aa2x ll2x cc2x, .bool g2y, .slice a2y l2y c2y, .slice aa2y ll2y cc2y]] w (CQRet w (x1 * y2 - y1 * x2) (k1x + k1y + k2x + k2y + 12)) := by
  go_enter Tryz.func81, Tryz.ntmps81
  go_wp2_with fail
  refine rgn [w.heap.size + 1 + 1] [] fun hHeld => ?_
  refine tk 0 hHeld ?_
  refine tk 1 hHeld ?_
  refine tk 2 hHeld ?_
  refine tk 3 hHeld ?_
  refine tk 5 hHeld ?_
  refine tk 6 hHeld ?_
  refine tk 7 hHeld ?_
  refine tk 8 hHeld ?_
  refine st 4 fun K hK => ?_
  go_simp
  (with_reducible refine Calls.cQ (numTimesC (by omega)) ?_); intros
  refine hd hK ?_
  clear hHeld hK K
  intro hHeld
  refine st 9 fun K hK => ?_
  go_simp
  (with_reducible refine Calls.cQ (numTimesC (by omega)) ?_); intros
  refine hd hK ?_
  clear hHeld hK K
  intro hHeld
  refine st 10 fun K hK => ?_
  go_simp
  (with_reducible refine Calls.cQ (numSubC (by omega)) ?_); intros
  refine hd hK ?_
  clear hHeld hK K
  intro hHeld
  refine st 11 fun K hK => ?_
  go_simp
  refine hd hK ?_
  clear hHeld hK K
  intro hHeld
  refine dn ?_
  clear hHeld
  go_wp2
  refine ret_bx rfl Tryz.underlying45 rfl (by kernel_rfl) rfl rfl rfl ?_
  exact CQRet.fin rfl (by omega)

theorem refOrientC {w : World} {g1x g1y g2x g2y g3x g3y : Bool} {a1x aa1x a1y aa1y a2x aa2x a2y aa2y a3x aa3x a3y aa3y : Option Addr} {l1x c1x ll1x cc1x l1y c1y ll1y cc1y l2x c2x ll2x cc2x l2y c2y ll2y cc2y l3x c3x ll3x cc3x l3y c3y ll3y cc3y k1x k1y k2x k2y k3x k3y : Nat} {x1 y1 x2 y2 x3 y3 : Rat} [h1x : CQ w (.agg #[.bool g1x, .slice a1x l1x c1x, .slice aa1x ll1x cc1x]) x1 k1x] [h1y : CQ w (.agg #[.bool g1y, .slice a1y l1y c1y, .slice aa1y ll1y cc1y]) y1 k1y] [h2x : CQ w (.agg #[.bool g2x, .slice a2x l2x c2x, .slice aa2x ll2x cc2x]) x2 k2x] [h2y : CQ w (.agg #[.bool g2y, .slice a2y l2y c2y, .slice aa2y ll2y cc2y]) y2 k2y] [h3x : CQ w (.agg #[.bool g3x, .slice a3x l3x c3x, .slice aa3x ll3x cc3x]) x3 k3x] [h3y : CQ w (.agg #[.bool g3y, .slice a3y l3y c3y, .slice aa3y ll3y cc3y]) y3 k3y] (b : k1x ≤ 1000 ∧ k1y ≤ 1000 ∧ k2x ≤ 1000 ∧ k2y ≤ 1000 ∧ k3x ≤ 1000 ∧ k3y ≤ 1000) :
    Calls Tryz.prog 113 #[.agg #[.bool g1x, .slice a1x l1x c1x, .slice aa1x ll1x cc1x, .bool g1y, .slice a1y l1y c1y, .slice aa1y ll1y cc1y], .agg #[.bool g2x, .slice a2x l2x c2x, .slice aa2x ll2x cc2x, .bool g2y, .slice a2y l2y c2y, .slice aa2y ll2y cc2y], .agg #[.bool g3x, .slice a3x l3x c3x, .slice aa3x ll3x cc3x, .bool g3y, .slice a3y l3y c3y, .slice aa3y ll3y cc3y]] w (fun e w' => e = .returned (.int .i64 (orientR x1 y1 x2 y2 x3 y3)) ∧ Below w.heap.size w w') := by
  go_enter Tryz.func113, Tryz.ntmps113
  go_wp2_with fail
  refine rgn [] [] fun hHeld => ?_
  refine tk 0 hHeld ?_
  refine tk 1 hHeld ?_
  refine tk 3 hHeld ?_
  refine tk 4 hHeld ?_
  refine st 2 fun K hK => ?_
  go_simp
  (with_reducible refine Calls.cPQ (refPSubC (by omega)) ?_); intros
  refine hd hK ?_
  clear hHeld hK K
  intro hHeld
  refine st 5 fun K hK => ?_
  go_simp
  (with_reducible refine Calls.cPQ (refPSubC (by omega)) ?_); intros
  refine hd hK ?_
  clear hHeld hK K
  intro hHeld
  refine st 6 fun K hK => ?_
  go_simp
  (with_reducible refine Calls.cQ (refCrossC (by omega)) ?_); intros
  refine hd hK ?_
  clear hHeld hK K
  intro hHeld
  refine st 7 fun K hK => ?_
  go_simp
  (with_reducible refine Calls.cE (numSC) ?_); intros
  refine hd hK ?_
  clear hHeld hK K
  intro hHeld
  refine tk 8 hHeld ?_
  refine dn ?_
  clear hHeld
  go_wp2
  go_ret
  exact E.fin rfl

theorem gDotC {w : World} {n1x d1x n1y d1y n2x d2x n2y d2y : Int} {p1x p1y p2x p2y : Option Addr} {x1 y1 x2 y2 : Rat} {k1x k1y k2x k2y : Nat} [h1x : CF w (.agg #[.int .i64 n1x, .int .i64 d1x, .pointer p1x]) x1 k1x] [h1y : CF w (.agg #[.int .i64 n1y, .int .i64 d1y, .pointer p1y]) y1 k1y] [h2x : CF w (.agg #[.int .i64 n2x, .int .i64 d2x, .pointer p2x]) x2 k2x] [h2y : CF w (.agg #[.int .i64 n2y, .int .i64 d2y, .pointer p2y]) y2 k2y] (b : k1x ≤ 50000 ∧ k1y ≤ 50000 ∧ k2x ≤ 50000 ∧ k2y ≤ 50000) :
    Calls Tryz.prog 228 #[.agg #[.int .i64 n1x, .int .i64 d1x, .pointer p1x, .int .i64 n1y, .int .i64 d1y, .pointer p1y], .agg #[.int .i64 n2x, .int .i64 d2x, .pointer p2x, .int .i64 n2y, .int .i64 d2y, .pointer p2y]] w (CFRet w (x1 * x2 + y1 * y2) (k1x + k1y + k2x + k2y + 7)) := by
  go_enter Tryz.func228, Tryz.ntmps228
  go_wp2_with fail
  refine rgn [w.heap.size + 1 + 1] [] fun hHeld => ?_
  refine tk 0 hHeld ?_
  refine tk 1 hHeld ?_
  refine tk 2 hHeld ?_
  refine tk 3 hHeld ?_
  refine tk 5 hHeld ?_
  refine tk 6 hHeld ?_
  refine tk 7 hHeld ?_
  refine tk 8 hHeld ?_
  refine st 4 fun K hK => ?_
  go_simp
  (with_reducible refine Calls.cF (rMulC (by omega)) ?_); intros
  refine hd hK ?_
  clear hHeld hK K
  intro hHeld
  refine st 9 fun K hK => ?_
  go_simp
  (with_reducible refine Calls.cF (rMulC (by omega)) ?_); intros
  refine hd hK ?_
  clear hHeld hK K
  intro hHeld
  refine st 10 fun K hK => ?_
  go_simp
  (with_reducible refine Calls.cF (rAddC (by omega)) ?_); intros
  refine hd hK ?_
  clear hHeld hK K
  intro hHeld
  refine st 11 fun K hK => ?_
  go_simp
  refine hd hK ?_
  clear hHeld hK K
  intro hHeld
  refine dn ?_
  clear hHeld
  go_wp2
  refine ret_bx rfl Tryz.underlying147 rfl (by kernel_rfl) rfl rfl rfl ?_
  exact CFRet.fin rfl (by omega)

theorem samePC {w : World} {g1x g1y g2x g2y : Bool} {a1x aa1x a1y aa1y a2x aa2x a2y aa2y : Option Addr} {l1x c1x ll1x cc1x l1y c1y ll1y cc1y l2x c2x ll2x cc2x l2y c2y ll2y cc2y k1x k1y k2x k2y : Nat} {x1 y1 x2 y2 : Rat} [h1x : CA w (.agg #[.bool g1x, .slice a1x l1x c1x, .slice aa1x ll1x cc1x]) x1 k1x] [h1y : CA w (.agg #[.bool g1y, .slice a1y l1y c1y, .slice aa1y ll1y cc1y]) y1 k1y] [h2x : CA w (.agg #[.bool g2x, .slice a2x l2x c2x, .slice aa2x ll2x cc2x]) x2 k2x] [h2y : CA w (.agg #[.bool g2y, .slice a2y l2y c2y, .slice aa2y ll2y cc2y]) y2 k2y] (hx : x1 = x2) (hy : y1 = y2) :
    Calls Tryz.prog 20 #[.agg #[.bool g1x, .slice a1x l1x c1x, .slice aa1x ll1x cc1x, .bool g1y, .slice a1y l1y c1y, .slice aa1y ll1y cc1y], .agg #[.bool g2x, .slice a2x l2x c2x, .slice aa2x ll2x cc2x, .bool g2y, .slice a2y l2y c2y, .slice aa2y ll2y cc2y]] w (fun e w' => e = .returned (.bool true) ∧ Below w.heap.size w w') := by
  subst hx hy
  go_enter Tryz.func20, Tryz.ntmps20
  go_wp2_with (first
    | (go_at_call 39; (with_reducible refine Calls.cE (sameQC rfl) ?_); intros))
  go_ret
  exact E.fin rfl

theorem same04C {w : World} {g1x g1y g2x g2y : Bool} {a1x aa1x a1y aa1y a2x aa2x a2y aa2y : Option Addr} {l1x c1x ll1x cc1x l1y c1y ll1y cc1y l2x c2x ll2x cc2x l2y c2y ll2y cc2y k1x k1y k2x k2y : Nat} {x1 y1 x2 y2 : Rat} [h1x : CA w (.agg #[.bool g1x, .slice a1x l1x c1x, .slice aa1x ll1x cc1x]) x1 k1x] [h1y : CA w (.agg #[.bool g1y, .slice a1y l1y c1y, .slice aa1y ll1y cc1y]) y1 k1y] [h2x : CQ w (.agg #[.bool g2x, .slice a2x l2x c2x, .slice aa2x ll2x cc2x]) x2 k2x] [h2y : CQ w (.agg #[.bool g2y, .slice a2y l2y c2y, .slice aa2y ll2y cc2y]) y2 k2y] (b : k1x ≤ 90000 ∧ k1y ≤ 90000 ∧ k2x ≤ 90000 ∧ k2y ≤ 90000) (hx : x1 = x2) (hy : y1 = y2) :
    Calls Tryz.prog 15 #[.agg #[.bool g1x, .slice a1x l1x c1x, .slice aa1x ll1x cc1x, .bool g1y, .slice a1y l1y c1y, .slice aa1y ll1y cc1y], .agg #[.bool g2x, .slice a2x l2x c2x, .slice aa2x ll2x cc2x, .bool g2y, .slice a2y l2y c2y, .slice aa2y ll2y cc2y]] w (fun e w' => e = .returned (.bool true) ∧ Below w.heap.size w w') := by
  subst hx hy
  go_enter Tryz.func15, Tryz.ntmps15
  go_wp2_with fail
  refine rgn [] [] fun hHeld => ?_
  refine tk 0 hHeld ?_
  refine tk 1 hHeld ?_
  refine st 2 fun K hK => ?_
  go_simp
  (with_reducible refine Calls.cPA (toPC (by omega)) ?_); intros
  refine hd hK ?_
  clear hHeld hK K
  intro hHeld
  refine st 3 fun K hK => ?_
  go_simp
  (with_reducible refine Calls.cE (samePC rfl rfl) ?_); intros
  refine hd hK ?_
  clear hHeld hK K
  intro hHeld
  refine tk 4 hHeld ?_
  refine dn ?_
  clear hHeld
  go_wp2
  go_ret
  exact E.fin rfl

end Go.Proofs.YtdlnoeegboapkaaGreatDoor

/- Plain laws: the order of directions, and primitive vectors. No program is in sight here. -/
namespace Go.Proofs.YtdlnoeegboapkaaGreatDoor
theorem isg_neg {x : Rat} : isgn x.num = -1 ↔ x < 0 := by
  rw [← rsgn_isgn, ← rsgn_neg]
  rcases rsgn_cases x with ⟨h, _⟩ | ⟨h, _⟩ | ⟨h, _⟩ <;> omega
theorem isg_pos {x : Rat} : isgn x.num = 1 ↔ 0 < x := by
  rw [← rsgn_isgn, ← rsgn_pos]
  rcases rsgn_cases x with ⟨h, _⟩ | ⟨h, _⟩ | ⟨h, _⟩ <;> omega
theorem isg_zero {x : Rat} : isgn x.num = 0 ↔ x = 0 := by
  rw [← rsgn_isgn, rsgn_zero]
/-- The half-planes. -/
theorem half_cases (x y : Rat) : (halfR x y = 0 ∧ x = 0 ∧ y = 0) ∨ (halfR x y = 1 ∧ (0 < y ∨ (y = 0 ∧ 0 < x))) ∨ (halfR x y = 2 ∧ (y < 0 ∨ (y = 0 ∧ x < 0))) := by
  unfold halfR halfS
  simp only [isg_neg, isg_pos, isg_zero]
  by_cases h1 : 0 < y ∨ (y = 0 ∧ 0 < x)
  · right; left; exact ⟨if_pos h1, h1⟩
  · by_cases h2 : y < 0 ∨ x < 0
    · right; right
      refine ⟨by rw [if_neg h1, if_pos h2], ?_⟩
      rcases h2 with h2 | h2
      · exact .inl h2
      · grind
    · left
      refine ⟨by rw [if_neg h1, if_neg h2], ?_⟩
      grind
/-- How two directions in the same half-plane lie. -/
theorem angle_cases (x1 y1 x2 y2 : Rat) : (angleR x1 y1 x2 y2 = -1 ∧ (halfR x1 y1 < halfR x2 y2 ∨ (halfR x1 y1 = halfR x2 y2 ∧ 0 < x1 * y2 - y1 * x2))) ∨ (angleR x1 y1 x2 y2 = 0 ∧ halfR x1 y1 = halfR x2 y2 ∧ x1 * y2 - y1 * x2 = 0) ∨
    (angleR x1 y1 x2 y2 = 1 ∧ (halfR x2 y2 < halfR x1 y1 ∨ (halfR x1 y1 = halfR x2 y2 ∧ x1 * y2 - y1 * x2 < 0))) := by
  unfold angleR
  by_cases h1 : halfR x1 y1 < halfR x2 y2
  · left; exact ⟨if_pos h1, .inl h1⟩
  · by_cases h2 : halfR x2 y2 < halfR x1 y1
    · right; right; exact ⟨by rw [if_neg h1, if_pos h2], .inl h2⟩
    · have he : halfR x1 y1 = halfR x2 y2 := by omega
      rw [if_neg h1, if_neg h2]
      rcases isgn_cases (x1 * y2 - y1 * x2).num with ⟨_, h⟩ | ⟨_, h⟩ | ⟨_, h⟩ <;> rw [h]
      · right; right; exact ⟨rfl, .inr ⟨he, isg_neg.1 h⟩⟩
      · right; left; exact ⟨rfl, he, isg_zero.1 h⟩
      · left; exact ⟨rfl, .inr ⟨he, isg_pos.1 h⟩⟩
theorem angle_swap (x1 y1 x2 y2 : Rat) : angleR x2 y2 x1 y1 = -angleR x1 y1 x2 y2 := by
  have e : x2 * y1 - y2 * x1 = -(x1 * y2 - y1 * x2) := by grind
  rcases angle_cases x1 y1 x2 y2 with ⟨h, h1⟩ | ⟨h, h1, h2⟩ | ⟨h, h1⟩ <;> rcases angle_cases x2 y2 x1 y1 with ⟨k, k1⟩ | ⟨k, k1, k2⟩ | ⟨k, k1⟩ <;> rw [h, k] <;> first | rfl | (exfalso; rw [e] at *; grind)
theorem mul_nn {a b : Rat} (h1 : 0 ≤ a) (h2 : 0 ≤ b) : 0 ≤ a * b := Rat.mul_nonneg h1 h2
theorem mul_ps {a b : Rat} (h1 : 0 < a) (h2 : 0 < b) : 0 < a * b := Rat.mul_pos h1 h2
theorem nn_of_mul {a b : Rat} (h1 : 0 < a) (h2 : 0 ≤ a * b) : 0 ≤ b := by
  rcases Classical.em (0 ≤ b) with h | h
  · exact h
  · have hb : b < 0 := Rat.not_le.1 h
    have := mul_ps h1 (show 0 < -b by grind)
    grind
/-- The cross product is transitive in the upper half-plane. -/
theorem cross_up {x1 y1 x2 y2 x3 y3 : Rat} (h1 : 0 < y1 ∨ (y1 = 0 ∧ 0 < x1)) (h2 : 0 < y2 ∨ (y2 = 0 ∧ 0 < x2)) (h3 : 0 < y3 ∨ (y3 = 0 ∧ 0 < x3)) (a : 0 ≤ x1 * y2 - y1 * x2) (b : 0 ≤ x2 * y3 - y2 * x3) : 0 ≤ x1 * y3 - y1 * x3 := by
  have n1 : 0 ≤ y1 := by grind
  have n3 : 0 ≤ y3 := by grind
  rcases h2 with h2 | ⟨h2, h2'⟩
  · refine nn_of_mul h2 ?_
    have e : y2 * (x1 * y3 - y1 * x3) = y3 * (x1 * y2 - y1 * x2) + y1 * (x2 * y3 - y2 * x3) := by grind
    rw [e]
    have := mul_nn n3 a
    have := mul_nn n1 b
    grind
  · subst h2
    rcases h1 with h1 | ⟨h1, h1'⟩
    · have := mul_ps h1 h2'
      grind
    · subst h1
      have := mul_nn (show 0 ≤ x1 by grind) n3
      grind
theorem angle_le {x1 y1 x2 y2 : Rat} : angleR x1 y1 x2 y2 ≤ 0 ↔ halfR x1 y1 < halfR x2 y2 ∨ (halfR x1 y1 = halfR x2 y2 ∧ 0 ≤ x1 * y2 - y1 * x2) := by
  rcases angle_cases x1 y1 x2 y2 with ⟨h, h1⟩ | ⟨h, h1, h2⟩ | ⟨h, h1⟩ <;> rw [h]
  · constructor
    · intro _; rcases h1 with h1 | h1
      · exact .inl h1
      · exact .inr ⟨h1.1, by grind⟩
    · intro _; decide
  · constructor
    · intro _; exact .inr ⟨h1, by grind⟩
    · intro _; decide
  · constructor
    · intro h; exact absurd h (by decide)
    · intro k; exfalso
      rcases h1 with h1 | h1 <;> rcases k with k | k
      · omega
      · omega
      · omega
      · grind
theorem angle_trans {x1 y1 x2 y2 x3 y3 : Rat} (a : angleR x1 y1 x2 y2 ≤ 0) (b : angleR x2 y2 x3 y3 ≤ 0) : angleR x1 y1 x3 y3 ≤ 0 := by
  rw [angle_le] at *
  rcases a with a | ⟨a, a'⟩
  · left; rcases b with b | ⟨b, _⟩ <;> omega
  · rcases b with b | ⟨b, b'⟩
    · left; omega
    · right
      refine ⟨by omega, ?_⟩
      rcases half_cases x1 y1 with ⟨h1, k1⟩ | ⟨h1, k1⟩ | ⟨h1, k1⟩ <;> rcases half_cases x2 y2 with ⟨h2, k2⟩ | ⟨h2, k2⟩ | ⟨h2, k2⟩ <;> rcases half_cases x3 y3 with ⟨h3, k3⟩ | ⟨h3, k3⟩ | ⟨h3, k3⟩ <;> first | omega | skip
      · rw [k1.1, k1.2]; grind
      · exact cross_up k1 k2 k3 a' b'
      · have := @cross_up (-x1) (-y1) (-x2) (-y2) (-x3) (-y3) (by grind) (by grind) (by grind) (by grind) (by grind)
        grind
theorem half_mul {x y c : Rat} (hc : 0 < c) : halfR (x * c) (y * c) = halfR x y := by
  have s : ∀ z : Rat, isgn (z * c).num = isgn z.num := fun z => by
    rcases isgn_cases z.num with ⟨_, h⟩ | ⟨_, h⟩ | ⟨_, h⟩ <;> rw [h]
    · rw [isg_neg] at *
      have := mul_ps (show 0 < -z by grind) hc
      grind
    · rw [isg_zero] at *; rw [h]; grind
    · rw [isg_pos] at *; exact mul_ps h hc
  unfold halfR
  rw [s, s]
theorem angle_scale {x y c : Rat} (hc : 0 < c) : angleR x y (x * c) (y * c) = 0 := by
  rcases angle_cases x y (x * c) (y * c) with ⟨h, h1⟩ | ⟨h, h1, h2⟩ | ⟨h, h1⟩
  · exfalso; rw [half_mul hc] at h1; grind
  · exact h
  · exfalso; rw [half_mul hc] at h1; grind
theorem angle_up {x1 y1 x2 y2 : Rat} (h1 : 0 < y1) (h2 : 0 < y2) : angleR x1 y1 x2 y2 = -(isgn (x1 * y2 - y1 * x2).num) := by
  have a : halfR x1 y1 = 1 := by rcases half_cases x1 y1 with ⟨h, k⟩ | ⟨h, k⟩ | ⟨h, k⟩ <;> first | exact h | (exfalso; grind)
  have b : halfR x2 y2 = 1 := by rcases half_cases x2 y2 with ⟨h, k⟩ | ⟨h, k⟩ | ⟨h, k⟩ <;> first | exact h | (exfalso; grind)
  unfold angleR
  rw [a, b, if_neg (by decide), if_neg (by decide)]
theorem half_zero : halfR 0 0 = 0 := by decide +kernel
theorem angle_zero {x y : Rat} (h : ¬ (x = 0 ∧ y = 0)) : angleR 0 0 x y = -1 := by
  unfold angleR
  rw [half_zero, if_pos]
  rcases half_cases x y with ⟨_, k⟩ | ⟨k, _⟩ | ⟨k, _⟩
  · exact absurd k h
  · omega
  · omega
theorem angle_zz : angleR 0 0 0 0 = 0 := by decide +kernel
/-- Directions at the angle 0 are positive multiples. -/
theorem angle_mult {x1 y1 x2 y2 : Rat} (h : ¬ (x1 = 0 ∧ y1 = 0)) (a : angleR x1 y1 x2 y2 = 0) : ∃ t : Rat, 0 < t ∧ x2 = x1 * t ∧ y2 = y1 * t := by
  rcases angle_cases x1 y1 x2 y2 with ⟨k, _⟩ | ⟨_, k1, k2⟩ | ⟨k, _⟩
  · rw [a] at k; exact absurd k (by decide)
  · have key : ∀ {a b c d : Rat}, a ≠ 0 → (0 < a ↔ 0 < b) → b ≠ 0 → a * d = b * c → ∃ t : Rat, 0 < t ∧ b = a * t ∧ d = c * t := by
      intro a b c d ha hab hb he
      refine ⟨b * a⁻¹, ?_, ?_, ?_⟩
      · rcases Classical.em (0 < a) with h | h
        · exact mul_ps (hab.1 h) (Rat.inv_pos.2 h)
        · have h1 : 0 < -a := by grind
          have h2 : 0 < -b := by grind
          have := mul_ps h2 (Rat.inv_pos.2 h1)
          grind
      · have := Rat.mul_inv_cancel a ha; grind
      · have := Rat.mul_inv_cancel a ha
        grind
    rcases half_cases x1 y1 with ⟨_, k⟩ | ⟨h1, k⟩ | ⟨h1, k⟩
    · exact absurd k h
    all_goals rcases half_cases x2 y2 with ⟨h2, l⟩ | ⟨h2, l⟩ | ⟨h2, l⟩ <;> first | omega | skip
    · rcases Classical.em (y1 = 0) with e | e
      · have hx1 : 0 < x1 := by grind
        subst e
        have e2 : y2 = 0 := by
          have : x1 * y2 = 0 := by grind
          rcases Rat.mul_eq_zero.1 this with h | h
          · grind
          · exact h
        obtain ⟨t, h1, h2, h3⟩ := key (a := x1) (b := x2) (c := 0) (d := y2) (by grind) (by grind) (by grind) (by grind)
        exact ⟨t, h1, h2, h3⟩
      · have e2 : y2 ≠ 0 := by
          intro e2
          subst e2
          have : y1 * x2 = 0 := by grind
          rcases Rat.mul_eq_zero.1 this with h | h <;> grind
        obtain ⟨t, h1, h2, h3⟩ := key (a := y1) (b := y2) (c := x1) (d := x2) e (by grind) e2 (by grind)
        exact ⟨t, h1, h3, h2⟩
    · rcases Classical.em (y1 = 0) with e | e
      · have hx1 : x1 < 0 := by grind
        subst e
        have e2 : y2 = 0 := by
          have : x1 * y2 = 0 := by grind
          rcases Rat.mul_eq_zero.1 this with h | h
          · grind
          · exact h
        obtain ⟨t, h1, h2, h3⟩ := key (a := x1) (b := x2) (c := 0) (d := y2) (by grind) (by grind) (by grind) (by grind)
        exact ⟨t, h1, h2, h3⟩
      · have e2 : y2 ≠ 0 := by
          intro e2
          subst e2
          have : y1 * x2 = 0 := by grind
          rcases Rat.mul_eq_zero.1 this with h | h <;> grind
        obtain ⟨t, h1, h2, h3⟩ := key (a := y1) (b := y2) (c := x1) (d := x2) e (by grind) e2 (by grind)
        exact ⟨t, h1, h3, h2⟩
  · rw [a] at k; exact absurd k (by decide)
/-- The primitive vector of a direction. -/
def primX (x y : Rat) : Int := (x.num * (y.den : Int)) / ((Nat.gcd (x.num.natAbs * y.den) (y.num.natAbs * x.den) : Nat) : Int)
theorem primX_mul (x y : Rat) : ((primX x y : Int) : Rat) = x * (rgcd x y)⁻¹ := by
  have hd : x.den * y.den ≠ 0 := Nat.mul_ne_zero x.den_nz y.den_nz
  by_cases h : Nat.gcd (x.num.natAbs * y.den) (y.num.natAbs * x.den) = 0
  · have hx : x = 0 := by
      have := Nat.eq_zero_of_gcd_eq_zero_left h
      rcases Nat.mul_eq_zero.1 this with h' | h'
      · exact Rat.num_eq_zero.1 (by omega)
      · exact absurd h' y.den_nz
    subst hx
    unfold primX
    rw [h]
    simp
  · unfold primX rgcd
    generalize hG : Nat.gcd (x.num.natAbs * y.den) (y.num.natAbs * x.den) = G at *
    have hdv : (G : Int) ∣ x.num * (y.den : Int) := by
      rw [← Int.natAbs_dvd_natAbs, Int.natAbs_mul]
      simp only [Int.natAbs_natCast]
      rw [← hG]; exact Nat.gcd_dvd_left _ _
    obtain ⟨c, hc⟩ := hdv
    have hG0 : (G : Int) ≠ 0 := by omega
    rw [hc, Int.mul_ediv_cancel_left _ hG0]
    have hGr : ((G : Int) : Rat) ≠ 0 := by exact_mod_cast hG0
    have hxd : ((x.den : Int) : Rat) ≠ 0 := by have := x.den_nz; exact_mod_cast this
    have hyd : ((y.den : Int) : Rat) ≠ 0 := by have := y.den_nz; exact_mod_cast this
    have e1 : mkRat (G : Int) (x.den * y.den) = ((G : Int) : Rat) / (((x.den : Int) : Rat) * ((y.den : Int) : Rat)) := by
      rw [Rat.mkRat_eq_div]; push_cast; rfl
    have e2 : x = (x.num : Rat) / ((x.den : Int) : Rat) := by
      have := Rat.mkRat_self x
      rw [Rat.mkRat_eq_div] at this
      exact this.symm
    have e3 : (x.num : Rat) * ((y.den : Int) : Rat) = ((G : Int) : Rat) * (c : Rat) := by exact_mod_cast congrArg (fun z : Int => (z : Rat)) hc
    rw [e1]
    refine Eq.trans ?_ (congrArg (fun z : Rat => z * (((G : Int) : Rat) / (((x.den : Int) : Rat) * ((y.den : Int) : Rat)))⁻¹) e2.symm)
    show (c : Rat) = _ * _
    rw [Rat.div_def, Rat.div_def]
    generalize (x.num : Rat) = a at *
    generalize ((x.den : Int) : Rat) = b at *
    generalize ((y.den : Int) : Rat) = d at *
    generalize ((G : Int) : Rat) = g at *
    have i1 := Rat.mul_inv_cancel b hxd
    have i2 := Rat.mul_inv_cancel g hGr
    have i3 : (g * (b * d)⁻¹)⁻¹ = g⁻¹ * (b * d) := by rw [Rat.inv_mul_rev, Rat.inv_inv]; grind
    rw [i3]
    grind
theorem rgcd_comm (x y : Rat) : rgcd y x = rgcd x y := by
  unfold rgcd; rw [Nat.gcd_comm, Nat.mul_comm y.den x.den]
theorem prim_gcd (x y : Rat) (h : ¬ (x = 0 ∧ y = 0)) : Nat.gcd (primX x y).natAbs (primX y x).natAbs = 1 := by
  unfold primX
  rw [Nat.gcd_comm (y.num.natAbs * x.den)]
  rw [int_div_abs, int_div_abs]
  · simp only [Int.natAbs_mul, Int.natAbs_natCast]
    have h0 : 0 < Nat.gcd (x.num.natAbs * y.den) (y.num.natAbs * x.den) := by
      rcases Nat.eq_zero_or_pos (Nat.gcd (x.num.natAbs * y.den) (y.num.natAbs * x.den)) with h0 | h0
      · exfalso
        refine h ⟨?_, ?_⟩
        · have := Nat.eq_zero_of_gcd_eq_zero_left h0
          rcases Nat.mul_eq_zero.1 this with h' | h'
          · exact Rat.num_eq_zero.1 (by omega)
          · exact absurd h' y.den_nz
        · have := Nat.eq_zero_of_gcd_eq_zero_right h0
          rcases Nat.mul_eq_zero.1 this with h' | h'
          · exact Rat.num_eq_zero.1 (by omega)
          · exact absurd h' x.den_nz
      · exact h0
    rw [Nat.gcd_div (Nat.gcd_dvd_left _ _) (Nat.gcd_dvd_right _ _), Nat.div_self h0]
  · simp only [Int.natAbs_mul, Int.natAbs_natCast]; exact Nat.gcd_dvd_right _ _
  · simp only [Int.natAbs_mul, Int.natAbs_natCast]; exact Nat.gcd_dvd_left _ _
theorem rgcd_pos (x y : Rat) (h : ¬ (x = 0 ∧ y = 0)) : 0 < rgcd x y := by
  unfold rgcd
  have h0 : 0 < Nat.gcd (x.num.natAbs * y.den) (y.num.natAbs * x.den) := by
    rcases Nat.eq_zero_or_pos (Nat.gcd (x.num.natAbs * y.den) (y.num.natAbs * x.den)) with h0 | h0
    · exfalso
      refine h ⟨?_, ?_⟩
      · have := Nat.eq_zero_of_gcd_eq_zero_left h0
        rcases Nat.mul_eq_zero.1 this with h' | h'
        · exact Rat.num_eq_zero.1 (by omega)
        · exact absurd h' y.den_nz
      · have := Nat.eq_zero_of_gcd_eq_zero_right h0
        rcases Nat.mul_eq_zero.1 this with h' | h'
        · exact Rat.num_eq_zero.1 (by omega)
        · exact absurd h' x.den_nz
    · exact h0
  generalize Nat.gcd (x.num.natAbs * y.den) (y.num.natAbs * x.den) = G at *
  rw [Rat.mkRat_eq_div, Rat.div_def]
  refine mul_ps (by exact_mod_cast h0) (Rat.inv_pos.2 ?_)
  have := Nat.mul_pos (den_pos' x) (den_pos' y)
  exact_mod_cast this
/-- Coprime integer vectors that are positive multiples of each other are equal. -/
theorem coprime_uniq {a b c d : Int} (h1 : Nat.gcd a.natAbs b.natAbs = 1) (h2 : Nat.gcd c.natAbs d.natAbs = 1) {t : Rat} (ht : 0 < t) (e1 : (a : Rat) = c * t) (e2 : (b : Rat) = d * t) : a = c ∧ b = d := by
  have hd : ((t.den : Int) : Rat) ≠ 0 := by have := t.den_nz; exact_mod_cast this
  have et : t * ((t.den : Int) : Rat) = (t.num : Rat) := by
    have := Rat.mkRat_self t
    rw [Rat.mkRat_eq_div, Rat.div_def] at this
    have i := Rat.mul_inv_cancel _ hd
    have e : ((t.den : Int) : Rat) = ((t.den : Nat) : Rat) := by push_cast; rfl
    rw [e] at *
    grind
  have f1 : a * (t.den : Int) = c * t.num := by
    have : (a : Rat) * ((t.den : Int) : Rat) = c * (t.num : Rat) := by rw [e1, ← et]; grind
    exact_mod_cast this
  have f2 : b * (t.den : Int) = d * t.num := by
    have : (b : Rat) * ((t.den : Int) : Rat) = d * (t.num : Rat) := by rw [e2, ← et]; grind
    exact_mod_cast this
  have hn : 0 < t.num := by
    have := (rsgn_pos (x := t)).2 ht
    rw [rsgn_isgn] at this
    rcases isgn_cases t.num with ⟨_, h⟩ | ⟨_, h⟩ | ⟨h, _⟩ <;> omega
  have g1 : t.den = t.num.natAbs := by
    have k1 : Nat.gcd (a * (t.den : Int)).natAbs (b * (t.den : Int)).natAbs = t.den := by
      rw [Int.natAbs_mul, Int.natAbs_mul, Int.natAbs_natCast, Nat.gcd_mul_right, h1, Nat.one_mul]
    have k2 : Nat.gcd (c * t.num).natAbs (d * t.num).natAbs = t.num.natAbs := by
      rw [Int.natAbs_mul, Int.natAbs_mul, Nat.gcd_mul_right, h2, Nat.one_mul]
    rw [← k1, ← k2, f1, f2]
  have g2 : (t.den : Int) = t.num := by omega
  rw [g2] at f1 f2
  exact ⟨Int.eq_of_mul_eq_mul_right (by omega) f1, Int.eq_of_mul_eq_mul_right (by omega) f2⟩
/-- The primitive vectors are equal exactly at the angle 0. -/
theorem prim_iff {x1 y1 x2 y2 : Rat} (h1 : ¬ (x1 = 0 ∧ y1 = 0)) (h2 : ¬ (x2 = 0 ∧ y2 = 0)) : angleR x1 y1 x2 y2 = 0 ↔ x1 * (rgcd x1 y1)⁻¹ = x2 * (rgcd x2 y2)⁻¹ ∧ y1 * (rgcd x1 y1)⁻¹ = y2 * (rgcd x2 y2)⁻¹ := by
  have p1 := Rat.inv_pos.2 (rgcd_pos x1 y1 h1)
  have p2 := Rat.inv_pos.2 (rgcd_pos x2 y2 h2)
  constructor
  · intro h
    obtain ⟨t, ht, ex, ey⟩ := angle_mult h1 h
    have q1 := primX_mul x1 y1
    have q2 := primX_mul y1 x1
    have q3 := primX_mul x2 y2
    have q4 := primX_mul y2 x2
    rw [rgcd_comm] at q2 q4
    have := coprime_uniq (prim_gcd x2 y2 h2) (prim_gcd x1 y1 h1) (t := t * rgcd x1 y1 * (rgcd x2 y2)⁻¹) (mul_ps (mul_ps ht (rgcd_pos x1 y1 h1)) p2)
      (by rw [q3, q1, ex]; have := Rat.mul_inv_cancel _ (Rat.ne_of_gt (rgcd_pos x1 y1 h1)); grind)
      (by rw [q4, q2, ey]; have := Rat.mul_inv_cancel _ (Rat.ne_of_gt (rgcd_pos x1 y1 h1)); grind)
    rw [← q1, ← q2, ← q3, ← q4, this.1, this.2]
    exact ⟨rfl, rfl⟩
  · rintro ⟨e1, e2⟩
    have i2 := Rat.mul_inv_cancel _ (Rat.ne_of_gt (rgcd_pos x2 y2 h2))
    have ex : x2 = x1 * ((rgcd x1 y1)⁻¹ * rgcd x2 y2) := by
      rw [← Rat.mul_assoc, e1]; grind
    have ey : y2 = y1 * ((rgcd x1 y1)⁻¹ * rgcd x2 y2) := by
      rw [← Rat.mul_assoc, e2]; grind
    have hc : 0 < (rgcd x1 y1)⁻¹ * rgcd x2 y2 := mul_ps p1 (rgcd_pos x2 y2 h2)
    generalize (rgcd x1 y1)⁻¹ * rgcd x2 y2 = c at *
    subst ex ey
    exact angle_scale hc
end Go.Proofs.YtdlnoeegboapkaaGreatDoor
