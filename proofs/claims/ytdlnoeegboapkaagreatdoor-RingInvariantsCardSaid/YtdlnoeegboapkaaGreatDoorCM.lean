/-
  Texts of this claim, joined: NumQ, Ref4, Ang, Ord, Tv.
-/
import Derived.Test.YtdlnoeegboapkaaGreatDoorCK
import Derived.Test.YtdlnoeegboapkaaGreatDoorCL
import Derived.Test.YtdlnoeegboapkaaGreatDoorCH
import Derived.Deep.CutRange
/- The reference's arithmetic on rational numbers, and its conversions. printed by a small program (mknumq.py). -/
namespace Go.Proofs.YtdlnoeegboapkaaGreatDoor
open Go.RowKit
set_option maxRecDepth 100000
set_option maxHeartbeats 40000000
set_option synthInstance.maxSize 100000
set_option synthInstance.maxHeartbeats 1000000

theorem CQ.len {w : World} {g : Bool} {a aa : Option Addr} {l c ll cc : Nat} {x : Rat} {k : Nat} (h : CQ w (.agg #[.bool g, .slice a l c, .slice aa ll cc]) x k) : (x.den = 1 → ll = 0) ∧ (x.den ≠ 1 → 0 < ll) := by
  have hl := h.den.out.len
  refine ⟨fun e => ?_, fun e => ?_⟩
  · rw [if_pos e] at hl; exact hl
  · rw [if_neg e] at hl; rw [hl]; exact nf_len_pos x.den_nz
theorem add_parts (x y : Rat) : mkRat (x.num * sgn false y.den + y.num * sgn false x.den) (x.den * y.den) = x + y := by rw [rat_add_mk]; rfl
theorem mul_parts (x y : Rat) : mkRat (x.num * y.num) (x.den * y.den) = x * y := (rat_mul_mk x y).symm
theorem numSC {w : World} {g1 : Bool} {a1 aa1 : Option Addr} {l1 c1 ll1 cc1 k1 : Nat} {x : Rat} [h1 : CQ w (.agg #[.bool g1, .slice a1 l1 c1, .slice aa1 ll1 cc1]) x k1] :
    Calls Tryz.prog 54 #[.agg #[.bool g1, .slice a1 l1 c1, .slice aa1 ll1 cc1]] w (fun e w' => e = .returned (.int .i64 (isgn x.num)) ∧ Below w.heap.size w w') := by
  have i1 := h1.num
  go_enter Tryz.func54, Tryz.ntmps54
  go_wp2_with (first
    | (go_at_call 116; (with_reducible refine Calls.cE (numSignC) ?_); intros))
  go_ret
  exact E.fin rfl

theorem numOppC {w : World} {g1 : Bool} {a1 aa1 : Option Addr} {l1 c1 ll1 cc1 k1 : Nat} {x : Rat} [h1 : CQ w (.agg #[.bool g1, .slice a1 l1 c1, .slice aa1 ll1 cc1]) x k1] :
    Calls Tryz.prog 203 #[.agg #[.bool g1, .slice a1 l1 c1, .slice aa1 ll1 cc1]] w (CQRet w (-x) k1) := by
  have i1 := h1.num
  have i2 := h1.den
  go_enter Tryz.func203, Tryz.ntmps203
  go_wp2_with fail
  refine rgn [w.heap.size + 1] [] fun hHeld => ?_
  refine tk 0 hHeld ?_
  refine tk 1 hHeld ?_
  refine tk 3 hHeld ?_
  refine tk 4 hHeld ?_
  refine st 2 fun K hK => ?_
  go_simp
  (with_reducible refine Calls.cZ (numMinusC) ?_); intros
  refine hd hK ?_
  clear hHeld hK K
  intro hHeld
  refine tk 5 hHeld ?_
  refine st 6 fun K hK => ?_
  go_simp
  refine hd hK ?_
  clear hHeld hK K
  intro hHeld
  refine dn ?_
  clear hHeld
  go_wp2
  refine ret_bx rfl Tryz.underlying45 rfl (by kernel_rfl) rfl rfl rfl ?_
  exact CQRet.fin (hx := CQ.mk' (k := k1) (Rat.neg_num x).symm (by rw [Rat.neg_den]) (Nat.le_refl _) (Nat.le_refl _)) rfl (Nat.le_refl _)

theorem numPlusC {w : World} {g1 g2 : Bool} {a1 aa1 a2 aa2 : Option Addr} {l1 c1 ll1 cc1 l2 c2 ll2 cc2 k1 k2 : Nat} {x y : Rat} [h1 : CQ w (.agg #[.bool g1, .slice a1 l1 c1, .slice aa1 ll1 cc1]) x k1] [h2 : CQ w (.agg #[.bool g2, .slice a2 l2 c2, .slice aa2 ll2 cc2]) y k2] (b : k1 ≤ 40000 ∧ k2 ≤ 40000) :
    Calls Tryz.prog 55 #[.agg #[.bool g1, .slice a1 l1 c1, .slice aa1 ll1 cc1], .agg #[.bool g2, .slice a2 l2 c2, .slice aa2 ll2 cc2]] w (CQRet w (x + y) (k1 + k2 + 4)) := by
  have i1 := h1.num
  have i2 := h2.num
  obtain ⟨p1, p2⟩ := h1.len
  obtain ⟨p3, p4⟩ := h2.len
  have hm : x.den * y.den ≠ 0 := Nat.mul_ne_zero x.den_nz y.den_nz
  have HE := Lib.hid (add_parts x y)
  by_cases hx : x.den = 1
  · have l1 := p1 hx
    clear p1 p2
    by_cases hy : y.den = 1
    · have l2 := p3 hy
      clear p3 p4
      have HF := Lib.hid (rat_add1 (x := x) (y := y) hx hy)
      subst l1 l2
      clear hx hy
      go_enter Tryz.func55, Tryz.ntmps55
      go_wp2_with (first
    | (go_at_call 117; (with_reducible refine Calls.cZ (numAddC (by omega)) ?_); intros))
      refine ret_bx rfl Tryz.underlying45 rfl (by kernel_rfl) rfl rfl rfl ?_
      exact CQRet.fin (by exact HF.out.symm) (by omega)
    · have l2 := p4 hy
      clear p3 p4
      subst l1
      clear hx hy
      go_enter Tryz.func55, Tryz.ntmps55
      go_wp2_with fail
      refine rgn [w.heap.size + 1 + 1] [] fun hHeld => ?_
      refine tk 0 hHeld ?_
      refine tk 1 hHeld ?_
      refine tk 2 hHeld ?_
      refine tk 6 hHeld ?_
      refine tk 7 hHeld ?_
      refine tk 8 hHeld ?_
      refine tk 13 hHeld ?_
      refine tk 15 hHeld ?_
      refine st 3 fun K hK => ?_
      go_simp
      (with_reducible refine Calls.cN (numDenC) ?_); intros
      refine hd hK ?_
      clear hHeld hK K
      intro hHeld
      refine st 4 fun K hK => ?_
      go_simp
      (with_reducible refine Calls.cSg (makeC) ?_); intros
      refine hd hK ?_
      clear hHeld hK K
      intro hHeld
      refine st 5 fun K hK => ?_
      go_simp
      (with_reducible refine Calls.cZ (numMulC (by omega)) ?_); intros
      refine hd hK ?_
      clear hHeld hK K
      intro hHeld
      refine st 9 fun K hK => ?_
      go_simp
      (with_reducible refine Calls.cN (numDenC) ?_); intros
      refine hd hK ?_
      clear hHeld hK K
      intro hHeld
      refine st 10 fun K hK => ?_
      go_simp
      (with_reducible refine Calls.cSg (makeC) ?_); intros
      refine hd hK ?_
      clear hHeld hK K
      intro hHeld
      refine st 11 fun K hK => ?_
      go_simp
      (with_reducible refine Calls.cZ (numMulC (by omega)) ?_); intros
      refine hd hK ?_
      clear hHeld hK K
      intro hHeld
      refine st 12 fun K hK => ?_
      go_simp
      (with_reducible refine Calls.cZ (numAddC (by omega)) ?_); intros
      refine hd hK ?_
      clear hHeld hK K
      intro hHeld
      refine st 14 fun K hK => ?_
      go_simp
      (with_reducible refine Calls.cN (numDenC) ?_); intros
      refine hd hK ?_
      clear hHeld hK K
      intro hHeld
      refine st 16 fun K hK => ?_
      go_simp
      (with_reducible refine Calls.cN (numDenC) ?_); intros
      refine hd hK ?_
      clear hHeld hK K
      intro hHeld
      refine st 17 fun K hK => ?_
      go_simp
      (with_reducible refine Calls.cN (numProductC (by omega)) ?_); intros
      refine hd hK ?_
      clear hHeld hK K
      intro hHeld
      refine st 18 fun K hK => ?_
      go_simp
      (with_reducible refine Calls.cQ (numFracC (by omega) hm) ?_); intros
      refine hd hK ?_
      clear hHeld hK K
      intro hHeld
      refine st 19 fun K hK => ?_
      go_simp
      refine hd hK ?_
      clear hHeld hK K
      intro hHeld
      refine dn ?_
      clear hHeld
      go_wp2
      refine ret_bx rfl Tryz.underlying45 rfl (by kernel_rfl) rfl rfl rfl ?_
      exact CQRet.fin HE.out (by omega)
  · have l1 := p2 hx
    clear p1 p2 p3 p4 hx
    go_enter Tryz.func55, Tryz.ntmps55
    go_wp2_with fail
    refine rgn [w.heap.size + 1 + 1] [] fun hHeld => ?_
    refine tk 0 hHeld ?_
    refine tk 1 hHeld ?_
    refine tk 2 hHeld ?_
    refine tk 6 hHeld ?_
    refine tk 7 hHeld ?_
    refine tk 8 hHeld ?_
    refine tk 13 hHeld ?_
    refine tk 15 hHeld ?_
    refine st 3 fun K hK => ?_
    go_simp
    (with_reducible refine Calls.cN (numDenC) ?_); intros
    refine hd hK ?_
    clear hHeld hK K
    intro hHeld
    refine st 4 fun K hK => ?_
    go_simp
    (with_reducible refine Calls.cSg (makeC) ?_); intros
    refine hd hK ?_
    clear hHeld hK K
    intro hHeld
    refine st 5 fun K hK => ?_
    go_simp
    (with_reducible refine Calls.cZ (numMulC (by omega)) ?_); intros
    refine hd hK ?_
    clear hHeld hK K
    intro hHeld
    refine st 9 fun K hK => ?_
    go_simp
    (with_reducible refine Calls.cN (numDenC) ?_); intros
    refine hd hK ?_
    clear hHeld hK K
    intro hHeld
    refine st 10 fun K hK => ?_
    go_simp
    (with_reducible refine Calls.cSg (makeC) ?_); intros
    refine hd hK ?_
    clear hHeld hK K
    intro hHeld
    refine st 11 fun K hK => ?_
    go_simp
    (with_reducible refine Calls.cZ (numMulC (by omega)) ?_); intros
    refine hd hK ?_
    clear hHeld hK K
    intro hHeld
    refine st 12 fun K hK => ?_
    go_simp
    (with_reducible refine Calls.cZ (numAddC (by omega)) ?_); intros
    refine hd hK ?_
    clear hHeld hK K
    intro hHeld
    refine st 14 fun K hK => ?_
    go_simp
    (with_reducible refine Calls.cN (numDenC) ?_); intros
    refine hd hK ?_
    clear hHeld hK K
    intro hHeld
    refine st 16 fun K hK => ?_
    go_simp
    (with_reducible refine Calls.cN (numDenC) ?_); intros
    refine hd hK ?_
    clear hHeld hK K
    intro hHeld
    refine st 17 fun K hK => ?_
    go_simp
    (with_reducible refine Calls.cN (numProductC (by omega)) ?_); intros
    refine hd hK ?_
    clear hHeld hK K
    intro hHeld
    refine st 18 fun K hK => ?_
    go_simp
    (with_reducible refine Calls.cQ (numFracC (by omega) hm) ?_); intros
    refine hd hK ?_
    clear hHeld hK K
    intro hHeld
    refine st 19 fun K hK => ?_
    go_simp
    refine hd hK ?_
    clear hHeld hK K
    intro hHeld
    refine dn ?_
    clear hHeld
    go_wp2
    refine ret_bx rfl Tryz.underlying45 rfl (by kernel_rfl) rfl rfl rfl ?_
    exact CQRet.fin HE.out (by omega)

theorem numTimesC {w : World} {g1 g2 : Bool} {a1 aa1 a2 aa2 : Option Addr} {l1 c1 ll1 cc1 l2 c2 ll2 cc2 k1 k2 : Nat} {x y : Rat} [h1 : CQ w (.agg #[.bool g1, .slice a1 l1 c1, .slice aa1 ll1 cc1]) x k1] [h2 : CQ w (.agg #[.bool g2, .slice a2 l2 c2, .slice aa2 ll2 cc2]) y k2] (b : k1 ≤ 40000 ∧ k2 ≤ 40000) :
    Calls Tryz.prog 147 #[.agg #[.bool g1, .slice a1 l1 c1, .slice aa1 ll1 cc1], .agg #[.bool g2, .slice a2 l2 c2, .slice aa2 ll2 cc2]] w (CQRet w (x * y) (k1 + k2 + 4)) := by
  have i1 := h1.num
  have i2 := h2.num
  obtain ⟨p1, p2⟩ := h1.len
  obtain ⟨p3, p4⟩ := h2.len
  have hm : x.den * y.den ≠ 0 := Nat.mul_ne_zero x.den_nz y.den_nz
  have HE := Lib.hid (mul_parts x y)
  by_cases hx : x.den = 1
  · have l1 := p1 hx
    clear p1 p2
    by_cases hy : y.den = 1
    · have l2 := p3 hy
      clear p3 p4
      have HF := Lib.hid (rat_mul1 (x := x) (y := y) hx hy)
      subst l1 l2
      clear hx hy
      go_enter Tryz.func147, Tryz.ntmps147
      go_wp2_with (first
    | (go_at_call 118; (with_reducible refine Calls.cZ (numMulC (by omega)) ?_); intros))
      refine ret_bx rfl Tryz.underlying45 rfl (by kernel_rfl) rfl rfl rfl ?_
      exact CQRet.fin (by exact HF.out.symm) (by omega)
    · have l2 := p4 hy
      clear p3 p4
      subst l1
      clear hx hy
      go_enter Tryz.func147, Tryz.ntmps147
      go_wp2_with fail
      refine rgn [w.heap.size + 1 + 1] [] fun hHeld => ?_
      refine tk 0 hHeld ?_
      refine tk 1 hHeld ?_
      refine tk 2 hHeld ?_
      refine tk 3 hHeld ?_
      refine tk 5 hHeld ?_
      refine tk 7 hHeld ?_
      refine st 4 fun K hK => ?_
      go_simp
      (with_reducible refine Calls.cZ (numMulC (by omega)) ?_); intros
      refine hd hK ?_
      clear hHeld hK K
      intro hHeld
      refine st 6 fun K hK => ?_
      go_simp
      (with_reducible refine Calls.cN (numDenC) ?_); intros
      refine hd hK ?_
      clear hHeld hK K
      intro hHeld
      refine st 8 fun K hK => ?_
      go_simp
      (with_reducible refine Calls.cN (numDenC) ?_); intros
      refine hd hK ?_
      clear hHeld hK K
      intro hHeld
      refine st 9 fun K hK => ?_
      go_simp
      (with_reducible refine Calls.cN (numProductC (by omega)) ?_); intros
      refine hd hK ?_
      clear hHeld hK K
      intro hHeld
      refine st 10 fun K hK => ?_
      go_simp
      (with_reducible refine Calls.cQ (numFracC (by omega) hm) ?_); intros
      refine hd hK ?_
      clear hHeld hK K
      intro hHeld
      refine st 11 fun K hK => ?_
      go_simp
      refine hd hK ?_
      clear hHeld hK K
      intro hHeld
      refine dn ?_
      clear hHeld
      go_wp2
      refine ret_bx rfl Tryz.underlying45 rfl (by kernel_rfl) rfl rfl rfl ?_
      exact CQRet.fin HE.out (by omega)
  · have l1 := p2 hx
    clear p1 p2 p3 p4 hx
    go_enter Tryz.func147, Tryz.ntmps147
    go_wp2_with fail
    refine rgn [w.heap.size + 1 + 1] [] fun hHeld => ?_
    refine tk 0 hHeld ?_
    refine tk 1 hHeld ?_
    refine tk 2 hHeld ?_
    refine tk 3 hHeld ?_
    refine tk 5 hHeld ?_
    refine tk 7 hHeld ?_
    refine st 4 fun K hK => ?_
    go_simp
    (with_reducible refine Calls.cZ (numMulC (by omega)) ?_); intros
    refine hd hK ?_
    clear hHeld hK K
    intro hHeld
    refine st 6 fun K hK => ?_
    go_simp
    (with_reducible refine Calls.cN (numDenC) ?_); intros
    refine hd hK ?_
    clear hHeld hK K
    intro hHeld
    refine st 8 fun K hK => ?_
    go_simp
    (with_reducible refine Calls.cN (numDenC) ?_); intros
    refine hd hK ?_
    clear hHeld hK K
    intro hHeld
    refine st 9 fun K hK => ?_
    go_simp
    (with_reducible refine Calls.cN (numProductC (by omega)) ?_); intros
    refine hd hK ?_
    clear hHeld hK K
    intro hHeld
    refine st 10 fun K hK => ?_
    go_simp
    (with_reducible refine Calls.cQ (numFracC (by omega) hm) ?_); intros
    refine hd hK ?_
    clear hHeld hK K
    intro hHeld
    refine st 11 fun K hK => ?_
    go_simp
    refine hd hK ?_
    clear hHeld hK K
    intro hHeld
    refine dn ?_
    clear hHeld
    go_wp2
    refine ret_bx rfl Tryz.underlying45 rfl (by kernel_rfl) rfl rfl rfl ?_
    exact CQRet.fin HE.out (by omega)

theorem numSubC {w : World} {g1 g2 : Bool} {a1 aa1 a2 aa2 : Option Addr} {l1 c1 ll1 cc1 l2 c2 ll2 cc2 k1 k2 : Nat} {x y : Rat} [h1 : CQ w (.agg #[.bool g1, .slice a1 l1 c1, .slice aa1 ll1 cc1]) x k1] [h2 : CQ w (.agg #[.bool g2, .slice a2 l2 c2, .slice aa2 ll2 cc2]) y k2] (b : k1 ≤ 40000 ∧ k2 ≤ 40000) :
    Calls Tryz.prog 146 #[.agg #[.bool g1, .slice a1 l1 c1, .slice aa1 ll1 cc1], .agg #[.bool g2, .slice a2 l2 c2, .slice aa2 ll2 cc2]] w (CQRet w (x - y) (k1 + k2 + 4)) := by
  have HE := Lib.hid (Rat.sub_eq_add_neg x y)
  go_enter Tryz.func146, Tryz.ntmps146
  go_wp2_with fail
  refine rgn [w.heap.size + 1 + 1] [] fun hHeld => ?_
  refine tk 0 hHeld ?_
  refine tk 1 hHeld ?_
  refine st 2 fun K hK => ?_
  go_simp
  (with_reducible refine Calls.cQ (numOppC) ?_); intros
  refine hd hK ?_
  clear hHeld hK K
  intro hHeld
  refine st 3 fun K hK => ?_
  go_simp
  (with_reducible refine Calls.cQ (numPlusC (by omega)) ?_); intros
  refine hd hK ?_
  clear hHeld hK K
  intro hHeld
  refine st 4 fun K hK => ?_
  go_simp
  refine hd hK ?_
  clear hHeld hK K
  intro hHeld
  refine dn ?_
  clear hHeld
  go_wp2
  refine ret_bx rfl Tryz.underlying45 rfl (by kernel_rfl) rfl rfl rfl ?_
  exact CQRet.fin HE.out.symm (by omega)

theorem numCC {w : World} {g1 g2 : Bool} {a1 aa1 a2 aa2 : Option Addr} {l1 c1 ll1 cc1 l2 c2 ll2 cc2 k1 k2 : Nat} {x y : Rat} [h1 : CQ w (.agg #[.bool g1, .slice a1 l1 c1, .slice aa1 ll1 cc1]) x k1] [h2 : CQ w (.agg #[.bool g2, .slice a2 l2 c2, .slice aa2 ll2 cc2]) y k2] (b : k1 ≤ 40000 ∧ k2 ≤ 40000) :
    Calls Tryz.prog 78 #[.agg #[.bool g1, .slice a1 l1 c1, .slice aa1 ll1 cc1], .agg #[.bool g2, .slice a2 l2 c2, .slice aa2 ll2 cc2]] w (fun e w' => e = .returned (.int .i64 (isgn (x - y).num)) ∧ Below w.heap.size w w') := by
  go_enter Tryz.func78, Tryz.ntmps78
  go_wp2_with (first
    | (go_at_call 146; (with_reducible refine Calls.cQ (numSubC (by omega)) ?_); intros)
    | (go_at_call 54; (with_reducible refine Calls.cE (numSC) ?_); intros))
  go_ret
  exact E.fin rfl

theorem refQC {w : World} {g1 : Bool} {a1 aa1 : Option Addr} {l1 c1 ll1 cc1 k1 : Nat} {x : Rat} [h1 : CW w (.agg #[.bool g1, .slice a1 l1 c1, .slice aa1 ll1 cc1]) x k1] (b : k1 ≤ 90000) :
    Calls Tryz.prog 56 #[.agg #[.bool g1, .slice a1 l1 c1, .slice aa1 ll1 cc1]] w (CQRet w x (k1 + 2)) := by
  obtain ⟨z, m, rfl, i1, i2⟩ := CW.parts h1
  by_cases hm : m = 0
  · subst hm
    rw [Rat.mkRat_zero]
    go_enter Tryz.func56, Tryz.ntmps56
    go_wp2_with fail
    with_reducible refine Calls.cN (refNC (by omega)) ?_
    intro W1 _ a3 l3 c3 i3
    have hl : l3 = 0 := i3.out.len
    subst hl
    go_wp2
    refine ret_bx rfl Tryz.underlying45 rfl (by kernel_rfl) rfl rfl rfl ?_
    exact CQRet.fin (hx := CQ.mk' (z := 0) (n := 0) (k := k1 + 2) (by simp) (by simp) (by omega) (by omega)) rfl (by omega)
  · go_enter Tryz.func56, Tryz.ntmps56
    go_wp2_with fail
    with_reducible refine Calls.cN (refNC (by omega)) ?_
    intro W1 _ a3 l3 c3 i3
    have hl := i3.out.len
    have hl0 : 0 < l3 := by rw [hl]; exact nf_len_pos hm
    clear hl
    go_wp2_with (first
    | (go_at_call 120; (with_reducible refine Calls.cZ (refIC (by omega)) ?_); intros)
    | (go_at_call 75; (with_reducible refine Calls.cQ (numFracC (by omega) hm) ?_); intros))
    refine ret_bx rfl Tryz.underlying45 rfl (by kernel_rfl) rfl rfl rfl ?_
    exact CQRet.fin rfl (by omega)

theorem sameQC {w : World} {g1 g2 : Bool} {a1 aa1 a2 aa2 : Option Addr} {l1 c1 ll1 cc1 l2 c2 ll2 cc2 k1 k2 : Nat} {x y : Rat} [h1 : CA w (.agg #[.bool g1, .slice a1 l1 c1, .slice aa1 ll1 cc1]) x k1] [h2 : CA w (.agg #[.bool g2, .slice a2 l2 c2, .slice aa2 ll2 cc2]) y k2] (hxy : x = y) :
    Calls Tryz.prog 39 #[.agg #[.bool g1, .slice a1 l1 c1, .slice aa1 ll1 cc1], .agg #[.bool g2, .slice a2 l2 c2, .slice aa2 ll2 cc2]] w (fun e w' => e = .returned (.bool true) ∧ Below w.heap.size w w') := by
  have i1 := h1.num
  have i2 := h1.den
  have i3 := h2.num
  have i4 := h2.den
  subst hxy
  go_enter Tryz.func39, Tryz.ntmps39
  go_wp2_with (first
    | (go_at_call 99; (with_reducible refine Calls.cE (sameIC rfl) ?_); intros)
    | (go_at_call 100; (with_reducible refine Calls.cE (sameNC rfl) ?_); intros))
  go_ret
  exact E.fin rfl

end Go.Proofs.YtdlnoeegboapkaaGreatDoor

/- The reference's points, the products of package point, and what the laws of layer 4 compare. printed by a small program (mkref4.py). -/
namespace Go.Proofs.YtdlnoeegboapkaaGreatDoor
open Go.RowKit
set_option maxRecDepth 100000
set_option maxHeartbeats 40000000
set_option synthInstance.maxSize 100000
set_option synthInstance.maxHeartbeats 1000000

theorem refPAddC {w : World} {g1x g1y g2 g3x g3y : Bool} {a1x aa1x a1y aa1y a2 aa2 a3x aa3x a3y aa3y : Option Addr} {l1x c1x ll1x cc1x l1y c1y ll1y cc1y l2 c2 ll2 cc2 l3x c3x ll3x cc3x l3y c3y ll3y cc3y k1x k1y k2 k3x k3y : Nat} {x1 y1 z x2 y2 : Rat} [h1x : CQ w (.agg #[.bool g1x, .slice a1x l1x c1x, .slice aa1x ll1x cc1x]) x1 k1x] [h1y : CQ w (.agg #[.bool g1y, .slice a1y l1y c1y, .slice aa1y ll1y cc1y]) y1 k1y] [h2 : CQ w (.agg #[.bool g2, .slice a2 l2 c2, .slice aa2 ll2 cc2]) z k2] [h3x : CQ w (.agg #[.bool g3x, .slice a3x l3x c3x, .slice aa3x ll3x cc3x]) x2 k3x] [h3y : CQ w (.agg #[.bool g3y, .slice a3y l3y c3y, .slice aa3y ll3y cc3y]) y2 k3y] (b : k1x ≤ 10000 ∧ k1y ≤ 10000 ∧ k2 ≤ 10000 ∧ k3x ≤ 10000 ∧ k3y ≤ 10000) :
    Calls Tryz.prog 82 #[.agg #[.bool g1x, .slice a1x l1x c1x, .slice aa1x ll1x cc1x, .bool g1y, .slice a1y l1y c1y, .slice aa1y ll1y cc1y], .agg #[.bool g2, .slice a2 l2 c2, .slice aa2 ll2 cc2], .agg #[.bool g3x, .slice a3x l3x c3x, .slice aa3x ll3x cc3x, .bool g3y, .slice a3y l3y c3y, .slice aa3y ll3y cc3y]] w (CPQRet w (x1 + z * x2) (y1 + z * y2) (max k1x k1y + k2 + max k3x k3y + 8)) := by
  go_enter Tryz.func82, Tryz.ntmps82
  go_wp2_with fail
  refine rgn [w.heap.size + 1 + 1 + 1] [] fun hHeld => ?_
  refine tk 0 hHeld ?_
  refine tk 1 hHeld ?_
  refine tk 2 hHeld ?_
  refine tk 3 hHeld ?_
  refine tk 4 hHeld ?_
  refine tk 7 hHeld ?_
  refine tk 8 hHeld ?_
  refine tk 9 hHeld ?_
  refine tk 10 hHeld ?_
  refine tk 11 hHeld ?_
  refine st 5 fun K hK => ?_
  go_simp
  (with_reducible refine Calls.cQ (numTimesC (by omega)) ?_); intros
  refine hd hK ?_
  clear hHeld hK K
  intro hHeld
  refine st 6 fun K hK => ?_
  go_simp
  (with_reducible refine Calls.cQ (numPlusC (by omega)) ?_); intros
  refine hd hK ?_
  clear hHeld hK K
  intro hHeld
  refine st 12 fun K hK => ?_
  go_simp
  (with_reducible refine Calls.cQ (numTimesC (by omega)) ?_); intros
  refine hd hK ?_
  clear hHeld hK K
  intro hHeld
  refine st 13 fun K hK => ?_
  go_simp
  (with_reducible refine Calls.cQ (numPlusC (by omega)) ?_); intros
  refine hd hK ?_
  clear hHeld hK K
  intro hHeld
  refine tk 14 hHeld ?_
  refine st 15 fun K hK => ?_
  go_simp
  refine hd hK ?_
  clear hHeld hK K
  intro hHeld
  refine dn ?_
  clear hHeld
  go_wp2
  refine ret_bx rfl Tryz.underlying47 rfl (by kernel_rfl) rfl rfl rfl ?_
  exact CPQRet.fin rfl (by omega) rfl (by omega)

theorem refPSubC {w : World} {g1x g1y g2x g2y : Bool} {a1x aa1x a1y aa1y a2x aa2x a2y aa2y : Option Addr} {l1x c1x ll1x cc1x l1y c1y ll1y cc1y l2x c2x ll2x cc2x l2y c2y ll2y cc2y k1x k1y k2x k2y : Nat} {x1 y1 x2 y2 : Rat} [h1x : CQ w (.agg #[.bool g1x, .slice a1x l1x c1x, .slice aa1x ll1x cc1x]) x1 k1x] [h1y : CQ w (.agg #[.bool g1y, .slice a1y l1y c1y, .slice aa1y ll1y cc1y]) y1 k1y] [h2x : CQ w (.agg #[.bool g2x, .slice a2x l2x c2x, .slice aa2x ll2x cc2x]) x2 k2x] [h2y : CQ w (.agg #[.bool g2y, .slice a2y l2y c2y, .slice aa2y ll2y cc2y]) y2 k2y] (b : k1x ≤ 9000 ∧ k1y ≤ 9000 ∧ k2x ≤ 9000 ∧ k2y ≤ 9000) :
    Calls Tryz.prog 178 #[.agg #[.bool g1x, .slice a1x l1x c1x, .slice aa1x ll1x cc1x, .bool g1y, .slice a1y l1y c1y, .slice aa1y ll1y cc1y], .agg #[.bool g2x, .slice a2x l2x c2x, .slice aa2x ll2x cc2x, .bool g2y, .slice a2y l2y c2y, .slice aa2y ll2y cc2y]] w (CPQRet w (x1 - x2) (y1 - y2) (max k1x k1y + max k2x k2y + 10)) := by
  have EX := Lib.hid (show x1 + ((-1 : Int) : Rat) * x2 = x1 - x2 by rw [show ((-1 : Int) : Rat) = -1 from rfl]; grind)
  have EY := Lib.hid (show y1 + ((-1 : Int) : Rat) * y2 = y1 - y2 by rw [show ((-1 : Int) : Rat) = -1 from rfl]; grind)
  go_enter Tryz.func178, Tryz.ntmps178
  go_wp2_with fail
  refine rgn [w.heap.size + 1 + 1] [] fun hHeld => ?_
  refine tk 0 hHeld ?_
  refine tk 2 hHeld ?_
  refine st 1 fun K hK => ?_
  go_simp
  (with_reducible refine Calls.cQ (numOfC (by omega)) ?_); intros
  refine hd hK ?_
  clear hHeld hK K
  intro hHeld
  refine st 3 fun K hK => ?_
  go_simp
  (with_reducible refine Calls.cPQ (refPAddC (by omega)) ?_); intros
  refine hd hK ?_
  clear hHeld hK K
  intro hHeld
  refine st 4 fun K hK => ?_
  go_simp
  refine hd hK ?_
  clear hHeld hK K
  intro hHeld
  refine dn ?_
  clear hHeld
  go_wp2
  refine ret_bx rfl Tryz.underlying47 rfl (by kernel_rfl) rfl rfl rfl ?_
  exact CPQRet.fin EX.out (by omega) EY.out (by omega)

theorem refCrossC {w : World} {g1x g1y g2x g2y : Bool} {a1x aa1x a1y aa1y a2x aa2x a2y aa2y : Option Addr} {l1x c1x ll1x cc1x l1y c1y ll1y cc1y l2x c2x ll2x cc2x l2y c2y ll2y cc2y k1x k1y k2x k2y : Nat} {x1 y1 x2 y2 : Rat} [h1x : CQ w (.agg #[.bool g1x, .slice a1x l1x c1x, .slice aa1x ll1x cc1x]) x1 k1x] [h1y : CQ w (.agg #[.bool g1y, .slice a1y l1y c1y, .slice aa1y ll1y cc1y]) y1 k1y] [h2x : CQ w (.agg #[.bool g2x, .slice a2x l2x c2x, .slice aa2x ll2x cc2x]) x2 k2x] [h2y : CQ w (.agg #[.bool g2y, .slice a2y l2y c2y, .slice aa2y ll2y cc2y]) y2 k2y] (b : k1x ≤ 9000 ∧ k1y ≤ 9000 ∧ k2x ≤ 9000 ∧ k2y ≤ 9000) :
    Calls Tryz.prog 81 #[.agg #[.bool g1x, .slice a1x l1x c1x, .slice aa1x ll1x cc1x, .bool g1y, .slice a1y l1y c1y, .slice aa1y ll1y cc1y], .agg #[.bool g2x, .slice a2x l2x c2x, .slice aa2x ll2x cc2x, .bool g2y, .slice a2y l2y c2y, .slice aa2y ll2y cc2y]] w (CQRet w (x1 * y2 - y1 * x2) (k1x + k1y + k2x + k2y + 12)) := by
  go_enter Tryz.func81, Tryz.ntmps81
  go_wp2_with fail
  refine rgn [w.heap.size + 1 + 1] [] fun hHeld => ?_
  refine tk 0 hHeld ?_
  refine tk 1 hHeld ?_
  refine tk 2 hHeld ?_
  refine tk 3 hHeld ?_
  refine tk 5 hHeld ?_
  refine tk 6 hHeld ?_
  refine tk 7 hHeld ?_
  refine tk 8 hHeld ?_
  refine st 4 fun K hK => ?_
  go_simp
  (with_reducible refine Calls.cQ (numTimesC (by omega)) ?_); intros
  refine hd hK ?_
  clear hHeld hK K
  intro hHeld
  refine st 9 fun K hK => ?_
  go_simp
  (with_reducible refine Calls.cQ (numTimesC (by omega)) ?_); intros
  refine hd hK ?_
  clear hHeld hK K
  intro hHeld
  refine st 10 fun K hK => ?_
  go_simp
  (with_reducible refine Calls.cQ (numSubC (by omega)) ?_); intros
  refine hd hK ?_
  clear hHeld hK K
  intro hHeld
  refine st 11 fun K hK => ?_
  go_simp
  refine hd hK ?_
  clear hHeld hK K
  intro hHeld
  refine dn ?_
  clear hHeld
  go_wp2
  refine ret_bx rfl Tryz.underlying45 rfl (by kernel_rfl) rfl rfl rfl ?_
  exact CQRet.fin rfl (by omega)

theorem refOrientC {w : World} {g1x g1y g2x g2y g3x g3y : Bool} {a1x aa1x a1y aa1y a2x aa2x a2y aa2y a3x aa3x a3y aa3y : Option Addr} {l1x c1x ll1x cc1x l1y c1y ll1y cc1y l2x c2x ll2x cc2x l2y c2y ll2y cc2y l3x c3x ll3x cc3x l3y c3y ll3y cc3y k1x k1y k2x k2y k3x k3y : Nat} {x1 y1 x2 y2 x3 y3 : Rat} [h1x : CQ w (.agg #[.bool g1x, .slice a1x l1x c1x, .slice aa1x ll1x cc1x]) x1 k1x] [h1y : CQ w (.agg #[.bool g1y, .slice a1y l1y c1y, .slice aa1y ll1y cc1y]) y1 k1y] [h2x : CQ w (.agg #[.bool g2x, .slice a2x l2x c2x, .slice aa2x ll2x cc2x]) x2 k2x] [h2y : CQ w (.agg #[.bool g2y, .slice a2y l2y c2y, .slice aa2y ll2y cc2y]) y2 k2y] [h3x : CQ w (.agg #[.bool g3x, .slice a3x l3x c3x, .slice aa3x ll3x cc3x]) x3 k3x] [h3y : CQ w (.agg #[.bool g3y, .slice a3y l3y c3y, .slice aa3y ll3y cc3y]) y3 k3y] (b : k1x ≤ 1000 ∧ k1y ≤ 1000 ∧ k2x ≤ 1000 ∧ k2y ≤ 1000 ∧ k3x ≤ 1000 ∧ k3y ≤ 1000) :
    Calls Tryz.prog 113 #[.agg #[.bool g1x, .slice a1x l1x c1x, .slice aa1x ll1x cc1x, .bool g1y, .slice a1y l1y c1y, .slice aa1y ll1y cc1y], .agg #[.bool g2x, .slice a2x l2x c2x, .slice aa2x ll2x cc2x, .bool g2y, .slice a2y l2y c2y, .slice aa2y ll2y cc2y], .agg #[.bool g3x, .slice a3x l3x c3x, .slice aa3x ll3x cc3x, .bool g3y, .slice a3y l3y c3y, .slice aa3y ll3y cc3y]] w (fun e w' => e = .returned (.int .i64 (orientR x1 y1 x2 y2 x3 y3)) ∧ Below w.heap.size w w') := by
  go_enter Tryz.func113, Tryz.ntmps113
  go_wp2_with fail
  refine rgn [] [] fun hHeld => ?_
  refine tk 0 hHeld ?_
  refine tk 1 hHeld ?_
  refine tk 3 hHeld ?_
  refine tk 4 hHeld ?_
  refine st 2 fun K hK => ?_
  go_simp
  (with_reducible refine Calls.cPQ (refPSubC (by omega)) ?_); intros
  refine hd hK ?_
  clear hHeld hK K
  intro hHeld
  refine st 5 fun K hK => ?_
  go_simp
  (with_reducible refine Calls.cPQ (refPSubC (by omega)) ?_); intros
  refine hd hK ?_
  clear hHeld hK K
  intro hHeld
  refine st 6 fun K hK => ?_
  go_simp
  (with_reducible refine Calls.cQ (refCrossC (by omega)) ?_); intros
  refine hd hK ?_
  clear hHeld hK K
  intro hHeld
  refine st 7 fun K hK => ?_
  go_simp
  (with_reducible refine Calls.cE (numSC) ?_); intros
  refine hd hK ?_
  clear hHeld hK K
  intro hHeld
  refine tk 8 hHeld ?_
  refine dn ?_
  clear hHeld
  go_wp2
  go_ret
  exact E.fin rfl

theorem gDotC {w : World} {n1x d1x n1y d1y n2x d2x n2y d2y : Int} {p1x p1y p2x p2y : Option Addr} {x1 y1 x2 y2 : Rat} {k1x k1y k2x k2y : Nat} [h1x : CF w (.agg #[.int .i64 n1x, .int .i64 d1x, .pointer p1x]) x1 k1x] [h1y : CF w (.agg #[.int .i64 n1y, .int .i64 d1y, .pointer p1y]) y1 k1y] [h2x : CF w (.agg #[.int .i64 n2x, .int .i64 d2x, .pointer p2x]) x2 k2x] [h2y : CF w (.agg #[.int .i64 n2y, .int .i64 d2y, .pointer p2y]) y2 k2y] (b : k1x ≤ 50000 ∧ k1y ≤ 50000 ∧ k2x ≤ 50000 ∧ k2y ≤ 50000) :
    Calls Tryz.prog 228 #[.agg #[.int .i64 n1x, .int .i64 d1x, .pointer p1x, .int .i64 n1y, .int .i64 d1y, .pointer p1y], .agg #[.int .i64 n2x, .int .i64 d2x, .pointer p2x, .int .i64 n2y, .int .i64 d2y, .pointer p2y]] w (CFRet w (x1 * x2 + y1 * y2) (k1x + k1y + k2x + k2y + 7)) := by
  go_enter Tryz.func228, Tryz.ntmps228
  go_wp2_with fail
  refine rgn [w.heap.size + 1 + 1] [] fun hHeld => ?_
  refine tk 0 hHeld ?_
  refine tk 1 hHeld ?_
  refine tk 2 hHeld ?_
  refine tk 3 hHeld ?_
  refine tk 5 hHeld ?_
  refine tk 6 hHeld ?_
  refine tk 7 hHeld ?_
  refine tk 8 hHeld ?_
  refine st 4 fun K hK => ?_
  go_simp
  (with_reducible refine Calls.cF (rMulC (by omega)) ?_); intros
  refine hd hK ?_
  clear hHeld hK K
  intro hHeld
  refine st 9 fun K hK => ?_
  go_simp
  (with_reducible refine Calls.cF (rMulC (by omega)) ?_); intros
  refine hd hK ?_
  clear hHeld hK K
  intro hHeld
  refine st 10 fun K hK => ?_
  go_simp
  (with_reducible refine Calls.cF (rAddC (by omega)) ?_); intros
  refine hd hK ?_
  clear hHeld hK K
  intro hHeld
  refine st 11 fun K hK => ?_
  go_simp
  refine hd hK ?_
  clear hHeld hK K
  intro hHeld
  refine dn ?_
  clear hHeld
  go_wp2
  refine ret_bx rfl Tryz.underlying147 rfl (by kernel_rfl) rfl rfl rfl ?_
  exact CFRet.fin rfl (by omega)

theorem samePC {w : World} {g1x g1y g2x g2y : Bool} {a1x aa1x a1y aa1y a2x aa2x a2y aa2y : Option Addr} {l1x c1x ll1x cc1x l1y c1y ll1y cc1y l2x c2x ll2x cc2x l2y c2y ll2y cc2y k1x k1y k2x k2y : Nat} {x1 y1 x2 y2 : Rat} [h1x : CA w (.agg #[.bool g1x, .slice a1x l1x c1x, .slice aa1x ll1x cc1x]) x1 k1x] [h1y : CA w (.agg #[.bool g1y, .slice a1y l1y c1y, .slice aa1y ll1y cc1y]) y1 k1y] [h2x : CA w (.agg #[.bool g2x, .slice a2x l2x c2x, .slice aa2x ll2x cc2x]) x2 k2x] [h2y : CA w (.agg #[.bool g2y, .slice a2y l2y c2y, .slice aa2y ll2y cc2y]) y2 k2y] (hx : x1 = x2) (hy : y1 = y2) :
    Calls Tryz.prog 20 #[.agg #[.bool g1x, .slice a1x l1x c1x, .slice aa1x ll1x cc1x, .bool g1y, .slice a1y l1y c1y, .slice aa1y ll1y cc1y], .agg #[.bool g2x, .slice a2x l2x c2x, .slice aa2x ll2x cc2x, .bool g2y, .slice a2y l2y c2y, .slice aa2y ll2y cc2y]] w (fun e w' => e = .returned (.bool true) ∧ Below w.heap.size w w') := by
  subst hx hy
  go_enter Tryz.func20, Tryz.ntmps20
  go_wp2_with (first
    | (go_at_call 39; (with_reducible refine Calls.cE (sameQC rfl) ?_); intros))
  go_ret
  exact E.fin rfl

end Go.Proofs.YtdlnoeegboapkaaGreatDoor

/- Plain laws: the order of directions, and primitive vectors. No program is in sight here. -/
namespace Go.Proofs.YtdlnoeegboapkaaGreatDoor
theorem isg_neg {x : Rat} : isgn x.num = -1 ↔ x < 0 := by
  rw [← rsgn_isgn, ← rsgn_neg]
  rcases rsgn_cases x with ⟨h, _⟩ | ⟨h, _⟩ | ⟨h, _⟩ <;> omega
theorem isg_pos {x : Rat} : isgn x.num = 1 ↔ 0 < x := by
  rw [← rsgn_isgn, ← rsgn_pos]
  rcases rsgn_cases x with ⟨h, _⟩ | ⟨h, _⟩ | ⟨h, _⟩ <;> omega
theorem isg_zero {x : Rat} : isgn x.num = 0 ↔ x = 0 := by
  rw [← rsgn_isgn, rsgn_zero]
theorem mul_ps {a b : Rat} (h1 : 0 < a) (h2 : 0 < b) : 0 < a * b := Rat.mul_pos h1 h2
/-- The primitive vector of a direction. -/
def primX (x y : Rat) : Int := (x.num * (y.den : Int)) / ((Nat.gcd (x.num.natAbs * y.den) (y.num.natAbs * x.den) : Nat) : Int)
theorem primX_mul (x y : Rat) : ((primX x y : Int) : Rat) = x * (rgcd x y)⁻¹ := by
  have hd : x.den * y.den ≠ 0 := Nat.mul_ne_zero x.den_nz y.den_nz
  by_cases h : Nat.gcd (x.num.natAbs * y.den) (y.num.natAbs * x.den) = 0
  · have hx : x = 0 := by
      have := Nat.eq_zero_of_gcd_eq_zero_left h
      rcases Nat.mul_eq_zero.1 this with h' | h'
      · exact Rat.num_eq_zero.1 (by omega)
      · exact absurd h' y.den_nz
    subst hx
    unfold primX
    rw [h]
    simp
  · unfold primX rgcd
    generalize hG : Nat.gcd (x.num.natAbs * y.den) (y.num.natAbs * x.den) = G at *
    have hdv : (G : Int) ∣ x.num * (y.den : Int) := by
      rw [← Int.natAbs_dvd_natAbs, Int.natAbs_mul]
      simp only [Int.natAbs_natCast]
      rw [← hG]; exact Nat.gcd_dvd_left _ _
    obtain ⟨c, hc⟩ := hdv
    have hG0 : (G : Int) ≠ 0 := by omega
    rw [hc, Int.mul_ediv_cancel_left _ hG0]
    have hGr : ((G : Int) : Rat) ≠ 0 := by exact_mod_cast hG0
    have hxd : ((x.den : Int) : Rat) ≠ 0 := by have := x.den_nz; exact_mod_cast this
    have hyd : ((y.den : Int) : Rat) ≠ 0 := by have := y.den_nz; exact_mod_cast this
    have e1 : mkRat (G : Int) (x.den * y.den) = ((G : Int) : Rat) / (((x.den : Int) : Rat) * ((y.den : Int) : Rat)) := by
      rw [Rat.mkRat_eq_div]; push_cast; rfl
    have e2 : x = (x.num : Rat) / ((x.den : Int) : Rat) := by
      have := Rat.mkRat_self x
      rw [Rat.mkRat_eq_div] at this
      exact this.symm
    have e3 : (x.num : Rat) * ((y.den : Int) : Rat) = ((G : Int) : Rat) * (c : Rat) := by exact_mod_cast congrArg (fun z : Int => (z : Rat)) hc
    rw [e1]
    refine Eq.trans ?_ (congrArg (fun z : Rat => z * (((G : Int) : Rat) / (((x.den : Int) : Rat) * ((y.den : Int) : Rat)))⁻¹) e2.symm)
    show (c : Rat) = _ * _
    rw [Rat.div_def, Rat.div_def]
    generalize (x.num : Rat) = a at *
    generalize ((x.den : Int) : Rat) = b at *
    generalize ((y.den : Int) : Rat) = d at *
    generalize ((G : Int) : Rat) = g at *
    have i1 := Rat.mul_inv_cancel b hxd
    have i2 := Rat.mul_inv_cancel g hGr
    have i3 : (g * (b * d)⁻¹)⁻¹ = g⁻¹ * (b * d) := by rw [Rat.inv_mul_rev, Rat.inv_inv]; grind
    rw [i3]
    grind
theorem rgcd_comm (x y : Rat) : rgcd y x = rgcd x y := by
  unfold rgcd; rw [Nat.gcd_comm, Nat.mul_comm y.den x.den]
theorem prim_gcd (x y : Rat) (h : ¬ (x = 0 ∧ y = 0)) : Nat.gcd (primX x y).natAbs (primX y x).natAbs = 1 := by
  unfold primX
  rw [Nat.gcd_comm (y.num.natAbs * x.den)]
  rw [int_div_abs, int_div_abs]
  · simp only [Int.natAbs_mul, Int.natAbs_natCast]
    have h0 : 0 < Nat.gcd (x.num.natAbs * y.den) (y.num.natAbs * x.den) := by
      rcases Nat.eq_zero_or_pos (Nat.gcd (x.num.natAbs * y.den) (y.num.natAbs * x.den)) with h0 | h0
      · exfalso
        refine h ⟨?_, ?_⟩
        · have := Nat.eq_zero_of_gcd_eq_zero_left h0
          rcases Nat.mul_eq_zero.1 this with h' | h'
          · exact Rat.num_eq_zero.1 (by omega)
          · exact absurd h' y.den_nz
        · have := Nat.eq_zero_of_gcd_eq_zero_right h0
          rcases Nat.mul_eq_zero.1 this with h' | h'
          · exact Rat.num_eq_zero.1 (by omega)
          · exact absurd h' x.den_nz
      · exact h0
    rw [Nat.gcd_div (Nat.gcd_dvd_left _ _) (Nat.gcd_dvd_right _ _), Nat.div_self h0]
  · simp only [Int.natAbs_mul, Int.natAbs_natCast]; exact Nat.gcd_dvd_right _ _
  · simp only [Int.natAbs_mul, Int.natAbs_natCast]; exact Nat.gcd_dvd_left _ _
theorem rgcd_pos (x y : Rat) (h : ¬ (x = 0 ∧ y = 0)) : 0 < rgcd x y := by
  unfold rgcd
  have h0 : 0 < Nat.gcd (x.num.natAbs * y.den) (y.num.natAbs * x.den) := by
    rcases Nat.eq_zero_or_pos (Nat.gcd (x.num.natAbs * y.den) (y.num.natAbs * x.den)) with h0 | h0
    · exfalso
      refine h ⟨?_, ?_⟩
      · have := Nat.eq_zero_of_gcd_eq_zero_left h0
        rcases Nat.mul_eq_zero.1 this with h' | h'
        · exact Rat.num_eq_zero.1 (by omega)
        · exact absurd h' y.den_nz
      · have := Nat.eq_zero_of_gcd_eq_zero_right h0
        rcases Nat.mul_eq_zero.1 this with h' | h'
        · exact Rat.num_eq_zero.1 (by omega)
        · exact absurd h' x.den_nz
    · exact h0
  generalize Nat.gcd (x.num.natAbs * y.den) (y.num.natAbs * x.den) = G at *
  rw [Rat.mkRat_eq_div, Rat.div_def]
  refine mul_ps (by exact_mod_cast h0) (Rat.inv_pos.2 ?_)
  have := Nat.mul_pos (den_pos' x) (den_pos' y)
  exact_mod_cast this
/-- Coprime integer vectors that are positive multiples of each other are equal. -/
theorem coprime_uniq {a b c d : Int} (h1 : Nat.gcd a.natAbs b.natAbs = 1) (h2 : Nat.gcd c.natAbs d.natAbs = 1) {t : Rat} (ht : 0 < t) (e1 : (a : Rat) = c * t) (e2 : (b : Rat) = d * t) : a = c ∧ b = d := by
  have hd : ((t.den : Int) : Rat) ≠ 0 := by have := t.den_nz; exact_mod_cast this
  have et : t * ((t.den : Int) : Rat) = (t.num : Rat) := by
    have := Rat.mkRat_self t
    rw [Rat.mkRat_eq_div, Rat.div_def] at this
    have i := Rat.mul_inv_cancel _ hd
    have e : ((t.den : Int) : Rat) = ((t.den : Nat) : Rat) := by push_cast; rfl
    rw [e] at *
    grind
  have f1 : a * (t.den : Int) = c * t.num := by
    have : (a : Rat) * ((t.den : Int) : Rat) = c * (t.num : Rat) := by rw [e1, ← et]; grind
    exact_mod_cast this
  have f2 : b * (t.den : Int) = d * t.num := by
    have : (b : Rat) * ((t.den : Int) : Rat) = d * (t.num : Rat) := by rw [e2, ← et]; grind
    exact_mod_cast this
  have hn : 0 < t.num := by
    have := (rsgn_pos (x := t)).2 ht
    rw [rsgn_isgn] at this
    rcases isgn_cases t.num with ⟨_, h⟩ | ⟨_, h⟩ | ⟨h, _⟩ <;> omega
  have g1 : t.den = t.num.natAbs := by
    have k1 : Nat.gcd (a * (t.den : Int)).natAbs (b * (t.den : Int)).natAbs = t.den := by
      rw [Int.natAbs_mul, Int.natAbs_mul, Int.natAbs_natCast, Nat.gcd_mul_right, h1, Nat.one_mul]
    have k2 : Nat.gcd (c * t.num).natAbs (d * t.num).natAbs = t.num.natAbs := by
      rw [Int.natAbs_mul, Int.natAbs_mul, Nat.gcd_mul_right, h2, Nat.one_mul]
    rw [← k1, ← k2, f1, f2]
  have g2 : (t.den : Int) = t.num := by omega
  rw [g2] at f1 f2
  exact ⟨Int.eq_of_mul_eq_mul_right (by omega) f1, Int.eq_of_mul_eq_mul_right (by omega) f2⟩
end Go.Proofs.YtdlnoeegboapkaaGreatDoor

/- The orders of points and of directions, primitive vectors: packages frac, geo and point, and the reference. printed by a small program (mkord.py). -/
namespace Go.Proofs.YtdlnoeegboapkaaGreatDoor
open Go.RowKit
set_option maxRecDepth 100000
set_option maxHeartbeats 40000000
set_option synthInstance.maxSize 100000
set_option synthInstance.maxHeartbeats 1000000

theorem gcd_lt62 {n m : Int} (h1 : -4611686018427387904 < n) (h2 : n < 4611686018427387904) (h3 : -4611686018427387904 < m) (h4 : m < 4611686018427387904) : Nat.gcd n.natAbs m.natAbs < 4611686018427387904 := by
  rcases Nat.eq_zero_or_pos n.natAbs with h | h
  · rw [h, Nat.gcd_zero_left]; omega
  · have := Nat.gcd_le_left m.natAbs h; omega
theorem fracGcdC {w : World} {n1 d1 n2 d2 : Int} {p1 p2 : Option Addr} {x y : Rat} {k1 k2 : Nat} [h1 : CF w (.agg #[.int .i64 n1, .int .i64 d1, .pointer p1]) x k1] [h2 : CF w (.agg #[.int .i64 n2, .int .i64 d2, .pointer p2]) y k2] (b : k1 ≤ 100000 ∧ k2 ≤ 100000) :
    Calls Tryz.prog 290 #[.agg #[.int .i64 n1, .int .i64 d1, .pointer p1], .agg #[.int .i64 n2, .int .i64 d2, .pointer p2]] w (CFRet w (rgcd x y) (k1 + k2 + 6)) := by
  have hfld : ∀ (x0 x1 : Value) (W : World), (Instr.field 27 (.agg #[x0, x1]) 1).run Tryz.prog W = .ok x1 W := fun _ _ _ => by kernel_rfl
  have HE := Lib.hid (show mkRat (sgn false (Nat.gcd (x.num.natAbs * y.den) (y.num.natAbs * x.den))) (x.den * y.den) = rgcd x y from rfl)
  rcases CF.cases h1 with ⟨rfl, en1, ed1, bn1, bm1, bd1, be1, bk1⟩ | ⟨rfl, rfl, hq1, q1, G1, A1, L1, C1, AA1, LL1, CC1, rfl, hB1, hZ1, hN1⟩
  · rcases CF.cases h2 with ⟨rfl, en2, ed2, bn2, bm2, bd2, be2, bk2⟩ | ⟨rfl, rfl, hq2, q2, G2, A2, L2, C2, AA2, LL2, CC2, rfl, hB2, hZ2, hN2⟩
    · by_cases hd : d1 = 0 ∧ d2 = 0
      · obtain ⟨rfl, rfl⟩ := hd
        have hG0 := @rgcd1 x y (by omega) (by omega)
        rw [en1, en2] at hG0
        have hb := gcd_lt62 bn1 bm1 bn2 bm2
        generalize hG : Nat.gcd n1.natAbs n2.natAbs = G at *
        have HG := Lib.hid hG
        have hw : IntKind.i64.wrap ((G : Nat) : Int) = (G : Int) := by rw [IntKind.wrap_i64]; omega
        have HF : Hid (∀ W : World, CF W (.agg #[.int .i64 ((G : Nat) : Int), .int .i64 0, .pointer none]) (rgcd x y) 2) := fun W => CF.small (by rw [hG0]; rfl) (by rw [hG0]; rfl) (by omega) (by omega) (by omega) (by omega)
        clear hG hG0 en1 en2 ed1 ed2 HE
        go_enter Tryz.func290, Tryz.ntmps290
        go_wp2_with fail
        refine rgn [w.heap.size + 1 + 1] [] fun hHeld => ?_
        refine tk 0 hHeld ?_
        refine tk 1 hHeld ?_
        refine tk 3 hHeld ?_
        refine tk 4 hHeld ?_
        refine st 2 fun K hK => ?_
        go_simp
        (with_reducible refine Calls.cS (absX (by omega) (by omega)) ?_); intros
        refine hd hK ?_
        clear hHeld hK K
        intro hHeld
        refine st 5 fun K hK => ?_
        go_simp
        (with_reducible refine Calls.cS (absX (by omega) (by omega)) ?_); intros
        refine hd hK ?_
        clear hHeld hK K
        intro hHeld
        refine st 6 fun K hK => ?_
        go_simp
        (with_reducible refine Calls.cE (gcd64C (by omega) (by omega) HG) ?_); intros
        refine hd hK ?_
        clear hHeld hK K
        intro hHeld
        refine tk 7 hHeld ?_
        refine tk 8 hHeld ?_
        refine st 9 fun K hK => ?_
        go_simp
        refine hd hK ?_
        clear hHeld hK K
        intro hHeld
        refine dn ?_
        clear hHeld
        go_wp2
        refine ret_bx rfl Tryz.underlying147 rfl (by kernel_rfl) rfl rfl rfl ?_
        exact CFRet.fin (hx := HF.out _) (kx := 2) rfl (by omega)
      · by_cases h1' : d1 = 0
        · have q : (d2 == 0) = false := by rw [beq_eq_false_iff_ne]; omega
          subst h1'
          clear en1 en2 ed1 ed2 hd
          go_enter Tryz.func290, Tryz.ntmps290
          go_wp2_with fail
          refine rgn [w.heap.size + 1 + 1] [] fun hHeld => ?_
          refine tk 0 hHeld ?_
          refine tk 2 hHeld ?_
          refine st 1 fun K hK => ?_
          go_simp
          (with_reducible refine Calls.cN (rDenC (by omega)) ?_); intros
          refine hd hK ?_
          clear hHeld hK K
          intro hHeld
          refine st 3 fun K hK => ?_
          go_simp
          (with_reducible refine Calls.cN (rDenC (by omega)) ?_); intros
          refine hd hK ?_
          clear hHeld hK K
          intro hHeld
          refine st 4 fun K hK => ?_
          go_simp
          (with_reducible refine Calls.cN (mulC (by omega)) ?_); intros
          refine hd hK ?_
          clear hHeld hK K
          intro hHeld
          refine tk 5 hHeld ?_
          refine dn ?_
          clear hHeld
          go_wp2_with (first
              | (go_at_call 182; (with_reducible refine Calls.cF (reduceC (by omega)) ?_); intros))
          refine rgn [w.heap.size + 1 + 1] [] fun hHeld => ?_
          refine tk 0 hHeld ?_
          refine tk 3 hHeld ?_
          refine tk 6 hHeld ?_
          refine tk 9 hHeld ?_
          refine st 1 fun K hK => ?_
          go_simp
          (with_reducible refine Calls.cZn (rNumC (by omega)) ?_); intros
          refine hd hK ?_
          clear hHeld hK K
          intro hHeld
          refine tk 2 hHeld ?_
          refine st 4 fun K hK => ?_
          go_simp
          (with_reducible refine Calls.cN (rDenC (by omega)) ?_); intros
          refine hd hK ?_
          clear hHeld hK K
          intro hHeld
          refine st 5 fun K hK => ?_
          go_simp
          (with_reducible refine Calls.cN (mulC (by omega)) ?_); intros
          refine hd hK ?_
          clear hHeld hK K
          intro hHeld
          refine st 7 fun K hK => ?_
          go_simp
          (with_reducible refine Calls.cZn (rNumC (by omega)) ?_); intros
          refine hd hK ?_
          clear hHeld hK K
          intro hHeld
          refine tk 8 hHeld ?_
          refine st 10 fun K hK => ?_
          go_simp
          (with_reducible refine Calls.cN (rDenC (by omega)) ?_); intros
          refine hd hK ?_
          clear hHeld hK K
          intro hHeld
          refine st 11 fun K hK => ?_
          go_simp
          (with_reducible refine Calls.cN (mulC (by omega)) ?_); intros
          refine hd hK ?_
          clear hHeld hK K
          intro hHeld
          refine st 12 fun K hK => ?_
          go_simp
          (with_reducible refine Calls.cN (gcdC (by omega)) ?_); intros
          refine hd hK ?_
          clear hHeld hK K
          intro hHeld
          refine tk 13 hHeld ?_
          refine dn ?_
          clear hHeld
          go_wp2_with (first
              | (go_at_call 182; (with_reducible refine Calls.cF (reduceC (by omega)) ?_); intros))
          refine ret_bx rfl Tryz.underlying147 rfl (by kernel_rfl) rfl rfl rfl ?_
          exact CFRet.fin HE.out (by omega)
        · have q : (d1 == 0) = false := by rw [beq_eq_false_iff_ne]; exact h1'
          clear en1 en2 ed1 ed2 hd h1'
          go_enter Tryz.func290, Tryz.ntmps290
          go_wp2_with fail
          refine rgn [w.heap.size + 1 + 1] [] fun hHeld => ?_
          refine tk 0 hHeld ?_
          refine tk 2 hHeld ?_
          refine st 1 fun K hK => ?_
          go_simp
          (with_reducible refine Calls.cN (rDenC (by omega)) ?_); intros
          refine hd hK ?_
          clear hHeld hK K
          intro hHeld
          refine st 3 fun K hK => ?_
          go_simp
          (with_reducible refine Calls.cN (rDenC (by omega)) ?_); intros
          refine hd hK ?_
          clear hHeld hK K
          intro hHeld
          refine st 4 fun K hK => ?_
          go_simp
          (with_reducible refine Calls.cN (mulC (by omega)) ?_); intros
          refine hd hK ?_
          clear hHeld hK K
          intro hHeld
          refine tk 5 hHeld ?_
          refine dn ?_
          clear hHeld
          go_wp2_with (first
              | (go_at_call 182; (with_reducible refine Calls.cF (reduceC (by omega)) ?_); intros))
          refine rgn [w.heap.size + 1 + 1] [] fun hHeld => ?_
          refine tk 0 hHeld ?_
          refine tk 3 hHeld ?_
          refine tk 6 hHeld ?_
          refine tk 9 hHeld ?_
          refine st 1 fun K hK => ?_
          go_simp
          (with_reducible refine Calls.cZn (rNumC (by omega)) ?_); intros
          refine hd hK ?_
          clear hHeld hK K
          intro hHeld
          refine tk 2 hHeld ?_
          refine st 4 fun K hK => ?_
          go_simp
          (with_reducible refine Calls.cN (rDenC (by omega)) ?_); intros
          refine hd hK ?_
          clear hHeld hK K
          intro hHeld
          refine st 5 fun K hK => ?_
          go_simp
          (with_reducible refine Calls.cN (mulC (by omega)) ?_); intros
          refine hd hK ?_
          clear hHeld hK K
          intro hHeld
          refine st 7 fun K hK => ?_
          go_simp
          (with_reducible refine Calls.cZn (rNumC (by omega)) ?_); intros
          refine hd hK ?_
          clear hHeld hK K
          intro hHeld
          refine tk 8 hHeld ?_
          refine st 10 fun K hK => ?_
          go_simp
          (with_reducible refine Calls.cN (rDenC (by omega)) ?_); intros
          refine hd hK ?_
          clear hHeld hK K
          intro hHeld
          refine st 11 fun K hK => ?_
          go_simp
          (with_reducible refine Calls.cN (mulC (by omega)) ?_); intros
          refine hd hK ?_
          clear hHeld hK K
          intro hHeld
          refine st 12 fun K hK => ?_
          go_simp
          (with_reducible refine Calls.cN (gcdC (by omega)) ?_); intros
          refine hd hK ?_
          clear hHeld hK K
          intro hHeld
          refine tk 13 hHeld ?_
          refine dn ?_
          clear hHeld
          go_wp2_with (first
              | (go_at_call 182; (with_reducible refine Calls.cF (reduceC (by omega)) ?_); intros))
          refine ret_bx rfl Tryz.underlying147 rfl (by kernel_rfl) rfl rfl rfl ?_
          exact CFRet.fin HE.out (by omega)
    · clear en1 ed1
      go_enter Tryz.func290, Tryz.ntmps290
      go_wp2_with fail
      refine rgn [w.heap.size + 1 + 1] [] fun hHeld => ?_
      refine tk 0 hHeld ?_
      refine tk 2 hHeld ?_
      refine st 1 fun K hK => ?_
      go_simp
      (with_reducible refine Calls.cN (rDenC (by omega)) ?_); intros
      refine hd hK ?_
      clear hHeld hK K
      intro hHeld
      refine st 3 fun K hK => ?_
      go_simp
      (with_reducible refine Calls.cN (rDenC (by omega)) ?_); intros
      refine hd hK ?_
      clear hHeld hK K
      intro hHeld
      refine st 4 fun K hK => ?_
      go_simp
      (with_reducible refine Calls.cN (mulC (by omega)) ?_); intros
      refine hd hK ?_
      clear hHeld hK K
      intro hHeld
      refine tk 5 hHeld ?_
      refine dn ?_
      clear hHeld
      go_wp2_with (first
          | (go_at_call 182; (with_reducible refine Calls.cF (reduceC (by omega)) ?_); intros))
      refine rgn [w.heap.size + 1 + 1] [] fun hHeld => ?_
      refine tk 0 hHeld ?_
      refine tk 3 hHeld ?_
      refine tk 6 hHeld ?_
      refine tk 9 hHeld ?_
      refine st 1 fun K hK => ?_
      go_simp
      (with_reducible refine Calls.cZn (rNumC (by omega)) ?_); intros
      refine hd hK ?_
      clear hHeld hK K
      intro hHeld
      refine tk 2 hHeld ?_
      refine st 4 fun K hK => ?_
      go_simp
      (with_reducible refine Calls.cN (rDenC (by omega)) ?_); intros
      refine hd hK ?_
      clear hHeld hK K
      intro hHeld
      refine st 5 fun K hK => ?_
      go_simp
      (with_reducible refine Calls.cN (mulC (by omega)) ?_); intros
      refine hd hK ?_
      clear hHeld hK K
      intro hHeld
      refine st 7 fun K hK => ?_
      go_simp
      (with_reducible refine Calls.cZn (rNumC (by omega)) ?_); intros
      refine hd hK ?_
      clear hHeld hK K
      intro hHeld
      refine tk 8 hHeld ?_
      refine st 10 fun K hK => ?_
      go_simp
      (with_reducible refine Calls.cN (rDenC (by omega)) ?_); intros
      refine hd hK ?_
      clear hHeld hK K
      intro hHeld
      refine st 11 fun K hK => ?_
      go_simp
      (with_reducible refine Calls.cN (mulC (by omega)) ?_); intros
      refine hd hK ?_
      clear hHeld hK K
      intro hHeld
      refine st 12 fun K hK => ?_
      go_simp
      (with_reducible refine Calls.cN (gcdC (by omega)) ?_); intros
      refine hd hK ?_
      clear hHeld hK K
      intro hHeld
      refine tk 13 hHeld ?_
      refine dn ?_
      clear hHeld
      go_wp2_with (first
          | (go_at_call 182; (with_reducible refine Calls.cF (reduceC (by omega)) ?_); intros))
      refine ret_bx rfl Tryz.underlying147 rfl (by kernel_rfl) rfl rfl rfl ?_
      exact CFRet.fin HE.out (by omega)
  · go_enter Tryz.func290, Tryz.ntmps290
    go_wp2_with fail
    refine rgn [w.heap.size + 1 + 1] [] fun hHeld => ?_
    refine tk 0 hHeld ?_
    refine tk 2 hHeld ?_
    refine st 1 fun K hK => ?_
    go_simp
    (with_reducible refine Calls.cN (rDenC (by omega)) ?_); intros
    refine hd hK ?_
    clear hHeld hK K
    intro hHeld
    refine st 3 fun K hK => ?_
    go_simp
    (with_reducible refine Calls.cN (rDenC (by omega)) ?_); intros
    refine hd hK ?_
    clear hHeld hK K
    intro hHeld
    refine st 4 fun K hK => ?_
    go_simp
    (with_reducible refine Calls.cN (mulC (by omega)) ?_); intros
    refine hd hK ?_
    clear hHeld hK K
    intro hHeld
    refine tk 5 hHeld ?_
    refine dn ?_
    clear hHeld
    go_wp2_with (first
        | (go_at_call 182; (with_reducible refine Calls.cF (reduceC (by omega)) ?_); intros))
    refine rgn [w.heap.size + 1 + 1] [] fun hHeld => ?_
    refine tk 0 hHeld ?_
    refine tk 3 hHeld ?_
    refine tk 6 hHeld ?_
    refine tk 9 hHeld ?_
    refine st 1 fun K hK => ?_
    go_simp
    (with_reducible refine Calls.cZn (rNumC (by omega)) ?_); intros
    refine hd hK ?_
    clear hHeld hK K
    intro hHeld
    refine tk 2 hHeld ?_
    refine st 4 fun K hK => ?_
    go_simp
    (with_reducible refine Calls.cN (rDenC (by omega)) ?_); intros
    refine hd hK ?_
    clear hHeld hK K
    intro hHeld
    refine st 5 fun K hK => ?_
    go_simp
    (with_reducible refine Calls.cN (mulC (by omega)) ?_); intros
    refine hd hK ?_
    clear hHeld hK K
    intro hHeld
    refine st 7 fun K hK => ?_
    go_simp
    (with_reducible refine Calls.cZn (rNumC (by omega)) ?_); intros
    refine hd hK ?_
    clear hHeld hK K
    intro hHeld
    refine tk 8 hHeld ?_
    refine st 10 fun K hK => ?_
    go_simp
    (with_reducible refine Calls.cN (rDenC (by omega)) ?_); intros
    refine hd hK ?_
    clear hHeld hK K
    intro hHeld
    refine st 11 fun K hK => ?_
    go_simp
    (with_reducible refine Calls.cN (mulC (by omega)) ?_); intros
    refine hd hK ?_
    clear hHeld hK K
    intro hHeld
    refine st 12 fun K hK => ?_
    go_simp
    (with_reducible refine Calls.cN (gcdC (by omega)) ?_); intros
    refine hd hK ?_
    clear hHeld hK K
    intro hHeld
    refine tk 13 hHeld ?_
    refine dn ?_
    clear hHeld
    go_wp2_with (first
        | (go_at_call 182; (with_reducible refine Calls.cF (reduceC (by omega)) ?_); intros))
    refine ret_bx rfl Tryz.underlying147 rfl (by kernel_rfl) rfl rfl rfl ?_
    exact CFRet.fin HE.out (by omega)

theorem rCmpV {w : World} {v : Int} {n1 d1 n2 d2 : Int} {p1 p2 : Option Addr} {x y : Rat} {k1 k2 : Nat} [h1 : CF w (.agg #[.int .i64 n1, .int .i64 d1, .pointer p1]) x k1] [h2 : CF w (.agg #[.int .i64 n2, .int .i64 d2, .pointer p2]) y k2] (b : k1 ≤ 100000 ∧ k2 ≤ 100000) (hv : Hid (isgn (x - y).num = v)) :
    Calls Tryz.prog 204 #[.agg #[.int .i64 n1, .int .i64 d1, .pointer p1], .agg #[.int .i64 n2, .int .i64 d2, .pointer p2]] w (fun e w' => e = .returned (.int .i64 v) ∧ Below w.heap.size w w') := by
  rw [← hv.out]; exact rCmpC b
theorem numCV {w : World} {v : Int} {g1 g2 : Bool} {a1 aa1 a2 aa2 : Option Addr} {l1 c1 ll1 cc1 l2 c2 ll2 cc2 k1 k2 : Nat} {x y : Rat} [h1 : CQ w (.agg #[.bool g1, .slice a1 l1 c1, .slice aa1 ll1 cc1]) x k1] [h2 : CQ w (.agg #[.bool g2, .slice a2 l2 c2, .slice aa2 ll2 cc2]) y k2] (b : k1 ≤ 10000 ∧ k2 ≤ 10000) (hv : Hid (isgn (x - y).num = v)) :
    Calls Tryz.prog 78 #[.agg #[.bool g1, .slice a1 l1 c1, .slice aa1 ll1 cc1], .agg #[.bool g2, .slice a2 l2 c2, .slice aa2 ll2 cc2]] w (fun e w' => e = .returned (.int .i64 v) ∧ Below w.heap.size w w') := by
  rw [← hv.out]; exact numCC (by omega)
end Go.Proofs.YtdlnoeegboapkaaGreatDoor

/- Points and vectors of small integers off the tape; whether two points are the same. printed by a small program (mktv.py). -/
namespace Go.Proofs.YtdlnoeegboapkaaGreatDoor
open Go.RowKit
set_option maxRecDepth 100000
set_option maxHeartbeats 40000000
set_option synthInstance.maxSize 100000
set_option synthInstance.maxHeartbeats 1000000

theorem isgn_dec {x y : Rat} : (isgn (x - y).num == 0) = decide (x = y) := by
  rw [Bool.eq_iff_iff, beq_iff_eq, decide_eq_true_eq]
  rw [isg_zero]
  constructor
  · intro h; grind
  · rintro rfl; grind
theorem refSameC {w : World} {g1x g1y g2x g2y : Bool} {a1x aa1x a1y aa1y a2x aa2x a2y aa2y : Option Addr} {l1x c1x ll1x cc1x l1y c1y ll1y cc1y l2x c2x ll2x cc2x l2y c2y ll2y cc2y k1x k1y k2x k2y : Nat} {x1 y1 x2 y2 : Rat} [h1x : CQ w (.agg #[.bool g1x, .slice a1x l1x c1x, .slice aa1x ll1x cc1x]) x1 k1x] [h1y : CQ w (.agg #[.bool g1y, .slice a1y l1y c1y, .slice aa1y ll1y cc1y]) y1 k1y] [h2x : CQ w (.agg #[.bool g2x, .slice a2x l2x c2x, .slice aa2x ll2x cc2x]) x2 k2x] [h2y : CQ w (.agg #[.bool g2y, .slice a2y l2y c2y, .slice aa2y ll2y cc2y]) y2 k2y] (b : k1x ≤ 9000 ∧ k1y ≤ 9000 ∧ k2x ≤ 9000 ∧ k2y ≤ 9000) :
    Calls Tryz.prog 83 #[.agg #[.bool g1x, .slice a1x l1x c1x, .slice aa1x ll1x cc1x, .bool g1y, .slice a1y l1y c1y, .slice aa1y ll1y cc1y], .agg #[.bool g2x, .slice a2x l2x c2x, .slice aa2x ll2x cc2x, .bool g2y, .slice a2y l2y c2y, .slice aa2y ll2y cc2y]] w (fun e w' => e = .returned (.bool (decide (x1 = x2) && decide (y1 = y2))) ∧ Below w.heap.size w w') := by
  have HX := Lib.hid (@isgn_dec x1 x2)
  have HY := Lib.hid (@isgn_dec y1 y2)
  obtain ⟨c, hc⟩ : ∃ c, isgn (x1 - x2).num = c := ⟨_, rfl⟩
  obtain ⟨d, hd⟩ : ∃ d, isgn (y1 - y2).num = d := ⟨_, rfl⟩
  rw [hc] at HX
  rw [hd] at HY
  have HC := Lib.hid hc
  have HD := Lib.hid hd
  clear hc hd
  by_cases h : c = 0
  · subst h
    go_enter Tryz.func83, Tryz.ntmps83
    go_wp2_with (first
      | (go_at_call 78; (with_reducible refine Calls.cE (numCV (by omega) HC) ?_); intros)
      | (go_at_call 78; (with_reducible refine Calls.cE (numCV (by omega) HD) ?_); intros))
    go_ret
    exact E.fin (by rw [← HX.out, ← HY.out]; simp)
  · have q : (c == 0) = false := by rw [beq_eq_false_iff_ne]; exact h
    clear h
    go_enter Tryz.func83, Tryz.ntmps83
    go_wp2_with (first
      | (go_at_call 78; (with_reducible refine Calls.cE (numCV (by omega) HC) ?_); intros)
      | (go_at_call 78; (with_reducible refine Calls.cE (numCV (by omega) HD) ?_); intros))
    go_ret
    exact E.fin (by rw [← HX.out, q]; rfl)

theorem ptEqualC {w : World} {n1x d1x n1y d1y n2x d2x n2y d2y : Int} {p1x p1y p2x p2y : Option Addr} {x1 y1 x2 y2 : Rat} {k1x k1y k2x k2y : Nat} [h1x : CF w (.agg #[.int .i64 n1x, .int .i64 d1x, .pointer p1x]) x1 k1x] [h1y : CF w (.agg #[.int .i64 n1y, .int .i64 d1y, .pointer p1y]) y1 k1y] [h2x : CF w (.agg #[.int .i64 n2x, .int .i64 d2x, .pointer p2x]) x2 k2x] [h2y : CF w (.agg #[.int .i64 n2y, .int .i64 d2y, .pointer p2y]) y2 k2y] (b : k1x ≤ 20000 ∧ k1y ≤ 20000 ∧ k2x ≤ 20000 ∧ k2y ≤ 20000) :
    Calls Tryz.prog 108 #[.agg #[.int .i64 n1x, .int .i64 d1x, .pointer p1x, .int .i64 n1y, .int .i64 d1y, .pointer p1y], .agg #[.int .i64 n2x, .int .i64 d2x, .pointer p2x, .int .i64 n2y, .int .i64 d2y, .pointer p2y]] w (fun e w' => e = .returned (.bool (decide (x1 = x2) && decide (y1 = y2))) ∧ Below w.heap.size w w') := by
  by_cases h : x1 = x2
  · have hd : decide (x1 = x2) = true := decide_eq_true h
    have HD := Lib.hid hd
    clear h
    go_enter Tryz.func108, Tryz.ntmps108
    go_wp2_with (first
    | (go_at_call 167; (with_reducible refine Calls.cE (rEqualC (by omega)) ?_); intros))
    go_ret
    exact E.fin (by rw [HD.out, Bool.true_and]; rfl)
  · have hd : decide (x1 = x2) = false := decide_eq_false h
    have HD := Lib.hid hd
    clear h
    go_enter Tryz.func108, Tryz.ntmps108
    go_wp2_with (first
    | (go_at_call 167; (with_reducible refine Calls.cE (rEqualC (by omega)) ?_); intros))
    go_ret
    exact E.fin (by rw [HD.out, Bool.false_and]; rfl)

theorem refXyC {w : World} {m n : Int} (b : (-9223372036854775808 ≤ m ∧ m < 9223372036854775808) ∧ -9223372036854775808 ≤ n ∧ n < 9223372036854775808) :
    Calls Tryz.prog 22 #[.int .i64 m, .int .i64 n] w (CPQRet w (m : Rat) (n : Rat) 4) := by
  go_enter Tryz.func22, Tryz.ntmps22
  go_wp2_with (first
    | (go_at_call 76; (with_reducible refine Calls.cQ (numOfC (by omega)) ?_); intros))
  refine ret_bx rfl Tryz.underlying47 rfl (by kernel_rfl) rfl rfl rfl ?_
  exact CPQRet.fin rfl (by omega) rfl (by omega)

/-- A point with integer coordinates is read off the tape. -/
def TPIRet (w : World) (t : Nat) (k : Nat) (e : Ending) (w' : World) : Prop := ∃ (g : Bool) (a : Option Addr) (l c : Nat) (aa : Option Addr) (ll cc : Nat) (g2 : Bool) (a2 : Option Addr) (l2 c2 : Nat) (aa2 : Option Addr) (ll2 cc2 : Nat) (m n : Int), e = .returned (.agg #[.bool g, .slice a l c, .slice aa ll cc, .bool g2, .slice a2 l2 c2, .slice aa2 ll2 cc2]) ∧ CQ w' (.agg #[.bool g, .slice a l c, .slice aa ll cc]) ((m : Int) : Rat) k ∧ CQ w' (.agg #[.bool g2, .slice a2 l2 c2, .slice aa2 ll2 cc2]) ((n : Int) : Rat) k ∧ (-4 ≤ m ∧ m ≤ 4 ∧ -4 ≤ n ∧ n ≤ 4) ∧ Ct w' t ∧ Gb w w' t
theorem Calls.cTPI {P : Program} {f : FuncId} {args : Array Value} {w : World} {t k : Nat} {K : Ending → World → Prop} [ht : Ct w t] (h : Calls P f args w (TPIRet w t k))
    (hK : ∀ w' [Tp1 w w' t] [Ct w' t] (g : Bool) (a : Option Addr) (l c : Nat) (aa : Option Addr) (ll cc : Nat) (g2 : Bool) (a2 : Option Addr) (l2 c2 : Nat) (aa2 : Option Addr) (ll2 cc2 : Nat) (m n : Int) [CQ w' (.agg #[.bool g, .slice a l c, .slice aa ll cc]) ((m : Int) : Rat) k] [CQ w' (.agg #[.bool g2, .slice a2 l2 c2, .slice aa2 ll2 cc2]) ((n : Int) : Rat) k], Hid (-4 ≤ m ∧ m ≤ 4 ∧ -4 ≤ n ∧ n ≤ 4) → K (.returned (.agg #[.bool g, .slice a l c, .slice aa ll cc, .bool g2, .slice a2 l2 c2, .slice aa2 ll2 cc2])) w') : Calls P f args w K := by
  refine h.mono ?_
  rintro e w' ⟨g, a, l, c, aa, ll, cc, g2, a2, l2, c2, aa2, ll2, cc2, m, n, rfl, hx, hy, hz, hc, hb⟩
  exact @hK w' ⟨hb.out, ht.out⟩ hc g a l c aa ll cc g2 a2 l2 c2 aa2 ll2 cc2 m n hx hy hz
theorem tapePI {w : World} {t : Nat} [ht : Ct w t] : Calls Tryz.prog 79 #[.pointer (some ⟨t, 0, none⟩)] w (TPIRet w t 4) := by
  go_enter Tryz.func79, Tryz.ntmps79
  go_wp2_with fail
  with_reducible refine Calls.cNext (nextC (by omega)) ?_
  intro W1 _ _ m m1 m2
  have e1 : IntKind.i64.wrap (m - 4) = m - 4 := by rw [IntKind.wrap_i64]; omega
  go_wp2_with fail
  with_reducible refine Calls.cNext (nextC (by omega)) ?_
  intro W2 _ _ n n1 n2
  have e2 : IntKind.i64.wrap (n - 4) = n - 4 := by rw [IntKind.wrap_i64]; omega
  go_wp2_with (first
    | (go_at_call 22; (with_reducible refine Calls.cPQ (refXyC (by omega)) ?_); intros))
  refine ret_bx rfl Tryz.underlying47 rfl (by kernel_rfl) rfl rfl rfl ?_
  exact ⟨_, _, _, _, _, _, _, _, _, _, _, _, _, _, _, _, rfl, inferInstance, inferInstance, ⟨by omega, by omega, by omega, by omega⟩, inferInstance, inferInstance⟩

/-- A vector other than 0 with integer coordinates is read off the tape. -/
def TVIRet (w : World) (t : Nat) (k : Nat) (e : Ending) (w' : World) : Prop := ∃ (g : Bool) (a : Option Addr) (l c : Nat) (aa : Option Addr) (ll cc : Nat) (g2 : Bool) (a2 : Option Addr) (l2 c2 : Nat) (aa2 : Option Addr) (ll2 cc2 : Nat) (m n : Int), e = .returned (.agg #[.bool g, .slice a l c, .slice aa ll cc, .bool g2, .slice a2 l2 c2, .slice aa2 ll2 cc2]) ∧ CQ w' (.agg #[.bool g, .slice a l c, .slice aa ll cc]) ((m : Int) : Rat) k ∧ CQ w' (.agg #[.bool g2, .slice a2 l2 c2, .slice aa2 ll2 cc2]) ((n : Int) : Rat) k ∧ (-4 ≤ m ∧ m ≤ 4 ∧ -4 ≤ n ∧ n ≤ 4 ∧ ¬ (m = 0 ∧ n = 0)) ∧ Ct w' t ∧ Gb w w' t
theorem Calls.cTVI {P : Program} {f : FuncId} {args : Array Value} {w : World} {t k : Nat} {K : Ending → World → Prop} [ht : Ct w t] (h : Calls P f args w (TVIRet w t k))
    (hK : ∀ w' [Tp1 w w' t] [Ct w' t] (g : Bool) (a : Option Addr) (l c : Nat) (aa : Option Addr) (ll cc : Nat) (g2 : Bool) (a2 : Option Addr) (l2 c2 : Nat) (aa2 : Option Addr) (ll2 cc2 : Nat) (m n : Int) [CQ w' (.agg #[.bool g, .slice a l c, .slice aa ll cc]) ((m : Int) : Rat) k] [CQ w' (.agg #[.bool g2, .slice a2 l2 c2, .slice aa2 ll2 cc2]) ((n : Int) : Rat) k], Hid (-4 ≤ m ∧ m ≤ 4 ∧ -4 ≤ n ∧ n ≤ 4 ∧ ¬ (m = 0 ∧ n = 0)) → K (.returned (.agg #[.bool g, .slice a l c, .slice aa ll cc, .bool g2, .slice a2 l2 c2, .slice aa2 ll2 cc2])) w') : Calls P f args w K := by
  refine h.mono ?_
  rintro e w' ⟨g, a, l, c, aa, ll, cc, g2, a2, l2, c2, aa2, ll2, cc2, m, n, rfl, hx, hy, hz, hc, hb⟩
  exact @hK w' ⟨hb.out, ht.out⟩ hc g a l c aa ll cc g2 a2 l2 c2 aa2 ll2 cc2 m n hx hy hz
theorem refSameV {w : World} {v : Bool} {g1x g1y g2x g2y : Bool} {a1x aa1x a1y aa1y a2x aa2x a2y aa2y : Option Addr} {l1x c1x ll1x cc1x l1y c1y ll1y cc1y l2x c2x ll2x cc2x l2y c2y ll2y cc2y k1x k1y k2x k2y : Nat} {x1 y1 x2 y2 : Rat} [h1x : CQ w (.agg #[.bool g1x, .slice a1x l1x c1x, .slice aa1x ll1x cc1x]) x1 k1x] [h1y : CQ w (.agg #[.bool g1y, .slice a1y l1y c1y, .slice aa1y ll1y cc1y]) y1 k1y] [h2x : CQ w (.agg #[.bool g2x, .slice a2x l2x c2x, .slice aa2x ll2x cc2x]) x2 k2x] [h2y : CQ w (.agg #[.bool g2y, .slice a2y l2y c2y, .slice aa2y ll2y cc2y]) y2 k2y] (b : k1x ≤ 9000 ∧ k1y ≤ 9000 ∧ k2x ≤ 9000 ∧ k2y ≤ 9000) (hv : Hid ((decide (x1 = x2) && decide (y1 = y2)) = v)) :
    Calls Tryz.prog 83 #[.agg #[.bool g1x, .slice a1x l1x c1x, .slice aa1x ll1x cc1x, .bool g1y, .slice a1y l1y c1y, .slice aa1y ll1y cc1y], .agg #[.bool g2x, .slice a2x l2x c2x, .slice aa2x ll2x cc2x, .bool g2y, .slice a2y l2y c2y, .slice aa2y ll2y cc2y]] w (fun e w' => e = .returned (.bool v) ∧ Below w.heap.size w w') := by
  rw [← hv.out]; exact refSameC b
theorem tapeVI {w : World} {t : Nat} [ht : Ct w t] : Calls Tryz.prog 80 #[.pointer (some ⟨t, 0, none⟩)] w (TVIRet w t 4) := by
  go_enter Tryz.func80, Tryz.ntmps80
  go_wp2_with fail
  with_reducible refine Calls.cTPI tapePI ?_
  intro W1 _ _ g a l c aa ll cc g2 a2 l2 c2 aa2 ll2 cc2 m n _ _ hmn
  obtain ⟨v, hv⟩ : ∃ v, (decide (((m : Int) : Rat) = ((0 : Int) : Rat)) && decide (((n : Int) : Rat) = ((0 : Int) : Rat))) = v := ⟨_, rfl⟩
  have HV := Lib.hid hv
  clear hv
  cases v with
  | true =>
    go_wp2_with (first
      | (go_at_call 83; (with_reducible refine Calls.cE (refSameV (by omega) HV) ?_); intros)
      | (go_at_call 22; (with_reducible refine Calls.cPQ (refXyC (by omega)) ?_); intros))
    refine ret_bx rfl Tryz.underlying47 rfl (by kernel_rfl) rfl rfl rfl ?_
    exact ⟨_, _, _, _, _, _, _, _, _, _, _, _, _, _, 1, 0, rfl, inferInstance, inferInstance, ⟨by omega, by omega, by omega, by omega, by omega⟩, inferInstance, inferInstance⟩
  | false =>
    have hz : ¬ (m = 0 ∧ n = 0) := fun h => by have := HV.out; rw [h.1, h.2] at this; revert this; decide +kernel
    have HZ := Lib.hid hz
    clear hz
    go_wp2_with (first
      | (go_at_call 83; (with_reducible refine Calls.cE (refSameV (by omega) HV) ?_); intros))
    refine ret_bx rfl Tryz.underlying47 rfl (by kernel_rfl) rfl rfl rfl ?_
    exact ⟨_, _, _, _, _, _, _, _, _, _, _, _, _, _, _, _, rfl, inferInstance, inferInstance, ⟨hmn.out.1, hmn.out.2.1, hmn.out.2.2.1, hmn.out.2.2.2, HZ.out⟩, inferInstance, inferInstance⟩
end Go.Proofs.YtdlnoeegboapkaaGreatDoor
