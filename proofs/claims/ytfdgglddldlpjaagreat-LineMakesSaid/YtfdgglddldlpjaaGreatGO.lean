/-
  Texts of this claim, joined: Line, Lnp, Lnq, Nrm, Inv.
-/
import Derived.Test.YtfdgglddldlpjaaGreatGM
import Derived.Test.YtfdgglddldlpjaaGreatGN
import Derived.Test.YtfdgglddldlpjaaGreatGE
import Derived.Test.YtfdgglddldlpjaaGreatGI
/- Lines of package geo: contracts. printed by a small program (mkline.py). -/
namespace Go.Proofs.YtfdgglddldlpjaaGreat
open Go.RowKit
set_option maxRecDepth 100000
set_option maxHeartbeats 40000000
set_option synthInstance.maxSize 100000
set_option synthInstance.maxHeartbeats 1000000
set_option linter.unusedVariables false

theorem turnC {w : World} {n1x d1x n1y d1y : Int} {p1x p1y : Option Addr} {x y : Rat} {k1x k1y : Nat} [h1x : CF w (.agg #[.int .i64 n1x, .int .i64 d1x, .pointer p1x]) x k1x] [h1y : CF w (.agg #[.int .i64 n1y, .int .i64 d1y, .pointer p1y]) y k1y] (b : k1x ≤ 400000 ∧ k1y ≤ 400000) :
    Calls Tryz.prog 126 #[.agg #[.int .i64 n1x, .int .i64 d1x, .pointer p1x, .int .i64 n1y, .int .i64 d1y, .pointer p1y]] w (CPFRet w (-y) (x) (k1x + k1y)) := by
  go_enter Tryz.func126, Tryz.ntmps126
  go_wp2_with fail
  refine rgn [w.heap.size + 1] [] fun hHeld => ?_
  refine tk 0 hHeld ?_
  refine tk 1 hHeld ?_
  refine tk 3 hHeld ?_
  refine tk 4 hHeld ?_
  refine st 2 fun K hK => ?_
  go_simp
  (with_reducible refine Calls.cF (rNegC (by omega)) ?_); intros
  refine hd hK ?_
  clear hHeld hK K
  intro hHeld
  refine tk 5 hHeld ?_
  refine st 6 fun K hK => ?_
  go_simp
  refine hd hK ?_
  clear hHeld hK K
  intro hHeld
  refine dn ?_
  clear hHeld
  go_wp2
  refine ret_bx rfl Tryz.underlying108 rfl (by kernel_rfl) rfl rfl rfl ?_
  exact CPFRet.fin rfl (by omega) rfl (by omega)

theorem lnNormalC {w : World} {n1x d1x n1y d1y n1z d1z : Int} {p1x p1y p1z : Option Addr} {la lb lc : Rat} {k1x k1y k1z : Nat} [h1x : CF w (.agg #[.int .i64 n1x, .int .i64 d1x, .pointer p1x]) la k1x] [h1y : CF w (.agg #[.int .i64 n1y, .int .i64 d1y, .pointer p1y]) lb k1y] [h1z : CF w (.agg #[.int .i64 n1z, .int .i64 d1z, .pointer p1z]) lc k1z] (b : k1x ≤ 400000 ∧ k1y ≤ 400000 ∧ k1z ≤ 400000) :
    Calls Tryz.prog 79 #[.agg #[.int .i64 n1x, .int .i64 d1x, .pointer p1x, .int .i64 n1y, .int .i64 d1y, .pointer p1y, .int .i64 n1z, .int .i64 d1z, .pointer p1z]] w (CPFRet w (la) (lb) (max k1x k1y)) := by
  go_enter Tryz.func79, Tryz.ntmps79
  go_wp2
  refine ret_bx rfl Tryz.underlying108 rfl (by kernel_rfl) rfl rfl rfl ?_
  exact CPFRet.fin rfl (by omega) rfl (by omega)

theorem lnDirC {w : World} {n1x d1x n1y d1y n1z d1z : Int} {p1x p1y p1z : Option Addr} {la lb lc : Rat} {k1x k1y k1z : Nat} [h1x : CF w (.agg #[.int .i64 n1x, .int .i64 d1x, .pointer p1x]) la k1x] [h1y : CF w (.agg #[.int .i64 n1y, .int .i64 d1y, .pointer p1y]) lb k1y] [h1z : CF w (.agg #[.int .i64 n1z, .int .i64 d1z, .pointer p1z]) lc k1z] (b : k1x ≤ 400000 ∧ k1y ≤ 400000 ∧ k1z ≤ 400000) :
    Calls Tryz.prog 101 #[.agg #[.int .i64 n1x, .int .i64 d1x, .pointer p1x, .int .i64 n1y, .int .i64 d1y, .pointer p1y, .int .i64 n1z, .int .i64 d1z, .pointer p1z]] w (CPFRet w (lb) (-la) (max k1x k1y)) := by
  go_enter Tryz.func101, Tryz.ntmps101
  go_wp2_with fail
  refine rgn [w.heap.size + 1] [] fun hHeld => ?_
  refine tk 0 hHeld ?_
  refine tk 1 hHeld ?_
  refine tk 2 hHeld ?_
  refine tk 3 hHeld ?_
  refine st 4 fun K hK => ?_
  go_simp
  (with_reducible refine Calls.cF (rNegC (by omega)) ?_); intros
  refine hd hK ?_
  clear hHeld hK K
  intro hHeld
  refine tk 5 hHeld ?_
  refine st 6 fun K hK => ?_
  go_simp
  refine hd hK ?_
  clear hHeld hK K
  intro hHeld
  refine dn ?_
  clear hHeld
  go_wp2
  refine ret_bx rfl Tryz.underlying108 rfl (by kernel_rfl) rfl rfl rfl ?_
  exact CPFRet.fin rfl (by omega) rfl (by omega)

theorem lnReverseC {w : World} {n1x d1x n1y d1y n1z d1z : Int} {p1x p1y p1z : Option Addr} {la lb lc : Rat} {k1x k1y k1z : Nat} [h1x : CF w (.agg #[.int .i64 n1x, .int .i64 d1x, .pointer p1x]) la k1x] [h1y : CF w (.agg #[.int .i64 n1y, .int .i64 d1y, .pointer p1y]) lb k1y] [h1z : CF w (.agg #[.int .i64 n1z, .int .i64 d1z, .pointer p1z]) lc k1z] (b : k1x ≤ 400000 ∧ k1y ≤ 400000 ∧ k1z ≤ 400000) :
    Calls Tryz.prog 75 #[.agg #[.int .i64 n1x, .int .i64 d1x, .pointer p1x, .int .i64 n1y, .int .i64 d1y, .pointer p1y, .int .i64 n1z, .int .i64 d1z, .pointer p1z]] w (CLFRet w (-la) (-lb) (-lc) (max k1x (max k1y k1z) + 5)) := by
  go_enter Tryz.func75, Tryz.ntmps75
  go_wp2_with fail
  refine rgn [w.heap.size + 1] [] fun hHeld => ?_
  refine tk 0 hHeld ?_
  refine tk 1 hHeld ?_
  refine tk 3 hHeld ?_
  refine tk 4 hHeld ?_
  refine tk 6 hHeld ?_
  refine tk 7 hHeld ?_
  refine st 2 fun K hK => ?_
  go_simp
  (with_reducible refine Calls.cF (rNegC (by omega)) ?_); intros
  refine hd hK ?_
  clear hHeld hK K
  intro hHeld
  refine st 5 fun K hK => ?_
  go_simp
  (with_reducible refine Calls.cF (rNegC (by omega)) ?_); intros
  refine hd hK ?_
  clear hHeld hK K
  intro hHeld
  refine st 8 fun K hK => ?_
  go_simp
  (with_reducible refine Calls.cF (rNegC (by omega)) ?_); intros
  refine hd hK ?_
  clear hHeld hK K
  intro hHeld
  refine tk 9 hHeld ?_
  refine st 10 fun K hK => ?_
  go_simp
  refine hd hK ?_
  clear hHeld hK K
  intro hHeld
  refine dn ?_
  clear hHeld
  go_wp2
  refine ret_bx rfl Tryz.underlying94 rfl (by kernel_rfl) rfl rfl rfl ?_
  exact CLFRet.fin rfl (by omega) rfl (by omega) rfl (by omega)

theorem lnValueC {w : World} {n1x d1x n1y d1y n1z d1z n2x d2x n2y d2y : Int} {p1x p1y p1z p2x p2y : Option Addr} {la lb lc x y : Rat} {k1x k1y k1z k2x k2y : Nat} [h1x : CF w (.agg #[.int .i64 n1x, .int .i64 d1x, .pointer p1x]) la k1x] [h1y : CF w (.agg #[.int .i64 n1y, .int .i64 d1y, .pointer p1y]) lb k1y] [h1z : CF w (.agg #[.int .i64 n1z, .int .i64 d1z, .pointer p1z]) lc k1z] [h2x : CF w (.agg #[.int .i64 n2x, .int .i64 d2x, .pointer p2x]) x k2x] [h2y : CF w (.agg #[.int .i64 n2y, .int .i64 d2y, .pointer p2y]) y k2y] (b : k1x ≤ 10000 ∧ k1y ≤ 10000 ∧ k1z ≤ 10000 ∧ k2x ≤ 30000 ∧ k2y ≤ 30000) :
    Calls Tryz.prog 95 #[.agg #[.int .i64 n1x, .int .i64 d1x, .pointer p1x, .int .i64 n1y, .int .i64 d1y, .pointer p1y, .int .i64 n1z, .int .i64 d1z, .pointer p1z], .agg #[.int .i64 n2x, .int .i64 d2x, .pointer p2x, .int .i64 n2y, .int .i64 d2y, .pointer p2y]] w (CFRet w (la * x + lb * y + lc) (2 * (max k1x k1y) + k1z + k2x + k2y + 10)) := by
  go_enter Tryz.func95, Tryz.ntmps95
  go_wp2_with fail
  refine rgn [w.heap.size + 1 + 1] [] fun hHeld => ?_
  refine tk 0 hHeld ?_
  refine tk 2 hHeld ?_
  refine tk 4 hHeld ?_
  refine tk 5 hHeld ?_
  refine st 1 fun K hK => ?_
  go_simp
  (with_reducible refine Calls.cPF (lnNormalC (by omega)) ?_); intros
  refine hd hK ?_
  clear hHeld hK K
  intro hHeld
  refine st 3 fun K hK => ?_
  go_simp
  (with_reducible refine Calls.cF (gDotC (by omega)) ?_); intros
  refine hd hK ?_
  clear hHeld hK K
  intro hHeld
  refine st 6 fun K hK => ?_
  go_simp
  (with_reducible refine Calls.cF (rAddC (by omega)) ?_); intros
  refine hd hK ?_
  clear hHeld hK K
  intro hHeld
  refine st 7 fun K hK => ?_
  go_simp
  refine hd hK ?_
  clear hHeld hK K
  intro hHeld
  refine dn ?_
  clear hHeld
  go_wp2
  refine ret_bx rfl Tryz.underlying92 rfl (by kernel_rfl) rfl rfl rfl ?_
  exact CFRet.fin rfl (by omega)

theorem lnSideC {w : World} {n1x d1x n1y d1y n1z d1z n2x d2x n2y d2y : Int} {p1x p1y p1z p2x p2y : Option Addr} {la lb lc x y : Rat} {k1x k1y k1z k2x k2y : Nat} [h1x : CF w (.agg #[.int .i64 n1x, .int .i64 d1x, .pointer p1x]) la k1x] [h1y : CF w (.agg #[.int .i64 n1y, .int .i64 d1y, .pointer p1y]) lb k1y] [h1z : CF w (.agg #[.int .i64 n1z, .int .i64 d1z, .pointer p1z]) lc k1z] [h2x : CF w (.agg #[.int .i64 n2x, .int .i64 d2x, .pointer p2x]) x k2x] [h2y : CF w (.agg #[.int .i64 n2y, .int .i64 d2y, .pointer p2y]) y k2y] (b : k1x ≤ 10000 ∧ k1y ≤ 10000 ∧ k1z ≤ 10000 ∧ k2x ≤ 30000 ∧ k2y ≤ 30000) :
    Calls Tryz.prog 84 #[.agg #[.int .i64 n1x, .int .i64 d1x, .pointer p1x, .int .i64 n1y, .int .i64 d1y, .pointer p1y, .int .i64 n1z, .int .i64 d1z, .pointer p1z], .agg #[.int .i64 n2x, .int .i64 d2x, .pointer p2x, .int .i64 n2y, .int .i64 d2y, .pointer p2y]] w (fun e w' => e = .returned (.int .i64 (isgn (la * x + lb * y + lc).num)) ∧ Below w.heap.size w w') := by
  go_enter Tryz.func84, Tryz.ntmps84
  go_wp2_with (first
    | (go_at_call 95; (with_reducible refine Calls.cF (lnValueC (by omega)) ?_); intros)
    | (go_at_call 140; (with_reducible refine Calls.cE (rSignC (by omega)) ?_); intros))
  go_ret
  exact E.fin rfl

theorem lnBaseC {w : World} {n1x d1x n1y d1y n1z d1z : Int} {p1x p1y p1z : Option Addr} {la lb lc : Rat} {k1x k1y k1z : Nat} [h1x : CF w (.agg #[.int .i64 n1x, .int .i64 d1x, .pointer p1x]) la k1x] [h1y : CF w (.agg #[.int .i64 n1y, .int .i64 d1y, .pointer p1y]) lb k1y] [h1z : CF w (.agg #[.int .i64 n1z, .int .i64 d1z, .pointer p1z]) lc k1z] (b : k1x ≤ 9000 ∧ k1y ≤ 9000 ∧ k1z ≤ 9000) :
    Calls Tryz.prog 141 #[.agg #[.int .i64 n1x, .int .i64 d1x, .pointer p1x, .int .i64 n1y, .int .i64 d1y, .pointer p1y, .int .i64 n1z, .int .i64 d1z, .pointer p1z]] w (CPFRet w (la * (-lc / (la * la + lb * lb))) (lb * (-lc / (la * la + lb * lb))) (5 * (max k1x k1y) + k1z + 20)) := by
  go_enter Tryz.func141, Tryz.ntmps141
  go_wp2_with (first
    | (go_at_call 79; (with_reducible refine Calls.cPF (lnNormalC (by omega)) ?_); intros))
  refine rgn [w.heap.size + 1] [] fun hHeld => ?_
  refine tk 0 hHeld ?_
  refine tk 1 hHeld ?_
  refine tk 2 hHeld ?_
  refine tk 4 hHeld ?_
  refine tk 5 hHeld ?_
  refine st 3 fun K hK => ?_
  go_simp
  (with_reducible refine Calls.cF (rNegC (by omega)) ?_); intros
  refine hd hK ?_
  clear hHeld hK K
  intro hHeld
  refine st 6 fun K hK => ?_
  go_simp
  (with_reducible refine Calls.cF (gDotC (by omega)) ?_); intros
  refine hd hK ?_
  clear hHeld hK K
  intro hHeld
  refine st 7 fun K hK => ?_
  go_simp
  (with_reducible refine Calls.cF (rQuoC (by omega)) ?_); intros
  refine hd hK ?_
  clear hHeld hK K
  intro hHeld
  refine st 8 fun K hK => ?_
  go_simp
  (with_reducible refine Calls.cPF (ptScaleC (by omega)) ?_); intros
  refine hd hK ?_
  clear hHeld hK K
  intro hHeld
  refine st 9 fun K hK => ?_
  go_simp
  refine hd hK ?_
  clear hHeld hK K
  intro hHeld
  refine dn ?_
  clear hHeld
  go_wp2
  refine ret_bx rfl Tryz.underlying108 rfl (by kernel_rfl) rfl rfl rfl ?_
  exact CPFRet.fin rfl (by omega) rfl (by omega)

theorem lnAtC {w : World} {n1x d1x n1y d1y n1z d1z n2 d2 : Int} {p1x p1y p1z p2 : Option Addr} {la lb lc t : Rat} {k1x k1y k1z k2 : Nat} [h1x : CF w (.agg #[.int .i64 n1x, .int .i64 d1x, .pointer p1x]) la k1x] [h1y : CF w (.agg #[.int .i64 n1y, .int .i64 d1y, .pointer p1y]) lb k1y] [h1z : CF w (.agg #[.int .i64 n1z, .int .i64 d1z, .pointer p1z]) lc k1z] [h2 : CF w (.agg #[.int .i64 n2, .int .i64 d2, .pointer p2]) t k2] (b : k1x ≤ 8000 ∧ k1y ≤ 8000 ∧ k1z ≤ 8000 ∧ k2 ≤ 8000) :
    Calls Tryz.prog 89 #[.agg #[.int .i64 n1x, .int .i64 d1x, .pointer p1x, .int .i64 n1y, .int .i64 d1y, .pointer p1y, .int .i64 n1z, .int .i64 d1z, .pointer p1z], .agg #[.int .i64 n2, .int .i64 d2, .pointer p2]] w (CPFRet w (la * (-lc / (la * la + lb * lb)) + lb * t) (lb * (-lc / (la * la + lb * lb)) + -la * t) (6 * (max k1x k1y) + k1z + k2 + 30)) := by
  go_enter Tryz.func89, Tryz.ntmps89
  go_wp2_with fail
  refine rgn [w.heap.size + 1 + 1] [] fun hHeld => ?_
  refine tk 0 hHeld ?_
  refine tk 2 hHeld ?_
  refine tk 4 hHeld ?_
  refine st 1 fun K hK => ?_
  go_simp
  (with_reducible refine Calls.cPF (lnBaseC (by omega)) ?_); intros
  refine hd hK ?_
  clear hHeld hK K
  intro hHeld
  refine st 3 fun K hK => ?_
  go_simp
  (with_reducible refine Calls.cPF (lnDirC (by omega)) ?_); intros
  refine hd hK ?_
  clear hHeld hK K
  intro hHeld
  refine st 5 fun K hK => ?_
  go_simp
  (with_reducible refine Calls.cPF (ptScaleC (by omega)) ?_); intros
  refine hd hK ?_
  clear hHeld hK K
  intro hHeld
  refine st 6 fun K hK => ?_
  go_simp
  (with_reducible refine Calls.cPF (ptAddC (by omega)) ?_); intros
  refine hd hK ?_
  clear hHeld hK K
  intro hHeld
  refine st 7 fun K hK => ?_
  go_simp
  refine hd hK ?_
  clear hHeld hK K
  intro hHeld
  refine dn ?_
  clear hHeld
  go_wp2
  refine ret_bx rfl Tryz.underlying108 rfl (by kernel_rfl) rfl rfl rfl ?_
  exact CPFRet.fin rfl (by omega) rfl (by omega)

theorem lnParamC {w : World} {n1x d1x n1y d1y n1z d1z n2x d2x n2y d2y : Int} {p1x p1y p1z p2x p2y : Option Addr} {la lb lc x y : Rat} {k1x k1y k1z k2x k2y : Nat} [h1x : CF w (.agg #[.int .i64 n1x, .int .i64 d1x, .pointer p1x]) la k1x] [h1y : CF w (.agg #[.int .i64 n1y, .int .i64 d1y, .pointer p1y]) lb k1y] [h1z : CF w (.agg #[.int .i64 n1z, .int .i64 d1z, .pointer p1z]) lc k1z] [h2x : CF w (.agg #[.int .i64 n2x, .int .i64 d2x, .pointer p2x]) x k2x] [h2y : CF w (.agg #[.int .i64 n2y, .int .i64 d2y, .pointer p2y]) y k2y] (b : k1x ≤ 8000 ∧ k1y ≤ 8000 ∧ k1z ≤ 8000 ∧ k2x ≤ 8000 ∧ k2y ≤ 8000) :
    Calls Tryz.prog 99 #[.agg #[.int .i64 n1x, .int .i64 d1x, .pointer p1x, .int .i64 n1y, .int .i64 d1y, .pointer p1y, .int .i64 n1z, .int .i64 d1z, .pointer p1z], .agg #[.int .i64 n2x, .int .i64 d2x, .pointer p2x, .int .i64 n2y, .int .i64 d2y, .pointer p2y]] w (CFRet w ((lb * x + -la * y) / (lb * lb + -la * -la)) (6 * (max k1x k1y) + k2x + k2y + 30)) := by
  go_enter Tryz.func99, Tryz.ntmps99
  go_wp2_with (first
    | (go_at_call 101; (with_reducible refine Calls.cPF (lnDirC (by omega)) ?_); intros))
  refine rgn [w.heap.size + 1 + 1] [] fun hHeld => ?_
  refine tk 0 hHeld ?_
  refine tk 1 hHeld ?_
  refine tk 3 hHeld ?_
  refine tk 4 hHeld ?_
  refine st 2 fun K hK => ?_
  go_simp
  (with_reducible refine Calls.cF (gDotC (by omega)) ?_); intros
  refine hd hK ?_
  clear hHeld hK K
  intro hHeld
  refine st 5 fun K hK => ?_
  go_simp
  (with_reducible refine Calls.cF (gDotC (by omega)) ?_); intros
  refine hd hK ?_
  clear hHeld hK K
  intro hHeld
  refine st 6 fun K hK => ?_
  go_simp
  (with_reducible refine Calls.cF (rQuoC (by omega)) ?_); intros
  refine hd hK ?_
  clear hHeld hK K
  intro hHeld
  refine st 7 fun K hK => ?_
  go_simp
  refine hd hK ?_
  clear hHeld hK K
  intro hHeld
  refine dn ?_
  clear hHeld
  go_wp2
  refine ret_bx rfl Tryz.underlying92 rfl (by kernel_rfl) rfl rfl rfl ?_
  exact CFRet.fin rfl (by omega)

end Go.Proofs.YtfdgglddldlpjaaGreat

/- Plain laws: the coefficients of lines. No program is in sight here. -/
namespace Go.Proofs.YtfdgglddldlpjaaGreat
theorem rgcd_zero : rgcd 0 0 = 0 := by decide +kernel
/-- The greatest common divisor of multiples. -/
theorem rgcd_mul (x y : Rat) {t : Rat} (ht : 0 < t) : rgcd (x * t) (y * t) = rgcd x y * t := by
  by_cases h : x = 0 ∧ y = 0
  · obtain ⟨rfl, rfl⟩ := h
    rw [Rat.zero_mul, rgcd_zero, Rat.zero_mul]
  · have ht0 : t ≠ 0 := Rat.ne_of_gt ht
    have h' : ¬ (x * t = 0 ∧ y * t = 0) := by
      rintro ⟨h1, h2⟩
      exact h ⟨(Rat.mul_eq_zero.1 h1).resolve_right ht0, (Rat.mul_eq_zero.1 h2).resolve_right ht0⟩
    have p1 := rgcd_pos x y h
    have p2 := rgcd_pos _ _ h'
    have i1 := Rat.mul_inv_cancel _ (Rat.ne_of_gt p1)
    have i2 := Rat.mul_inv_cancel _ (Rat.ne_of_gt p2)
    have q1 := primX_mul x y
    have q2 := primX_mul y x
    have q3 := primX_mul (x * t) (y * t)
    have q4 := primX_mul (y * t) (x * t)
    rw [rgcd_comm] at q2 q4
    have hu := coprime_uniq (prim_gcd _ _ h') (prim_gcd x y h) (t := t * rgcd x y * (rgcd (x * t) (y * t))⁻¹) (mul_ps (mul_ps ht p1) (Rat.inv_pos.2 p2))
      (by rw [q3, q1]; grind) (by rw [q4, q2]; grind)
    rw [hu.1, q1] at q3
    rw [hu.2, q2] at q4
    generalize rgcd (x * t) (y * t) = g' at *
    generalize rgcd x y = g at *
    rcases Classical.em (x = 0) with hx | hx
    · have hy : y ≠ 0 := fun e => h ⟨hx, e⟩
      have : y * (g' - g * t) = 0 := by grind
      rcases Rat.mul_eq_zero.1 this with h1 | h1
      · exact absurd h1 hy
      · grind
    · have : x * (g' - g * t) = 0 := by grind
      rcases Rat.mul_eq_zero.1 this with h1 | h1
      · exact absurd h1 hx
      · grind
theorem rgcd_int (a b : Int) : rgcd (a : Rat) (b : Rat) = (((Nat.gcd a.natAbs b.natAbs : Nat) : Int) : Rat) := by
  rw [rgcd1 (by rfl) (by rfl)]; rfl
/-- The coefficients of the line a x + b y + c = 0. -/
def lnG (a b c : Rat) : Rat := rgcd (rgcd a b) c
def lnK (x a b c : Rat) : Rat := x * (lnG a b c)⁻¹
theorem lnG_pos {a b : Rat} (c : Rat) (h : ¬ (a = 0 ∧ b = 0)) : 0 < lnG a b c := rgcd_pos _ _ (fun e => by have := rgcd_pos a b h; rw [e.1] at this; exact absurd this (by decide))
theorem lnG_mul (a b c : Rat) {t : Rat} (ht : 0 < t) : lnG (a * t) (b * t) (c * t) = lnG a b c * t := by
  unfold lnG; rw [rgcd_mul _ _ ht, rgcd_mul _ _ ht]
theorem lnK_mul (x a b c : Rat) {t : Rat} (ht : 0 < t) : lnK (x * t) (a * t) (b * t) (c * t) = lnK x a b c := by
  unfold lnK; rw [lnG_mul _ _ _ ht, Rat.inv_mul_rev]
  have := Rat.mul_inv_cancel t (Rat.ne_of_gt ht)
  grind
def gcd3 (a b c : Int) : Nat := Nat.gcd (Nat.gcd a.natAbs b.natAbs) c.natAbs
theorem lnG_int (a b c : Int) : lnG (a : Rat) (b : Rat) (c : Rat) = ((gcd3 a b c : Nat) : Int) := by
  unfold lnG gcd3; rw [rgcd_int, rgcd_int]; simp
theorem gcd3_dvd (a b c : Int) : ((gcd3 a b c : Nat) : Int) ∣ a ∧ ((gcd3 a b c : Nat) : Int) ∣ b ∧ ((gcd3 a b c : Nat) : Int) ∣ c := by
  refine ⟨?_, ?_, ?_⟩
  · rw [← Int.natAbs_dvd_natAbs, Int.natAbs_natCast]; exact Nat.dvd_trans (Nat.gcd_dvd_left _ _) (Nat.gcd_dvd_left _ _)
  · rw [← Int.natAbs_dvd_natAbs, Int.natAbs_natCast]; exact Nat.dvd_trans (Nat.gcd_dvd_left _ _) (Nat.gcd_dvd_right _ _)
  · rw [← Int.natAbs_dvd_natAbs, Int.natAbs_natCast]; exact Nat.gcd_dvd_right _ _
theorem gcd3_pos {a b : Int} (c : Int) (h : ¬ (a = 0 ∧ b = 0)) : 0 < gcd3 a b c := by
  unfold gcd3
  rcases Nat.eq_zero_or_pos (Nat.gcd (Nat.gcd a.natAbs b.natAbs) c.natAbs) with e | e
  · have e1 := Nat.eq_zero_of_gcd_eq_zero_left e
    exact absurd ⟨by have := Nat.eq_zero_of_gcd_eq_zero_left e1; omega, by have := Nat.eq_zero_of_gcd_eq_zero_right e1; omega⟩ h
  · exact e
theorem lnK_int {x a b c : Int} (h : ¬ (a = 0 ∧ b = 0)) (hx : ((gcd3 a b c : Nat) : Int) ∣ x) : lnK (x : Rat) (a : Rat) (b : Rat) (c : Rat) = ((x / ((gcd3 a b c : Nat) : Int) : Int) : Rat) := by
  unfold lnK
  rw [lnG_int]
  obtain ⟨k, hk⟩ := hx
  have hp := gcd3_pos c h
  have hz : ((gcd3 a b c : Nat) : Int) ≠ 0 := by omega
  generalize ((gcd3 a b c : Nat) : Int) = g at *
  subst hk
  rw [Int.mul_ediv_cancel_left _ hz]
  have hr : (g : Rat) ≠ 0 := by exact_mod_cast hz
  have := Rat.mul_inv_cancel _ hr
  have e : ((g * k : Int) : Rat) = (g : Rat) * (k : Rat) := by push_cast; rfl
  rw [e]
  grind
/-- The coefficients are coprime. -/
theorem gcd3_one {a b c : Int} (h : ¬ (a = 0 ∧ b = 0)) : gcd3 (a / ((gcd3 a b c : Nat) : Int)) (b / ((gcd3 a b c : Nat) : Int)) (c / ((gcd3 a b c : Nat) : Int)) = 1 := by
  have hp := gcd3_pos c h
  obtain ⟨h1, h2, h3⟩ := gcd3_dvd a b c
  have key : ∀ x : Int, ((gcd3 a b c : Nat) : Int) ∣ x → (x / ((gcd3 a b c : Nat) : Int)).natAbs = x.natAbs / gcd3 a b c := fun x hx => int_div_abs _ _ (by rw [← Int.natAbs_dvd_natAbs, Int.natAbs_natCast] at hx; exact hx)
  have e : gcd3 (a / ((gcd3 a b c : Nat) : Int)) (b / ((gcd3 a b c : Nat) : Int)) (c / ((gcd3 a b c : Nat) : Int)) = Nat.gcd (Nat.gcd (a.natAbs / gcd3 a b c) (b.natAbs / gcd3 a b c)) (c.natAbs / gcd3 a b c) := by
    show Nat.gcd (Nat.gcd _ _) _ = _
    rw [key a h1, key b h2, key c h3]
  rw [e]
  rw [← Int.natAbs_dvd_natAbs, Int.natAbs_natCast] at h1 h2 h3
  rw [Nat.gcd_div h1 h2, Nat.gcd_div (Nat.dvd_gcd h1 h2) h3]
  exact Nat.div_self hp
theorem int_mul_den (x : Rat) : x * (((x.den : Nat) : Int) : Rat) = (x.num : Rat) := by
  have hd : ((x.den : Int) : Rat) ≠ 0 := by have := x.den_nz; exact_mod_cast this
  have h := Rat.mkRat_self x
  rw [Rat.mkRat_eq_div, Rat.div_def] at h
  have i := Rat.mul_inv_cancel _ hd
  have e : ((x.den : Nat) : Rat) = ((x.den : Int) : Rat) := by push_cast; rfl
  rw [e] at h
  generalize ((x.den : Int) : Rat) = d at *
  generalize (x.num : Rat) = n at *
  grind
/-- A multiple of a number's denominator makes it an integer. -/
theorem mulD_int (x : Rat) {m : Nat} (h : x.den ∣ m) : x * ((m : Int) : Rat) = ((x * ((m : Int) : Rat)).num : Rat) := by
  obtain ⟨k, rfl⟩ := h
  have e : x * (((x.den * k : Nat) : Int) : Rat) = ((x.num * (k : Int) : Int) : Rat) := by
    have := int_mul_den x
    have e1 : (((x.den * k : Nat) : Int) : Rat) = (((x.den : Nat) : Int) : Rat) * ((k : Int) : Rat) := by push_cast; rfl
    have e2 : ((x.num * (k : Int) : Int) : Rat) = (x.num : Rat) * ((k : Int) : Rat) := by push_cast; rfl
    rw [e1, e2, ← this]; grind
  rw [e]; rfl
end Go.Proofs.YtfdgglddldlpjaaGreat

/- Valid lines: plain laws of the line through two points, of points on lines, of common points, of the order. No program is in sight here. -/
namespace Go.Proofs.YtfdgglddldlpjaaGreat
/-- Coefficients of a valid line. -/
def LnV (a b c : Int) : Prop := ¬ (a = 0 ∧ b = 0) ∧ gcd3 a b c = 1
theorem LnV.rev {a b c : Int} (h : LnV a b c) : LnV (-a) (-b) (-c) := by
  refine ⟨fun e => h.1 ⟨by omega, by omega⟩, ?_⟩
  unfold gcd3
  rw [Int.natAbs_neg, Int.natAbs_neg, Int.natAbs_neg]
  exact h.2
/-- What lnK gives for coefficients: the integers of a valid line. -/
theorem lnK_valid {a b c : Rat} (h : ¬ (a = 0 ∧ b = 0)) : ∃ A B C : Int, (A : Rat) = lnK a a b c ∧ (B : Rat) = lnK b a b c ∧ (C : Rat) = lnK c a b c ∧ LnV A B C := by
  have hm : (0 : Rat) < (((a.den * b.den * c.den : Nat) : Int) : Rat) := by
    have : 0 < a.den * b.den * c.den := Nat.mul_pos (Nat.mul_pos a.den_pos b.den_pos) c.den_pos
    exact Rat.intCast_pos.2 (by omega)
  have ha := mulD_int a (m := a.den * b.den * c.den) ⟨b.den * c.den, by rw [Nat.mul_assoc]⟩
  have hb := mulD_int b (m := a.den * b.den * c.den) ⟨a.den * c.den, by rw [Nat.mul_comm a.den b.den, Nat.mul_assoc]⟩
  have hc := mulD_int c (m := a.den * b.den * c.den) ⟨a.den * b.den, by rw [Nat.mul_comm]⟩
  generalize (((a.den * b.den * c.den : Nat) : Int) : Rat) = m at *
  generalize (a * m).num = x at *
  generalize (b * m).num = y at *
  generalize (c * m).num = z at *
  have hxy : ¬ (x = 0 ∧ y = 0) := by
    rintro ⟨rfl, rfl⟩
    refine h ⟨?_, ?_⟩
    · rcases Rat.mul_eq_zero.1 (ha.trans rfl) with e | e
      · exact e
      · rw [e] at hm; exact absurd hm (by decide)
    · rcases Rat.mul_eq_zero.1 (hb.trans rfl) with e | e
      · exact e
      · rw [e] at hm; exact absurd hm (by decide)
  have hd := gcd3_dvd x y z
  refine ⟨x / ((gcd3 x y z : Nat) : Int), y / ((gcd3 x y z : Nat) : Int), z / ((gcd3 x y z : Nat) : Int), ?_, ?_, ?_, ?_, gcd3_one hxy⟩
  · rw [← lnK_int hxy hd.1, ← ha, ← hb, ← hc, lnK_mul _ _ _ _ hm]
  · rw [← lnK_int hxy hd.2.1, ← ha, ← hb, ← hc, lnK_mul _ _ _ _ hm]
  · rw [← lnK_int hxy hd.2.2, ← ha, ← hb, ← hc, lnK_mul _ _ _ _ hm]
  · rintro ⟨e1, e2⟩
    have h1 := Int.ediv_mul_cancel hd.1
    have h2 := Int.ediv_mul_cancel hd.2.1
    rw [e1] at h1; rw [e2] at h2
    exact hxy ⟨by rw [← h1]; simp, by rw [← h2]; simp⟩
/-- A valid line is its own normal form. -/
theorem lnK_self {a b c x : Int} (h : LnV a b c) : lnK (x : Rat) (a : Rat) (b : Rat) (c : Rat) = (x : Rat) := by
  have := @lnK_int x a b c h.1 (by rw [h.2]; exact ⟨x, by simp⟩)
  rw [this, h.2]; simp
theorem lnK_pos {a b c x : Int} (h : LnV a b c) {t : Rat} (ht : 0 < t) : lnK ((x : Rat) * t) ((a : Rat) * t) ((b : Rat) * t) ((c : Rat) * t) = (x : Rat) := by
  rw [lnK_mul _ _ _ _ ht, lnK_self h]
theorem sq_ne {a b : Int} (h : ¬ (a = 0 ∧ b = 0)) : (a : Rat) * a + (b : Rat) * b ≠ 0 := by
  have h1 : (a : Rat) * a + (b : Rat) * b = ((a * a + b * b : Int) : Rat) := by simp [Rat.intCast_add, Rat.intCast_mul]
  rw [h1]
  intro e
  have e2 : a * a + b * b = 0 := by exact_mod_cast e
  have p1 : 0 ≤ a * a := by rcases Int.le_total 0 a with h | h; exact Int.mul_nonneg h h; exact Int.mul_nonneg_of_nonpos_of_nonpos h h
  have p2 : 0 ≤ b * b := by rcases Int.le_total 0 b with h | h; exact Int.mul_nonneg h h; exact Int.mul_nonneg_of_nonpos_of_nonpos h h
  have q1 : a * a = 0 := by omega
  have q2 : b * b = 0 := by omega
  exact h ⟨by rcases Int.mul_eq_zero.1 q1 with e | e <;> exact e, by rcases Int.mul_eq_zero.1 q2 with e | e <;> exact e⟩
/-- The base of a line, and its points. -/
def lnF (a b c : Rat) : Rat := -c / (a * a + b * b)
theorem on_line {a b c t : Rat} (h : a * a + b * b ≠ 0) : a * (a * (-c / (a * a + b * b)) + b * t) + b * (b * (-c / (a * a + b * b)) + -a * t) + c = 0 := by grind
theorem par_line {a b c t : Rat} (h : a * a + b * b ≠ 0) : (b * (a * (-c / (a * a + b * b)) + b * t) + -a * (b * (-c / (a * a + b * b)) + -a * t)) / (b * b + -a * -a) = t := by
  have h2 : b * b + -a * -a = a * a + b * b := by grind
  rw [h2]
  grind
theorem meet_one {a b c p q r d : Rat} (h : d ≠ 0) (hd : d = a * q - b * p) : a * ((b * r - c * q) / d) + b * ((c * p - a * r) / d) + c = 0 := by grind
theorem meet_two {a b c p q r d : Rat} (h : d ≠ 0) (hd : d = a * q - b * p) : p * ((b * r - c * q) / d) + q * ((c * p - a * r) / d) + r = 0 := by grind
end Go.Proofs.YtfdgglddldlpjaaGreat

/- Normal forms of numbers that came in as arguments: the digits are any digits. Package frac and the reference decide alike. printed by a small program (mknrm.py). -/
namespace Go.Proofs.YtfdgglddldlpjaaGreat
open Go.RowKit
set_option maxRecDepth 100000
set_option maxHeartbeats 40000000
set_option synthInstance.maxSize 100000
set_option synthInstance.maxHeartbeats 1000000

/-- The slice v reads as the digits l. -/
class RL (W : World) (v : Value) (l : outParam (List Nat)) : Prop where out : Rd W v l
instance RL.al {W : World} {v : Value} {l : (List Nat)} {o : Obj} [h : RL W v l] : RL (W.alloc o) v l := ⟨h.out.keep (blw_one _ _)⟩
instance RL.dr {W : World} {v : Value} {l : (List Nat)} [h : RL W v l] : RL W.drew v l := ⟨h.out.keep (blw_drew (Below.refl _ _))⟩
instance RL.drN {W : World} {v : Value} {l : (List Nat)} {j : Nat} [h : RL W v l] : RL (W.drewN j) v l := ⟨h.out.keep (blw_drewN (Below.refl _ _) _)⟩
instance RL.kp {W W2 : World} {v : Value} {l : (List Nat)} [b : Kp1 W W2] [h : RL W v l] : RL W2 v l := ⟨h.out.keep (b.out)⟩
instance RL.tp {W W2 : World} {v : Value} {l : (List Nat)} {g : Nat} [b : Tp1 W W2 g] [h : RL W v l] : RL W2 v l := ⟨h.out.tp b.tp b.gb⟩
instance RL.st {W : World} {v : Value} {l : (List Nat)} {qb ib : Nat} {xv : Value} [b : SoftB W qb] [h : RL W v l] : RL (W.setCell ⟨qb, ib, none⟩ xv) v l := ⟨h.out.soft b⟩
instance (priority := low) CR.ofL {W : World} {v : Value} {l : List Nat} [h : RL W v l] : CR W v (val l) l.length := ⟨.of_rd h.out (Nat.le_refl _)⟩
theorem RL.len {W : World} {a : Option Addr} {n c : Nat} {l : List Nat} (h : RL W (.slice a n c) l) : n = l.length := h.out.len
theorem rl_row {w : World} {a : Option Addr} {len cap : Nat} {zs : List Int} (h : IsRow .u32 w a len cap zs) : ∃ l, l.length = len ∧ RL w (.slice a len cap) l := by
  obtain ⟨l, h1, h2⟩ := rd_of_row h
  exact ⟨l, h1, ⟨h2⟩⟩
theorem normalB_nfx (n : Nat) : normalB (nf n) = true := by
  by_cases h : n = 0
  · subst h; rfl
  · exact normalB_ne (nf_last n h)
theorem normalB_iff {l : List Nat} (hl : Dig l) : normalB l = true ↔ l = nf (val l) := by
  constructor
  · intro h
    refine (nf_of_normal hl ?_).symm
    simp only [normalB, Bool.or_eq_true, decide_eq_true_eq] at h
    rcases h with h | h
    · left; exact List.eq_nil_of_length_eq_zero h
    · right; exact h
  · intro h; rw [h]; exact normalB_nfx _
/-- The integer with sign g and digits l is in normal form. -/
def nrmI (g : Bool) (l : List Nat) : Bool := normalB l && (!g || decide (0 < l.length))
def nrmQ (g : Bool) (l ll : List Nat) : Bool := nrmI g l && normalB ll && decide (0 < ll.length) && decide (Nat.gcd (val l) (val ll) = 1)
def sameP (g : Bool) (l ll : List Nat) (x : Rat) : Bool := (decide (g = decide (x.num < 0)) && sameB l (nf x.num.natAbs)) && sameB ll (nf x.den)
def refB (g : Bool) (l ll : List Nat) (x : Rat) : Bool := sameP g l ll x && decide (0 < ll.length)
theorem nrm_ref {g : Bool} {l ll : List Nat} (hl : Dig l) (hll : Dig ll) : refB g l ll (mkRat (sgn g (val l)) (val ll)) = nrmQ g l ll := by
  rw [Bool.eq_iff_iff]
  simp only [refB, sameP, nrmQ, nrmI, sameB, Bool.and_eq_true, Bool.or_eq_true, decide_eq_true_eq, Bool.not_eq_true', normalB_iff hl, normalB_iff hll]
  generalize hx : mkRat (sgn g (val l)) (val ll) = x
  constructor
  · rintro ⟨⟨⟨h1, h2⟩, h3⟩, h4⟩
    have e2 : val l = x.num.natAbs := by rw [h2, val_nf]
    have e3 : val ll = x.den := by rw [h3, val_nf]
    refine ⟨⟨⟨⟨by rw [e2]; exact h2, ?_⟩, by rw [e3]; exact h3⟩, h4⟩, by rw [e2, e3]; exact x.reduced⟩
    cases g with
    | false => left; rfl
    | true =>
      right
      have hn : x.num < 0 := by simpa using h1.symm
      rw [h2]
      exact nf_len_pos (by omega)
  · rintro ⟨⟨⟨⟨h1, h2⟩, h3⟩, h4⟩, h5⟩
    have hz : val ll ≠ 0 := by
      intro e
      rw [e] at h3
      rw [h3] at h4
      simp [nf_zero] at h4
    by_cases h0 : val l = 0
    · have e1 : l = [] := by rw [h1, h0]; rfl
      have hg : g = false := by
        rcases h2 with h2 | h2
        · exact h2
        · rw [e1] at h2; simp at h2
      have e2 : val ll = 1 := by rw [h0, Nat.gcd_zero_left] at h5; exact h5
      have ex : x = 0 := by rw [← hx, h0, hg, sgn_false]; exact Rat.zero_mkRat _
      rw [ex]
      refine ⟨⟨⟨by rw [hg]; decide +kernel, by rw [e1]; rfl⟩, ?_⟩, h4⟩
      rw [h3, e2]; rfl
    · obtain ⟨q1, q2, _⟩ := sgn_mk (g := g) hz h0
      rw [hx, h5, Nat.div_one] at q1 q2
      refine ⟨⟨⟨?_, by rw [q1, sgn_abs]; exact h1⟩, by rw [q2]; exact h3⟩, h4⟩
      rw [q1]
      cases g with
      | false => simp [sgn]
      | true => simp [sgn]; omega
theorem natNormalLV {w : World} {a1 : Option Addr} {l1 c1 : Nat} {L : List Nat} {v : Bool} [h1 : RL w (.slice a1 l1 c1) L] (hv : Hid (normalB L = v)) :
    Calls Tryz.prog 166 #[.slice a1 l1 c1] w fun e w' => e = .returned (.bool v) ∧ w = w' := by
  rw [← hv.out]
  exact normal_any _ _ _ h1.out
theorem sameNL {w : World} {a1 a2 : Option Addr} {l1 c1 l2 c2 n k2 : Nat} {L : List Nat} [h1 : RL w (.slice a1 l1 c1) L] [h2 : CN w (.slice a2 l2 c2) n k2] :
    Calls Tryz.prog 97 #[.slice a1 l1 c1, .slice a2 l2 c2] w fun e w' => e = .returned (.bool (sameB L (nf n))) ∧ Below w.heap.size w w' := sameN_any _ _ _ _ _ h1.out h2.out.1
theorem natNormalL {w : World} {a1 : Option Addr} {l1 c1 : Nat} {L : List Nat} [h1 : RL w (.slice a1 l1 c1) L] :
    Calls Tryz.prog 166 #[.slice a1 l1 c1] w fun e w' => e = .returned (.bool (normalB L)) ∧ w = w' := normal_any _ _ _ h1.out
theorem sameIL {w : World} {g1 g2 v : Bool} {a1 a2 : Option Addr} {l1 c1 l2 c2 k2 : Nat} {L : List Nat} {x : Int} [h1 : RL w (.slice a1 l1 c1) L] [h2 : CZ w (.agg #[.bool g2, .slice a2 l2 c2]) x k2] (hv : Hid ((decide (g1 = decide (x < 0)) && sameB L (nf x.natAbs)) = v)) :
    Calls Tryz.prog 57 #[.agg #[.bool g1, .slice a1 l1 c1], .agg #[.bool g2, .slice a2 l2 c2]] w fun e w' => e = .returned (.bool v) ∧ Below w.heap.size w w' := by
  have e2 := (zz_of h2).1
  have i2 : CN w (.slice a2 l2 c2) x.natAbs k2 := ⟨(zz_of h2).2⟩
  have HV := Lib.hid hv.out
  clear h2 hv
  rw [← e2] at HV
  clear e2
  cases g1 <;> cases g2
  · go_enter Tryz.func57, Tryz.ntmps57
    go_wp2_with (first
    | (go_at_call 97; (with_reducible refine Calls.cE (sameNL) ?_); intros))
    go_ret
    exact E.fin (by rw [← HV.out]; rfl)
  · go_enter Tryz.func57, Tryz.ntmps57
    go_wp2_with fail
    go_ret
    exact E.fin (by rw [← HV.out]; rfl)
  · go_enter Tryz.func57, Tryz.ntmps57
    go_wp2_with fail
    go_ret
    exact E.fin (by rw [← HV.out]; rfl)
  · go_enter Tryz.func57, Tryz.ntmps57
    go_wp2_with (first
    | (go_at_call 97; (with_reducible refine Calls.cE (sameNL) ?_); intros))
    go_ret
    exact E.fin (by rw [← HV.out]; rfl)
theorem sameQL {w : World} {g1 g2 v : Bool} {a1 a2 aa1 aa2 : Option Addr} {l1 c1 l2 c2 ll1 cc1 ll2 cc2 k2 : Nat} {L LL : List Nat} {x : Rat} [h1 : RL w (.slice a1 l1 c1) L] [h1' : RL w (.slice aa1 ll1 cc1) LL] [h2 : CA w (.agg #[.bool g2, .slice a2 l2 c2, .slice aa2 ll2 cc2]) x k2] (hv : Hid (sameP g1 L LL x = v)) :
    Calls Tryz.prog 32 #[.agg #[.bool g1, .slice a1 l1 c1, .slice aa1 ll1 cc1], .agg #[.bool g2, .slice a2 l2 c2, .slice aa2 ll2 cc2]] w fun e w' => e = .returned (.bool v) ∧ Below w.heap.size w w' := by
  have i1 := h2.num
  have i2 := h2.den
  obtain ⟨b, hb⟩ : ∃ b, (decide (g1 = decide (x.num < 0)) && sameB L (nf x.num.natAbs)) = b := ⟨_, rfl⟩
  have HB := Lib.hid hb
  have HV : Hid ((b && sameB LL (nf x.den)) = v) := by show _ = _; rw [← hb]; exact hv.out
  clear hb hv
  cases b
  all_goals
    go_enter Tryz.func32, Tryz.ntmps32
    go_wp2_with (first
    | (go_at_call 57; (with_reducible refine Calls.cE (sameIL HB) ?_); intros)
    | (go_at_call 97; (with_reducible refine Calls.cE (sameNL) ?_); intros))
    go_ret
    exact E.fin (by rw [← HV.out]; rfl)
theorem intNormalL {w : World} {g1 v : Bool} {a1 : Option Addr} {l1 c1 : Nat} {L : List Nat} [h1 : RL w (.slice a1 l1 c1) L] (hv : Hid (nrmI g1 L = v)) :
    Calls Tryz.prog 134 #[.agg #[.bool g1, .slice a1 l1 c1]] w fun e w' => e = .returned (.bool v) ∧ Below w.heap.size w w' := by
  have hl := h1.len
  have HV : Hid ((normalB L && (!g1 || decide (0 < l1))) = v) := by show _ = _; rw [hl]; exact hv.out
  clear hv hl
  obtain ⟨b, hb⟩ : ∃ b, normalB L = b := ⟨_, rfl⟩
  rw [hb] at HV
  have HB := Lib.hid hb
  clear hb
  by_cases hp : 0 < l1
  · have hp2 : decide (0 < l1) = true := decide_eq_true hp
    rw [hp2] at HV
    cases b <;> cases g1
    all_goals
      go_enter Tryz.func134, Tryz.ntmps134
      go_wp2_with (first
    | (go_at_call 166; (with_reducible refine Calls.cS (natNormalLV HB) ?_); intros))
      go_ret
      exact E.fin (by rw [← HV.out]; rfl)
  · have hp2 : decide (0 < l1) = false := decide_eq_false hp
    obtain rfl : l1 = 0 := by omega
    clear hp
    rw [hp2] at HV
    cases b <;> cases g1
    all_goals
      go_enter Tryz.func134, Tryz.ntmps134
      go_wp2_with (first
    | (go_at_call 166; (with_reducible refine Calls.cS (natNormalLV HB) ?_); intros))
      go_ret
      exact E.fin (by rw [← HV.out]; rfl)
end Go.Proofs.YtfdgglddldlpjaaGreat

/- A region that draws its order, by an invariant: every operation of a list 'todo' is met once, whatever ran before it, and what an operation gives lasts. The number of goals is the number of operations, not of orders. -/
namespace Go.Proofs.YtfdgglddldlpjaaGreat
open Go.RowKit
section
variable {P : Program} {ops : Array Oper} {Q : Exit → Act → World → Prop} {md : Region.Mode} {S : World → Prop} {T : Nat → Bool}
def dstOf (ops : Array Oper) (i : Nat) : Option Tmp := (ops[i]?).bind (·.dst)
def putAll (f : Nat → Value) : List (Nat × Tmp) → Act → Act
  | [], a => a
  | p :: r, a => putAll f r (a.put (some p.2) (f p.1))
def upd (f : Nat → Value) (i : Nat) (v : Value) : Nat → Value := fun j => if j = i then v else f j
theorem put_put {a : Act} {d : Option Tmp} {x v : Value} : (a.put d x).put d v = a.put d v := by
  cases d with
  | none => rfl
  | some d => simp [Act.put]
theorem put_comm {a : Act} {d e : Option Tmp} {x v : Value} (h : d ≠ e) : (a.put d x).put e v = (a.put e v).put d x := by
  cases d with
  | none => rfl
  | some d =>
    cases e with
    | none => rfl
    | some e =>
      have hde : d ≠ e := fun h' => h (by rw [h'])
      simp only [Act.put]
      rw [Array.setIfInBounds_comm _ _ hde]
theorem putAll_put {f : Nat → Value} {d : Tmp} {v : Value} : ∀ (r : List (Nat × Tmp)) (a : Act), (∀ p ∈ r, p.2 ≠ d) → (putAll f r a).put (some d) v = putAll f r (a.put (some d) v)
  | [], _, _ => rfl
  | p :: r, a, h => by
    show (putAll f r _).put _ v = putAll f r _
    rw [putAll_put r _ (fun k hk => h k (List.mem_cons_of_mem _ hk)), put_comm (fun e => h p (List.mem_cons_self ..) (Option.some.inj e))]
theorem putAll_congr {f g : Nat → Value} : ∀ (r : List (Nat × Tmp)) (a : Act), (∀ p ∈ r, f p.1 = g p.1) → putAll f r a = putAll g r a
  | [], _, _ => rfl
  | p :: r, a, h => by
    show putAll f r _ = putAll g r _
    rw [h p (List.mem_cons_self ..), putAll_congr r _ (fun k hk => h k (List.mem_cons_of_mem _ hk))]
theorem putAll_upd {f : Nat → Value} {i : Nat} {d : Tmp} {v : Value} : ∀ (r : List (Nat × Tmp)) (a : Act), (r.map (·.2)).Nodup → (r.map (·.1)).Nodup → (i, d) ∈ r → (putAll f r a).put (some d) v = putAll (upd f i v) r a
  | [], _, _, _, hi => nomatch hi
  | p :: r, a, hn, hm, hi => by
    rw [List.map_cons, List.nodup_cons] at hn hm
    obtain ⟨hj, hn⟩ := hn
    obtain ⟨hk, hm⟩ := hm
    rcases List.mem_cons.1 hi with e | hi'
    · subst e
      have hne : ∀ k ∈ r, k.2 ≠ d := fun k hk' e => hj (List.mem_map.2 ⟨k, hk', e⟩)
      show (putAll f r _).put _ v = putAll (upd f i v) r _
      rw [putAll_put r _ hne, put_put, show upd f i v i = v from if_pos rfl]
      exact putAll_congr r _ (fun k hk' => (if_neg (fun e => hk (List.mem_map.2 ⟨k, hk', e⟩))).symm)
    · have hij : p.1 ≠ i := fun e => hk (List.mem_map.2 ⟨_, hi', e.symm⟩)
      show (putAll f r (a.put _ (f p.1))).put _ v = putAll (upd f i v) r (a.put _ (upd f i v p.1))
      rw [show upd f i v p.1 = f p.1 from if_neg hij]
      exact putAll_upd r _ hn hm hi'
theorem put_self (a : Act) (d : Tmp) : a.put (some d) (a.tmps.getD d undef) = a := by
  obtain ⟨t, ds⟩ := a
  simp only [Act.put, Act.mk.injEq, and_true]
  apply Array.ext_getElem?
  intro i
  rw [Array.getElem?_setIfInBounds]
  split
  · rename_i h
    subst h
    split
    · rename_i h; simp [h]
    · rename_i h; simp [h]
  · rfl
theorem putAll_self {f : Nat → Value} (a : Act) : ∀ r : List (Nat × Tmp), (∀ p ∈ r, f p.1 = a.tmps.getD p.2 undef) → putAll f r a = a
  | [], _ => rfl
  | p :: r, h => by
    show putAll f r (a.put (some p.2) (f p.1)) = a
    rw [h p (List.mem_cons_self ..), put_self]
    exact putAll_self a r (fun q hq => h q (List.mem_cons_of_mem _ hq))
/-- The value in the slot of an operation. -/
def slotOf (a : Act) : List (Nat × Tmp) → Nat → Value
  | [], _ => undef
  | p :: r, i => if i = p.1 then a.tmps.getD p.2 undef else slotOf a r i
theorem slotOf_eq (a : Act) : ∀ r : List (Nat × Tmp), (r.map (·.1)).Nodup → ∀ p ∈ r, slotOf a r p.1 = a.tmps.getD p.2 undef
  | [], _, _, h => nomatch h
  | q :: r, hn, p, h => by
    rw [List.map_cons, List.nodup_cons] at hn
    rcases List.mem_cons.1 h with rfl | h
    · exact if_pos rfl
    · show (if p.1 = q.1 then _ else slotOf a r p.1) = _
      rw [if_neg (fun e => hn.1 (List.mem_map.2 ⟨p, h, e⟩))]
      exact slotOf_eq a r hn.2 p h
def lset : List Nat → Array Bool → Array Bool
  | [], L => L
  | i :: s, L => lset s (L.setIfInBounds i true)
theorem lset_get : ∀ (s : List Nat) (L : Array Bool) (j : Nat), (lset s L)[j]? = if j ∈ s ∧ j < L.size then some true else L[j]?
  | [], L, j => by simp [lset]
  | i :: s, L, j => by
    show (lset s _)[j]? = _
    rw [lset_get s, Array.getElem?_setIfInBounds, Array.size_setIfInBounds]
    by_cases hij : i = j
    · subst hij
      by_cases hl : i < L.size <;> simp [hl]
    · have hji : ¬ j = i := fun e => hij e.symm
      simp [hij, hji]
theorem lset_step (todo : List Nat) (g : Nat → Bool) {i : Nat} (hi : i ∈ todo) (L : Array Bool) : (lset (todo.filter g) L).setIfInBounds i true = lset (todo.filter (fun j => g j || j == i)) L := by
  apply Array.ext_getElem?
  intro j
  have hs : ∀ (s : List Nat) (L : Array Bool), (lset s L).size = L.size := by
    intro s
    induction s with
    | nil => intro L; rfl
    | cons i s ih => intro L; show (lset s _).size = _; rw [ih, Array.size_setIfInBounds]
  rw [Array.getElem?_setIfInBounds, lset_get, lset_get, hs]
  simp only [List.mem_filter, Bool.or_eq_true, beq_iff_eq]
  by_cases hij : i = j
  · subst hij
    by_cases hl : i < L.size <;> simp [hl, hi]
  · have hji : ¬ j = i := fun e => hij e.symm
    simp [hij, hji]
def subs : List Nat → List (List Nat)
  | [] => [[]]
  | i :: r => (subs r).flatMap fun s => [s, i :: s]
theorem filter_subs (g : Nat → Bool) : ∀ l, l.filter g ∈ subs l
  | [] => List.mem_cons_self ..
  | i :: r => by
    rw [List.filter_cons]
    refine List.mem_flatMap.2 ⟨_, filter_subs g r, ?_⟩
    split
    · exact List.mem_cons_of_mem _ (List.mem_cons_self ..)
    · exact List.mem_cons_self ..
/-- Whatever part of 'todo' has run: one of the rest may come up, and nothing else; what it reads has run. -/
def chkS (md : Region.Mode) (ops : Array Oper) (L0 : Array Bool) (todo : List Nat) (pre : Nat → List Nat) : Bool :=
  (subs todo).all fun s => !(s.all fun i => (pre i).all fun j => s.contains j) || s == todo || (!(Region.ready md ops (lset s L0)).isEmpty && (Region.ready md ops (lset s L0)).all fun i => todo.contains i && !s.contains i && (pre i).all fun j => s.contains j)
theorem count_step {g : Nat → Bool} {i : Nat} (hg : g i = false) : ∀ l : List Nat, l.Nodup → i ∈ l → (l.filter fun j => !g j).length = (l.filter fun j => !(g j || j == i)).length + 1
  | [], _, hi => nomatch hi
  | j :: r, hn, hi => by
    rw [List.nodup_cons] at hn
    by_cases hij : j = i
    · subst hij
      have h0 : (r.filter fun k => !g k) = r.filter fun k => !(g k || k == j) := by
        apply List.filter_congr
        intro k hk
        have : k ≠ j := fun e => hn.1 (e ▸ hk)
        simp [this]
      simp [hg, h0]
    · have := count_step hg r hn.2 ((List.mem_cons.1 hi).resolve_left (fun e => hij e.symm))
      simp only [List.filter_cons, Bool.or_false, show (j == i) = false by simpa using hij]
      split <;> simp [this]
/-- What lasts while memory grows. -/
class Last (φ : Value → World → Prop) : Prop where out : ∀ v W W', Below W.heap.size W W' → φ v W → φ v W'
def phi : List (Value → World → Prop) → List Nat → Nat → Value → World → Prop
  | φ :: r, j :: s, i => if i = j then φ else phi r s i
  | _, _, _ => fun _ _ => True
class Lasts (l : List (Value → World → Prop)) : Prop where out : ∀ (s : List Nat) (i : Nat), Last (phi l s i)
instance Lasts.nil : Lasts [] := ⟨fun _ _ => ⟨fun _ _ _ _ _ => trivial⟩⟩
instance Lasts.cons {φ : Value → World → Prop} {l : List (Value → World → Prop)} [h1 : Last φ] [h2 : Lasts l] : Lasts (φ :: l) := ⟨fun s i => by
  cases s with
  | nil => exact ⟨fun _ _ _ _ _ => trivial⟩
  | cons j s =>
    show Last (if i = j then φ else phi l s i)
    split
    · exact h1
    · exact h2.out s i⟩
/-- A pointer to a block that was made after W; to one that is there in W. -/
def NewP (v : Value) (W : World) : Prop := ∃ b, v = .pointer (some ⟨b, 0, none⟩) ∧ W.heap.size ≤ b
def OldP (v : Value) (W : World) : Prop := ∃ b, v = .pointer (some ⟨b, 0, none⟩) ∧ b < W.heap.size
theorem newP_ne {u v : Value} {W : World} (h1 : NewP v W) (h2 : OldP u W) : u ≠ v := by
  obtain ⟨b, rfl, hb⟩ := h1
  obtain ⟨c, rfl, hc⟩ := h2
  intro e
  simp only [Value.pointer.injEq, Option.some.injEq, Addr.mk.injEq, and_true] at e
  omega
theorem ptr_ne {b c : Nat} (h : (Value.pointer (some ⟨b, 0, none⟩)) ≠ .pointer (some ⟨c, 0, none⟩)) : NeN b c := ⟨fun e => h (by rw [e])⟩
theorem wpAnyT_inv (dl : List (Nat × Tmp)) (pre : Nat → List Nat) (φs : List (Value → World → Prop)) [hΦ : Lasts φs] (A : List Nat) {L0 : Array Bool} {a0 : Act} {w : World} {F : Nat} (m : Nat) (hF : F = m + dl.length)
    (hchk : chkS md ops L0 (dl.map (·.1)) pre = true) (hd : (dl.map (·.2)).Nodup) (hnd : (dl.map (·.1)).Nodup) (hds : (dl.all fun p => dstOf ops p.1 == some p.2) = true) (hA : ∀ i ∈ A, ∀ v W, phi φs (dl.map (·.1)) i v W → OldP v W) (hSk : ∀ W W', Below W.heap.size W W' → S W → S W') (hS : S w)
    (hop : ∀ i ∈ dl.map (·.1), ∀ (f : Nat → Value) (W : World), S W → Below w.heap.size w W → (∀ j ∈ pre i, phi φs (dl.map (·.1)) j (f j) W) → ∃ o, ops[i]? = some o ∧ ∀ K' : Act → World → Prop,
      Shut (∀ a' v W', a' = (putAll f dl a0).put o.dst v → Below W.heap.size W W' → phi φs (dl.map (·.1)) i v W' → (i ∈ A → NewP v W) → K' a' W') →
      if Region.wanted o (yielded ops (putAll f dl a0).tmps) = true then Oper.wp P o (putAll f dl a0) W K' Q else K' ((putAll f dl a0).put o.dst undef) W)
    (hend : ∀ (f : Nat → Value) (W : World), S W → Below w.heap.size w W → (∀ j ∈ dl.map (·.1), phi φs (dl.map (·.1)) j (f j) W) → (∀ j k, j ∈ A → k ∈ A → j ∈ dl.map (·.1) → k ∈ dl.map (·.1) → j ≠ k → f j ≠ f k) → wpAnyT P md ops Q S T m (lset (dl.map (·.1)) L0) (putAll f dl a0) W) :
    wpAnyT P md ops Q S T F L0 a0 w := by
  subst hF
  have hlen : dl.length = (dl.map (·.1)).length := by rw [List.length_map]
  rw [hlen]
  have hds' : ∀ i ∈ dl.map (·.1), ∃ d, (i, d) ∈ dl ∧ dstOf ops i = some d := fun i hi => by
    obtain ⟨p, hp, rfl⟩ := List.mem_map.1 hi
    exact ⟨p.2, hp, by simpa using List.all_eq_true.1 hds p hp⟩
  generalize hT : dl.map (·.1) = todo at *
  have key : ∀ (n : Nat) (g : Nat → Bool) (f : Nat → Value) (W : World), (todo.filter fun j => !g j).length = n → S W → Below w.heap.size w W → (∀ j ∈ todo, g j = true → phi φs todo j (f j) W) → (∀ j k, j ∈ A → k ∈ A → j ∈ todo → k ∈ todo → g j = true → g k = true → j ≠ k → f j ≠ f k) → (∀ j ∈ todo, g j = true → ∀ k ∈ pre j, k ∈ todo ∧ g k = true) →
      wpAnyT P md ops Q S T (m + n) (lset (todo.filter g) L0) (putAll f dl a0) W := by
    intro n
    induction n with
    | zero =>
      intro g f W hn hSW hB hf hne _
      have hall : ∀ j ∈ todo, g j = true := fun j hj => by
        have h0 := List.eq_nil_of_length_eq_zero hn
        have := List.filter_eq_nil_iff.1 h0 j hj
        simpa using this
      rw [List.filter_eq_self.2 hall]
      exact hend f W hSW hB (fun j hj => hf j hj (hall j hj)) (fun j k ha hb hj hk => hne j k ha hb hj hk (hall j hj) (hall k hk))
    | succ n ih =>
      intro g f W hn hSW hB hf hnf hcl
      have hs := List.all_eq_true.1 hchk _ (filter_subs g todo)
      have hne : ((todo.filter g == todo) : Bool) = false := by
        rw [beq_eq_false_iff_ne]
        intro e
        have hall := List.filter_eq_self.1 e
        have : (todo.filter fun j => !g j) = [] := List.filter_eq_nil_iff.2 (fun j hj => by simp [hall j hj])
        rw [this] at hn
        simp at hn
      have hcl2 : ((todo.filter g).all fun i => (pre i).all fun j => (todo.filter g).contains j) = true := by
        simp only [List.all_eq_true, List.contains_iff_mem, List.mem_filter]
        exact fun i hi j hj => hcl i hi.1 hi.2 j hj
      rw [hne, hcl2, Bool.not_true, Bool.false_or, Bool.false_or, Bool.and_eq_true] at hs
      obtain ⟨hr, hs⟩ := hs
      refine ⟨fun h0 => (by rw [h0] at hr; simp at hr), fun i hi => ?_⟩
      have hi2 := List.all_eq_true.1 hs i hi
      simp only [Bool.and_eq_true, List.contains_iff_mem, Bool.not_eq_true', List.all_eq_true] at hi2
      obtain ⟨⟨hit, his⟩, hp⟩ := hi2
      have hgi : g i = false := by
        cases hg : g i with
        | false => rfl
        | true =>
          have : (todo.filter g).contains i = true := List.contains_iff_mem.2 (List.mem_filter.2 ⟨hit, hg⟩)
          rw [this] at his
          cases his
      obtain ⟨o, ho, H⟩ := hop i hit f W hSW hB (fun j hj => by
        have := List.mem_filter.1 (hp j hj)
        exact hf j this.1 this.2)
      obtain ⟨d, hdm, hdo⟩ := hds' i hit
      refine wpOp_step ho (fun K' hK => H K' (fun a' v W' ha hb hv hnw => hK _ _ ⟨fun _ => hSk _ _ hb hSW, ?_⟩))
      have hdst : o.dst = some d := by rw [← hdo]; simp [dstOf, ho]
      rw [ha, lset_step todo g hit, hdst, putAll_upd dl a0 hd (hT ▸ hnd) hdm]
      refine ih _ _ W' (by have := count_step hgi todo hnd hit; omega) (hSk _ _ hb hSW) (blw_trans hB hb) (fun j hj hgj => ?_) (fun j k haj hak hj hk hgj hgk hjk => ?_) (fun j hj hgj k hk => ?_)
      · by_cases hji : j = i
        · subst hji
          rw [show upd f j v j = v from if_pos rfl]
          exact hv
        · rw [show upd f i v j = f j from if_neg hji]
          refine (hΦ.out todo j).out _ _ _ hb (hf j hj ?_)
          simpa [hji] using hgj
      · by_cases hji : j = i
        · have hki : ¬ k = i := fun e => hjk (hji.trans e.symm)
          have hgk' : g k = true := by simpa [hki] using hgk
          rw [show upd f i v k = f k from if_neg hki, show upd f i v j = v from if_pos hji]
          exact (newP_ne (hnw (hji ▸ haj)) (hA k hak _ _ (hf k hk hgk'))).symm
        · have hgj' : g j = true := by simpa [hji] using hgj
          rw [show upd f i v j = f j from if_neg hji]
          by_cases hki : k = i
          · rw [show upd f i v k = v from if_pos hki]
            exact newP_ne (hnw (hki ▸ hak)) (hA j haj _ _ (hf j hj hgj'))
          · rw [show upd f i v k = f k from if_neg hki]
            exact hnf j k haj hak hj hk hgj' (by simpa [hki] using hgk) hjk
      · by_cases hji : j = i
        · subst hji
          have := List.mem_filter.1 (hp k hk)
          exact ⟨this.1, by simp [this.2]⟩
        · have := hcl j hj (by simpa [hji] using hgj) k hk
          exact ⟨this.1, by simp [this.2]⟩
  have h0 := key todo.length (fun _ => false) (slotOf a0 dl) w (by simp) hS (Below.refl _ _) (fun _ _ h => nomatch h) (fun _ _ _ _ _ _ h => nomatch h) (fun _ _ h => nomatch h)
  rw [putAll_self a0 dl (slotOf_eq a0 dl (hT ▸ hnd))] at h0
  have hnil : todo.filter (fun _ => false) = [] := List.filter_eq_nil_iff.2 (fun _ _ => by simp)
  rw [hnil] at h0
  exact h0
theorem Ex.below {w W W' : World} {L : List Nat} (h : Below W.heap.size W W') (e : Ex w L W) : Ex w L W' :=
  have := Kp1.mk h
  inferInstance
end
/-- Kinds of what lasts. -/
def phiN (n k : Nat) (v : Value) (W : World) : Prop := ∃ a l c, v = .slice a l c ∧ CN W (.slice a l c) n k
def phiR (n k : Nat) (v : Value) (W : World) : Prop := ∃ a l c, v = .slice a l c ∧ CR W (.slice a l c) n k
/-- A box of type t with the cells l that was made after w0. -/
def phiB (w0 : World) (t : TypeId) (l : List Value) (v : Value) (W : World) : Prop := ∃ b, v = .pointer (some ⟨b, 0, none⟩) ∧ Bx W b t l ∧ Ge w0 b ∧ Gg w0 b
instance {n k : Nat} : Last (phiN n k) := ⟨fun _ _ _ hb ⟨a, l, c, e, _⟩ => have := Kp1.mk hb; ⟨a, l, c, e, inferInstance⟩⟩
instance {n k : Nat} : Last (phiR n k) := ⟨fun _ _ _ hb ⟨a, l, c, e, _⟩ => have := Kp1.mk hb; ⟨a, l, c, e, inferInstance⟩⟩
instance {w0 : World} {t : TypeId} {l : List Value} : Last (phiB w0 t l) := ⟨fun _ _ _ hb ⟨b, e, _, h1, h2⟩ => have := Kp1.mk hb; ⟨b, e, inferInstance, h1, h2⟩⟩
def phiV (v0 v : Value) (_ : World) : Prop := v = v0
instance {v0 : Value} : Last (phiV v0) := ⟨fun _ _ _ _ e => e⟩
theorem phiN.fin {n n' k k' : Nat} {a : Option Addr} {l c : Nat} {W : World} [h : CN W (.slice a l c) n' k'] (e : n' = n) (b : k' ≤ k) : phiN n k (.slice a l c) W := ⟨a, l, c, rfl, by subst e; exact ⟨h.out.mono b⟩⟩
theorem phiR.fin {n n' k k' : Nat} {a : Option Addr} {l c : Nat} {W : World} [h : CR W (.slice a l c) n' k'] (e : n' = n) (b : k' ≤ k) : phiR n k (.slice a l c) W := ⟨a, l, c, rfl, by subst e; exact ⟨h.out.mono b⟩⟩
theorem phiB.fin {w0 W : World} {t : TypeId} {l : List Value} {b : Nat} [h : Bx W b t l] [h1 : Ge w0 b] [h2 : Gg w0 b] : phiB w0 t l (.pointer (some ⟨b, 0, none⟩)) W := ⟨b, rfl, h, h1, h2⟩
theorem phiB.old {w0 W : World} {t : TypeId} {l : List Value} {v : Value} (h : phiB w0 t l v W) : OldP v W := by
  obtain ⟨b, e, h, _, _⟩ := h
  exact ⟨b, e, h.lt⟩
end Go.Proofs.YtfdgglddldlpjaaGreat
