/-
  Texts of this claim, joined: Ln5, Ln6, Ln7, Ln13, Sge, Rg11.
-/
import Derived.Test.YtdlnoeegboapkaaGreatDoorCR
import Derived.Test.YtdlnoeegboapkaaGreatDoorCQ
import Derived.Test.YtdlnoeegboapkaaGreatDoorCP
/- Lines through points: package line and the reference; lines off the tape. printed by a small program (mkln5.py). -/
namespace Go.Proofs.YtdlnoeegboapkaaGreatDoor
open Go.RowKit
set_option maxRecDepth 100000
set_option maxHeartbeats 40000000
set_option synthInstance.maxSize 100000
set_option synthInstance.maxHeartbeats 1000000
set_option linter.unusedVariables false

def phiQ (x : Rat) (k : Nat) (v : Value) (W : World) : Prop := ∃ g a l c aa ll cc, v = .agg #[.bool g, .slice a l c, .slice aa ll cc] ∧ CQ W (.agg #[.bool g, .slice a l c, .slice aa ll cc]) x k
instance {x : Rat} {k : Nat} : Last (phiQ x k) := ⟨fun _ _ _ hb ⟨g, a, l, c, aa, ll, cc, e, _⟩ => have := Kp1.mk hb; ⟨g, a, l, c, aa, ll, cc, e, inferInstance⟩⟩
theorem phiQ.fin {x x' : Rat} {k k' : Nat} {g : Bool} {a aa : Option Addr} {l c ll cc : Nat} {W : World} [h : CQ W (.agg #[.bool g, .slice a l c, .slice aa ll cc]) x' k'] (e : x' = x) (b : k' ≤ k) : phiQ x k (.agg #[.bool g, .slice a l c, .slice aa ll cc]) W := ⟨g, a, l, c, aa, ll, cc, rfl, h.cast e b⟩
/-- The coefficients of the line through two points, not yet in lowest terms. -/
abbrev thA (y1 y2 : Rat) : Rat := -(y2 - y1)
abbrev thC (x1 y1 x2 y2 : Rat) : Rat := -(-(y2 - y1) * x1 + (x2 - x1) * y1)
theorem lnV_num {a b : Rat} (c : Rat) (h : ¬ (a = 0 ∧ b = 0)) : LnV (lnK a a b c).num (lnK b a b c).num (lnK c a b c).num := by
  obtain ⟨A, B, C, h1, h2, h3, h4⟩ := lnK_valid (c := c) h
  rw [← h1, ← h2, ← h3]
  exact h4
theorem thr_num {a b c : Rat} (h : ¬ (a = 0 ∧ b = 0)) {M : Int} (hm : M = ((a.den * b.den * c.den : Nat) : Int)) : ¬ ((a * ((M : Int) : Rat)).num = 0 ∧ (b * ((M : Int) : Rat)).num = 0) ∧
    (a * ((M : Int) : Rat)).num / ((gcd3 (a * ((M : Int) : Rat)).num (b * ((M : Int) : Rat)).num (c * ((M : Int) : Rat)).num : Nat) : Int) = (lnK a a b c).num ∧
    (b * ((M : Int) : Rat)).num / ((gcd3 (a * ((M : Int) : Rat)).num (b * ((M : Int) : Rat)).num (c * ((M : Int) : Rat)).num : Nat) : Int) = (lnK b a b c).num ∧
    (c * ((M : Int) : Rat)).num / ((gcd3 (a * ((M : Int) : Rat)).num (b * ((M : Int) : Rat)).num (c * ((M : Int) : Rat)).num : Nat) : Int) = (lnK c a b c).num := by
  subst hm
  have hm : (0 : Rat) < (((a.den * b.den * c.den : Nat) : Int) : Rat) := by
    have : 0 < a.den * b.den * c.den := Nat.mul_pos (Nat.mul_pos a.den_pos b.den_pos) c.den_pos
    exact Rat.intCast_pos.2 (by omega)
  have ha := mulD_int a (m := a.den * b.den * c.den) ⟨b.den * c.den, by rw [Nat.mul_assoc]⟩
  have hb := mulD_int b (m := a.den * b.den * c.den) ⟨a.den * c.den, by rw [Nat.mul_comm a.den b.den, Nat.mul_assoc]⟩
  have hc := mulD_int c (m := a.den * b.den * c.den) ⟨a.den * b.den, by rw [Nat.mul_comm]⟩
  generalize (((a.den * b.den * c.den : Nat) : Int) : Rat) = m at *
  generalize (a * m).num = x at *
  generalize (b * m).num = y at *
  generalize (c * m).num = z at *
  have hxy : ¬ (x = 0 ∧ y = 0) := by
    rintro ⟨rfl, rfl⟩
    refine h ⟨?_, ?_⟩
    · rcases Rat.mul_eq_zero.1 (ha.trans rfl) with e | e
      · exact e
      · rw [e] at hm; exact absurd hm (by decide)
    · rcases Rat.mul_eq_zero.1 (hb.trans rfl) with e | e
      · exact e
      · rw [e] at hm; exact absurd hm (by decide)
  have hd := gcd3_dvd x y z
  refine ⟨hxy, ?_, ?_, ?_⟩
  · rw [← lnK_mul a a b c hm, ha, hb, hc, lnK_int hxy hd.1]; rfl
  · rw [← lnK_mul b a b c hm, ha, hb, hc, lnK_int hxy hd.2.1]; rfl
  · rw [← lnK_mul c a b c hm, ha, hb, hc, lnK_int hxy hd.2.2]; rfl
theorem Calls.cNpos {P : Program} {f : FuncId} {args : Array Value} {w : World} {n k : Nat} {K : Ending → World → Prop} (h : Calls P f args w (CNRet w n k)) (hn : n ≠ 0)
    (hK : ∀ w' [Kp1 w w'] (a : Option Addr) (l c : Nat) [CN w' (.slice a l c) n k], ((l : Int) == 0) = false → K (.returned (.slice a l c)) w') : Calls P f args w K := by
  refine h.mono ?_
  rintro e w' ⟨a, l, c, rfl, hx, hb⟩
  refine @hK w' ⟨hb⟩ a l c hx ?_
  rw [beq_eq_false_iff_ne, hx.out.len]
  have := nf_len_pos hn
  omega
theorem gcd3_nat (a b c : Int) : gcd3 a b c ∣ a.natAbs ∧ gcd3 a b c ∣ b.natAbs ∧ gcd3 a b c ∣ c.natAbs :=
  ⟨Nat.dvd_trans (Nat.gcd_dvd_left _ _) (Nat.gcd_dvd_left _ _), Nat.dvd_trans (Nat.gcd_dvd_left _ _) (Nat.gcd_dvd_right _ _), Nat.gcd_dvd_right _ _⟩
theorem gThroughOk {w : World} {n1x d1x n1y d1y n2x d2x n2y d2y : Int} {p1x p1y p2x p2y : Option Addr} {x1 y1 x2 y2 : Rat} {k1x k1y k2x k2y : Nat} [h1x : CF w (.agg #[.int .i64 n1x, .int .i64 d1x, .pointer p1x]) x1 k1x] [h1y : CF w (.agg #[.int .i64 n1y, .int .i64 d1y, .pointer p1y]) y1 k1y] [h2x : CF w (.agg #[.int .i64 n2x, .int .i64 d2x, .pointer p2x]) x2 k2x] [h2y : CF w (.agg #[.int .i64 n2y, .int .i64 d2y, .pointer p2y]) y2 k2y] (b : k1x ≤ 600 ∧ k1y ≤ 600 ∧ k2x ≤ 600 ∧ k2y ≤ 600) (h0 : Hid (¬ (thA y1 y2 = 0 ∧ x2 - x1 = 0))) :
    Calls Tryz.prog 207 #[.agg #[.int .i64 n1x, .int .i64 d1x, .pointer p1x, .int .i64 n1y, .int .i64 d1y, .pointer p1y], .agg #[.int .i64 n2x, .int .i64 d2x, .pointer p2x, .int .i64 n2y, .int .i64 d2y, .pointer p2y]] w (LFBRet w (lnK (thA y1 y2) (thA y1 y2) (x2 - x1) (thC x1 y1 x2 y2)) (lnK (x2 - x1) (thA y1 y2) (x2 - x1) (thC x1 y1 x2 y2)) (lnK (thC x1 y1 x2 y2) (thA y1 y2) (x2 - x1) (thC x1 y1 x2 y2)) true (20 * (k1x + k1y + k2x + k2y) + 200)) := by
  go_enter Tryz.func207, Tryz.ntmps207
  go_wp2_with (first
    | (go_at_call 170; (with_reducible refine Calls.cPF (ptSubC (by omega)) ?_); intros)
    | (go_at_call 266; (with_reducible refine Calls.cPF (turnC (by omega)) ?_); intros))
  refine rgn [w.heap.size + 1 + 1] [] fun hHeld => ?_
  refine tk 0 hHeld ?_
  refine tk 1 hHeld ?_
  refine tk 2 hHeld ?_
  refine tk 3 hHeld ?_
  refine tk 4 hHeld ?_
  refine tk 5 hHeld ?_
  refine st 6 fun K hK => ?_
  go_simp
  (with_reducible refine Calls.cF (gDotC (by omega)) ?_); intros
  refine hd hK ?_
  clear hHeld hK K
  intro hHeld
  refine st 7 fun K hK => ?_
  go_simp
  (with_reducible refine Calls.cF (rNegC (by omega)) ?_); intros
  refine hd hK ?_
  clear hHeld hK K
  intro hHeld
  refine st 8 fun K hK => ?_
  go_simp
  (with_reducible refine Calls.cLFB (makeOk (by omega) h0) ?_); intros
  refine hd hK ?_
  clear hHeld hK K
  intro hHeld
  refine tk 9 hHeld ?_
  refine tk 10 hHeld ?_
  refine st 11 fun K hK => ?_
  go_simp
  refine hd hK ?_
  clear hHeld hK K
  intro hHeld
  refine tk 12 hHeld ?_
  refine dn ?_
  clear hHeld
  go_wp2_with fail
  refine ret_bt rfl Tryz.underlying178 rfl (by kernel_rfl) rfl rfl rfl ?_
  exact LFBRet.fin rfl (by omega) rfl (by omega) rfl (by omega)

theorem gThroughNo {w : World} {n1x d1x n1y d1y n2x d2x n2y d2y : Int} {p1x p1y p2x p2y : Option Addr} {x1 y1 x2 y2 : Rat} {k1x k1y k2x k2y : Nat} [h1x : CF w (.agg #[.int .i64 n1x, .int .i64 d1x, .pointer p1x]) x1 k1x] [h1y : CF w (.agg #[.int .i64 n1y, .int .i64 d1y, .pointer p1y]) y1 k1y] [h2x : CF w (.agg #[.int .i64 n2x, .int .i64 d2x, .pointer p2x]) x2 k2x] [h2y : CF w (.agg #[.int .i64 n2y, .int .i64 d2y, .pointer p2y]) y2 k2y] (b : k1x ≤ 600 ∧ k1y ≤ 600 ∧ k2x ≤ 600 ∧ k2y ≤ 600) (h0 : Hid (thA y1 y2 = 0 ∧ x2 - x1 = 0)) :
    Calls Tryz.prog 207 #[.agg #[.int .i64 n1x, .int .i64 d1x, .pointer p1x, .int .i64 n1y, .int .i64 d1y, .pointer p1y], .agg #[.int .i64 n2x, .int .i64 d2x, .pointer p2x, .int .i64 n2y, .int .i64 d2y, .pointer p2y]] w (LFBRet w 0 0 0 false (20 * (k1x + k1y + k2x + k2y) + 200)) := by
  go_enter Tryz.func207, Tryz.ntmps207
  go_wp2_with (first
    | (go_at_call 170; (with_reducible refine Calls.cPF (ptSubC (by omega)) ?_); intros)
    | (go_at_call 266; (with_reducible refine Calls.cPF (turnC (by omega)) ?_); intros))
  refine rgn [w.heap.size + 1 + 1] [] fun hHeld => ?_
  refine tk 0 hHeld ?_
  refine tk 1 hHeld ?_
  refine tk 2 hHeld ?_
  refine tk 3 hHeld ?_
  refine tk 4 hHeld ?_
  refine tk 5 hHeld ?_
  refine st 6 fun K hK => ?_
  go_simp
  (with_reducible refine Calls.cF (gDotC (by omega)) ?_); intros
  refine hd hK ?_
  clear hHeld hK K
  intro hHeld
  refine st 7 fun K hK => ?_
  go_simp
  (with_reducible refine Calls.cF (rNegC (by omega)) ?_); intros
  refine hd hK ?_
  clear hHeld hK K
  intro hHeld
  refine st 8 fun K hK => ?_
  go_simp
  (with_reducible refine Calls.cLFB (makeNo h0) ?_); intros
  refine hd hK ?_
  clear hHeld hK K
  intro hHeld
  refine tk 9 hHeld ?_
  refine tk 10 hHeld ?_
  refine st 11 fun K hK => ?_
  go_simp
  refine hd hK ?_
  clear hHeld hK K
  intro hHeld
  refine tk 12 hHeld ?_
  refine dn ?_
  clear hHeld
  go_wp2_with fail
  refine ret_bt rfl Tryz.underlying178 rfl (by kernel_rfl) rfl rfl rfl ?_
  exact LFBRet.fin rfl (by omega) rfl (by omega) rfl (by omega)

theorem refMakeOk {w : World} {g1 g2 g3 : Bool} {a1 a2 a3 : Option Addr} {l1 c1 l2 c2 l3 c3 k1 k2 k3 : Nat} {x y z : Int} [h1 : CZ w (.agg #[.bool g1, .slice a1 l1 c1]) x k1] [h2 : CZ w (.agg #[.bool g2, .slice a2 l2 c2]) y k2] [h3 : CZ w (.agg #[.bool g3, .slice a3 l3 c3]) z k3] (b : k1 ≤ 50000 ∧ k2 ≤ 50000 ∧ k3 ≤ 50000) (h0 : Hid (¬ (x = 0 ∧ y = 0))) :
    Calls Tryz.prog 218 #[.agg #[.bool g1, .slice a1 l1 c1], .agg #[.bool g2, .slice a2 l2 c2], .agg #[.bool g3, .slice a3 l3 c3]] w (LZBRet w (x / ((gcd3 x y z : Nat) : Int)) (y / ((gcd3 x y z : Nat) : Int)) (z / ((gcd3 x y z : Nat) : Int)) true (max k1 (max k2 k3) + 4)) := by
  have z1 := zz_of h1
  have z2 := zz_of h2
  have z3 := zz_of h3
  have n1 : CN w (.slice a1 l1 c1) x.natAbs k1 := ⟨z1.2⟩
  have n2 : CN w (.slice a2 l2 c2) y.natAbs k2 := ⟨z2.2⟩
  have n3 : CN w (.slice a3 l3 c3) z.natAbs k3 := ⟨z3.2⟩
  have hg : Nat.gcd x.natAbs y.natAbs ≠ 0 := by
    intro e
    obtain ⟨e1, e2⟩ := Nat.gcd_eq_zero_iff.1 e
    exact h0.out ⟨Int.natAbs_eq_zero.1 e1, Int.natAbs_eq_zero.1 e2⟩
  have hg3 : Nat.gcd (Nat.gcd x.natAbs y.natAbs) z.natAbs ≠ 0 := fun e => hg (Nat.gcd_eq_zero_iff.1 e).1
  have HS1 : Hid (sgn g1 (x.natAbs / Nat.gcd (Nat.gcd x.natAbs y.natAbs) z.natAbs) = x / ((gcd3 x y z : Nat) : Int)) := sgn_div z1.1 (gcd3_nat x y z).1
  have HS2 : Hid (sgn g2 (y.natAbs / Nat.gcd (Nat.gcd x.natAbs y.natAbs) z.natAbs) = y / ((gcd3 x y z : Nat) : Int)) := sgn_div z2.1 (gcd3_nat x y z).2.1
  have HS3 : Hid (sgn g3 (z.natAbs / Nat.gcd (Nat.gcd x.natAbs y.natAbs) z.natAbs) = z / ((gcd3 x y z : Nat) : Int)) := sgn_div z3.1 (gcd3_nat x y z).2.2
  clear z1 z2 z3
  go_enter Tryz.func218, Tryz.ntmps218
  go_wp2_with (first
    | (go_at_call 138; (with_reducible refine Calls.cNpos (commonC (m := x.natAbs) (n := y.natAbs) (by omega)) hg ?_); intros)
    | (go_at_call 138; (with_reducible refine Calls.cN (commonC (by omega)) ?_); intros)
    | (go_at_call 140; (with_reducible refine Calls.cQR (divideC (by omega) hg3) ?_); intros))
  refine rgn [w.heap.size + 1 + 1 + 1] [] fun hHeld => ?_
  refine tk 0 hHeld ?_
  refine tk 1 hHeld ?_
  refine tk 2 hHeld ?_
  refine tk 4 hHeld ?_
  refine tk 5 hHeld ?_
  refine tk 6 hHeld ?_
  refine tk 8 hHeld ?_
  refine tk 9 hHeld ?_
  refine tk 10 hHeld ?_
  refine st 3 fun K hK => ?_
  go_simp
  (with_reducible refine Calls.cSg (makeC) ?_); intros
  refine hd hK ?_
  clear hHeld hK K
  intro hHeld
  refine st 7 fun K hK => ?_
  go_simp
  (with_reducible refine Calls.cSg (makeC) ?_); intros
  refine hd hK ?_
  clear hHeld hK K
  intro hHeld
  refine st 11 fun K hK => ?_
  go_simp
  (with_reducible refine Calls.cSg (makeC) ?_); intros
  refine hd hK ?_
  clear hHeld hK K
  intro hHeld
  refine tk 12 hHeld ?_
  refine st 13 fun K hK => ?_
  go_simp
  refine hd hK ?_
  clear hHeld hK K
  intro hHeld
  refine tk 14 hHeld ?_
  refine dn ?_
  clear hHeld
  go_wp2_with fail
  refine ret_bt rfl Tryz.underlying163 rfl (by kernel_rfl) rfl rfl rfl ?_
  exact LZBRet.fin HS1.out (by omega) HS2.out (by omega) HS3.out (by omega)

theorem toLC {w : World} {g1x g1y g1z : Bool} {a1x a1y a1z : Option Addr} {l1x c1x l1y c1y l1z c1z k1x k1y k1z : Nat} {la lb lc : Int} [h1x : CZ w (.agg #[.bool g1x, .slice a1x l1x c1x]) la k1x] [h1y : CZ w (.agg #[.bool g1y, .slice a1y l1y c1y]) lb k1y] [h1z : CZ w (.agg #[.bool g1z, .slice a1z l1z c1z]) lc k1z] (b : k1x ≤ 300000 ∧ k1y ≤ 300000 ∧ k1z ≤ 300000) :
    Calls Tryz.prog 158 #[.agg #[.bool g1x, .slice a1x l1x c1x, .bool g1y, .slice a1y l1y c1y, .bool g1z, .slice a1z l1z c1z]] w (CLZRet w la lb lc (max k1x (max k1y k1z))) := by
  go_enter Tryz.func158, Tryz.ntmps158
  go_wp2_with fail
  refine rgn [w.heap.size + 1] [] fun hHeld => ?_
  refine tk 0 hHeld ?_
  refine tk 1 hHeld ?_
  refine tk 3 hHeld ?_
  refine tk 4 hHeld ?_
  refine tk 6 hHeld ?_
  refine tk 7 hHeld ?_
  refine st 2 fun K hK => ?_
  go_simp
  (with_reducible refine Calls.cZ (toIC (by omega)) ?_); intros
  refine hd hK ?_
  clear hHeld hK K
  intro hHeld
  refine st 5 fun K hK => ?_
  go_simp
  (with_reducible refine Calls.cZ (toIC (by omega)) ?_); intros
  refine hd hK ?_
  clear hHeld hK K
  intro hHeld
  refine st 8 fun K hK => ?_
  go_simp
  (with_reducible refine Calls.cZ (toIC (by omega)) ?_); intros
  refine hd hK ?_
  clear hHeld hK K
  intro hHeld
  refine tk 9 hHeld ?_
  refine st 10 fun K hK => ?_
  go_simp
  refine hd hK ?_
  clear hHeld hK K
  intro hHeld
  refine dn ?_
  clear hHeld
  go_wp2
  refine ret_bx rfl Tryz.underlying156 rfl (by kernel_rfl) rfl rfl rfl ?_
  exact CLZRet.fin rfl (by omega) rfl (by omega) rfl (by omega)

end Go.Proofs.YtdlnoeegboapkaaGreatDoor

/- The reference's line through two points; lines off the tape. printed by a small program (mkln6.py). -/
namespace Go.Proofs.YtdlnoeegboapkaaGreatDoor
open Go.RowKit
set_option maxRecDepth 100000
set_option maxHeartbeats 40000000
set_option synthInstance.maxSize 100000
set_option synthInstance.maxHeartbeats 1000000
set_option linter.unusedVariables false

theorem Calls.cQz {P : Program} {f : FuncId} {args : Array Value} {w : World} {x : Rat} {k : Nat} {K : Ending → World → Prop} (h : Calls P f args w (CQRet w x k))
    (hK : ∀ w' [Kp1 w w'] (g : Bool) (a : Option Addr) (l c : Nat) (aa : Option Addr) (ll cc : Nat) [CQ w' (.agg #[.bool g, .slice a l c, .slice aa ll cc]) x k] [CZ w' (.agg #[.bool g, .slice a l c]) x.num k], K (.returned (.agg #[.bool g, .slice a l c, .slice aa ll cc])) w') : Calls P f args w K := by
  refine h.mono ?_
  rintro e w' ⟨g, a, l, c, aa, ll, cc, rfl, hx, hb⟩
  exact @hK w' ⟨hb⟩ g a l c aa ll cc hx hx.num
theorem thr_ne {x y u v : Rat} (h : ¬ (u = 0 ∧ v = 0)) : Hid (¬ (thA y (y + ((1 : Int) : Rat) * v) = 0 ∧ x + ((1 : Int) : Rat) * u - x = 0)) := by
  rintro ⟨h1, h2⟩
  refine h ⟨?_, ?_⟩
  · rw [show ((1 : Int) : Rat) = 1 from rfl] at h2; grind
  · unfold thA at h1; rw [show ((1 : Int) : Rat) = 1 from rfl] at h1; grind
theorem CZ.tight {W : World} {v : Value} {z : Int} {k m : Nat} (h : CZ W v z k) (b : (nf z.natAbs).length ≤ m) : CZ W v z m := by
  obtain ⟨g, a, l, c, e, h1, h2⟩ := h.out
  exact ⟨g, a, l, c, e, h1, h2.1, b⟩
theorem div_len {a : Int} {g : Nat} (hd : ((g : Nat) : Int) ∣ a) (ha : a.natAbs < 4294967296) : (nf (a / ((g : Nat) : Int)).natAbs).length ≤ 1 := by
  refine nf_len_le (k := 1) ?_
  obtain ⟨k, rfl⟩ := hd
  by_cases h0 : (g : Int) = 0
  · rw [h0]; simp
  · rw [Int.mul_ediv_cancel_left _ h0]
    rw [Int.natAbs_mul] at ha
    have h1 : 1 ≤ g := by omega
    have h2 : 1 * k.natAbs ≤ g * k.natAbs := Nat.mul_le_mul_right _ h1
    simp only [Int.natAbs_natCast] at ha
    simp only [Nat.pow_one]
    omega
theorem mul16 {a b : Int} (ha : -4 ≤ a ∧ a ≤ 4) (hb : -4 ≤ b ∧ b ≤ 4) : (a * b).natAbs ≤ 16 := by
  rw [Int.natAbs_mul]
  have h1 : a.natAbs ≤ 4 := by omega
  have h2 : b.natAbs ≤ 4 := by omega
  exact Nat.le_trans (Nat.mul_le_mul h1 h2) (by decide)
theorem thr_a (y v : Int) : thA (y : Rat) ((y : Rat) + ((1 : Int) : Rat) * (v : Rat)) = ((-v : Int) : Rat) := by
  unfold thA; rw [Rat.intCast_neg, show ((1 : Int) : Rat) = 1 from rfl]; grind
theorem thr_b (x u : Int) : (x : Rat) + ((1 : Int) : Rat) * (u : Rat) - (x : Rat) = ((u : Int) : Rat) := by
  rw [show ((1 : Int) : Rat) = 1 from rfl]; grind
theorem thr_c (x y u v : Int) : thC (x : Rat) (y : Rat) ((x : Rat) + ((1 : Int) : Rat) * (u : Rat)) ((y : Rat) + ((1 : Int) : Rat) * (v : Rat)) = ((v * x - u * y : Int) : Rat) := by
  unfold thC; rw [Rat.intCast_sub, Rat.intCast_mul, Rat.intCast_mul, show ((1 : Int) : Rat) = 1 from rfl]; grind
theorem tape_ne {x y u v : Int} (hq : Hid (-4 ≤ u ∧ u ≤ 4 ∧ -4 ≤ v ∧ v ≤ 4 ∧ ¬ (u = 0 ∧ v = 0))) : Hid (¬ (thA (y : Rat) ((y : Rat) + ((1 : Int) : Rat) * (v : Rat)) = 0 ∧ (x : Rat) + ((1 : Int) : Rat) * (u : Rat) - (x : Rat) = 0)) :=
  thr_ne (fun h => hq.out.2.2.2.2 ⟨by exact_mod_cast h.1, by exact_mod_cast h.2⟩)
theorem tape_len {x y u v : Int} (hp : Hid (-4 ≤ x ∧ x ≤ 4 ∧ -4 ≤ y ∧ y ≤ 4)) (hq : Hid (-4 ≤ u ∧ u ≤ 4 ∧ -4 ≤ v ∧ v ≤ 4 ∧ ¬ (u = 0 ∧ v = 0))) :
    let A := thA (y : Rat) ((y : Rat) + ((1 : Int) : Rat) * (v : Rat)); let B := (x : Rat) + ((1 : Int) : Rat) * (u : Rat) - (x : Rat); let C := thC (x : Rat) (y : Rat) ((x : Rat) + ((1 : Int) : Rat) * (u : Rat)) ((y : Rat) + ((1 : Int) : Rat) * (v : Rat))
    (nf (lnK A A B C).num.natAbs).length ≤ 1 ∧ (nf (lnK B A B C).num.natAbs).length ≤ 1 ∧ (nf (lnK C A B C).num.natAbs).length ≤ 1 := by
  intro A B C
  obtain ⟨q1, q2, q3, q4, q5⟩ := hq.out
  obtain ⟨p1, p2, p3, p4⟩ := hp.out
  have hne : ¬ ((-v : Int) = 0 ∧ (u : Int) = 0) := fun h => q5 ⟨h.2, by omega⟩
  have hd := gcd3_dvd (-v) u (v * x - u * y)
  have m1 := mul16 (a := v) (b := x) ⟨q3, q4⟩ ⟨p1, p2⟩
  have m2 := mul16 (a := u) (b := y) ⟨q1, q2⟩ ⟨p3, p4⟩
  have eA : A = ((-v : Int) : Rat) := thr_a y v
  have eB : B = ((u : Int) : Rat) := thr_b x u
  have eC : C = ((v * x - u * y : Int) : Rat) := thr_c x y u v
  rw [eA, eB, eC, lnK_int hne hd.1, lnK_int hne hd.2.1, lnK_int hne hd.2.2]
  exact ⟨div_len hd.1 (by omega), div_len hd.2.1 (by omega), div_len hd.2.2 (by omega)⟩
theorem refThroughOk {w : World} {g1x g1y g2x g2y : Bool} {a1x aa1x a1y aa1y a2x aa2x a2y aa2y : Option Addr} {l1x c1x ll1x cc1x l1y c1y ll1y cc1y l2x c2x ll2x cc2x l2y c2y ll2y cc2y k1x k1y k2x k2y : Nat} {x1 y1 x2 y2 : Rat} [h1x : CQ w (.agg #[.bool g1x, .slice a1x l1x c1x, .slice aa1x ll1x cc1x]) x1 k1x] [h1y : CQ w (.agg #[.bool g1y, .slice a1y l1y c1y, .slice aa1y ll1y cc1y]) y1 k1y] [h2x : CQ w (.agg #[.bool g2x, .slice a2x l2x c2x, .slice aa2x ll2x cc2x]) x2 k2x] [h2y : CQ w (.agg #[.bool g2y, .slice a2y l2y c2y, .slice aa2y ll2y cc2y]) y2 k2y] (b : k1x ≤ 100 ∧ k1y ≤ 100 ∧ k2x ≤ 100 ∧ k2y ≤ 100) (h0 : Hid (¬ (thA y1 y2 = 0 ∧ x2 - x1 = 0))) :
    Calls Tryz.prog 160 #[.agg #[.bool g1x, .slice a1x l1x c1x, .slice aa1x ll1x cc1x, .bool g1y, .slice a1y l1y c1y, .slice aa1y ll1y cc1y], .agg #[.bool g2x, .slice a2x l2x c2x, .slice aa2x ll2x cc2x, .bool g2y, .slice a2y l2y c2y, .slice aa2y ll2y cc2y]] w (LZBRet w ((lnK (thA y1 y2) (thA y1 y2) (x2 - x1) (thC x1 y1 x2 y2))).num ((lnK (x2 - x1) (thA y1 y2) (x2 - x1) (thC x1 y1 x2 y2))).num ((lnK (thC x1 y1 x2 y2) (thA y1 y2) (x2 - x1) (thC x1 y1 x2 y2))).num true (10 * (max k1x k1y + max k2x k2y + 12) + 200)) := by
  go_enter Tryz.func160, Tryz.ntmps160
  go_upto_region 1 with fail
  go_cut [6] from 12 to 14 (fun s wx => ∃ (b6 : Nat) (gX : Bool) (aX : Option Addr) (lX cX : Nat) (aaX : Option Addr) (llX ccX : Nat) (gY : Bool) (aY : Option Addr) (lY cY : Nat) (aaY : Option Addr) (llY ccY : Nat), s = .pointer (some ⟨b6, 0, none⟩) ∧ Bx wx b6 47 [.bool gX, .slice aX lX cX, .slice aaX llX ccX, .bool gY, .slice aY lY cY, .slice aaY llY ccY] ∧ CQ wx (.agg #[.bool gX, .slice aX lX cX, .slice aaX llX ccX]) (x2 - x1) (max k1x k1y + max k2x k2y + 12) ∧ CQ wx (.agg #[.bool gY, .slice aY lY cY, .slice aaY llY ccY]) (y2 - y1) (max k1x k1y + max k2x k2y + 12) ∧ Bx wx w.heap.size 47 [.bool g1x, .slice a1x l1x c1x, .slice aa1x ll1x cc1x, .bool g1y, .slice a1y l1y c1y, .slice aa1y ll1y cc1y] ∧ Bx wx (w.heap.size + 1 + 1) 163 [.bool false, .slice none 0 0, .bool false, .slice none 0 0, .bool false, .slice none 0 0] ∧ CQ wx (.agg #[.bool g1x, .slice a1x l1x c1x, .slice aa1x ll1x cc1x]) x1 k1x ∧ CQ wx (.agg #[.bool g1y, .slice a1y l1y c1y, .slice aa1y ll1y cc1y]) y1 k1y ∧ Kp w wx)
  case first =>
    go_wp2_with (first
    | (go_at_call 178; (with_reducible refine Calls.cPQ (refPSubC (by omega)) ?_); intros))
    go_meet
    exact ⟨_, _, _, _, _, _, _, _, _, _, _, _, _, _, _, rfl, inferInstance, CQ.cast inferInstance rfl (by omega), CQ.cast inferInstance rfl (by omega), inferInstance, inferInstance, inferInstance, inferInstance, inferInstance⟩
  case rest =>
    obtain ⟨b6, gX, aX, lX, cX, aaX, llX, ccX, gY, aY, lY, cY, aaY, llY, ccY, rfl, i1, i2, i3, i4, i5, i6, i7, i8⟩ := hcut
    go_upto_region 2 with fail
    go_cut [7, 8] from 15 to 19 (fun p q wx => ∃ (b7 b8 : Nat) (gA : Bool) (aA : Option Addr) (lA cA : Nat) (aaA : Option Addr) (llA ccA : Nat), p = .pointer (some ⟨b7, 0, none⟩) ∧ q = .pointer (some ⟨b8, 0, none⟩) ∧ Bx wx b7 45 [.bool gA, .slice aA lA cA, .slice aaA llA ccA] ∧ Bx wx b8 45 [.bool gX, .slice aX lX cX, .slice aaX llX ccX] ∧ CQ wx (.agg #[.bool gA, .slice aA lA cA, .slice aaA llA ccA]) (thA y1 y2) (max k1x k1y + max k2x k2y + 12) ∧ Kp wc wx)
    case first =>
      refine rgn [] [] fun hHeld => ?_
      refine tk 0 hHeld ?_
      refine tk 1 hHeld ?_
      refine tk 3 hHeld ?_
      refine tk 4 hHeld ?_
      refine wpAnyT_inv [(2, 17), (5, 7), (6, 8)] (fun i => match i with | 2 => [] | 5 => [] | 6 => [] | _ => []) [phiQ (thA y1 y2) (max k1x k1y + max k2x k2y + 12), phiB wc 45 [.bool false, .slice none 0 0, .slice none 0 0], phiB wc 45 [.bool false, .slice none 0 0, .slice none 0 0]] [5, 6] 2 (by rfl) (by decide +kernel) (by decide) (by decide) (by kernel_rfl) ?_ (fun _ _ => Ex.below) hHeld ?_ ?_
      · intro i hi v W h
        simp only [List.mem_cons, List.not_mem_nil, or_false] at hi
        rcases hi with rfl | rfl
        all_goals exact phiB.old h
      · intro i hi f W hSw hbw hp
        have kw := Kp1.mk hbw
        have hSx := Ex1.mk hSw
        clear hHeld
        simp only [List.map_cons, List.map_nil, List.mem_cons, List.not_mem_nil, or_false] at hi
        rcases hi with rfl | rfl | rfl
        · refine ⟨_, by simp; rfl, fun K' hK => ?_⟩
          clear hp
          simp only [putAll, Act.put, List.setIfInBounds_toArray, List.set_cons_zero, List.set_cons_succ] at hK ⊢
          generalize f 2 = v2 at *
          generalize f 5 = v5 at *
          generalize f 6 = v6 at *
          go_simp
          (with_reducible refine Calls.cQ (numOppC) ?_); intros
          refine hK.out _ _ _ rfl (inferInstance : Kp W _).out ?_ ?_
          · exact phiQ.fin rfl (by omega)
          · exact fun h => absurd h (by decide)
        · refine ⟨_, by simp; rfl, fun K' hK => ?_⟩
          clear hp
          simp only [putAll, Act.put, List.setIfInBounds_toArray, List.set_cons_zero, List.set_cons_succ] at hK ⊢
          generalize f 2 = v2 at *
          generalize f 5 = v5 at *
          generalize f 6 = v6 at *
          go_simp
          refine hK.out _ _ _ rfl (inferInstance : Kp W _).out ?_ ?_
          · exact phiB.fin
          · exact fun _ => ⟨_, rfl, Nat.le_refl _⟩
        · refine ⟨_, by simp; rfl, fun K' hK => ?_⟩
          clear hp
          simp only [putAll, Act.put, List.setIfInBounds_toArray, List.set_cons_zero, List.set_cons_succ] at hK ⊢
          generalize f 2 = v2 at *
          generalize f 5 = v5 at *
          generalize f 6 = v6 at *
          go_simp
          refine hK.out _ _ _ rfl (inferInstance : Kp W _).out ?_ ?_
          · exact phiB.fin
          · exact fun _ => ⟨_, rfl, Nat.le_refl _⟩
      · intro f W hSw hbw hf hne
        have kw := Kp1.mk hbw
        have hSx := Ex1.mk hSw
        clear hHeld
        have h2 : phiQ (thA y1 y2) (max k1x k1y + max k2x k2y + 12) (f 2) W := hf 2 (by decide)
        have h5 : phiB wc 45 [.bool false, .slice none 0 0, .slice none 0 0] (f 5) W := hf 5 (by decide)
        have h6 : phiB wc 45 [.bool false, .slice none 0 0, .slice none 0 0] (f 6) W := hf 6 (by decide)
        have n5_6 := hne 5 6 (by decide) (by decide) (by decide) (by decide) (by decide)
        clear hf hne
        simp only [putAll, lset, List.map_cons, List.map_nil, Act.put, List.setIfInBounds_toArray, List.set_cons_zero, List.set_cons_succ]
        generalize f 2 = v2 at *
        generalize f 5 = v5 at *
        generalize f 6 = v6 at *
        obtain ⟨g2, a2, l2, c2, aa2, ll2, cc2, rfl, i2⟩ := h2
        obtain ⟨b5, rfl, i5, j5, k5⟩ := h5
        obtain ⟨b6, rfl, i6, j6, k6⟩ := h6
        have n5_6 := ptr_ne n5_6
        have n6_5 : NeN b6 b5 := ⟨fun e => n5_6.out e.symm⟩
        have hHeld := hSw
        refine st 7 fun K hK => ?_
        go_simp
        refine hd hK ?_
        clear hHeld hK K
        intro hHeld
        refine st 8 fun K hK => ?_
        go_simp
        refine hd hK ?_
        clear hHeld hK K
        intro hHeld
        refine dn ?_
        clear hHeld
        go_wp2_with fail
        go_meet
        exact ⟨_, _, _, _, _, _, _, _, _, rfl, rfl, inferInstance, inferInstance, inferInstance, inferInstance⟩
    case rest =>
      obtain ⟨b7, b8, gA, aA, lA, cA, aaA, llA, ccA, rfl, rfl, m1, m2, m3, ⟨m4⟩⟩ := hcut
      have m5 := Kp1.mk m4
      have m6 : Kp w wc := inferInstance
      go_upto_region 3 with fail
      go_cut [9] from 20 to 29 (fun p wx => ∃ (b9 : Nat) (gC : Bool) (aC : Option Addr) (lC cC : Nat) (aaC : Option Addr) (llC ccC : Nat), p = .pointer (some ⟨b9, 0, none⟩) ∧ Bx wx b9 45 [.bool gC, .slice aC lC cC, .slice aaC llC ccC] ∧ CQ wx (.agg #[.bool gC, .slice aC lC cC, .slice aaC llC ccC]) (thC x1 y1 x2 y2) (4 * (max k1x k1y + max k2x k2y + 12) + 40) ∧ Kp wc wx)
      case first =>
        refine rgn [] [] fun hHeld => ?_
        refine tk 0 hHeld ?_
        refine tk 1 hHeld ?_
        refine tk 2 hHeld ?_
        refine tk 4 hHeld ?_
        refine tk 5 hHeld ?_
        refine tk 6 hHeld ?_
        refine wpAnyT_inv [(3, 23), (7, 27), (8, 28), (9, 29), (10, 9)] (fun i => match i with | 3 => [] | 7 => [3] | 8 => [3, 7] | 9 => [8] | 10 => [] | _ => []) [phiQ (thA y1 y2 * x1) ((max k1x k1y + max k2x k2y + 12) + k1x + 5), phiQ ((x2 - x1) * y1) ((max k1x k1y + max k2x k2y + 12) + k1y + 5), phiQ (thA y1 y2 * x1 + (x2 - x1) * y1) (2 * (max k1x k1y + max k2x k2y + 12) + k1x + k1y + 15), phiQ (thC x1 y1 x2 y2) (4 * (max k1x k1y + max k2x k2y + 12) + 40), phiB wc 45 [.bool false, .slice none 0 0, .slice none 0 0]] [10] 1 (by rfl) (by decide +kernel) (by decide) (by decide) (by kernel_rfl) ?_ (fun _ _ => Ex.below) hHeld ?_ ?_
        · intro i hi v W h
          simp only [List.mem_cons, List.not_mem_nil, or_false] at hi
          rcases hi with rfl
          all_goals exact phiB.old h
        · intro i hi f W hSw hbw hp
          have kw := Kp1.mk hbw
          have hSx := Ex1.mk hSw
          clear hHeld
          simp only [List.map_cons, List.map_nil, List.mem_cons, List.not_mem_nil, or_false] at hi
          rcases hi with rfl | rfl | rfl | rfl | rfl
          · refine ⟨_, by simp; rfl, fun K' hK => ?_⟩
            clear hp
            simp only [putAll, Act.put, List.setIfInBounds_toArray, List.set_cons_zero, List.set_cons_succ] at hK ⊢
            generalize f 3 = v3 at *
            generalize f 7 = v7 at *
            generalize f 8 = v8 at *
            generalize f 9 = v9 at *
            generalize f 10 = v10 at *
            go_simp
            (with_reducible refine Calls.cQ (numTimesC (by omega)) ?_); intros
            refine hK.out _ _ _ rfl (inferInstance : Kp W _).out ?_ ?_
            · exact phiQ.fin rfl (by omega)
            · exact fun h => absurd h (by decide)
          · have h3 : phiQ (thA y1 y2 * x1) ((max k1x k1y + max k2x k2y + 12) + k1x + 5) (f 3) W := hp 3 (by decide)
            refine ⟨_, by simp; rfl, fun K' hK => ?_⟩
            clear hp
            simp only [putAll, Act.put, List.setIfInBounds_toArray, List.set_cons_zero, List.set_cons_succ] at hK ⊢
            generalize f 3 = v3 at *
            generalize f 7 = v7 at *
            generalize f 8 = v8 at *
            generalize f 9 = v9 at *
            generalize f 10 = v10 at *
            obtain ⟨g3, a3, l3, c3, aa3, ll3, cc3, rfl, i3⟩ := h3
            go_simp
            (with_reducible refine Calls.cQ (numTimesC (by omega)) ?_); intros
            refine hK.out _ _ _ rfl (inferInstance : Kp W _).out ?_ ?_
            · exact phiQ.fin rfl (by omega)
            · exact fun h => absurd h (by decide)
          · have h3 : phiQ (thA y1 y2 * x1) ((max k1x k1y + max k2x k2y + 12) + k1x + 5) (f 3) W := hp 3 (by decide)
            have h7 : phiQ ((x2 - x1) * y1) ((max k1x k1y + max k2x k2y + 12) + k1y + 5) (f 7) W := hp 7 (by decide)
            refine ⟨_, by simp; rfl, fun K' hK => ?_⟩
            clear hp
            simp only [putAll, Act.put, List.setIfInBounds_toArray, List.set_cons_zero, List.set_cons_succ] at hK ⊢
            generalize f 3 = v3 at *
            generalize f 7 = v7 at *
            generalize f 8 = v8 at *
            generalize f 9 = v9 at *
            generalize f 10 = v10 at *
            obtain ⟨g3, a3, l3, c3, aa3, ll3, cc3, rfl, i3⟩ := h3
            obtain ⟨g7, a7, l7, c7, aa7, ll7, cc7, rfl, i7⟩ := h7
            go_simp
            (with_reducible refine Calls.cQ (numPlusC (by omega)) ?_); intros
            refine hK.out _ _ _ rfl (inferInstance : Kp W _).out ?_ ?_
            · exact phiQ.fin rfl (by omega)
            · exact fun h => absurd h (by decide)
          · have h8 : phiQ (thA y1 y2 * x1 + (x2 - x1) * y1) (2 * (max k1x k1y + max k2x k2y + 12) + k1x + k1y + 15) (f 8) W := hp 8 (by decide)
            refine ⟨_, by simp; rfl, fun K' hK => ?_⟩
            clear hp
            simp only [putAll, Act.put, List.setIfInBounds_toArray, List.set_cons_zero, List.set_cons_succ] at hK ⊢
            generalize f 3 = v3 at *
            generalize f 7 = v7 at *
            generalize f 8 = v8 at *
            generalize f 9 = v9 at *
            generalize f 10 = v10 at *
            obtain ⟨g8, a8, l8, c8, aa8, ll8, cc8, rfl, i8⟩ := h8
            go_simp
            (with_reducible refine Calls.cQ (numOppC) ?_); intros
            refine hK.out _ _ _ rfl (inferInstance : Kp W _).out ?_ ?_
            · exact phiQ.fin rfl (by omega)
            · exact fun h => absurd h (by decide)
          · refine ⟨_, by simp; rfl, fun K' hK => ?_⟩
            clear hp
            simp only [putAll, Act.put, List.setIfInBounds_toArray, List.set_cons_zero, List.set_cons_succ] at hK ⊢
            generalize f 3 = v3 at *
            generalize f 7 = v7 at *
            generalize f 8 = v8 at *
            generalize f 9 = v9 at *
            generalize f 10 = v10 at *
            go_simp
            refine hK.out _ _ _ rfl (inferInstance : Kp W _).out ?_ ?_
            · exact phiB.fin
            · exact fun _ => ⟨_, rfl, Nat.le_refl _⟩
        · intro f W hSw hbw hf hne
          have kw := Kp1.mk hbw
          have hSx := Ex1.mk hSw
          clear hHeld
          have h3 : phiQ (thA y1 y2 * x1) ((max k1x k1y + max k2x k2y + 12) + k1x + 5) (f 3) W := hf 3 (by decide)
          have h7 : phiQ ((x2 - x1) * y1) ((max k1x k1y + max k2x k2y + 12) + k1y + 5) (f 7) W := hf 7 (by decide)
          have h8 : phiQ (thA y1 y2 * x1 + (x2 - x1) * y1) (2 * (max k1x k1y + max k2x k2y + 12) + k1x + k1y + 15) (f 8) W := hf 8 (by decide)
          have h9 : phiQ (thC x1 y1 x2 y2) (4 * (max k1x k1y + max k2x k2y + 12) + 40) (f 9) W := hf 9 (by decide)
          have h10 : phiB wc 45 [.bool false, .slice none 0 0, .slice none 0 0] (f 10) W := hf 10 (by decide)
          clear hf hne
          simp only [putAll, lset, List.map_cons, List.map_nil, Act.put, List.setIfInBounds_toArray, List.set_cons_zero, List.set_cons_succ]
          generalize f 3 = v3 at *
          generalize f 7 = v7 at *
          generalize f 8 = v8 at *
          generalize f 9 = v9 at *
          generalize f 10 = v10 at *
          obtain ⟨g3, a3, l3, c3, aa3, ll3, cc3, rfl, i3⟩ := h3
          obtain ⟨g7, a7, l7, c7, aa7, ll7, cc7, rfl, i7⟩ := h7
          obtain ⟨g8, a8, l8, c8, aa8, ll8, cc8, rfl, i8⟩ := h8
          obtain ⟨g9, a9, l9, c9, aa9, ll9, cc9, rfl, i9⟩ := h9
          obtain ⟨b10, rfl, i10, j10, k10⟩ := h10
          have hHeld := hSw
          refine st 11 fun K hK => ?_
          go_simp
          refine hd hK ?_
          clear hHeld hK K
          intro hHeld
          refine dn ?_
          clear hHeld
          go_wp2_with fail
          go_meet
          exact ⟨_, _, _, _, _, _, _, _, rfl, inferInstance, inferInstance, inferInstance⟩
      case rest =>
        obtain ⟨b9, gC, aC, lC, cC, aaC, llC, ccC, rfl, r1, r2, ⟨r3⟩⟩ := hcut
        have r5 := Kp1.mk r3
        have r6 : Kp w wc := inferInstance
        have hfld : ∀ (x0 x1 x2 : Value) (W : World), (Instr.field 45 (.agg #[x0, x1, x2]) 0).run Tryz.prog W = .ok (.agg #[x0, x1]) W := fun _ _ _ _ => by kernel_rfl
        go_wp2_with fail
        refine rgn [] [] fun hHeld => ?_
        refine tk 0 hHeld ?_
        refine tk 2 hHeld ?_
        refine tk 5 hHeld ?_
        refine st 1 fun K hK => ?_
        go_simp
        (with_reducible refine Calls.cN (numDenC) ?_); intros
        refine hd hK ?_
        clear hHeld hK K
        intro hHeld
        refine st 3 fun K hK => ?_
        go_simp
        (with_reducible refine Calls.cN (numDenC) ?_); intros
        refine hd hK ?_
        clear hHeld hK K
        intro hHeld
        refine st 4 fun K hK => ?_
        go_simp
        (with_reducible refine Calls.cN (numProductC (by omega)) ?_); intros
        refine hd hK ?_
        clear hHeld hK K
        intro hHeld
        refine st 6 fun K hK => ?_
        go_simp
        (with_reducible refine Calls.cN (numDenC) ?_); intros
        refine hd hK ?_
        clear hHeld hK K
        intro hHeld
        refine st 7 fun K hK => ?_
        go_simp
        (with_reducible refine Calls.cN (numProductC (by omega)) ?_); intros
        refine hd hK ?_
        clear hHeld hK K
        intro hHeld
        refine tk 8 hHeld ?_
        refine dn ?_
        clear hHeld
        obtain ⟨hne, e1, e2, e3⟩ := thr_num (c := thC x1 y1 x2 y2) (M := sgn false ((thA y1 y2).den * (x2 - x1).den * (thC x1 y1 x2 y2).den)) h0.out rfl
        have HNE := Lib.hid hne
        have HE := Lib.hid (And.intro e1 (And.intro e2 e3))
        clear hne e1 e2 e3
        go_wp2_with (first
    | (go_at_call 119; (with_reducible refine Calls.cSg (makeC) ?_); intros))
        refine rgn [] [15, 16] fun hHeld => ?_
        refine tk 0 hHeld ?_
        refine tk 1 hHeld ?_
        refine tk 4 hHeld ?_
        refine tk 5 hHeld ?_
        refine tk 8 hHeld ?_
        refine tk 9 hHeld ?_
        refine st 2 fun K hK => ?_
        go_simp
        (go_at_call 147; (with_reducible refine Calls.cQz (numTimesC (by omega)) ?_); intros)
        refine hd hK ?_
        clear hHeld hK K
        intro hHeld
        refine tk 3 hHeld ?_
        refine st 6 fun K hK => ?_
        go_simp
        (go_at_call 147; (with_reducible refine Calls.cQz (numTimesC (by omega)) ?_); intros)
        refine hd hK ?_
        clear hHeld hK K
        intro hHeld
        refine tk 7 hHeld ?_
        refine st 10 fun K hK => ?_
        go_simp
        (go_at_call 147; (with_reducible refine Calls.cQz (numTimesC (by omega)) ?_); intros)
        refine hd hK ?_
        clear hHeld hK K
        intro hHeld
        refine tk 11 hHeld ?_
        refine st 12 fun K hK => ?_
        go_simp
        (with_reducible refine Calls.cLZB (refMakeOk (by omega) HNE) ?_); intros
        refine hd hK ?_
        clear hHeld hK K
        intro hHeld
        refine tk 13 hHeld ?_
        refine tk 14 hHeld ?_
        refine st 15 fun K hK => ?_
        go_simp
        refine hdT hK ?_
        clear hK K
        refine tk0 16 ?_
        refine dn ?_
        clear hHeld
        go_wp2_with fail
        refine ret_bt rfl Tryz.underlying163 rfl (by kernel_rfl) rfl rfl rfl ?_
        exact LZBRet.fin HE.out.1 (by omega) HE.out.2.1 (by omega) HE.out.2.2 (by omega)

/-- A valid line is read off the tape. -/
def TLRet (w : World) (t : Nat) (k : Nat) (e : Ending) (w' : World) : Prop := ∃ (gx : Bool) (ax : Option Addr) (lx cx : Nat) (gy : Bool) (ay : Option Addr) (ly cy : Nat) (gz : Bool) (az : Option Addr) (lz cz : Nat) (la lb lc : Int), e = .returned (.agg #[.bool gx, .slice ax lx cx, .bool gy, .slice ay ly cy, .bool gz, .slice az lz cz]) ∧ CZ w' (.agg #[.bool gx, .slice ax lx cx]) la k ∧ CZ w' (.agg #[.bool gy, .slice ay ly cy]) lb k ∧ CZ w' (.agg #[.bool gz, .slice az lz cz]) lc k ∧ Hid (LnV la lb lc) ∧ Ct w' t ∧ Gb w w' t
theorem Calls.cTL {P : Program} {f : FuncId} {args : Array Value} {w : World} {t k : Nat} {K : Ending → World → Prop} [ht : Ct w t] (h : Calls P f args w (TLRet w t k))
    (hK : ∀ w' [Tp1 w w' t] [Ct w' t] (gx : Bool) (ax : Option Addr) (lx cx : Nat) (gy : Bool) (ay : Option Addr) (ly cy : Nat) (gz : Bool) (az : Option Addr) (lz cz : Nat) (la lb lc : Int) [CZ w' (.agg #[.bool gx, .slice ax lx cx]) la k] [CZ w' (.agg #[.bool gy, .slice ay ly cy]) lb k] [CZ w' (.agg #[.bool gz, .slice az lz cz]) lc k], Hid (LnV la lb lc) → K (.returned (.agg #[.bool gx, .slice ax lx cx, .bool gy, .slice ay ly cy, .bool gz, .slice az lz cz])) w') : Calls P f args w K := by
  refine h.mono ?_
  rintro e w' ⟨gx, ax, lx, cx, gy, ay, ly, cy, gz, az, lz, cz, la, lb, lc, rfl, hx, hy, hz, hv, hc, hb⟩
  exact @hK w' ⟨hb.out, ht.out⟩ hc gx ax lx cx gy ay ly cy gz az lz cz la lb lc hx hy hz hv
end Go.Proofs.YtdlnoeegboapkaaGreatDoor

/- The sanity check of the laws of layer 5; lines in canonical orientation. printed by a small program (mkln7.py). -/
namespace Go.Proofs.YtdlnoeegboapkaaGreatDoor
open Go.RowKit
set_option linter.unusedVariables false
set_option linter.unusedSimpArgs false

theorem isgn_neg' (z : Int) : isgn (-z) = -isgn z := by
  unfold isgn
  repeat' split
  all_goals omega
instance CZ.zz {W : World} : CZ W (.agg #[.bool false, .slice none 0 0]) 0 0 := ⟨⟨_, _, _, _, rfl, rfl, Nn.nil W 0⟩⟩
instance CQ.zz {W : World} : CQ W (.agg #[.bool false, .slice none 0 0, .slice none 0 0]) 0 0 := CQ.mk' (h1 := CZ.zz) (h2 := CN.nil) rfl rfl (Nat.le_refl _) (Nat.le_refl _)
theorem LnV.k1 : Hid (LnV 0 1 0) := ⟨by decide, by decide +kernel⟩
theorem or2V {w : World} {q : Nat} {a b v : Int} [h : Bx w q 3 [.int .i64 a, .int .i64 b]] (hs : Hid (or3 a b 0 = v)) : Calls Tryz.prog 293 #[.slice (some ⟨q, 0, none⟩) 2 2] w fun e w' => e = .returned (.int .i64 v) ∧ Below w.heap.size w w' := by
  rw [← hs.out]; exact or2C
end Go.Proofs.YtdlnoeegboapkaaGreatDoor

/- Plain laws of the points of a line. -/
namespace Go.Proofs.YtdlnoeegboapkaaGreatDoor
open Go.RowKit
set_option linter.unusedVariables false

theorem CZ.len {W : World} {v : Value} {z : Int} {k : Nat} (h : CZ W v z k) : (nf z.natAbs).length ≤ k := by
  obtain ⟨g, a, l, c, e, h1, h2⟩ := h.out
  exact h2.2
/-- The points of a line. -/
abbrev pX (a b c : Int) (t : Rat) : Rat := (a : Rat) * (-(c : Rat) / ((a : Rat) * a + (b : Rat) * b)) + (b : Rat) * t
abbrev pY (a b c : Int) (t : Rat) : Rat := (b : Rat) * (-(c : Rat) / ((a : Rat) * a + (b : Rat) * b)) + -(a : Rat) * t
theorem sq_pos {a b : Int} (h : ¬ (a = 0 ∧ b = 0)) : 0 < (a : Rat) * a + (b : Rat) * b := by
  have h1 : (a : Rat) * a + (b : Rat) * b = ((a * a + b * b : Int) : Rat) := by simp [Rat.intCast_add, Rat.intCast_mul]
  have h2 := sq_ne h
  rw [h1] at h2 ⊢
  have p1 : 0 ≤ a * a := by rcases Int.le_total 0 a with h | h; exact Int.mul_nonneg h h; exact Int.mul_nonneg_of_nonpos_of_nonpos h h
  have p2 : 0 ≤ b * b := by rcases Int.le_total 0 b with h | h; exact Int.mul_nonneg h h; exact Int.mul_nonneg_of_nonpos_of_nonpos h h
  have h3 : a * a + b * b ≠ 0 := fun e => h2 (by rw [e]; rfl)
  exact Rat.intCast_pos.2 (by omega)
theorem left_val {a b c : Int} (h : LnV a b c) (t : Rat) : isgn ((a : Rat) * (pX a b c t + - -(a : Rat)) + (b : Rat) * (pY a b c t + (b : Rat)) + (c : Rat)).num = 1 := by
  refine isg_pos.2 ?_
  have h1 := on_line (t := t) (c := (c : Rat)) (sq_ne h.1)
  have h2 := sq_pos h.1
  have h3 : (a : Rat) * (pX a b c t + - -(a : Rat)) + (b : Rat) * (pY a b c t + (b : Rat)) + (c : Rat) = (a : Rat) * a + (b : Rat) * b := by unfold pX pY; grind
  rw [h3]; exact h2
theorem right_val {a b c : Int} (h : LnV a b c) (t : Rat) : isgn (((-a : Int) : Rat) * (pX a b c t + - -(a : Rat)) + ((-b : Int) : Rat) * (pY a b c t + (b : Rat)) + ((-c : Int) : Rat)).num = -1 := by
  refine isg_neg.2 ?_
  have h1 := on_line (t := t) (c := (c : Rat)) (sq_ne h.1)
  have h2 := sq_pos h.1
  have h3 : ((-a : Int) : Rat) * (pX a b c t + - -(a : Rat)) + ((-b : Int) : Rat) * (pY a b c t + (b : Rat)) + ((-c : Int) : Rat) = -((a : Rat) * a + (b : Rat) * b) := by
    rw [Rat.intCast_neg, Rat.intCast_neg, Rat.intCast_neg]; unfold pX pY; grind
  rw [h3]; grind
theorem th_a (a b c : Int) (s t : Rat) : thA (pY a b c s) (pY a b c t) = (a : Rat) * (t - s) := by unfold thA pY; grind
theorem th_b (a b c : Int) (s t : Rat) : pX a b c t - pX a b c s = (b : Rat) * (t - s) := by unfold pX; grind
theorem th_c {a b c : Int} (h : LnV a b c) (s t : Rat) : thC (pX a b c s) (pY a b c s) (pX a b c t) (pY a b c t) = (c : Rat) * (t - s) := by
  have h1 := on_line (t := s) (c := (c : Rat)) (sq_ne h.1)
  have ha := th_a a b c s t
  have hb := th_b a b c s t
  unfold thC
  have h2 : -(pY a b c t - pY a b c s) = (a : Rat) * (t - s) := ha
  rw [h2, hb]
  have h3 : (a : Rat) * pX a b c s + (b : Rat) * pY a b c s + (c : Rat) = 0 := h1
  grind
theorem th_ne {a b : Int} {d : Rat} (h : ¬ (a = 0 ∧ b = 0)) (hd : d ≠ 0) : ¬ ((a : Rat) * d = 0 ∧ (b : Rat) * d = 0) := fun ⟨h1, h2⟩ => h
  ⟨by rcases Rat.mul_eq_zero.1 h1 with e | e; exact_mod_cast e; exact absurd e hd, by rcases Rat.mul_eq_zero.1 h2 with e | e; exact_mod_cast e; exact absurd e hd⟩
/-- What the line through two points comes to. -/
def ThV (x1 y1 x2 y2 : Rat) (A B C : Int) : Prop := ¬ (thA y1 y2 = 0 ∧ x2 - x1 = 0) ∧ ((lnK (thA y1 y2) (thA y1 y2) (x2 - x1) (thC x1 y1 x2 y2))).num = A ∧ ((lnK (x2 - x1) (thA y1 y2) (x2 - x1) (thC x1 y1 x2 y2))).num = B ∧ ((lnK (thC x1 y1 x2 y2) (thA y1 y2) (x2 - x1) (thC x1 y1 x2 y2))).num = C
theorem th_same {a b c : Int} (h : LnV a b c) {s t : Rat} (hst : s < t) : ThV (pX a b c s) (pY a b c s) (pX a b c t) (pY a b c t) a b c := by
  have hd : 0 < t - s := by grind
  unfold ThV
  rw [th_a, th_b, th_c h, lnK_pos h hd, lnK_pos h hd, lnK_pos h hd]
  exact ⟨th_ne h.1 (by grind), rfl, rfl, rfl⟩
theorem th_opp {a b c : Int} (h : LnV a b c) {s t : Rat} (hst : t < s) : ThV (pX a b c s) (pY a b c s) (pX a b c t) (pY a b c t) (-a) (-b) (-c) := by
  have hd : 0 < s - t := by grind
  unfold ThV
  rw [th_a, th_b, th_c h]
  have e : ∀ z : Int, (z : Rat) * (t - s) = ((-z : Int) : Rat) * (s - t) := fun z => by rw [Rat.intCast_neg]; grind
  rw [e a, e b, e c, lnK_pos h.rev hd, lnK_pos h.rev hd, lnK_pos h.rev hd]
  exact ⟨th_ne h.rev.1 (by grind), rfl, rfl, rfl⟩
theorem th_zero {a b c : Int} {s t : Rat} (hst : s = t) : thA (pY a b c s) (pY a b c t) = 0 ∧ pX a b c t - pX a b c s = 0 := by
  subst hst
  rw [th_a, th_b]
  exact ⟨by grind, by grind⟩
def phiPA (x y : Rat) (k : Nat) (u : Value) (W : World) : Prop := ∃ gx ax lx cx aax llx ccx gy ay ly cy aay lly ccy, u = .agg #[.bool gx, .slice ax lx cx, .slice aax llx ccx, .bool gy, .slice ay ly cy, .slice aay lly ccy] ∧ CA W (.agg #[.bool gx, .slice ax lx cx, .slice aax llx ccx]) x k ∧ CA W (.agg #[.bool gy, .slice ay ly cy, .slice aay lly ccy]) y k
instance {x y : Rat} {k : Nat} : Last (phiPA x y k) := ⟨fun _ _ _ hb ⟨gx, ax, lx, cx, aax, llx, ccx, gy, ay, ly, cy, aay, lly, ccy, e, _, _⟩ => have := Kp1.mk hb; ⟨gx, ax, lx, cx, aax, llx, ccx, gy, ay, ly, cy, aay, lly, ccy, e, inferInstance, inferInstance⟩⟩
theorem phiPA.fin {W : World} {gx : Bool} {ax : Option Addr} {lx : Nat} {cx : Nat} {aax : Option Addr} {llx : Nat} {ccx : Nat} {gy : Bool} {ay : Option Addr} {ly : Nat} {cy : Nat} {aay : Option Addr} {lly : Nat} {ccy : Nat} {x x' : Rat} {kx : Nat} {y y' : Rat} {ky : Nat} {k : Nat} [hx : CA W (.agg #[.bool gx, .slice ax lx cx, .slice aax llx ccx]) x kx] [hy : CA W (.agg #[.bool gy, .slice ay ly cy, .slice aay lly ccy]) y ky] (ex : x = x') (mx : kx ≤ k) (ey : y = y') (my : ky ≤ k) : phiPA x' y' k (.agg #[.bool gx, .slice ax lx cx, .slice aax llx ccx, .bool gy, .slice ay ly cy, .slice aay lly ccy]) W := ⟨gx, ax, lx, cx, aax, llx, ccx, gy, ay, ly, cy, aay, lly, ccy, rfl, hx.cast ex mx, hy.cast ey my⟩
def phiA (x : Rat) (k : Nat) (u : Value) (W : World) : Prop := ∃ g a l c aa ll cc, u = .agg #[.bool g, .slice a l c, .slice aa ll cc] ∧ CA W (.agg #[.bool g, .slice a l c, .slice aa ll cc]) x k
instance {x : Rat} {k : Nat} : Last (phiA x k) := ⟨fun _ _ _ hb ⟨g, a, l, c, aa, ll, cc, e, _⟩ => have := Kp1.mk hb; ⟨g, a, l, c, aa, ll, cc, e, inferInstance⟩⟩
theorem phiA.fin {W : World} {g : Bool} {a : Option Addr} {l : Nat} {c : Nat} {aa : Option Addr} {ll : Nat} {cc : Nat} {x x' : Rat} {kx : Nat} {k : Nat} [hx : CA W (.agg #[.bool g, .slice a l c, .slice aa ll cc]) x kx] (ex : x = x') (mx : kx ≤ k) : phiA x' k (.agg #[.bool g, .slice a l c, .slice aa ll cc]) W := ⟨g, a, l, c, aa, ll, cc, rfl, hx.cast ex mx⟩
theorem numSV0 {w : World} {v : Int} {g1 : Bool} {a1 aa1 : Option Addr} {l1 c1 ll1 cc1 : Nat} {x : Rat} {k1 : Nat} [h1 : CQ w (.agg #[.bool g1, .slice a1 l1 c1, .slice aa1 ll1 cc1]) x k1] (hv : Hid (isgn x.num = v)) :
    Calls Tryz.prog 54 #[.agg #[.bool g1, .slice a1 l1 c1, .slice aa1 ll1 cc1]] w (fun e w' => e = .returned (.int .i64 v) ∧ Below w.heap.size w w') := by
  rw [← hv.out]; exact numSC
end Go.Proofs.YtdlnoeegboapkaaGreatDoor

/- The edges of a ring as segments; a convex ring is simple. Plain facts. -/
namespace Go.Proofs.YtdlnoeegboapkaaGreatDoor
open Go.RowKit
set_option linter.unusedVariables false

/-- The segment from p to q. -/
def segG (p q : Rat × Rat) : FG :=
  { a := (lnK (thA p.2 q.2) (thA p.2 q.2) (q.1 - p.1) (thC p.1 p.2 q.1 q.2)).num
    b := (lnK (q.1 - p.1) (thA p.2 q.2) (q.1 - p.1) (thC p.1 p.2 q.1 q.2)).num
    c := (lnK (thC p.1 p.2 q.1 q.2) (thA p.2 q.2) (q.1 - p.1) (thC p.1 p.2 q.1 q.2)).num
    lo := parL ((lnK (thA p.2 q.2) (thA p.2 q.2) (q.1 - p.1) (thC p.1 p.2 q.1 q.2)).num : Rat) ((lnK (q.1 - p.1) (thA p.2 q.2) (q.1 - p.1) (thC p.1 p.2 q.1 q.2)).num : Rat) p.1 p.2
    hi := parL ((lnK (thA p.2 q.2) (thA p.2 q.2) (q.1 - p.1) (thC p.1 p.2 q.1 q.2)).num : Rat) ((lnK (q.1 - p.1) (thA p.2 q.2) (q.1 - p.1) (thC p.1 p.2 q.1 q.2)).num : Rat) q.1 q.2 }
theorem th_ne2 {p q : Rat × Rat} (h : p ≠ q) : ¬ (thA p.2 q.2 = 0 ∧ q.1 - p.1 = 0) := by
  rintro ⟨h1, h2⟩
  refine h (Prod.ext_iff.2 ⟨by grind, ?_⟩)
  unfold thA at h1
  grind
theorem segG_G {p q : Rat × Rat} (h : p ≠ q) : LnV (segG p q).a (segG p q).b (segG p q).c ∧ ∃ G : Rat, 0 < G ∧ ((segG p q).a : Rat) * G = -(q.2 - p.2) ∧ ((segG p q).b : Rat) * G = q.1 - p.1 ∧ ((segG p q).c : Rat) * G = thC p.1 p.2 q.1 q.2 := by
  have hn := th_ne2 h
  refine ⟨lnV_num _ hn, lnG (thA p.2 q.2) (q.1 - p.1) (thC p.1 p.2 q.1 q.2), lnG_pos _ hn, ?_⟩
  have hG := Rat.mul_inv_cancel _ (Rat.ne_of_gt (lnG_pos (thC p.1 p.2 q.1 q.2) hn))
  obtain ⟨A, B, C, e1, e2, e3, _⟩ := lnK_valid (c := thC p.1 p.2 q.1 q.2) hn
  have d1 : (segG p q).a = A := by show (lnK _ _ _ _).num = A; rw [← e1]; rfl
  have d2 : (segG p q).b = B := by show (lnK _ _ _ _).num = B; rw [← e2]; rfl
  have d3 : (segG p q).c = C := by show (lnK _ _ _ _).num = C; rw [← e3]; rfl
  rw [d1, d2, d3, e1, e2, e3]
  unfold lnK
  generalize lnG (thA p.2 q.2) (q.1 - p.1) (thC p.1 p.2 q.1 q.2) = G at hG
  unfold thA
  refine ⟨?_, ?_, ?_⟩ <;> grind
theorem segG_on {p q : Rat × Rat} (h : p ≠ q) : onL (segG p q).a (segG p q).b (segG p q).c p.1 p.2 ∧ onL (segG p q).a (segG p q).b (segG p q).c q.1 q.2 := by
  obtain ⟨_, G, hG, e1, e2, e3⟩ := segG_G h
  have hz := Rat.ne_of_gt hG
  unfold onL
  unfold thC at e3
  constructor
  · have : (((segG p q).a : Rat) * p.1 + ((segG p q).b : Rat) * p.2 + ((segG p q).c : Rat)) * G = 0 := by grind
    exact (Rat.mul_eq_zero.1 this).resolve_right hz
  · have : (((segG p q).a : Rat) * q.1 + ((segG p q).b : Rat) * q.2 + ((segG p q).c : Rat)) * G = 0 := by grind
    exact (Rat.mul_eq_zero.1 this).resolve_right hz
theorem segG_len {p q : Rat × Rat} (h : p ≠ q) : 0 < (segG p q).hi - (segG p q).lo := by
  obtain ⟨hv, G, hG, e1, e2, e3⟩ := segG_G h
  have hn := sq_ne hv.1
  have hi := Rat.mul_inv_cancel _ hn
  have e : (segG p q).hi - (segG p q).lo = G := by
    show parL ((segG p q).a : Rat) ((segG p q).b : Rat) q.1 q.2 - parL ((segG p q).a : Rat) ((segG p q).b : Rat) p.1 p.2 = G
    unfold parL
    have h2 : ((segG p q).b : Rat) * (segG p q).b + -((segG p q).a : Rat) * -((segG p q).a : Rat) = ((segG p q).a : Rat) * (segG p q).a + ((segG p q).b : Rat) * (segG p q).b := by grind
    rw [h2, Rat.div_def, Rat.div_def]
    generalize ((segG p q).a : Rat) = a at *
    generalize ((segG p q).b : Rat) = b at *
    generalize (a * a + b * b)⁻¹ = M at hi
    have : (b * q.1 + -a * q.2) * M - (b * p.1 + -a * p.2) * M = G * ((a * a + b * b) * M) := by grind
    rw [this, hi]; grind
  rw [e]; exact hG
theorem segG_v {p q : Rat × Rat} (h : p ≠ q) : FGV (segG p q) := ⟨(segG_G h).1, by have := segG_len h; grind⟩
theorem segG_p {p q : Rat × Rat} (h : p ≠ q) : OnF (segG p q) p := ⟨(segG_on h).1, Rat.le_refl, Rat.le_of_lt (segG_v h).lt⟩
theorem segG_q {p q : Rat × Rat} (h : p ≠ q) : OnF (segG p q) q := ⟨(segG_on h).2, Rat.le_of_lt (segG_v h).lt, Rat.le_refl⟩
/-- A point of the segment lies between its ends. -/
theorem segG_mid {p q r : Rat × Rat} (h : p ≠ q) (hr : OnF (segG p q) r) : ∃ t : Rat, 0 ≤ t ∧ t ≤ 1 ∧ r.1 = (1 - t) * p.1 + t * q.1 ∧ r.2 = (1 - t) * p.2 + t * q.2 := by
  obtain ⟨o, h1, h2⟩ := hr
  have hl := segG_len h
  have hne := (segG_v h).ne
  have op := par_at hne (segG_on h).1
  have oq := par_at hne (segG_on h).2
  have or' := par_at hne o
  have hz := Rat.ne_of_gt hl
  have hi := Rat.mul_inv_cancel _ hz
  have hp := Rat.inv_pos.2 hl
  have elo : (segG p q).lo = parL (segG p q).a (segG p q).b p.1 p.2 := rfl
  have ehi : (segG p q).hi = parL (segG p q).a (segG p q).b q.1 q.2 := rfl
  rw [← elo] at op
  rw [← ehi] at oq
  generalize parL (segG p q).a (segG p q).b r.1 r.2 = s at *
  generalize (segG p q).lo = lo at *
  generalize (segG p q).hi = hi_ at *
  generalize hD : (hi_ - lo)⁻¹ = D at *
  have hDp : 0 ≤ D := Rat.le_of_lt hp
  refine ⟨(s - lo) * D, Rat.mul_nonneg (by grind) hDp, ?_, ?_, ?_⟩
  · have : 0 ≤ (hi_ - s) * D := Rat.mul_nonneg (by grind) hDp
    have : (hi_ - s) * D + (s - lo) * D = 1 := by rw [← hi]; grind
    grind
  · rw [← or'.1, ← op.1, ← oq.1]
    unfold atLx
    generalize ((segG p q).a : Rat) * (-((segG p q).c : Rat) / (((segG p q).a : Rat) * (segG p q).a + ((segG p q).b : Rat) * (segG p q).b)) = B
    have : (s - lo) * D * (hi_ - lo) = s - lo := by rw [Rat.mul_assoc, Rat.mul_comm D, hi, Rat.mul_one]
    grind
  · rw [← or'.2, ← op.2, ← oq.2]
    unfold atLy
    generalize ((segG p q).b : Rat) * (-((segG p q).c : Rat) / (((segG p q).a : Rat) * (segG p q).a + ((segG p q).b : Rat) * (segG p q).b)) = B
    have : (s - lo) * D * (hi_ - lo) = s - lo := by rw [Rat.mul_assoc, Rat.mul_comm D, hi, Rat.mul_one]
    grind
/-- The edge i of a ring. -/
def edgeF (L : List (Rat × Rat)) (i : Nat) : FG := segG (pg L i) (pg L ((i + 1) % L.length))
/-- Edges have no common points but the vertices of consecutive ones. -/
def SimpleP (L : List (Rat × Rat)) : Prop := ∀ i k, i < L.length → k < i → ¬ OvP (edgeF L i) (edgeF L k) ∧ ∀ p, MtP (edgeF L i) (edgeF L k) p → (i = k + 1 ∧ p = pg L i) ∨ (i + 1 = L.length ∧ k = 0 ∧ p = pg L 0)
theorem det3_mid {a b p q r : Rat × Rat} {t : Rat} (h1 : r.1 = (1 - t) * p.1 + t * q.1) (h2 : r.2 = (1 - t) * p.2 + t * q.2) : det3 a b r = (1 - t) * det3 a b p + t * det3 a b q := by
  unfold det3; rw [h1, h2]; grind
theorem det3_on {a b r : Rat × Rat} (h : a ≠ b) (hr : OnF (segG a b) r) : det3 a b r = 0 := by
  obtain ⟨t, _, _, h1, h2⟩ := segG_mid h hr
  rw [det3_mid h1 h2]
  unfold det3; grind
theorem cvx_com {L : List (Rat × Rat)} (hR : RingOK L) (h : CvxL L) (h3 : 3 ≤ L.length) {i k : Nat} (hi : i < L.length) (hk : k < i) {p : Rat × Rat} (hc : Com (edgeF L i) (edgeF L k) p) :
    (i = k + 1 ∧ p = pg L i) ∨ (i + 1 = L.length ∧ k = 0 ∧ p = pg L 0) := by
  have hkn : k < L.length := by omega
  have hk1 : (k + 1) % L.length = k + 1 := Nat.mod_eq_of_lt (by omega)
  obtain ⟨t, t0, t1, e1, e2⟩ := segG_mid (hR.edge k hkn) hc.2
  have hz := det3_on (hR.edge i hi) hc.1
  rw [det3_mid e1 e2, hk1] at hz
  rw [hk1] at e1 e2
  have hq : ∀ j, j < L.length → 0 ≤ det3 (pg L i) (pg L ((i + 1) % L.length)) (pg L j) := fun j hj => by
    by_cases c1 : j = i
    · subst c1; unfold det3; grind
    · by_cases c2 : j = (i + 1) % L.length
      · rw [c2]; unfold det3; grind
      · exact Rat.le_of_lt (h i hi j hj c1 c2)
  have m1 := Rat.mul_nonneg (show 0 ≤ 1 - t by grind) (hq k hkn)
  have m2 := Rat.mul_nonneg t0 (hq (k + 1) (by omega))
  have z1 : (1 - t) * det3 (pg L i) (pg L ((i + 1) % L.length)) (pg L k) = 0 := by grind
  have z2 : t * det3 (pg L i) (pg L ((i + 1) % L.length)) (pg L (k + 1)) = 0 := by grind
  by_cases c : k = (i + 1) % L.length
  · -- the edge k begins where the edge i ends
    have hl : i + 1 = L.length := by
      rcases Nat.lt_or_ge (i + 1) L.length with hlt | hge
      · rw [Nat.mod_eq_of_lt hlt] at c; omega
      · omega
    have hk0 : k = 0 := by rw [c, hl, Nat.mod_self]
    subst hk0
    have hd := h i hi (0 + 1) (by omega) (by omega) (by rw [← c]; omega)
    have ht : t = 0 := (Rat.mul_eq_zero.1 z2).resolve_right (Rat.ne_of_gt hd)
    subst ht
    exact .inr ⟨hl, rfl, Prod.ext_iff.2 ⟨by rw [e1]; grind, by rw [e2]; grind⟩⟩
  · have hd := h i hi k hkn (by omega) c
    have ht : t = 1 := by have := (Rat.mul_eq_zero.1 z1).resolve_right (Rat.ne_of_gt hd); grind
    subst ht
    have hki : k + 1 = i := by
      rcases Nat.lt_or_ge (k + 1) i with hlt | hge
      · have hd2 := h i hi (k + 1) (by omega) (by omega) (fun e => by
          rcases Nat.lt_or_ge (i + 1) L.length with h5 | h5
          · rw [Nat.mod_eq_of_lt h5] at e; omega
          · have : i + 1 = L.length := by omega
            rw [this, Nat.mod_self] at e; omega)
        have : det3 (pg L i) (pg L ((i + 1) % L.length)) (pg L (k + 1)) = 0 := by grind
        exact absurd this (Rat.ne_of_gt hd2)
      · omega
    exact .inl ⟨hki.symm, Prod.ext_iff.2 ⟨by rw [e1, hki]; grind, by rw [e2, hki]; grind⟩⟩
theorem cvx_simple {L : List (Rat × Rat)} (hR : RingOK L) (h : CvxL L) (h3 : 3 ≤ L.length) : SimpleP L := fun i k hi hk => by
  refine ⟨?_, fun p hp => cvx_com hR h h3 hi hk hp.1⟩
  rintro ⟨p, q, hne, h1, h2⟩
  rcases cvx_com hR h h3 hi hk h1 with ⟨c1, d1⟩ | ⟨c1, c2, d1⟩ <;> rcases cvx_com hR h h3 hi hk h2 with ⟨c3, d2⟩ | ⟨c3, c4, d2⟩
  · exact hne (d1.trans d2.symm)
  · omega
  · omega
  · exact hne (d1.trans d2.symm)
end Go.Proofs.YtdlnoeegboapkaaGreatDoor

/- The edges of a ring as segments, written; ring.Edges. printed by a small program (mkrg11.py). -/
namespace Go.Proofs.YtdlnoeegboapkaaGreatDoor
open Go.RowKit
set_option maxRecDepth 100000
set_option maxHeartbeats 40000000
set_option synthInstance.maxSize 100000
set_option synthInstance.maxHeartbeats 1000000
set_option linter.unusedVariables false

/-- A fragment is returned. -/
def FgBRet (w : World) (F : FG) (k : Nat) (e : Ending) (w' : World) : Prop := ∃ nx dx px ny dy py nz dz pz nu du pu nv dv pv, e = .returned (.tuple #[.agg #[.int .i64 nx, .int .i64 dx, .pointer px, .int .i64 ny, .int .i64 dy, .pointer py, .int .i64 nz, .int .i64 dz, .pointer pz, .int .i64 nu, .int .i64 du, .pointer pu, .int .i64 nv, .int .i64 dv, .pointer pv, .bool false, .bool false], .bool true]) ∧ CF w' (.agg #[.int .i64 nx, .int .i64 dx, .pointer px]) (((F.a : Int) : Rat)) k ∧ CF w' (.agg #[.int .i64 ny, .int .i64 dy, .pointer py]) (((F.b : Int) : Rat)) k ∧ CF w' (.agg #[.int .i64 nz, .int .i64 dz, .pointer pz]) (((F.c : Int) : Rat)) k ∧ CF w' (.agg #[.int .i64 nu, .int .i64 du, .pointer pu]) (F.lo) k ∧ CF w' (.agg #[.int .i64 nv, .int .i64 dv, .pointer pv]) (F.hi) k ∧ Below w.heap.size w w'
theorem Calls.cFgB {P : Program} {f : FuncId} {args : Array Value} {w : World} {F : FG} {k : Nat} {K : Ending → World → Prop} (h : Calls P f args w (FgBRet w F k))
    (hK : ∀ w' [Kp1 w w'] (nx : Int) (dx : Int) (px : Option Addr) (ny : Int) (dy : Int) (py : Option Addr) (nz : Int) (dz : Int) (pz : Option Addr) (nu : Int) (du : Int) (pu : Option Addr) (nv : Int) (dv : Int) (pv : Option Addr) [CF w' (.agg #[.int .i64 nx, .int .i64 dx, .pointer px]) (((F.a : Int) : Rat)) k] [CF w' (.agg #[.int .i64 ny, .int .i64 dy, .pointer py]) (((F.b : Int) : Rat)) k] [CF w' (.agg #[.int .i64 nz, .int .i64 dz, .pointer pz]) (((F.c : Int) : Rat)) k] [CF w' (.agg #[.int .i64 nu, .int .i64 du, .pointer pu]) (F.lo) k] [CF w' (.agg #[.int .i64 nv, .int .i64 dv, .pointer pv]) (F.hi) k], K (.returned (.tuple #[.agg #[.int .i64 nx, .int .i64 dx, .pointer px, .int .i64 ny, .int .i64 dy, .pointer py, .int .i64 nz, .int .i64 dz, .pointer pz, .int .i64 nu, .int .i64 du, .pointer pu, .int .i64 nv, .int .i64 dv, .pointer pv, .bool false, .bool false], .bool true])) w') : Calls P f args w K := by
  refine h.mono ?_
  rintro e w' ⟨nx, dx, px, ny, dy, py, nz, dz, pz, nu, du, pu, nv, dv, pv, rfl, hx, hy, hz, hu, hv, hb⟩
  exact @hK w' ⟨hb⟩ nx dx px ny dy py nz dz pz nu du pu nv dv pv hx hy hz hu hv
theorem FgBRet.fin {w w' : World} {F : FG} {nx : Int} {dx : Int} {px : Option Addr} {ny : Int} {dy : Int} {py : Option Addr} {nz : Int} {dz : Int} {pz : Option Addr} {nu : Int} {du : Int} {pu : Option Addr} {nv : Int} {dv : Int} {pv : Option Addr} {sx : Rat} {kx : Nat} {sy : Rat} {ky : Nat} {sz : Rat} {kz : Nat} {su : Rat} {ku : Nat} {sv : Rat} {kv : Nat} {k : Nat} [b : Kp w w'] [hx : CF w' (.agg #[.int .i64 nx, .int .i64 dx, .pointer px]) sx kx] [hy : CF w' (.agg #[.int .i64 ny, .int .i64 dy, .pointer py]) sy ky] [hz : CF w' (.agg #[.int .i64 nz, .int .i64 dz, .pointer pz]) sz kz] [hu : CF w' (.agg #[.int .i64 nu, .int .i64 du, .pointer pu]) su ku] [hv : CF w' (.agg #[.int .i64 nv, .int .i64 dv, .pointer pv]) sv kv] (ex : sx = ((F.a : Int) : Rat)) (mx : kx ≤ k) (ey : sy = ((F.b : Int) : Rat)) (my : ky ≤ k) (ez : sz = ((F.c : Int) : Rat)) (mz : kz ≤ k) (eu : su = F.lo) (mu : ku ≤ k) (ev : sv = F.hi) (mv : kv ≤ k) : FgBRet w F k (.returned (.tuple #[.agg #[.int .i64 nx, .int .i64 dx, .pointer px, .int .i64 ny, .int .i64 dy, .pointer py, .int .i64 nz, .int .i64 dz, .pointer pz, .int .i64 nu, .int .i64 du, .pointer pu, .int .i64 nv, .int .i64 dv, .pointer pv, .bool false, .bool false], .bool true])) w' :=
  ⟨_, _, _, _, _, _, _, _, _, _, _, _, _, _, _, rfl, hx.cast ex mx, hy.cast ey my, hz.cast ez mz, hu.cast eu mu, hv.cast ev mv, b.out⟩
/-- A fragment is returned. -/
def FhVRet (w : World) (F : FG) (k : Nat) (e : Ending) (w' : World) : Prop := ∃ gx ax lx cx gy ay ly cy gz az lz cz gu au lu cu aau llu ccu gv av lv cv aav llv ccv, e = .returned (.agg #[.bool gx, .slice ax lx cx, .bool gy, .slice ay ly cy, .bool gz, .slice az lz cz, .bool gu, .slice au lu cu, .slice aau llu ccu, .bool gv, .slice av lv cv, .slice aav llv ccv, .bool false, .bool false]) ∧ CZ w' (.agg #[.bool gx, .slice ax lx cx]) (F.a) k ∧ CZ w' (.agg #[.bool gy, .slice ay ly cy]) (F.b) k ∧ CZ w' (.agg #[.bool gz, .slice az lz cz]) (F.c) k ∧ CA w' (.agg #[.bool gu, .slice au lu cu, .slice aau llu ccu]) (F.lo) k ∧ CA w' (.agg #[.bool gv, .slice av lv cv, .slice aav llv ccv]) (F.hi) k ∧ Below w.heap.size w w'
theorem Calls.cFhV {P : Program} {f : FuncId} {args : Array Value} {w : World} {F : FG} {k : Nat} {K : Ending → World → Prop} (h : Calls P f args w (FhVRet w F k))
    (hK : ∀ w' [Kp1 w w'] (gx : Bool) (ax : Option Addr) (lx : Nat) (cx : Nat) (gy : Bool) (ay : Option Addr) (ly : Nat) (cy : Nat) (gz : Bool) (az : Option Addr) (lz : Nat) (cz : Nat) (gu : Bool) (au : Option Addr) (lu : Nat) (cu : Nat) (aau : Option Addr) (llu : Nat) (ccu : Nat) (gv : Bool) (av : Option Addr) (lv : Nat) (cv : Nat) (aav : Option Addr) (llv : Nat) (ccv : Nat) [CZ w' (.agg #[.bool gx, .slice ax lx cx]) (F.a) k] [CZ w' (.agg #[.bool gy, .slice ay ly cy]) (F.b) k] [CZ w' (.agg #[.bool gz, .slice az lz cz]) (F.c) k] [CA w' (.agg #[.bool gu, .slice au lu cu, .slice aau llu ccu]) (F.lo) k] [CA w' (.agg #[.bool gv, .slice av lv cv, .slice aav llv ccv]) (F.hi) k], K (.returned (.agg #[.bool gx, .slice ax lx cx, .bool gy, .slice ay ly cy, .bool gz, .slice az lz cz, .bool gu, .slice au lu cu, .slice aau llu ccu, .bool gv, .slice av lv cv, .slice aav llv ccv, .bool false, .bool false])) w') : Calls P f args w K := by
  refine h.mono ?_
  rintro e w' ⟨gx, ax, lx, cx, gy, ay, ly, cy, gz, az, lz, cz, gu, au, lu, cu, aau, llu, ccu, gv, av, lv, cv, aav, llv, ccv, rfl, hx, hy, hz, hu, hv, hb⟩
  exact @hK w' ⟨hb⟩ gx ax lx cx gy ay ly cy gz az lz cz gu au lu cu aau llu ccu gv av lv cv aav llv ccv hx hy hz hu hv
theorem FhVRet.fin {w w' : World} {F : FG} {gx : Bool} {ax : Option Addr} {lx : Nat} {cx : Nat} {gy : Bool} {ay : Option Addr} {ly : Nat} {cy : Nat} {gz : Bool} {az : Option Addr} {lz : Nat} {cz : Nat} {gu : Bool} {au : Option Addr} {lu : Nat} {cu : Nat} {aau : Option Addr} {llu : Nat} {ccu : Nat} {gv : Bool} {av : Option Addr} {lv : Nat} {cv : Nat} {aav : Option Addr} {llv : Nat} {ccv : Nat} {sx : Int} {kx : Nat} {sy : Int} {ky : Nat} {sz : Int} {kz : Nat} {su : Rat} {ku : Nat} {sv : Rat} {kv : Nat} {k : Nat} [b : Kp w w'] [hx : CZ w' (.agg #[.bool gx, .slice ax lx cx]) sx kx] [hy : CZ w' (.agg #[.bool gy, .slice ay ly cy]) sy ky] [hz : CZ w' (.agg #[.bool gz, .slice az lz cz]) sz kz] [hu : CA w' (.agg #[.bool gu, .slice au lu cu, .slice aau llu ccu]) su ku] [hv : CA w' (.agg #[.bool gv, .slice av lv cv, .slice aav llv ccv]) sv kv] (ex : sx = F.a) (mx : kx ≤ k) (ey : sy = F.b) (my : ky ≤ k) (ez : sz = F.c) (mz : kz ≤ k) (eu : su = F.lo) (mu : ku ≤ k) (ev : sv = F.hi) (mv : kv ≤ k) : FhVRet w F k (.returned (.agg #[.bool gx, .slice ax lx cx, .bool gy, .slice ay ly cy, .bool gz, .slice az lz cz, .bool gu, .slice au lu cu, .slice aau llu ccu, .bool gv, .slice av lv cv, .slice aav llv ccv, .bool false, .bool false])) w' :=
  ⟨_, _, _, _, _, _, _, _, _, _, _, _, _, _, _, _, _, _, _, _, _, _, _, _, _, _, rfl, hx.cast ex mx, hy.cast ey my, hz.cast ez mz, hu.cast eu mu, hv.cast ev mv, b.out⟩
theorem segG_r {p q : Rat × Rat} (h : p ≠ q) : lnK (thA p.2 q.2) (thA p.2 q.2) (q.1 - p.1) (thC p.1 p.2 q.1 q.2) = (((segG p q).a : Int) : Rat) ∧ lnK (q.1 - p.1) (thA p.2 q.2) (q.1 - p.1) (thC p.1 p.2 q.1 q.2) = (((segG p q).b : Int) : Rat) ∧ lnK (thC p.1 p.2 q.1 q.2) (thA p.2 q.2) (q.1 - p.1) (thC p.1 p.2 q.1 q.2) = (((segG p q).c : Int) : Rat) := by
  obtain ⟨A, B, C, e1, e2, e3, _⟩ := lnK_valid (c := thC p.1 p.2 q.1 q.2) (th_ne2 h)
  have d1 : (segG p q).a = A := by show (lnK _ _ _ _).num = A; rw [← e1]; rfl
  have d2 : (segG p q).b = B := by show (lnK _ _ _ _).num = B; rw [← e2]; rfl
  have d3 : (segG p q).c = C := by show (lnK _ _ _ _).num = C; rw [← e3]; rfl
  rw [d1, d2, d3]
  exact ⟨e1.symm, e2.symm, e3.symm⟩
theorem gSegC {w : World} {n1x d1x n1y d1y n2x d2x n2y d2y : Int} {p1x p1y p2x p2y : Option Addr} {x1 y1 x2 y2 : Rat} {k1x k1y k2x k2y : Nat} [h1x : CF w (.agg #[.int .i64 n1x, .int .i64 d1x, .pointer p1x]) x1 k1x] [h1y : CF w (.agg #[.int .i64 n1y, .int .i64 d1y, .pointer p1y]) y1 k1y] [h2x : CF w (.agg #[.int .i64 n2x, .int .i64 d2x, .pointer p2x]) x2 k2x] [h2y : CF w (.agg #[.int .i64 n2y, .int .i64 d2y, .pointer p2y]) y2 k2y] (b : k1x ≤ 600 ∧ k1y ≤ 600 ∧ k2x ≤ 600 ∧ k2y ≤ 600) {k : Nat} (hk : k1x ≤ k ∧ k1y ≤ k ∧ k2x ≤ k ∧ k2y ≤ k) (hk2 : k ≤ 10) (hne : Hid ((x1, y1) ≠ (x2, y2))) :
    Calls Tryz.prog 151 #[.agg #[.int .i64 n1x, .int .i64 d1x, .pointer p1x, .int .i64 n1y, .int .i64 d1y, .pointer p1y], .agg #[.int .i64 n2x, .int .i64 d2x, .pointer p2x, .int .i64 n2y, .int .i64 d2y, .pointer p2y]] w (FgBRet w (segG (x1, y1) (x2, y2)) (482 * k + 1230)) := by
  have h0 : Hid (¬ (thA y1 y2 = 0 ∧ x2 - x1 = 0)) := Lib.hid (th_ne2 hne.out)
  obtain ⟨e1, e2, e3⟩ := segG_r hne.out
  have E1 := Lib.hid e1
  have E2 := Lib.hid e2
  have E3 := Lib.hid e3
  clear e1 e2 e3
  go_enter Tryz.func151, Tryz.ntmps151
  go_wp2_with (first
    | (go_at_call 207; (with_reducible refine Calls.cLFB (gThroughOk (by omega) h0) ?_); intro w1 _ nx dx px ny dy py nz dz pz ix iy iz; rw [E1.out] at ix; rw [E2.out] at iy; rw [E3.out] at iz))
  refine rgn [w.heap.size + 1 + 1] [] fun hHeld => ?_
  refine tk 0 hHeld ?_
  refine tk 1 hHeld ?_
  refine tk 2 hHeld ?_
  refine tk 4 hHeld ?_
  refine tk 5 hHeld ?_
  refine st 3 fun K hK => ?_
  go_simp
  (with_reducible refine Calls.cF (lnParamC (by omega)) ?_); intros
  refine hd hK ?_
  clear hHeld hK K
  intro hHeld
  refine st 6 fun K hK => ?_
  go_simp
  (with_reducible refine Calls.cF (lnParamC (by omega)) ?_); intros
  refine hd hK ?_
  clear hHeld hK K
  intro hHeld
  refine tk 7 hHeld ?_
  refine tk 8 hHeld ?_
  refine st 9 fun K hK => ?_
  go_simp
  refine hd hK ?_
  clear hHeld hK K
  intro hHeld
  refine tk 10 hHeld ?_
  refine dn ?_
  clear hHeld
  go_wp2
  refine ret_b9 rfl Tryz.underlying182 rfl (by kernel_rfl) rfl rfl rfl ?_
  exact FgBRet.fin rfl (by omega) rfl (by omega) rfl (by omega) rfl (by omega) rfl (by omega)
end Go.Proofs.YtdlnoeegboapkaaGreatDoor
