/-
  Texts of this claim, joined: Ln4, Ln5.
-/
import Derived.Test.YtfdgglddldlpjaaGreatGQ
/- Package line: functions of two lines; lines from points and from coefficients. printed by a small program (mkln4.py). -/
namespace Go.Proofs.YtfdgglddldlpjaaGreat
open Go.RowKit
set_option maxRecDepth 100000
set_option maxHeartbeats 40000000
set_option synthInstance.maxSize 100000
set_option synthInstance.maxHeartbeats 1000000
set_option linter.unusedVariables false

/-- The first number that is not 0. -/
def or3 (a b c : Int) : Int := if a = 0 then (if b = 0 then c else b) else a
/-- The order of lines. -/
def cmpL (a b c a' b' c' : Rat) : Int := or3 (isgn (a - a').num) (isgn (b - b').num) (isgn (c - c').num)
theorem cmpL_zero {a b c a' b' c' : Rat} : (cmpL a b c a' b' c' == 0) = decide (a = a' ∧ b = b' ∧ c = c') := by
  rw [Bool.eq_iff_iff, beq_iff_eq, decide_eq_true_eq]
  unfold cmpL or3
  have e : ∀ x y : Rat, isgn (x - y).num = 0 ↔ x = y := fun x y => by
    have := @isgn_dec x y
    rw [Bool.eq_iff_iff, beq_iff_eq, decide_eq_true_eq] at this; exact this
  by_cases h1 : isgn (a - a').num = 0
  · rw [if_pos h1]
    by_cases h2 : isgn (b - b').num = 0
    · rw [if_pos h2, e]
      exact ⟨fun h => ⟨(e _ _).1 h1, (e _ _).1 h2, h⟩, fun h => h.2.2⟩
    · rw [if_neg h2]
      exact ⟨fun h => absurd h h2, fun h => absurd ((e _ _).2 h.2.1) h2⟩
  · rw [if_neg h1]
    exact ⟨fun h => absurd h h1, fun h => absurd ((e _ _).2 h.1) h1⟩
theorem or3C {w : World} {q : Nat} {a b c : Int} [h : Bx w q 3 [.int .i64 a, .int .i64 b, .int .i64 c]] : Calls Tryz.prog 145 #[.slice (some ⟨q, 0, none⟩) 3 3] w fun e w' => e = .returned (.int .i64 (or3 a b c)) ∧ Below w.heap.size w w' := by
  by_cases h0 : a = 0
  · subst h0
    by_cases h1 : b = 0
    · subst h1
      by_cases h2 : c = 0
      · subst h2
        have HE : Hid (or3 0 0 0 = 0) := by show _ = _; simp [or3]
        go_enter Tryz.func145, Tryz.ntmps145
        go_wp2_with fail
        refine wp_loop_rounds 4 ?_
        rw [rounds_succ]
        go_wp2_with fail
        rw [rounds_succ]
        go_wp2_with fail
        rw [rounds_succ]
        go_wp2_with fail
        rw [rounds_succ]
        go_wp2_with fail
        go_ret
        exact E.fin (by rw [HE.out]; rfl)
      · have q2 : (c == 0) = false := by rw [beq_eq_false_iff_ne]; exact h2
        have HE : Hid (or3 0 0 c = c) := by show _ = _; simp [or3]
        go_enter Tryz.func145, Tryz.ntmps145
        go_wp2_with fail
        refine wp_loop_rounds 3 ?_
        rw [rounds_succ]
        go_wp2_with fail
        rw [rounds_succ]
        go_wp2_with fail
        rw [rounds_succ]
        go_wp2_with fail
        go_ret
        exact E.fin (by rw [HE.out]; rfl)
    · have q1 : (b == 0) = false := by rw [beq_eq_false_iff_ne]; exact h1
      have HE : Hid (or3 0 b c = b) := by show _ = _; simp [or3, h1]
      go_enter Tryz.func145, Tryz.ntmps145
      go_wp2_with fail
      refine wp_loop_rounds 2 ?_
      rw [rounds_succ]
      go_wp2_with fail
      rw [rounds_succ]
      go_wp2_with fail
      go_ret
      exact E.fin (by rw [HE.out]; rfl)
  · have q0 : (a == 0) = false := by rw [beq_eq_false_iff_ne]; exact h0
    have HE : Hid (or3 a b c = a) := by show _ = _; simp [or3, h0]
    go_enter Tryz.func145, Tryz.ntmps145
    go_wp2_with fail
    refine wp_loop_rounds 1 ?_
    rw [rounds_succ]
    go_wp2_with fail
    go_ret
    exact E.fin (by rw [HE.out]; rfl)

theorem or2C {w : World} {q : Nat} {a b : Int} [h : Bx w q 3 [.int .i64 a, .int .i64 b]] : Calls Tryz.prog 145 #[.slice (some ⟨q, 0, none⟩) 2 2] w fun e w' => e = .returned (.int .i64 (or3 a b 0)) ∧ Below w.heap.size w w' := by
  by_cases h0 : a = 0
  · subst h0
    by_cases h1 : b = 0
    · subst h1
      have HE : Hid (or3 0 0 0 = 0) := by show _ = _; simp [or3]
      go_enter Tryz.func145, Tryz.ntmps145
      go_wp2_with fail
      refine wp_loop_rounds 3 ?_
      rw [rounds_succ]
      go_wp2_with fail
      rw [rounds_succ]
      go_wp2_with fail
      rw [rounds_succ]
      go_wp2_with fail
      go_ret
      exact E.fin (by rw [HE.out]; rfl)
    · have q1 : (b == 0) = false := by rw [beq_eq_false_iff_ne]; exact h1
      have HE : Hid (or3 0 b 0 = b) := by show _ = _; simp [or3, h1]
      go_enter Tryz.func145, Tryz.ntmps145
      go_wp2_with fail
      refine wp_loop_rounds 2 ?_
      rw [rounds_succ]
      go_wp2_with fail
      rw [rounds_succ]
      go_wp2_with fail
      go_ret
      exact E.fin (by rw [HE.out]; rfl)
  · have q0 : (a == 0) = false := by rw [beq_eq_false_iff_ne]; exact h0
    have HE : Hid (or3 a b 0 = a) := by show _ = _; simp [or3, h0]
    go_enter Tryz.func145, Tryz.ntmps145
    go_wp2_with fail
    refine wp_loop_rounds 1 ?_
    rw [rounds_succ]
    go_wp2_with fail
    go_ret
    exact E.fin (by rw [HE.out]; rfl)

theorem lnCmpC {w : World} {n1x d1x n1y d1y n1z d1z n2x d2x n2y d2y n2z d2z : Int} {p1x p1y p1z p2x p2y p2z : Option Addr} {la lb lc ma mb mc : Rat} {k1x k1y k1z k2x k2y k2z : Nat} [h1x : CF w (.agg #[.int .i64 n1x, .int .i64 d1x, .pointer p1x]) la k1x] [h1y : CF w (.agg #[.int .i64 n1y, .int .i64 d1y, .pointer p1y]) lb k1y] [h1z : CF w (.agg #[.int .i64 n1z, .int .i64 d1z, .pointer p1z]) lc k1z] [h2x : CF w (.agg #[.int .i64 n2x, .int .i64 d2x, .pointer p2x]) ma k2x] [h2y : CF w (.agg #[.int .i64 n2y, .int .i64 d2y, .pointer p2y]) mb k2y] [h2z : CF w (.agg #[.int .i64 n2z, .int .i64 d2z, .pointer p2z]) mc k2z] (b : k1x ≤ 40000 ∧ k1y ≤ 40000 ∧ k1z ≤ 40000 ∧ k2x ≤ 40000 ∧ k2y ≤ 40000 ∧ k2z ≤ 40000) :
    Calls Tryz.prog 113 #[.agg #[.int .i64 n1x, .int .i64 d1x, .pointer p1x, .int .i64 n1y, .int .i64 d1y, .pointer p1y, .int .i64 n1z, .int .i64 d1z, .pointer p1z], .agg #[.int .i64 n2x, .int .i64 d2x, .pointer p2x, .int .i64 n2y, .int .i64 d2y, .pointer p2y, .int .i64 n2z, .int .i64 d2z, .pointer p2z]] w (fun e w' => e = .returned (.int .i64 (cmpL la lb lc ma mb mc)) ∧ Below w.heap.size w w') := by
  go_enter Tryz.func113, Tryz.ntmps113
  go_wp2_with fail
  refine rgn [] [] fun hHeld => ?_
  refine tk 0 hHeld ?_
  refine tk 1 hHeld ?_
  refine tk 2 hHeld ?_
  refine tk 3 hHeld ?_
  refine tk 5 hHeld ?_
  refine tk 6 hHeld ?_
  refine tk 7 hHeld ?_
  refine tk 8 hHeld ?_
  refine tk 10 hHeld ?_
  refine tk 11 hHeld ?_
  refine tk 12 hHeld ?_
  refine tk 13 hHeld ?_
  refine st 4 fun K hK => ?_
  go_simp
  (with_reducible refine Calls.cE (rCmpC (by omega)) ?_); intros
  refine hd hK ?_
  clear hHeld hK K
  intro hHeld
  refine st 9 fun K hK => ?_
  go_simp
  (with_reducible refine Calls.cE (rCmpC (by omega)) ?_); intros
  refine hd hK ?_
  clear hHeld hK K
  intro hHeld
  refine st 14 fun K hK => ?_
  go_simp
  (with_reducible refine Calls.cE (rCmpC (by omega)) ?_); intros
  refine hd hK ?_
  clear hHeld hK K
  intro hHeld
  refine st 15 fun K hK => ?_
  go_simp
  refine hd hK ?_
  clear hHeld hK K
  intro hHeld
  refine st 16 fun K hK => ?_
  go_simp
  (with_reducible refine Calls.cE (or3C) ?_); intros
  refine hd hK ?_
  clear hHeld hK K
  intro hHeld
  refine tk 17 hHeld ?_
  refine dn ?_
  clear hHeld
  go_wp2
  go_ret
  exact E.fin rfl

theorem lnEqualC {w : World} {n1x d1x n1y d1y n1z d1z n2x d2x n2y d2y n2z d2z : Int} {p1x p1y p1z p2x p2y p2z : Option Addr} {la lb lc ma mb mc : Rat} {k1x k1y k1z k2x k2y k2z : Nat} [h1x : CF w (.agg #[.int .i64 n1x, .int .i64 d1x, .pointer p1x]) la k1x] [h1y : CF w (.agg #[.int .i64 n1y, .int .i64 d1y, .pointer p1y]) lb k1y] [h1z : CF w (.agg #[.int .i64 n1z, .int .i64 d1z, .pointer p1z]) lc k1z] [h2x : CF w (.agg #[.int .i64 n2x, .int .i64 d2x, .pointer p2x]) ma k2x] [h2y : CF w (.agg #[.int .i64 n2y, .int .i64 d2y, .pointer p2y]) mb k2y] [h2z : CF w (.agg #[.int .i64 n2z, .int .i64 d2z, .pointer p2z]) mc k2z] (b : k1x ≤ 30000 ∧ k1y ≤ 30000 ∧ k1z ≤ 30000 ∧ k2x ≤ 30000 ∧ k2y ≤ 30000 ∧ k2z ≤ 30000) :
    Calls Tryz.prog 105 #[.agg #[.int .i64 n1x, .int .i64 d1x, .pointer p1x, .int .i64 n1y, .int .i64 d1y, .pointer p1y, .int .i64 n1z, .int .i64 d1z, .pointer p1z], .agg #[.int .i64 n2x, .int .i64 d2x, .pointer p2x, .int .i64 n2y, .int .i64 d2y, .pointer p2y, .int .i64 n2z, .int .i64 d2z, .pointer p2z]] w (fun e w' => e = .returned (.bool (decide (la = ma ∧ lb = mb ∧ lc = mc))) ∧ Below w.heap.size w w') := by
  have HE := Lib.hid (@cmpL_zero la lb lc ma mb mc)
  go_enter Tryz.func105, Tryz.ntmps105
  go_wp2_with (first
    | (go_at_call 113; (with_reducible refine Calls.cE (lnCmpC (by omega)) ?_); intros))
  go_ret
  exact E.fin (by rw [← HE.out]; rfl)

theorem lnEqualV {w : World} {v : Bool} {n1x d1x n1y d1y n1z d1z n2x d2x n2y d2y n2z d2z : Int} {p1x p1y p1z p2x p2y p2z : Option Addr} {la lb lc ma mb mc : Rat} {k1x k1y k1z k2x k2y k2z : Nat} [h1x : CF w (.agg #[.int .i64 n1x, .int .i64 d1x, .pointer p1x]) la k1x] [h1y : CF w (.agg #[.int .i64 n1y, .int .i64 d1y, .pointer p1y]) lb k1y] [h1z : CF w (.agg #[.int .i64 n1z, .int .i64 d1z, .pointer p1z]) lc k1z] [h2x : CF w (.agg #[.int .i64 n2x, .int .i64 d2x, .pointer p2x]) ma k2x] [h2y : CF w (.agg #[.int .i64 n2y, .int .i64 d2y, .pointer p2y]) mb k2y] [h2z : CF w (.agg #[.int .i64 n2z, .int .i64 d2z, .pointer p2z]) mc k2z] (b : k1x ≤ 30000 ∧ k1y ≤ 30000 ∧ k1z ≤ 30000 ∧ k2x ≤ 30000 ∧ k2y ≤ 30000 ∧ k2z ≤ 30000) (hv : Hid (decide (la = ma ∧ lb = mb ∧ lc = mc) = v)) :
    Calls Tryz.prog 105 #[.agg #[.int .i64 n1x, .int .i64 d1x, .pointer p1x, .int .i64 n1y, .int .i64 d1y, .pointer p1y, .int .i64 n1z, .int .i64 d1z, .pointer p1z], .agg #[.int .i64 n2x, .int .i64 d2x, .pointer p2x, .int .i64 n2y, .int .i64 d2y, .pointer p2y, .int .i64 n2z, .int .i64 d2z, .pointer p2z]] w (fun e w' => e = .returned (.bool v) ∧ Below w.heap.size w w') := by
  rw [← hv.out]; exact lnEqualC b
theorem twoSameC {w : World} {g1x g1y g1z g2x g2y g2z : Bool} {a1x a1y a1z a2x a2y a2z : Option Addr} {l1x c1x l1y c1y l1z c1z l2x c2x l2y c2y l2z c2z k1x k1y k1z k2x k2y k2z : Nat} {la lb lc ma mb mc : Int} [h1x : CZ w (.agg #[.bool g1x, .slice a1x l1x c1x]) la k1x] [h1y : CZ w (.agg #[.bool g1y, .slice a1y l1y c1y]) lb k1y] [h1z : CZ w (.agg #[.bool g1z, .slice a1z l1z c1z]) lc k1z] [h2x : CZ w (.agg #[.bool g2x, .slice a2x l2x c2x]) ma k2x] [h2y : CZ w (.agg #[.bool g2y, .slice a2y l2y c2y]) mb k2y] [h2z : CZ w (.agg #[.bool g2z, .slice a2z l2z c2z]) mc k2z] (b : k1x ≤ 6000 ∧ k1y ≤ 6000 ∧ k1z ≤ 6000 ∧ k2x ≤ 6000 ∧ k2y ≤ 6000 ∧ k2z ≤ 6000) {v : Bool} (hv : Hid (LnV la lb lc)) (hw : Hid (LnV ma mb mc)) (hr : Hid (decide (((la : Int) : Rat) = ((ma : Int) : Rat) ∧ ((lb : Int) : Rat) = ((mb : Int) : Rat) ∧ ((lc : Int) : Rat) = ((mc : Int) : Rat)) = v)) :
    Calls Tryz.prog 77 #[.agg #[.bool g1x, .slice a1x l1x c1x, .bool g1y, .slice a1y l1y c1y, .bool g1z, .slice a1z l1z c1z], .agg #[.bool g2x, .slice a2x l2x c2x, .bool g2y, .slice a2y l2y c2y, .bool g2z, .slice a2z l2z c2z], .func (.func 105) #[] #[]] w (fun e w' => e = .returned (.bool v) ∧ Below w.heap.size w w') := by
  go_enter Tryz.func77, Tryz.ntmps77
  go_wp2_with (first
    | (go_at_call 70; (with_reducible refine Calls.cLFB (lnOfC (by omega) hv) ?_); intros)
    | (go_at_call 70; (with_reducible refine Calls.cLFB (lnOfC (by omega) hw) ?_); intros)
    | (go_at_call 105; (with_reducible refine Calls.cE (lnEqualV (by omega) hr) ?_); intros))
  go_ret
  exact E.fin rfl

theorem lineSameC {w : World} {g1x g1y g1z g2x g2y g2z : Bool} {a1x a1y a1z a2x a2y a2z : Option Addr} {l1x c1x l1y c1y l1z c1z l2x c2x l2y c2y l2z c2z k1x k1y k1z k2x k2y k2z : Nat} {la lb lc ma mb mc : Int} [h1x : CZ w (.agg #[.bool g1x, .slice a1x l1x c1x]) la k1x] [h1y : CZ w (.agg #[.bool g1y, .slice a1y l1y c1y]) lb k1y] [h1z : CZ w (.agg #[.bool g1z, .slice a1z l1z c1z]) lc k1z] [h2x : CZ w (.agg #[.bool g2x, .slice a2x l2x c2x]) ma k2x] [h2y : CZ w (.agg #[.bool g2y, .slice a2y l2y c2y]) mb k2y] [h2z : CZ w (.agg #[.bool g2z, .slice a2z l2z c2z]) mc k2z] (b : k1x ≤ 6000 ∧ k1y ≤ 6000 ∧ k1z ≤ 6000 ∧ k2x ≤ 6000 ∧ k2y ≤ 6000 ∧ k2z ≤ 6000) {v : Bool} (hv : Hid (LnV la lb lc)) (hw : Hid (LnV ma mb mc)) (hr : Hid (decide (((la : Int) : Rat) = ((ma : Int) : Rat) ∧ ((lb : Int) : Rat) = ((mb : Int) : Rat) ∧ ((lc : Int) : Rat) = ((mc : Int) : Rat)) = v)) :
    Calls Tryz.prog 38 #[.agg #[.bool g1x, .slice a1x l1x c1x, .bool g1y, .slice a1y l1y c1y, .bool g1z, .slice a1z l1z c1z], .agg #[.bool g2x, .slice a2x l2x c2x, .bool g2y, .slice a2y l2y c2y, .bool g2z, .slice a2z l2z c2z]] w (fun e w' => e = .returned (.bool v) ∧ Below w.heap.size w w') := by
  go_enter Tryz.func38, Tryz.ntmps38
  go_wp2_with (go_at_call 77; (with_reducible refine Calls.cE (twoSameC (by omega) hv hw hr) ?_); intros)
  go_ret
  exact E.fin rfl

theorem clOppositeC {w : World} {v : Bool} {n1x d1x n1y d1y n1z d1z n2x d2x n2y d2y n2z d2z : Int} {p1x p1y p1z p2x p2y p2z : Option Addr} {la lb lc ma mb mc : Rat} {k1x k1y k1z k2x k2y k2z : Nat} [h1x : CF w (.agg #[.int .i64 n1x, .int .i64 d1x, .pointer p1x]) la k1x] [h1y : CF w (.agg #[.int .i64 n1y, .int .i64 d1y, .pointer p1y]) lb k1y] [h1z : CF w (.agg #[.int .i64 n1z, .int .i64 d1z, .pointer p1z]) lc k1z] [h2x : CF w (.agg #[.int .i64 n2x, .int .i64 d2x, .pointer p2x]) ma k2x] [h2y : CF w (.agg #[.int .i64 n2y, .int .i64 d2y, .pointer p2y]) mb k2y] [h2z : CF w (.agg #[.int .i64 n2z, .int .i64 d2z, .pointer p2z]) mc k2z] (b : k1x ≤ 6200 ∧ k1y ≤ 6200 ∧ k1z ≤ 6200 ∧ k2x ≤ 6200 ∧ k2y ≤ 6200 ∧ k2z ≤ 6200) (hr : Hid (decide (la = -ma ∧ lb = -mb ∧ lc = -mc) = v)) :
    Calls Tryz.prog 106 #[.agg #[.int .i64 n1x, .int .i64 d1x, .pointer p1x, .int .i64 n1y, .int .i64 d1y, .pointer p1y, .int .i64 n1z, .int .i64 d1z, .pointer p1z], .agg #[.int .i64 n2x, .int .i64 d2x, .pointer p2x, .int .i64 n2y, .int .i64 d2y, .pointer p2y, .int .i64 n2z, .int .i64 d2z, .pointer p2z]] w (fun e w' => e = .returned (.bool v) ∧ Below w.heap.size w w') := by
  go_enter Tryz.func106, Tryz.ntmps106
  go_wp2_with fail
  refine rgn [] [] fun hHeld => ?_
  refine tk 0 hHeld ?_
  refine tk 1 hHeld ?_
  refine st 2 fun K hK => ?_
  go_simp
  (with_reducible refine Calls.cLF (lnReverseC (by omega)) ?_); intros
  refine hd hK ?_
  clear hHeld hK K
  intro hHeld
  refine st 3 fun K hK => ?_
  go_simp
  (with_reducible refine Calls.cE (lnEqualV (by omega) hr) ?_); intros
  refine hd hK ?_
  clear hHeld hK K
  intro hHeld
  refine tk 4 hHeld ?_
  refine dn ?_
  clear hHeld
  go_wp2
  go_ret
  exact E.fin rfl

theorem twoOppositeC {w : World} {g1x g1y g1z g2x g2y g2z : Bool} {a1x a1y a1z a2x a2y a2z : Option Addr} {l1x c1x l1y c1y l1z c1z l2x c2x l2y c2y l2z c2z k1x k1y k1z k2x k2y k2z : Nat} {la lb lc ma mb mc : Int} [h1x : CZ w (.agg #[.bool g1x, .slice a1x l1x c1x]) la k1x] [h1y : CZ w (.agg #[.bool g1y, .slice a1y l1y c1y]) lb k1y] [h1z : CZ w (.agg #[.bool g1z, .slice a1z l1z c1z]) lc k1z] [h2x : CZ w (.agg #[.bool g2x, .slice a2x l2x c2x]) ma k2x] [h2y : CZ w (.agg #[.bool g2y, .slice a2y l2y c2y]) mb k2y] [h2z : CZ w (.agg #[.bool g2z, .slice a2z l2z c2z]) mc k2z] (b : k1x ≤ 6000 ∧ k1y ≤ 6000 ∧ k1z ≤ 6000 ∧ k2x ≤ 6000 ∧ k2y ≤ 6000 ∧ k2z ≤ 6000) {v : Bool} (hv : Hid (LnV la lb lc)) (hw : Hid (LnV ma mb mc)) (hr : Hid (decide (((la : Int) : Rat) = -((ma : Int) : Rat) ∧ ((lb : Int) : Rat) = -((mb : Int) : Rat) ∧ ((lc : Int) : Rat) = -((mc : Int) : Rat)) = v)) :
    Calls Tryz.prog 77 #[.agg #[.bool g1x, .slice a1x l1x c1x, .bool g1y, .slice a1y l1y c1y, .bool g1z, .slice a1z l1z c1z], .agg #[.bool g2x, .slice a2x l2x c2x, .bool g2y, .slice a2y l2y c2y, .bool g2z, .slice a2z l2z c2z], .func (.func 106) #[] #[]] w (fun e w' => e = .returned (.bool v) ∧ Below w.heap.size w w') := by
  go_enter Tryz.func77, Tryz.ntmps77
  go_wp2_with (first
    | (go_at_call 70; (with_reducible refine Calls.cLFB (lnOfC (by omega) hv) ?_); intros)
    | (go_at_call 70; (with_reducible refine Calls.cLFB (lnOfC (by omega) hw) ?_); intros)
    | (go_at_call 106; (with_reducible refine Calls.cE (clOppositeC (by omega) hr) ?_); intros))
  go_ret
  exact E.fin rfl

theorem lineOppositeC {w : World} {g1x g1y g1z g2x g2y g2z : Bool} {a1x a1y a1z a2x a2y a2z : Option Addr} {l1x c1x l1y c1y l1z c1z l2x c2x l2y c2y l2z c2z k1x k1y k1z k2x k2y k2z : Nat} {la lb lc ma mb mc : Int} [h1x : CZ w (.agg #[.bool g1x, .slice a1x l1x c1x]) la k1x] [h1y : CZ w (.agg #[.bool g1y, .slice a1y l1y c1y]) lb k1y] [h1z : CZ w (.agg #[.bool g1z, .slice a1z l1z c1z]) lc k1z] [h2x : CZ w (.agg #[.bool g2x, .slice a2x l2x c2x]) ma k2x] [h2y : CZ w (.agg #[.bool g2y, .slice a2y l2y c2y]) mb k2y] [h2z : CZ w (.agg #[.bool g2z, .slice a2z l2z c2z]) mc k2z] (b : k1x ≤ 6000 ∧ k1y ≤ 6000 ∧ k1z ≤ 6000 ∧ k2x ≤ 6000 ∧ k2y ≤ 6000 ∧ k2z ≤ 6000) {v : Bool} (hv : Hid (LnV la lb lc)) (hw : Hid (LnV ma mb mc)) (hr : Hid (decide (((la : Int) : Rat) = -((ma : Int) : Rat) ∧ ((lb : Int) : Rat) = -((mb : Int) : Rat) ∧ ((lc : Int) : Rat) = -((mc : Int) : Rat)) = v)) :
    Calls Tryz.prog 39 #[.agg #[.bool g1x, .slice a1x l1x c1x, .bool g1y, .slice a1y l1y c1y, .bool g1z, .slice a1z l1z c1z], .agg #[.bool g2x, .slice a2x l2x c2x, .bool g2y, .slice a2y l2y c2y, .bool g2z, .slice a2z l2z c2z]] w (fun e w' => e = .returned (.bool v) ∧ Below w.heap.size w w') := by
  go_enter Tryz.func39, Tryz.ntmps39
  go_wp2_with (go_at_call 77; (with_reducible refine Calls.cE (twoOppositeC (by omega) hv hw hr) ?_); intros)
  go_ret
  exact E.fin rfl

theorem clParallelC {w : World} {v : Bool} {n1x d1x n1y d1y n1z d1z n2x d2x n2y d2y n2z d2z : Int} {p1x p1y p1z p2x p2y p2z : Option Addr} {la lb lc ma mb mc : Rat} {k1x k1y k1z k2x k2y k2z : Nat} [h1x : CF w (.agg #[.int .i64 n1x, .int .i64 d1x, .pointer p1x]) la k1x] [h1y : CF w (.agg #[.int .i64 n1y, .int .i64 d1y, .pointer p1y]) lb k1y] [h1z : CF w (.agg #[.int .i64 n1z, .int .i64 d1z, .pointer p1z]) lc k1z] [h2x : CF w (.agg #[.int .i64 n2x, .int .i64 d2x, .pointer p2x]) ma k2x] [h2y : CF w (.agg #[.int .i64 n2y, .int .i64 d2y, .pointer p2y]) mb k2y] [h2z : CF w (.agg #[.int .i64 n2z, .int .i64 d2z, .pointer p2z]) mc k2z] (b : k1x ≤ 6200 ∧ k1y ≤ 6200 ∧ k1z ≤ 6200 ∧ k2x ≤ 6200 ∧ k2y ≤ 6200 ∧ k2z ≤ 6200) (hr : Hid (decide (la * mb - lb * ma = 0) = v)) :
    Calls Tryz.prog 78 #[.agg #[.int .i64 n1x, .int .i64 d1x, .pointer p1x, .int .i64 n1y, .int .i64 d1y, .pointer p1y, .int .i64 n1z, .int .i64 d1z, .pointer p1z], .agg #[.int .i64 n2x, .int .i64 d2x, .pointer p2x, .int .i64 n2y, .int .i64 d2y, .pointer p2y, .int .i64 n2z, .int .i64 d2z, .pointer p2z]] w (fun e w' => e = .returned (.bool v) ∧ Below w.heap.size w w') := by
  go_enter Tryz.func78, Tryz.ntmps78
  go_wp2_with fail
  refine rgn [] [] fun hHeld => ?_
  refine tk 0 hHeld ?_
  refine tk 2 hHeld ?_
  refine st 1 fun K hK => ?_
  go_simp
  (with_reducible refine Calls.cPF (lnNormalC (by omega)) ?_); intros
  refine hd hK ?_
  clear hHeld hK K
  intro hHeld
  refine st 3 fun K hK => ?_
  go_simp
  (with_reducible refine Calls.cPF (lnNormalC (by omega)) ?_); intros
  refine hd hK ?_
  clear hHeld hK K
  intro hHeld
  refine st 4 fun K hK => ?_
  go_simp
  (with_reducible refine Calls.cF (ptCrossC (by omega)) ?_); intros
  refine hd hK ?_
  clear hHeld hK K
  intro hHeld
  refine st 5 fun K hK => ?_
  go_simp
  (with_reducible refine Calls.cE (rZeroV hr) ?_); intros
  refine hd hK ?_
  clear hHeld hK K
  intro hHeld
  refine tk 6 hHeld ?_
  refine dn ?_
  clear hHeld
  go_wp2
  go_ret
  exact E.fin rfl

theorem twoParallelC {w : World} {g1x g1y g1z g2x g2y g2z : Bool} {a1x a1y a1z a2x a2y a2z : Option Addr} {l1x c1x l1y c1y l1z c1z l2x c2x l2y c2y l2z c2z k1x k1y k1z k2x k2y k2z : Nat} {la lb lc ma mb mc : Int} [h1x : CZ w (.agg #[.bool g1x, .slice a1x l1x c1x]) la k1x] [h1y : CZ w (.agg #[.bool g1y, .slice a1y l1y c1y]) lb k1y] [h1z : CZ w (.agg #[.bool g1z, .slice a1z l1z c1z]) lc k1z] [h2x : CZ w (.agg #[.bool g2x, .slice a2x l2x c2x]) ma k2x] [h2y : CZ w (.agg #[.bool g2y, .slice a2y l2y c2y]) mb k2y] [h2z : CZ w (.agg #[.bool g2z, .slice a2z l2z c2z]) mc k2z] (b : k1x ≤ 6000 ∧ k1y ≤ 6000 ∧ k1z ≤ 6000 ∧ k2x ≤ 6000 ∧ k2y ≤ 6000 ∧ k2z ≤ 6000) {v : Bool} (hv : Hid (LnV la lb lc)) (hw : Hid (LnV ma mb mc)) (hr : Hid (decide (((la : Int) : Rat) * ((mb : Int) : Rat) - ((lb : Int) : Rat) * ((ma : Int) : Rat) = 0) = v)) :
    Calls Tryz.prog 77 #[.agg #[.bool g1x, .slice a1x l1x c1x, .bool g1y, .slice a1y l1y c1y, .bool g1z, .slice a1z l1z c1z], .agg #[.bool g2x, .slice a2x l2x c2x, .bool g2y, .slice a2y l2y c2y, .bool g2z, .slice a2z l2z c2z], .func (.func 78) #[] #[]] w (fun e w' => e = .returned (.bool v) ∧ Below w.heap.size w w') := by
  go_enter Tryz.func77, Tryz.ntmps77
  go_wp2_with (first
    | (go_at_call 70; (with_reducible refine Calls.cLFB (lnOfC (by omega) hv) ?_); intros)
    | (go_at_call 70; (with_reducible refine Calls.cLFB (lnOfC (by omega) hw) ?_); intros)
    | (go_at_call 78; (with_reducible refine Calls.cE (clParallelC (by omega) hr) ?_); intros))
  go_ret
  exact E.fin rfl

theorem lineParallelC {w : World} {g1x g1y g1z g2x g2y g2z : Bool} {a1x a1y a1z a2x a2y a2z : Option Addr} {l1x c1x l1y c1y l1z c1z l2x c2x l2y c2y l2z c2z k1x k1y k1z k2x k2y k2z : Nat} {la lb lc ma mb mc : Int} [h1x : CZ w (.agg #[.bool g1x, .slice a1x l1x c1x]) la k1x] [h1y : CZ w (.agg #[.bool g1y, .slice a1y l1y c1y]) lb k1y] [h1z : CZ w (.agg #[.bool g1z, .slice a1z l1z c1z]) lc k1z] [h2x : CZ w (.agg #[.bool g2x, .slice a2x l2x c2x]) ma k2x] [h2y : CZ w (.agg #[.bool g2y, .slice a2y l2y c2y]) mb k2y] [h2z : CZ w (.agg #[.bool g2z, .slice a2z l2z c2z]) mc k2z] (b : k1x ≤ 6000 ∧ k1y ≤ 6000 ∧ k1z ≤ 6000 ∧ k2x ≤ 6000 ∧ k2y ≤ 6000 ∧ k2z ≤ 6000) {v : Bool} (hv : Hid (LnV la lb lc)) (hw : Hid (LnV ma mb mc)) (hr : Hid (decide (((la : Int) : Rat) * ((mb : Int) : Rat) - ((lb : Int) : Rat) * ((ma : Int) : Rat) = 0) = v)) :
    Calls Tryz.prog 23 #[.agg #[.bool g1x, .slice a1x l1x c1x, .bool g1y, .slice a1y l1y c1y, .bool g1z, .slice a1z l1z c1z], .agg #[.bool g2x, .slice a2x l2x c2x, .bool g2y, .slice a2y l2y c2y, .bool g2z, .slice a2z l2z c2z]] w (fun e w' => e = .returned (.bool v) ∧ Below w.heap.size w w') := by
  go_enter Tryz.func23, Tryz.ntmps23
  go_wp2_with (go_at_call 77; (with_reducible refine Calls.cE (twoParallelC (by omega) hv hw hr) ?_); intros)
  go_ret
  exact E.fin rfl

theorem twoCompareC {w : World} {g1x g1y g1z g2x g2y g2z : Bool} {a1x a1y a1z a2x a2y a2z : Option Addr} {l1x c1x l1y c1y l1z c1z l2x c2x l2y c2y l2z c2z k1x k1y k1z k2x k2y k2z : Nat} {la lb lc ma mb mc : Int} [h1x : CZ w (.agg #[.bool g1x, .slice a1x l1x c1x]) la k1x] [h1y : CZ w (.agg #[.bool g1y, .slice a1y l1y c1y]) lb k1y] [h1z : CZ w (.agg #[.bool g1z, .slice a1z l1z c1z]) lc k1z] [h2x : CZ w (.agg #[.bool g2x, .slice a2x l2x c2x]) ma k2x] [h2y : CZ w (.agg #[.bool g2y, .slice a2y l2y c2y]) mb k2y] [h2z : CZ w (.agg #[.bool g2z, .slice a2z l2z c2z]) mc k2z] (b : k1x ≤ 6000 ∧ k1y ≤ 6000 ∧ k1z ≤ 6000 ∧ k2x ≤ 6000 ∧ k2y ≤ 6000 ∧ k2z ≤ 6000) (hv : Hid (LnV la lb lc)) (hw : Hid (LnV ma mb mc)) :
    Calls Tryz.prog 112 #[.agg #[.bool g1x, .slice a1x l1x c1x, .bool g1y, .slice a1y l1y c1y, .bool g1z, .slice a1z l1z c1z], .agg #[.bool g2x, .slice a2x l2x c2x, .bool g2y, .slice a2y l2y c2y, .bool g2z, .slice a2z l2z c2z], .func (.func 113) #[] #[]] w (fun e w' => e = .returned (.int .i64 (cmpL ((la : Int) : Rat) ((lb : Int) : Rat) ((lc : Int) : Rat) ((ma : Int) : Rat) ((mb : Int) : Rat) ((mc : Int) : Rat))) ∧ Below w.heap.size w w') := by
  go_enter Tryz.func112, Tryz.ntmps112
  go_wp2_with (first
    | (go_at_call 70; (with_reducible refine Calls.cLFB (lnOfC (by omega) hv) ?_); intros)
    | (go_at_call 70; (with_reducible refine Calls.cLFB (lnOfC (by omega) hw) ?_); intros)
    | (go_at_call 113; (with_reducible refine Calls.cE (lnCmpC (by omega)) ?_); intros))
  go_ret
  exact E.fin rfl

theorem lineCompareC {w : World} {g1x g1y g1z g2x g2y g2z : Bool} {a1x a1y a1z a2x a2y a2z : Option Addr} {l1x c1x l1y c1y l1z c1z l2x c2x l2y c2y l2z c2z k1x k1y k1z k2x k2y k2z : Nat} {la lb lc ma mb mc : Int} [h1x : CZ w (.agg #[.bool g1x, .slice a1x l1x c1x]) la k1x] [h1y : CZ w (.agg #[.bool g1y, .slice a1y l1y c1y]) lb k1y] [h1z : CZ w (.agg #[.bool g1z, .slice a1z l1z c1z]) lc k1z] [h2x : CZ w (.agg #[.bool g2x, .slice a2x l2x c2x]) ma k2x] [h2y : CZ w (.agg #[.bool g2y, .slice a2y l2y c2y]) mb k2y] [h2z : CZ w (.agg #[.bool g2z, .slice a2z l2z c2z]) mc k2z] (b : k1x ≤ 6000 ∧ k1y ≤ 6000 ∧ k1z ≤ 6000 ∧ k2x ≤ 6000 ∧ k2y ≤ 6000 ∧ k2z ≤ 6000) (hv : Hid (LnV la lb lc)) (hw : Hid (LnV ma mb mc)) :
    Calls Tryz.prog 46 #[.agg #[.bool g1x, .slice a1x l1x c1x, .bool g1y, .slice a1y l1y c1y, .bool g1z, .slice a1z l1z c1z], .agg #[.bool g2x, .slice a2x l2x c2x, .bool g2y, .slice a2y l2y c2y, .bool g2z, .slice a2z l2z c2z]] w (fun e w' => e = .returned (.int .i64 (cmpL ((la : Int) : Rat) ((lb : Int) : Rat) ((lc : Int) : Rat) ((ma : Int) : Rat) ((mb : Int) : Rat) ((mc : Int) : Rat))) ∧ Below w.heap.size w w') := by
  go_enter Tryz.func46, Tryz.ntmps46
  go_wp2_with (go_at_call 112; (with_reducible refine Calls.cE (twoCompareC (by omega) hv hw) ?_); intros)
  go_ret
  exact E.fin rfl

end Go.Proofs.YtfdgglddldlpjaaGreat

/- Lines through points: package line and the reference; lines off the tape. printed by a small program (mkln5.py). -/
namespace Go.Proofs.YtfdgglddldlpjaaGreat
open Go.RowKit
set_option maxRecDepth 100000
set_option maxHeartbeats 40000000
set_option synthInstance.maxSize 100000
set_option synthInstance.maxHeartbeats 1000000
set_option linter.unusedVariables false

def phiQ (x : Rat) (k : Nat) (v : Value) (W : World) : Prop := ∃ g a l c aa ll cc, v = .agg #[.bool g, .slice a l c, .slice aa ll cc] ∧ CQ W (.agg #[.bool g, .slice a l c, .slice aa ll cc]) x k
instance {x : Rat} {k : Nat} : Last (phiQ x k) := ⟨fun _ _ _ hb ⟨g, a, l, c, aa, ll, cc, e, _⟩ => have := Kp1.mk hb; ⟨g, a, l, c, aa, ll, cc, e, inferInstance⟩⟩
theorem phiQ.fin {x x' : Rat} {k k' : Nat} {g : Bool} {a aa : Option Addr} {l c ll cc : Nat} {W : World} [h : CQ W (.agg #[.bool g, .slice a l c, .slice aa ll cc]) x' k'] (e : x' = x) (b : k' ≤ k) : phiQ x k (.agg #[.bool g, .slice a l c, .slice aa ll cc]) W := ⟨g, a, l, c, aa, ll, cc, rfl, h.cast e b⟩
/-- The coefficients of the line through two points, not yet in lowest terms. -/
abbrev thA (y1 y2 : Rat) : Rat := -(y2 - y1)
abbrev thC (x1 y1 x2 y2 : Rat) : Rat := -(-(y2 - y1) * x1 + (x2 - x1) * y1)
theorem lnV_num {a b : Rat} (c : Rat) (h : ¬ (a = 0 ∧ b = 0)) : LnV (lnK a a b c).num (lnK b a b c).num (lnK c a b c).num := by
  obtain ⟨A, B, C, h1, h2, h3, h4⟩ := lnK_valid (c := c) h
  rw [← h1, ← h2, ← h3]
  exact h4
theorem thr_num {a b c : Rat} (h : ¬ (a = 0 ∧ b = 0)) {M : Int} (hm : M = ((a.den * b.den * c.den : Nat) : Int)) : ¬ ((a * ((M : Int) : Rat)).num = 0 ∧ (b * ((M : Int) : Rat)).num = 0) ∧
    (a * ((M : Int) : Rat)).num / ((gcd3 (a * ((M : Int) : Rat)).num (b * ((M : Int) : Rat)).num (c * ((M : Int) : Rat)).num : Nat) : Int) = (lnK a a b c).num ∧
    (b * ((M : Int) : Rat)).num / ((gcd3 (a * ((M : Int) : Rat)).num (b * ((M : Int) : Rat)).num (c * ((M : Int) : Rat)).num : Nat) : Int) = (lnK b a b c).num ∧
    (c * ((M : Int) : Rat)).num / ((gcd3 (a * ((M : Int) : Rat)).num (b * ((M : Int) : Rat)).num (c * ((M : Int) : Rat)).num : Nat) : Int) = (lnK c a b c).num := by
  subst hm
  have hm : (0 : Rat) < (((a.den * b.den * c.den : Nat) : Int) : Rat) := by
    have : 0 < a.den * b.den * c.den := Nat.mul_pos (Nat.mul_pos a.den_pos b.den_pos) c.den_pos
    exact Rat.intCast_pos.2 (by omega)
  have ha := mulD_int a (m := a.den * b.den * c.den) ⟨b.den * c.den, by rw [Nat.mul_assoc]⟩
  have hb := mulD_int b (m := a.den * b.den * c.den) ⟨a.den * c.den, by rw [Nat.mul_comm a.den b.den, Nat.mul_assoc]⟩
  have hc := mulD_int c (m := a.den * b.den * c.den) ⟨a.den * b.den, by rw [Nat.mul_comm]⟩
  generalize (((a.den * b.den * c.den : Nat) : Int) : Rat) = m at *
  generalize (a * m).num = x at *
  generalize (b * m).num = y at *
  generalize (c * m).num = z at *
  have hxy : ¬ (x = 0 ∧ y = 0) := by
    rintro ⟨rfl, rfl⟩
    refine h ⟨?_, ?_⟩
    · rcases Rat.mul_eq_zero.1 (ha.trans rfl) with e | e
      · exact e
      · rw [e] at hm; exact absurd hm (by decide)
    · rcases Rat.mul_eq_zero.1 (hb.trans rfl) with e | e
      · exact e
      · rw [e] at hm; exact absurd hm (by decide)
  have hd := gcd3_dvd x y z
  refine ⟨hxy, ?_, ?_, ?_⟩
  · rw [← lnK_mul a a b c hm, ha, hb, hc, lnK_int hxy hd.1]; rfl
  · rw [← lnK_mul b a b c hm, ha, hb, hc, lnK_int hxy hd.2.1]; rfl
  · rw [← lnK_mul c a b c hm, ha, hb, hc, lnK_int hxy hd.2.2]; rfl
theorem Calls.cNpos {P : Program} {f : FuncId} {args : Array Value} {w : World} {n k : Nat} {K : Ending → World → Prop} (h : Calls P f args w (CNRet w n k)) (hn : n ≠ 0)
    (hK : ∀ w' [Kp1 w w'] (a : Option Addr) (l c : Nat) [CN w' (.slice a l c) n k], ((l : Int) == 0) = false → K (.returned (.slice a l c)) w') : Calls P f args w K := by
  refine h.mono ?_
  rintro e w' ⟨a, l, c, rfl, hx, hb⟩
  refine @hK w' ⟨hb⟩ a l c hx ?_
  rw [beq_eq_false_iff_ne, hx.out.len]
  have := nf_len_pos hn
  omega
theorem gcd3_nat (a b c : Int) : gcd3 a b c ∣ a.natAbs ∧ gcd3 a b c ∣ b.natAbs ∧ gcd3 a b c ∣ c.natAbs :=
  ⟨Nat.dvd_trans (Nat.gcd_dvd_left _ _) (Nat.gcd_dvd_left _ _), Nat.dvd_trans (Nat.gcd_dvd_left _ _) (Nat.gcd_dvd_right _ _), Nat.gcd_dvd_right _ _⟩
theorem writeOk {w : World} {n1x d1x n1y d1y n1z d1z : Int} {p1x p1y p1z : Option Addr} {la lb lc : Rat} {k1x k1y k1z : Nat} [h1x : CF w (.agg #[.int .i64 n1x, .int .i64 d1x, .pointer p1x]) la k1x] [h1y : CF w (.agg #[.int .i64 n1y, .int .i64 d1y, .pointer p1y]) lb k1y] [h1z : CF w (.agg #[.int .i64 n1z, .int .i64 d1z, .pointer p1z]) lc k1z] (b : k1x ≤ 200000 ∧ k1y ≤ 200000 ∧ k1z ≤ 200000) :
    Calls Tryz.prog 50 #[.agg #[.int .i64 n1x, .int .i64 d1x, .pointer p1x, .int .i64 n1y, .int .i64 d1y, .pointer p1y, .int .i64 n1z, .int .i64 d1z, .pointer p1z], .bool true] w (LZBRet w la.num lb.num lc.num true (max k1x (max k1y k1z))) := by
  go_enter Tryz.func50, Tryz.ntmps50
  go_wp2_with (first
    | (go_at_call 76; (with_reducible refine Calls.cLZ (lnApiC (by omega)) ?_); intros))
  refine ret_bt rfl Tryz.underlying30 rfl (by kernel_rfl) rfl rfl rfl ?_
  exact LZBRet.fin rfl (by omega) rfl (by omega) rfl (by omega)

theorem writeNo {w : World} {n1x d1x n1y d1y n1z d1z : Int} {p1x p1y p1z : Option Addr} {la lb lc : Rat} {k1x k1y k1z : Nat} [h1x : CF w (.agg #[.int .i64 n1x, .int .i64 d1x, .pointer p1x]) la k1x] [h1y : CF w (.agg #[.int .i64 n1y, .int .i64 d1y, .pointer p1y]) lb k1y] [h1z : CF w (.agg #[.int .i64 n1z, .int .i64 d1z, .pointer p1z]) lc k1z] (b : k1x ≤ 200000 ∧ k1y ≤ 200000 ∧ k1z ≤ 200000) :
    Calls Tryz.prog 50 #[.agg #[.int .i64 n1x, .int .i64 d1x, .pointer p1x, .int .i64 n1y, .int .i64 d1y, .pointer p1y, .int .i64 n1z, .int .i64 d1z, .pointer p1z], .bool false] w (LZBRet w 0 0 0 false 0) := by
  go_enter Tryz.func50, Tryz.ntmps50
  go_wp2
  refine ret_bt rfl Tryz.underlying30 rfl (by kernel_rfl) rfl rfl rfl ?_
  exact LZBRet.fin rfl (by omega) rfl (by omega) rfl (by omega)

theorem gThroughOk {w : World} {n1x d1x n1y d1y n2x d2x n2y d2y : Int} {p1x p1y p2x p2y : Option Addr} {x1 y1 x2 y2 : Rat} {k1x k1y k2x k2y : Nat} [h1x : CF w (.agg #[.int .i64 n1x, .int .i64 d1x, .pointer p1x]) x1 k1x] [h1y : CF w (.agg #[.int .i64 n1y, .int .i64 d1y, .pointer p1y]) y1 k1y] [h2x : CF w (.agg #[.int .i64 n2x, .int .i64 d2x, .pointer p2x]) x2 k2x] [h2y : CF w (.agg #[.int .i64 n2y, .int .i64 d2y, .pointer p2y]) y2 k2y] (b : k1x ≤ 600 ∧ k1y ≤ 600 ∧ k2x ≤ 600 ∧ k2y ≤ 600) (h0 : Hid (¬ (thA y1 y2 = 0 ∧ x2 - x1 = 0))) :
    Calls Tryz.prog 58 #[.agg #[.int .i64 n1x, .int .i64 d1x, .pointer p1x, .int .i64 n1y, .int .i64 d1y, .pointer p1y], .agg #[.int .i64 n2x, .int .i64 d2x, .pointer p2x, .int .i64 n2y, .int .i64 d2y, .pointer p2y]] w (LFBRet w (lnK (thA y1 y2) (thA y1 y2) (x2 - x1) (thC x1 y1 x2 y2)) (lnK (x2 - x1) (thA y1 y2) (x2 - x1) (thC x1 y1 x2 y2)) (lnK (thC x1 y1 x2 y2) (thA y1 y2) (x2 - x1) (thC x1 y1 x2 y2)) true (20 * (k1x + k1y + k2x + k2y) + 200)) := by
  go_enter Tryz.func58, Tryz.ntmps58
  go_wp2_with (first
    | (go_at_call 125; (with_reducible refine Calls.cPF (ptSubC (by omega)) ?_); intros)
    | (go_at_call 126; (with_reducible refine Calls.cPF (turnC (by omega)) ?_); intros))
  refine rgn [w.heap.size + 1 + 1] [] fun hHeld => ?_
  refine tk 0 hHeld ?_
  refine tk 1 hHeld ?_
  refine tk 2 hHeld ?_
  refine tk 3 hHeld ?_
  refine tk 4 hHeld ?_
  refine tk 5 hHeld ?_
  refine st 6 fun K hK => ?_
  go_simp
  (with_reducible refine Calls.cF (gDotC (by omega)) ?_); intros
  refine hd hK ?_
  clear hHeld hK K
  intro hHeld
  refine st 7 fun K hK => ?_
  go_simp
  (with_reducible refine Calls.cF (rNegC (by omega)) ?_); intros
  refine hd hK ?_
  clear hHeld hK K
  intro hHeld
  refine st 8 fun K hK => ?_
  go_simp
  (with_reducible refine Calls.cLFB (makeOk (by omega) h0) ?_); intros
  refine hd hK ?_
  clear hHeld hK K
  intro hHeld
  refine tk 9 hHeld ?_
  refine tk 10 hHeld ?_
  refine st 11 fun K hK => ?_
  go_simp
  refine hd hK ?_
  clear hHeld hK K
  intro hHeld
  refine tk 12 hHeld ?_
  refine dn ?_
  clear hHeld
  go_wp2_with fail
  refine ret_bt rfl Tryz.underlying94 rfl (by kernel_rfl) rfl rfl rfl ?_
  exact LFBRet.fin rfl (by omega) rfl (by omega) rfl (by omega)

theorem gThroughNo {w : World} {n1x d1x n1y d1y n2x d2x n2y d2y : Int} {p1x p1y p2x p2y : Option Addr} {x1 y1 x2 y2 : Rat} {k1x k1y k2x k2y : Nat} [h1x : CF w (.agg #[.int .i64 n1x, .int .i64 d1x, .pointer p1x]) x1 k1x] [h1y : CF w (.agg #[.int .i64 n1y, .int .i64 d1y, .pointer p1y]) y1 k1y] [h2x : CF w (.agg #[.int .i64 n2x, .int .i64 d2x, .pointer p2x]) x2 k2x] [h2y : CF w (.agg #[.int .i64 n2y, .int .i64 d2y, .pointer p2y]) y2 k2y] (b : k1x ≤ 600 ∧ k1y ≤ 600 ∧ k2x ≤ 600 ∧ k2y ≤ 600) (h0 : Hid (thA y1 y2 = 0 ∧ x2 - x1 = 0)) :
    Calls Tryz.prog 58 #[.agg #[.int .i64 n1x, .int .i64 d1x, .pointer p1x, .int .i64 n1y, .int .i64 d1y, .pointer p1y], .agg #[.int .i64 n2x, .int .i64 d2x, .pointer p2x, .int .i64 n2y, .int .i64 d2y, .pointer p2y]] w (LFBRet w 0 0 0 false (20 * (k1x + k1y + k2x + k2y) + 200)) := by
  go_enter Tryz.func58, Tryz.ntmps58
  go_wp2_with (first
    | (go_at_call 125; (with_reducible refine Calls.cPF (ptSubC (by omega)) ?_); intros)
    | (go_at_call 126; (with_reducible refine Calls.cPF (turnC (by omega)) ?_); intros))
  refine rgn [w.heap.size + 1 + 1] [] fun hHeld => ?_
  refine tk 0 hHeld ?_
  refine tk 1 hHeld ?_
  refine tk 2 hHeld ?_
  refine tk 3 hHeld ?_
  refine tk 4 hHeld ?_
  refine tk 5 hHeld ?_
  refine st 6 fun K hK => ?_
  go_simp
  (with_reducible refine Calls.cF (gDotC (by omega)) ?_); intros
  refine hd hK ?_
  clear hHeld hK K
  intro hHeld
  refine st 7 fun K hK => ?_
  go_simp
  (with_reducible refine Calls.cF (rNegC (by omega)) ?_); intros
  refine hd hK ?_
  clear hHeld hK K
  intro hHeld
  refine st 8 fun K hK => ?_
  go_simp
  (with_reducible refine Calls.cLFB (makeNo h0) ?_); intros
  refine hd hK ?_
  clear hHeld hK K
  intro hHeld
  refine tk 9 hHeld ?_
  refine tk 10 hHeld ?_
  refine st 11 fun K hK => ?_
  go_simp
  refine hd hK ?_
  clear hHeld hK K
  intro hHeld
  refine tk 12 hHeld ?_
  refine dn ?_
  clear hHeld
  go_wp2_with fail
  refine ret_bt rfl Tryz.underlying94 rfl (by kernel_rfl) rfl rfl rfl ?_
  exact LFBRet.fin rfl (by omega) rfl (by omega) rfl (by omega)

theorem lineThroughOk {w : World} {g1x g1y g2x g2y : Bool} {a1x aa1x a1y aa1y a2x aa2x a2y aa2y : Option Addr} {l1x c1x ll1x cc1x l1y c1y ll1y cc1y l2x c2x ll2x cc2x l2y c2y ll2y cc2y k1x k1y k2x k2y : Nat} {x1 y1 x2 y2 : Rat} [h1x : CW w (.agg #[.bool g1x, .slice a1x l1x c1x, .slice aa1x ll1x cc1x]) x1 k1x] [h1y : CW w (.agg #[.bool g1y, .slice a1y l1y c1y, .slice aa1y ll1y cc1y]) y1 k1y] [h2x : CW w (.agg #[.bool g2x, .slice a2x l2x c2x, .slice aa2x ll2x cc2x]) x2 k2x] [h2y : CW w (.agg #[.bool g2y, .slice a2y l2y c2y, .slice aa2y ll2y cc2y]) y2 k2y] (b : k1x ≤ 500 ∧ k1y ≤ 500 ∧ k2x ≤ 500 ∧ k2y ≤ 500) (h0 : Hid (¬ (thA y1 y2 = 0 ∧ x2 - x1 = 0))) :
    Calls Tryz.prog 16 #[.agg #[.bool g1x, .slice a1x l1x c1x, .slice aa1x ll1x cc1x, .bool g1y, .slice a1y l1y c1y, .slice aa1y ll1y cc1y], .agg #[.bool g2x, .slice a2x l2x c2x, .slice aa2x ll2x cc2x, .bool g2y, .slice a2y l2y c2y, .slice aa2y ll2y cc2y]] w (LZBRet w ((lnK (thA y1 y2) (thA y1 y2) (x2 - x1) (thC x1 y1 x2 y2))).num ((lnK (x2 - x1) (thA y1 y2) (x2 - x1) (thC x1 y1 x2 y2))).num ((lnK (thC x1 y1 x2 y2) (thA y1 y2) (x2 - x1) (thC x1 y1 x2 y2))).num true (40 * (k1x + k1y + k2x + k2y) + 600)) := by
  go_enter Tryz.func16, Tryz.ntmps16
  go_wp2_with fail
  refine rgn [w.heap.size + 1 + 1] [] fun hHeld => ?_
  refine tk 0 hHeld ?_
  refine tk 2 hHeld ?_
  refine st 1 fun K hK => ?_
  go_simp
  (with_reducible refine Calls.cPF (ptOfC (by omega)) ?_); intros
  refine hd hK ?_
  clear hHeld hK K
  intro hHeld
  refine st 3 fun K hK => ?_
  go_simp
  (with_reducible refine Calls.cPF (ptOfC (by omega)) ?_); intros
  refine hd hK ?_
  clear hHeld hK K
  intro hHeld
  refine st 4 fun K hK => ?_
  go_simp
  (with_reducible refine Calls.cLFB (gThroughOk (by omega) h0) ?_); intros
  refine hd hK ?_
  clear hHeld hK K
  intro hHeld
  refine tk 5 hHeld ?_
  refine tk 6 hHeld ?_
  refine st 7 fun K hK => ?_
  go_simp
  (with_reducible refine Calls.cLZB (writeOk (by omega)) ?_); intros
  refine hd hK ?_
  clear hHeld hK K
  intro hHeld
  refine tk 8 hHeld ?_
  refine tk 9 hHeld ?_
  refine st 10 fun K hK => ?_
  go_simp
  refine hd hK ?_
  clear hHeld hK K
  intro hHeld
  refine tk 11 hHeld ?_
  refine dn ?_
  clear hHeld
  go_wp2_with fail
  refine ret_bt rfl Tryz.underlying30 rfl (by kernel_rfl) rfl rfl rfl ?_
  exact LZBRet.fin rfl (by omega) rfl (by omega) rfl (by omega)

theorem lineThroughNo {w : World} {g1x g1y g2x g2y : Bool} {a1x aa1x a1y aa1y a2x aa2x a2y aa2y : Option Addr} {l1x c1x ll1x cc1x l1y c1y ll1y cc1y l2x c2x ll2x cc2x l2y c2y ll2y cc2y k1x k1y k2x k2y : Nat} {x1 y1 x2 y2 : Rat} [h1x : CW w (.agg #[.bool g1x, .slice a1x l1x c1x, .slice aa1x ll1x cc1x]) x1 k1x] [h1y : CW w (.agg #[.bool g1y, .slice a1y l1y c1y, .slice aa1y ll1y cc1y]) y1 k1y] [h2x : CW w (.agg #[.bool g2x, .slice a2x l2x c2x, .slice aa2x ll2x cc2x]) x2 k2x] [h2y : CW w (.agg #[.bool g2y, .slice a2y l2y c2y, .slice aa2y ll2y cc2y]) y2 k2y] (b : k1x ≤ 500 ∧ k1y ≤ 500 ∧ k2x ≤ 500 ∧ k2y ≤ 500) (h0 : Hid (thA y1 y2 = 0 ∧ x2 - x1 = 0)) :
    Calls Tryz.prog 16 #[.agg #[.bool g1x, .slice a1x l1x c1x, .slice aa1x ll1x cc1x, .bool g1y, .slice a1y l1y c1y, .slice aa1y ll1y cc1y], .agg #[.bool g2x, .slice a2x l2x c2x, .slice aa2x ll2x cc2x, .bool g2y, .slice a2y l2y c2y, .slice aa2y ll2y cc2y]] w (LZBRet w 0 0 0 false (40 * (k1x + k1y + k2x + k2y) + 600)) := by
  go_enter Tryz.func16, Tryz.ntmps16
  go_wp2_with fail
  refine rgn [w.heap.size + 1 + 1] [] fun hHeld => ?_
  refine tk 0 hHeld ?_
  refine tk 2 hHeld ?_
  refine st 1 fun K hK => ?_
  go_simp
  (with_reducible refine Calls.cPF (ptOfC (by omega)) ?_); intros
  refine hd hK ?_
  clear hHeld hK K
  intro hHeld
  refine st 3 fun K hK => ?_
  go_simp
  (with_reducible refine Calls.cPF (ptOfC (by omega)) ?_); intros
  refine hd hK ?_
  clear hHeld hK K
  intro hHeld
  refine st 4 fun K hK => ?_
  go_simp
  (with_reducible refine Calls.cLFB (gThroughNo (by omega) h0) ?_); intros
  refine hd hK ?_
  clear hHeld hK K
  intro hHeld
  refine tk 5 hHeld ?_
  refine tk 6 hHeld ?_
  refine st 7 fun K hK => ?_
  go_simp
  (with_reducible refine Calls.cLZB (writeNo (by omega)) ?_); intros
  refine hd hK ?_
  clear hHeld hK K
  intro hHeld
  refine tk 8 hHeld ?_
  refine tk 9 hHeld ?_
  refine st 10 fun K hK => ?_
  go_simp
  refine hd hK ?_
  clear hHeld hK K
  intro hHeld
  refine tk 11 hHeld ?_
  refine dn ?_
  clear hHeld
  go_wp2_with fail
  refine ret_bt rfl Tryz.underlying30 rfl (by kernel_rfl) rfl rfl rfl ?_
  exact LZBRet.fin rfl (by omega) rfl (by omega) rfl (by omega)

theorem validC {w : World} {g1x g1y g1z : Bool} {a1x a1y a1z : Option Addr} {l1x c1x l1y c1y l1z c1z k1x k1y k1z : Nat} {la lb lc : Int} [h1x : CZ w (.agg #[.bool g1x, .slice a1x l1x c1x]) la k1x] [h1y : CZ w (.agg #[.bool g1y, .slice a1y l1y c1y]) lb k1y] [h1z : CZ w (.agg #[.bool g1z, .slice a1z l1z c1z]) lc k1z] (b : k1x ≤ 5000 ∧ k1y ≤ 5000 ∧ k1z ≤ 5000) (hv : Hid (LnV la lb lc)) :
    Calls Tryz.prog 48 #[.agg #[.bool g1x, .slice a1x l1x c1x, .bool g1y, .slice a1y l1y c1y, .bool g1z, .slice a1z l1z c1z]] w (fun e w' => e = .returned (.bool true) ∧ Below w.heap.size w w') := by
  go_enter Tryz.func48, Tryz.ntmps48
  go_wp2_with (first
    | (go_at_call 70; (with_reducible refine Calls.cLFB (lnOfC (by omega) hv) ?_); intros))
  go_ret
  exact E.fin rfl

theorem refMakeOk {w : World} {g1 g2 g3 : Bool} {a1 a2 a3 : Option Addr} {l1 c1 l2 c2 l3 c3 k1 k2 k3 : Nat} {x y z : Int} [h1 : CZ w (.agg #[.bool g1, .slice a1 l1 c1]) x k1] [h2 : CZ w (.agg #[.bool g2, .slice a2 l2 c2]) y k2] [h3 : CZ w (.agg #[.bool g3, .slice a3 l3 c3]) z k3] (b : k1 ≤ 50000 ∧ k2 ≤ 50000 ∧ k3 ≤ 50000) (h0 : Hid (¬ (x = 0 ∧ y = 0))) :
    Calls Tryz.prog 10 #[.agg #[.bool g1, .slice a1 l1 c1], .agg #[.bool g2, .slice a2 l2 c2], .agg #[.bool g3, .slice a3 l3 c3]] w (LZBRet w (x / ((gcd3 x y z : Nat) : Int)) (y / ((gcd3 x y z : Nat) : Int)) (z / ((gcd3 x y z : Nat) : Int)) true (max k1 (max k2 k3) + 4)) := by
  have z1 := zz_of h1
  have z2 := zz_of h2
  have z3 := zz_of h3
  have n1 : CN w (.slice a1 l1 c1) x.natAbs k1 := ⟨z1.2⟩
  have n2 : CN w (.slice a2 l2 c2) y.natAbs k2 := ⟨z2.2⟩
  have n3 : CN w (.slice a3 l3 c3) z.natAbs k3 := ⟨z3.2⟩
  have hg : Nat.gcd x.natAbs y.natAbs ≠ 0 := by
    intro e
    obtain ⟨e1, e2⟩ := Nat.gcd_eq_zero_iff.1 e
    exact h0.out ⟨Int.natAbs_eq_zero.1 e1, Int.natAbs_eq_zero.1 e2⟩
  have hg3 : Nat.gcd (Nat.gcd x.natAbs y.natAbs) z.natAbs ≠ 0 := fun e => hg (Nat.gcd_eq_zero_iff.1 e).1
  have HS1 : Hid (sgn g1 (x.natAbs / Nat.gcd (Nat.gcd x.natAbs y.natAbs) z.natAbs) = x / ((gcd3 x y z : Nat) : Int)) := sgn_div z1.1 (gcd3_nat x y z).1
  have HS2 : Hid (sgn g2 (y.natAbs / Nat.gcd (Nat.gcd x.natAbs y.natAbs) z.natAbs) = y / ((gcd3 x y z : Nat) : Int)) := sgn_div z2.1 (gcd3_nat x y z).2.1
  have HS3 : Hid (sgn g3 (z.natAbs / Nat.gcd (Nat.gcd x.natAbs y.natAbs) z.natAbs) = z / ((gcd3 x y z : Nat) : Int)) := sgn_div z3.1 (gcd3_nat x y z).2.2
  clear z1 z2 z3
  go_enter Tryz.func10, Tryz.ntmps10
  go_wp2_with (first
    | (go_at_call 53; (with_reducible refine Calls.cNpos (commonC (m := x.natAbs) (n := y.natAbs) (by omega)) hg ?_); intros)
    | (go_at_call 53; (with_reducible refine Calls.cN (commonC (by omega)) ?_); intros)
    | (go_at_call 54; (with_reducible refine Calls.cQR (divideC (by omega) hg3) ?_); intros))
  refine rgn [w.heap.size + 1 + 1 + 1] [] fun hHeld => ?_
  refine tk 0 hHeld ?_
  refine tk 1 hHeld ?_
  refine tk 2 hHeld ?_
  refine tk 4 hHeld ?_
  refine tk 5 hHeld ?_
  refine tk 6 hHeld ?_
  refine tk 8 hHeld ?_
  refine tk 9 hHeld ?_
  refine tk 10 hHeld ?_
  refine st 3 fun K hK => ?_
  go_simp
  (with_reducible refine Calls.cSg (makeC) ?_); intros
  refine hd hK ?_
  clear hHeld hK K
  intro hHeld
  refine st 7 fun K hK => ?_
  go_simp
  (with_reducible refine Calls.cSg (makeC) ?_); intros
  refine hd hK ?_
  clear hHeld hK K
  intro hHeld
  refine st 11 fun K hK => ?_
  go_simp
  (with_reducible refine Calls.cSg (makeC) ?_); intros
  refine hd hK ?_
  clear hHeld hK K
  intro hHeld
  refine tk 12 hHeld ?_
  refine st 13 fun K hK => ?_
  go_simp
  refine hd hK ?_
  clear hHeld hK K
  intro hHeld
  refine tk 14 hHeld ?_
  refine dn ?_
  clear hHeld
  go_wp2_with fail
  refine ret_bt rfl Tryz.underlying37 rfl (by kernel_rfl) rfl rfl rfl ?_
  exact LZBRet.fin HS1.out (by omega) HS2.out (by omega) HS3.out (by omega)

theorem toLC {w : World} {g1x g1y g1z : Bool} {a1x a1y a1z : Option Addr} {l1x c1x l1y c1y l1z c1z k1x k1y k1z : Nat} {la lb lc : Int} [h1x : CZ w (.agg #[.bool g1x, .slice a1x l1x c1x]) la k1x] [h1y : CZ w (.agg #[.bool g1y, .slice a1y l1y c1y]) lb k1y] [h1z : CZ w (.agg #[.bool g1z, .slice a1z l1z c1z]) lc k1z] (b : k1x ≤ 300000 ∧ k1y ≤ 300000 ∧ k1z ≤ 300000) :
    Calls Tryz.prog 19 #[.agg #[.bool g1x, .slice a1x l1x c1x, .bool g1y, .slice a1y l1y c1y, .bool g1z, .slice a1z l1z c1z]] w (CLZRet w la lb lc (max k1x (max k1y k1z))) := by
  go_enter Tryz.func19, Tryz.ntmps19
  go_wp2_with fail
  refine rgn [w.heap.size + 1] [] fun hHeld => ?_
  refine tk 0 hHeld ?_
  refine tk 1 hHeld ?_
  refine tk 3 hHeld ?_
  refine tk 4 hHeld ?_
  refine tk 6 hHeld ?_
  refine tk 7 hHeld ?_
  refine st 2 fun K hK => ?_
  go_simp
  (with_reducible refine Calls.cZ (toIC (by omega)) ?_); intros
  refine hd hK ?_
  clear hHeld hK K
  intro hHeld
  refine st 5 fun K hK => ?_
  go_simp
  (with_reducible refine Calls.cZ (toIC (by omega)) ?_); intros
  refine hd hK ?_
  clear hHeld hK K
  intro hHeld
  refine st 8 fun K hK => ?_
  go_simp
  (with_reducible refine Calls.cZ (toIC (by omega)) ?_); intros
  refine hd hK ?_
  clear hHeld hK K
  intro hHeld
  refine tk 9 hHeld ?_
  refine st 10 fun K hK => ?_
  go_simp
  refine hd hK ?_
  clear hHeld hK K
  intro hHeld
  refine dn ?_
  clear hHeld
  go_wp2
  refine ret_bx rfl Tryz.underlying30 rfl (by kernel_rfl) rfl rfl rfl ?_
  exact CLZRet.fin rfl (by omega) rfl (by omega) rfl (by omega)

end Go.Proofs.YtfdgglddldlpjaaGreat
