import Derived.Test.YtpnpnlmlamfpmaaGreatDoorS22
namespace Go.Proofs.YtpnpnlmlamfpmaaGreatDoor
open Go.RowKit
set_option linter.unusedSimpArgs false
set_option linter.unusedVariables false
set_option maxRecDepth 100000
section
def Ok (f : Nat → Rat) : Nat → Rat
 | 0 => 0
 | n + 1 => Ok f n + f n
def crs (p q : Rat × Rat) : Rat := p.1 * q.2 - p.2 * q.1
def pc (L : List (Rat × Rat)) (i : Nat) : Rat × Rat := pg L (i % L.length)
variable {L : List (Rat × Rat)}
theorem Qko {i : Nat} (h : i < L.length) : pc L i = pg L i := by rw [pc, Nat.mod_eq_of_lt h]
def Fd (L : List (Rat × Rat)) (q : Nat) : Rat := Ok (fun i => crs (pc L i) (pc L (i + 1))) q
theorem Qd7 {q : Nat} (h : q < L.length) : Fd L (q + 1) = Fd L q + crs (pg L q) (pg L ((q + 1) % L.length)) := by
 rw [Fd, Ok, ← Fd, Qko h, pc]
end
section
def Bn (a b x y : Rat) : Rat := (b * x + -a * y) / (b * b + -a * -a)
def N9 (a b c t : Rat) : Rat := a * (-c / (a * a + b * b)) + b * t
def P8 (a b c t : Rat) : Rat := b * (-c / (a * a + b * b)) + -a * t
def onL (a b c x y : Rat) : Prop := a * x + b * y + c = 0
theorem at_par {a b c : Rat} (t : Rat) (h : a * a + b * b ≠ 0) : Bn a b (N9 a b c t) (P8 a b c t) = t := Qec h
theorem X6 {a b c x y : Rat} (h : a * a + b * b ≠ 0) (ho : onL a b c x y) : N9 a b c (Bn a b x y) = x ∧ P8 a b c (Bn a b x y) = y := by
 unfold onL at ho; unfold N9 P8 Bn
 have h2 : b * b + -a * -a = a * a + b * b := by grind
 rw [h2]
 generalize hN : a * a + b * b = N at h
 have hi := Rat.mul_inv_cancel N h
 rw [Rat.div_def, Rat.div_def]
 generalize N⁻¹ = M at hi
 have hc : c = -(a * x + b * y) := by grind
 subst hc; subst hN
 constructor
 ·have : a * (- -(a * x + b * y) * M) + b * ((b * x + -a * y) * M) = x * ((a * a + b * b) * M) := by grind
  rw [this, hi]; grind
 ·have : b * (- -(a * x + b * y) * M) + -a * ((b * x + -a * y) * M) = y * ((a * a + b * b) * M) := by grind
  rw [this, hi]; grind
structure FGV (f : FG) : Prop where
 v : LnV f.a f.b f.c
 lt : f.lo < f.hi
theorem FGV.ne {f : FG} (h : FGV f) : (f.a : Rat) * f.a + (f.b : Rat) * f.b ≠ 0 := Kg h.v.1
section
variable {f g : FG} {lo hi : Rat}
end
theorem Qfv {k : Rat} {a b c a' b' c' : Int} (hv : LnV a b c) (hw : LnV a' b' c') (hk : k ≠ 0) (e1 : (a : Rat) = k * a') (e2 : (b : Rat) = k * b') (e3 : (c : Rat) = k * c') : (a = a' ∧ b = b' ∧ c = c') ∨ (a = -a' ∧ b = -b' ∧ c = -c') := by
 rcases Classical.em (0 < k) with hp | hp
 ·left
  have h : ∀ x : Int, (x : Rat) = lnK (x : Rat) a b c := fun x => (K9 hv).symm
  have h1 := I0 (x := a') hw hp
  have h2 := I0 (x := b') hw hp
  have h3 := I0 (x := c') hw hp
  have c1 : (a' : Rat) * k = a := by grind
  have c2 : (b' : Rat) * k = b := by grind
  have c3 : (c' : Rat) * k = c := by grind
  rw [c1, c2, c3] at h1 h2 h3; rw [K9 hv] at h1 h2 h3
  exact ⟨by exact_mod_cast h1, by exact_mod_cast h2, by exact_mod_cast h3⟩
 ·right
  have hp' : 0 < -k := by grind
  have h1 := I0 (x := -a') hw.rev hp'
  have h2 := I0 (x := -b') hw.rev hp'
  have h3 := I0 (x := -c') hw.rev hp'
  have c1 : ((-a' : Int) : Rat) * -k = a := by rw [Rat.intCast_neg]; grind
  have c2 : ((-b' : Int) : Rat) * -k = b := by rw [Rat.intCast_neg]; grind
  have c3 : ((-c' : Int) : Rat) * -k = c := by rw [Rat.intCast_neg]; grind
  rw [c1, c2, c3] at h1 h2 h3; rw [K9 hv] at h1 h2 h3
  exact ⟨by exact_mod_cast h1, by exact_mod_cast h2, by exact_mod_cast h3⟩
end
section
set_option maxHeartbeats 40000000
set_option synthInstance.maxHeartbeats 1000000
set_option synthInstance.maxSize 100000
def or3 (a b c : Int) : Int := if a = 0 then (if b = 0 then c else b) else a
def Rl (a b c a' b' c' : Rat) : Int := or3 (isgn (a - a').num) (isgn (b - b').num) (isgn (c - c').num)
theorem Qd8 {a b c a' b' c' : Rat} : (Rl a b c a' b' c' == 0) = decide (a = a' ∧ b = b' ∧ c = c') := by
 rw [Bool.eq_iff_iff, beq_iff_eq, decide_eq_true_eq]; unfold Rl or3
 have e : ∀ x y : Rat, isgn (x - y).num = 0 ↔ x = y := fun x y => by
  have := @O3 x y
  rw [Bool.eq_iff_iff, beq_iff_eq, decide_eq_true_eq] at this; exact this
 by_cases h1 : isgn (a - a').num = 0
 ·rw [if_pos h1]
  by_cases h2 : isgn (b - b').num = 0
  ·rw [if_pos h2, e]
   exact ⟨fun h => ⟨(e _ _).1 h1, (e _ _).1 h2, h⟩, fun h => h.2.2⟩
  ·rw [if_neg h2]
   exact ⟨fun h => absurd h h2, fun h => absurd ((e _ _).2 h.2.1) h2⟩
 ·rw [if_neg h1]
  exact ⟨fun h => absurd h h1, fun h => absurd ((e _ _).2 h.1) h1⟩
variable {w : World}
theorem Qfb {q : Nat} {a b c : Int} [h : Bx w q 3 [.int .i64 a, .int .i64 b, .int .i64 c]] : Calls Tryz.prog 251 #[.slice (some ⟨q, 0, none⟩) 3 3] w fun e w' => e = .returned (.int .i64 (or3 a b c)) ∧ Below w.heap.size w w' := by
 by_cases h0 : a = 0
 ·subst h0
  by_cases h1 : b = 0
  ·subst h1
   by_cases h2 : c = 0
   ·subst h2
    have HE : Hid (or3 0 0 0 = 0) := by show _ = _; simp [or3]
    go_enter Tryz.func251, Tryz.ntmps251; go_wp2_with fail
    refine wp_loop_rounds 4 ?_
    rw [rounds_succ]; go_wp2_with fail; rw [rounds_succ]; go_wp2_with fail; rw [rounds_succ]; go_wp2_with fail; rw [rounds_succ]; go_wp2_with fail; go_ret
    exact E.fin (by rw [HE.out]; rfl)
   ·have q2 : (c == 0) = false := by rw [beq_eq_false_iff_ne]; exact h2
    have HE : Hid (or3 0 0 c = c) := by show _ = _; simp [or3]
    go_enter Tryz.func251, Tryz.ntmps251; go_wp2_with fail
    refine wp_loop_rounds 3 ?_
    rw [rounds_succ]; go_wp2_with fail; rw [rounds_succ]; go_wp2_with fail; rw [rounds_succ]; go_wp2_with fail; go_ret
    exact E.fin (by rw [HE.out]; rfl)
  ·have q1 : (b == 0) = false := by rw [beq_eq_false_iff_ne]; exact h1
   have HE : Hid (or3 0 b c = b) := by show _ = _; simp [or3, h1]
   go_enter Tryz.func251, Tryz.ntmps251; go_wp2_with fail
   refine wp_loop_rounds 2 ?_
   rw [rounds_succ]; go_wp2_with fail; rw [rounds_succ]; go_wp2_with fail; go_ret
   exact E.fin (by rw [HE.out]; rfl)
 ·have q0 : (a == 0) = false := by rw [beq_eq_false_iff_ne]; exact h0
  have HE : Hid (or3 a b c = a) := by show _ = _; simp [or3, h0]
  go_enter Tryz.func251, Tryz.ntmps251; go_wp2_with fail
  refine wp_loop_rounds 1 ?_
  rw [rounds_succ]; go_wp2_with fail; go_ret
  exact E.fin (by rw [HE.out]; rfl)
variable {d1x d1y d1z d2x d2y d2z n1x n1y n1z n2x n2y n2z : Int} {k1x k1y k1z k2x k2y k2z : Nat} {la lb lc ma mb mc : Rat} {p1x p1y p1z p2x p2y p2z : Option Addr}
theorem Qgl [h1x : CF w (.agg #[.int .i64 n1x, .int .i64 d1x, .pointer p1x]) la k1x] [h1y : CF w (.agg #[.int .i64 n1y, .int .i64 d1y, .pointer p1y]) lb k1y] [h1z : CF w (.agg #[.int .i64 n1z, .int .i64 d1z, .pointer p1z]) lc k1z] [h2x : CF w (.agg #[.int .i64 n2x, .int .i64 d2x, .pointer p2x]) ma k2x] [h2y : CF w (.agg #[.int .i64 n2y, .int .i64 d2y, .pointer p2y]) mb k2y] [h2z : CF w (.agg #[.int .i64 n2z, .int .i64 d2z, .pointer p2z]) mc k2z] (b : k1x ≤ 40000 ∧ k1y ≤ 40000 ∧ k1z ≤ 40000 ∧ k2x ≤ 40000 ∧ k2y ≤ 40000 ∧ k2z ≤ 40000) :
  Calls Tryz.prog 248 #[.agg #[.int .i64 n1x, .int .i64 d1x, .pointer p1x, .int .i64 n1y, .int .i64 d1y, .pointer p1y, .int .i64 n1z, .int .i64 d1z, .pointer p1z], .agg #[.int .i64 n2x, .int .i64 d2x, .pointer p2x, .int .i64 n2y, .int .i64 d2y, .pointer p2y, .int .i64 n2z, .int .i64 d2z, .pointer p2z]] w (fun e w' => e = .returned (.int .i64 (Rl la lb lc ma mb mc)) ∧ Below w.heap.size w w') := by
 go_enter Tryz.func248, Tryz.ntmps248; go_wp2_with fail; refine rgn [] [] fun hH => ?_; refine tk 0 hH ?_; refine tk 1 hH ?_; refine tk 2 hH ?_; refine tk 3 hH ?_; refine tk 5 hH ?_; refine tk 6 hH ?_; refine tk 7 hH ?_; refine tk 8 hH ?_; refine tk 10 hH ?_; refine tk 11 hH ?_; refine tk 12 hH ?_; refine tk 13 hH (st 4 fun K hK => ?_); go_simp; refine Aa (Jh (by omega)) ?_; intros; refine hd hK fun hH => st 9 fun K hK => ?_; go_simp; refine Aa (Jh (by omega)) ?_; intros; refine hd hK fun hH => st 14 fun K hK => ?_; go_simp; refine Aa (Jh (by omega)) ?_; intros; refine hd hK fun hH => st 15 fun K hK => ?_; go_simp; refine hd hK fun hH => st 16 fun K hK => ?_; go_simp; refine Aa (Qfb) ?_; intros; refine hd hK fun hH => ?_; refine tk 17 hH (dn ?_); clear hH; go_wp2; go_ret; exact E.fin rfl
theorem Qhh [h1x : CF w (.agg #[.int .i64 n1x, .int .i64 d1x, .pointer p1x]) la k1x] [h1y : CF w (.agg #[.int .i64 n1y, .int .i64 d1y, .pointer p1y]) lb k1y] [h1z : CF w (.agg #[.int .i64 n1z, .int .i64 d1z, .pointer p1z]) lc k1z] [h2x : CF w (.agg #[.int .i64 n2x, .int .i64 d2x, .pointer p2x]) ma k2x] [h2y : CF w (.agg #[.int .i64 n2y, .int .i64 d2y, .pointer p2y]) mb k2y] [h2z : CF w (.agg #[.int .i64 n2z, .int .i64 d2z, .pointer p2z]) mc k2z] (b : k1x ≤ 30000 ∧ k1y ≤ 30000 ∧ k1z ≤ 30000 ∧ k2x ≤ 30000 ∧ k2y ≤ 30000 ∧ k2z ≤ 30000) :
  Calls Tryz.prog 237 #[.agg #[.int .i64 n1x, .int .i64 d1x, .pointer p1x, .int .i64 n1y, .int .i64 d1y, .pointer p1y, .int .i64 n1z, .int .i64 d1z, .pointer p1z], .agg #[.int .i64 n2x, .int .i64 d2x, .pointer p2x, .int .i64 n2y, .int .i64 d2y, .pointer p2y, .int .i64 n2z, .int .i64 d2z, .pointer p2z]] w (fun e w' => e = .returned (.bool (decide (la = ma ∧ lb = mb ∧ lc = mc))) ∧ Below w.heap.size w w') := by
 have HE := Lib.hid (@Qd8 la lb lc ma mb mc); go_enter Tryz.func237, Tryz.ntmps237
 go_wp2_with (first
  | (go_at_call 248; refine Aa (Qgl (by omega)) ?_; intros))
 go_ret
 exact E.fin (by rw [← HE.out]; rfl)
theorem Qbr {v : Bool} [h1x : CF w (.agg #[.int .i64 n1x, .int .i64 d1x, .pointer p1x]) la k1x] [h1y : CF w (.agg #[.int .i64 n1y, .int .i64 d1y, .pointer p1y]) lb k1y] [h1z : CF w (.agg #[.int .i64 n1z, .int .i64 d1z, .pointer p1z]) lc k1z] [h2x : CF w (.agg #[.int .i64 n2x, .int .i64 d2x, .pointer p2x]) ma k2x] [h2y : CF w (.agg #[.int .i64 n2y, .int .i64 d2y, .pointer p2y]) mb k2y] [h2z : CF w (.agg #[.int .i64 n2z, .int .i64 d2z, .pointer p2z]) mc k2z] (b : k1x ≤ 30000 ∧ k1y ≤ 30000 ∧ k1z ≤ 30000 ∧ k2x ≤ 30000 ∧ k2y ≤ 30000 ∧ k2z ≤ 30000) (hv : Hid (decide (la = ma ∧ lb = mb ∧ lc = mc) = v)) :
  Calls Tryz.prog 237 #[.agg #[.int .i64 n1x, .int .i64 d1x, .pointer p1x, .int .i64 n1y, .int .i64 d1y, .pointer p1y, .int .i64 n1z, .int .i64 d1z, .pointer p1z], .agg #[.int .i64 n2x, .int .i64 d2x, .pointer p2x, .int .i64 n2y, .int .i64 d2y, .pointer p2y, .int .i64 n2z, .int .i64 d2z, .pointer p2z]] w (fun e w' => e = .returned (.bool v) ∧ Below w.heap.size w w') := by
 rw [← hv.out]; exact Qhh b
end
section
set_option maxHeartbeats 40000000
set_option synthInstance.maxHeartbeats 1000000
set_option synthInstance.maxSize 100000
def Ql4 (x : Rat) (k : Nat) (v : Value) (W : World) : Prop := ∃ g a l c aa ll cc, v = .agg #[.bool g, .slice a l c, .slice aa ll cc] ∧ CQ W (.agg #[.bool g, .slice a l c, .slice aa ll cc]) x k
instance {x : Rat} {k : Nat} : Last (Ql4 x k) := ⟨fun _ _ _ hb ⟨g, a, l, c, aa, ll, cc, e, _⟩ => have := Kp1.mk hb; ⟨g, a, l, c, aa, ll, cc, e, ii⟩⟩
abbrev thA (y1 y2 : Rat) : Rat := -(y2 - y1)
abbrev thC (x1 y1 x2 y2 : Rat) : Rat := -(-(y2 - y1) * x1 + (x2 - x1) * y1)
theorem Qk1 {a b : Rat} (c : Rat) (h : ¬ (a = 0 ∧ b = 0)) : LnV (lnK a a b c).num (lnK b a b c).num (lnK c a b c).num := by
 obtain ⟨A, B, C, h1, h2, h3, h4⟩ := Ju (c := c) h; rw [← h1, ← h2, ← h3]; exact h4
theorem Qdm {w : World} {n1x d1x n1y d1y n2x d2x n2y d2y : Int} {p1x p1y p2x p2y : Option Addr} {x1 y1 x2 y2 : Rat} {k1x k1y k2x k2y : Nat} [h1x : CF w (.agg #[.int .i64 n1x, .int .i64 d1x, .pointer p1x]) x1 k1x] [h1y : CF w (.agg #[.int .i64 n1y, .int .i64 d1y, .pointer p1y]) y1 k1y] [h2x : CF w (.agg #[.int .i64 n2x, .int .i64 d2x, .pointer p2x]) x2 k2x] [h2y : CF w (.agg #[.int .i64 n2y, .int .i64 d2y, .pointer p2y]) y2 k2y] (b : k1x ≤ 600 ∧ k1y ≤ 600 ∧ k2x ≤ 600 ∧ k2y ≤ 600) (h0 : Hid (¬ (thA y1 y2 = 0 ∧ x2 - x1 = 0))) :
  Calls Tryz.prog 121 #[.agg #[.int .i64 n1x, .int .i64 d1x, .pointer p1x, .int .i64 n1y, .int .i64 d1y, .pointer p1y], .agg #[.int .i64 n2x, .int .i64 d2x, .pointer p2x, .int .i64 n2y, .int .i64 d2y, .pointer p2y]] w (Kt w (lnK (thA y1 y2) (thA y1 y2) (x2 - x1) (thC x1 y1 x2 y2)) (lnK (x2 - x1) (thA y1 y2) (x2 - x1) (thC x1 y1 x2 y2)) (lnK (thC x1 y1 x2 y2) (thA y1 y2) (x2 - x1) (thC x1 y1 x2 y2)) true (20 * (k1x + k1y + k2x + k2y) + 200)) := by
 go_enter Tryz.func121, Tryz.ntmps121
 go_wp2_with (first
  | (go_at_call 172; refine Au (Qky (by omega)) ?_; intros)
  | (go_at_call 173; refine Au (Qka (by omega)) ?_; intros))
 refine rgn [w.heap.size + 1 + 1] [] fun hH => ?_; refine tk 0 hH ?_; refine tk 1 hH ?_; refine tk 2 hH ?_; refine tk 3 hH ?_; refine tk 4 hH ?_; refine tk 5 hH (st 6 fun K hK => ?_); go_simp; refine Ab (Ej (by omega)) ?_; intros; refine hd hK fun hH => st 7 fun K hK => ?_; go_simp; refine Ab (Di (by omega)) ?_; intros; refine hd hK fun hH => st 8 fun K hK => ?_; go_simp; refine Xz (Zh (by omega) h0) ?_; intros; refine hd hK fun hH => ?_; refine tk 9 hH ?_; refine tk 10 hH (st 11 fun K hK => ?_); go_simp; refine hd hK fun hH => ?_; refine tk 12 hH (dn ?_); clear hH; go_wp2_with fail
 refine B6 rfl Tryz.underlying161 rfl (by kernel_rfl) rfl rfl rfl ?_
 exact Kt.fin rfl (by omega) rfl (by omega) rfl (by omega)
end

section
variable {W : World}
instance CZ.zz : CZ W (.agg #[.bool false, .slice none 0 0]) 0 0 := ⟨⟨_, _, _, _, rfl, rfl, Nn.nil W 0⟩⟩
instance CQ.zz : CQ W (.agg #[.bool false, .slice none 0 0, .slice none 0 0]) 0 0 := CQ.mk' (h1 := CZ.zz) (h2 := CN.nil) rfl rfl (Nat.le_refl _) (Nat.le_refl _)
end
section
theorem Yk {a b : Int} (h : ¬ (a = 0 ∧ b = 0)) : 0 < (a : Rat) * a + (b : Rat) * b := by
 have h1 : (a : Rat) * a + (b : Rat) * b = ((a * a + b * b : Int) : Rat) := by simp [Rat.intCast_add, Rat.intCast_mul]
 have h2 := Kg h
 rw [h1] at h2 ⊢
 have p1 : 0 ≤ a * a := by rcases Int.le_total 0 a with h | h; exact Int.mul_nonneg h h; exact Int.mul_nonneg_of_nonpos_of_nonpos h h
 have p2 : 0 ≤ b * b := by rcases Int.le_total 0 b with h | h; exact Int.mul_nonneg h h; exact Int.mul_nonneg_of_nonpos_of_nonpos h h
 have h3 : a * a + b * b ≠ 0 := fun e => h2 (by rw [e]; rfl)
 exact Rat.intCast_pos.2 (by omega)
def Qc2 (x y : Rat) (k : Nat) (u : Value) (W : World) : Prop := ∃ gx ax lx cx aax llx ccx gy ay ly cy aay lly ccy, u = .agg #[.bool gx, .slice ax lx cx, .slice aax llx ccx, .bool gy, .slice ay ly cy, .slice aay lly ccy] ∧ CA W (.agg #[.bool gx, .slice ax lx cx, .slice aax llx ccx]) x k ∧ CA W (.agg #[.bool gy, .slice ay ly cy, .slice aay lly ccy]) y k
variable {k : Nat} {x : Rat}
instance {y : Rat} : Last (Qc2 x y k) := ⟨fun _ _ _ hb ⟨gx, ax, lx, cx, aax, llx, ccx, gy, ay, ly, cy, aay, lly, ccy, e, _, _⟩ => have := Kp1.mk hb; ⟨gx, ax, lx, cx, aax, llx, ccx, gy, ay, ly, cy, aay, lly, ccy, e, ii, ii⟩⟩
def Qjy (x : Rat) (k : Nat) (u : Value) (W : World) : Prop := ∃ g a l c aa ll cc, u = .agg #[.bool g, .slice a l c, .slice aa ll cc] ∧ CA W (.agg #[.bool g, .slice a l c, .slice aa ll cc]) x k
instance  : Last (Qjy x k) := ⟨fun _ _ _ hb ⟨g, a, l, c, aa, ll, cc, e, _⟩ => have := Kp1.mk hb; ⟨g, a, l, c, aa, ll, cc, e, ii⟩⟩
end
section
def Ag (p q : Rat × Rat) : FG :=
  { a := (lnK (thA p.2 q.2) (thA p.2 q.2) (q.1 - p.1) (thC p.1 p.2 q.1 q.2)).num
    b := (lnK (q.1 - p.1) (thA p.2 q.2) (q.1 - p.1) (thC p.1 p.2 q.1 q.2)).num
    c := (lnK (thC p.1 p.2 q.1 q.2) (thA p.2 q.2) (q.1 - p.1) (thC p.1 p.2 q.1 q.2)).num
    lo := Bn ((lnK (thA p.2 q.2) (thA p.2 q.2) (q.1 - p.1) (thC p.1 p.2 q.1 q.2)).num : Rat) ((lnK (q.1 - p.1) (thA p.2 q.2) (q.1 - p.1) (thC p.1 p.2 q.1 q.2)).num : Rat) p.1 p.2
    hi := Bn ((lnK (thA p.2 q.2) (thA p.2 q.2) (q.1 - p.1) (thC p.1 p.2 q.1 q.2)).num : Rat) ((lnK (q.1 - p.1) (thA p.2 q.2) (q.1 - p.1) (thC p.1 p.2 q.1 q.2)).num : Rat) q.1 q.2 }
variable {p q : Rat × Rat}
theorem J9 (h : p ≠ q) : ¬ (thA p.2 q.2 = 0 ∧ q.1 - p.1 = 0) := by
 rintro ⟨h1, h2⟩
 refine h (Prod.ext_iff.2 ⟨by grind, ?_⟩)
 unfold thA at h1
 grind
theorem Pg (h : p ≠ q) : LnV (Ag p q).a (Ag p q).b (Ag p q).c ∧ ∃ G : Rat, 0 < G ∧ ((Ag p q).a : Rat) * G = -(q.2 - p.2) ∧ ((Ag p q).b : Rat) * G = q.1 - p.1 ∧ ((Ag p q).c : Rat) * G = thC p.1 p.2 q.1 q.2 := by
 have hn := J9 h
 refine ⟨Qk1 _ hn, lnG (thA p.2 q.2) (q.1 - p.1) (thC p.1 p.2 q.1 q.2), Me _ hn, ?_⟩
 have hG := Rat.mul_inv_cancel _ (Rat.ne_of_gt (Me (thC p.1 p.2 q.1 q.2) hn))
 obtain ⟨A, B, C, e1, e2, e3, _⟩ := Ju (c := thC p.1 p.2 q.1 q.2) hn
 have d1 : (Ag p q).a = A := by show (lnK _ _ _ _).num = A; rw [← e1]; rfl
 have d2 : (Ag p q).b = B := by show (lnK _ _ _ _).num = B; rw [← e2]; rfl
 have d3 : (Ag p q).c = C := by show (lnK _ _ _ _).num = C; rw [← e3]; rfl
 rw [d1, d2, d3, e1, e2, e3]; unfold lnK
 generalize lnG (thA p.2 q.2) (q.1 - p.1) (thC p.1 p.2 q.1 q.2) = G at hG
 unfold thA
 refine ⟨?_, ?_, ?_⟩ <;> grind
theorem Qkz (h : p ≠ q) : onL (Ag p q).a (Ag p q).b (Ag p q).c p.1 p.2 ∧ onL (Ag p q).a (Ag p q).b (Ag p q).c q.1 q.2 := by
 obtain ⟨_, G, hG, e1, e2, e3⟩ := Pg h
 have hz := Rat.ne_of_gt hG
 unfold onL; unfold thC at e3; constructor
 ·have : (((Ag p q).a : Rat) * p.1 + ((Ag p q).b : Rat) * p.2 + ((Ag p q).c : Rat)) * G = 0 := by grind
  exact (Rat.mul_eq_zero.1 this).resolve_right hz
 ·have : (((Ag p q).a : Rat) * q.1 + ((Ag p q).b : Rat) * q.2 + ((Ag p q).c : Rat)) * G = 0 := by grind
  exact (Rat.mul_eq_zero.1 this).resolve_right hz
theorem Qga (h : p ≠ q) : 0 < (Ag p q).hi - (Ag p q).lo := by
 obtain ⟨hv, G, hG, e1, e2, e3⟩ := Pg h
 have hn := Kg hv.1
 have hi := Rat.mul_inv_cancel _ hn
 have e : (Ag p q).hi - (Ag p q).lo = G := by
  show Bn ((Ag p q).a : Rat) ((Ag p q).b : Rat) q.1 q.2 - Bn ((Ag p q).a : Rat) ((Ag p q).b : Rat) p.1 p.2 = G
  unfold Bn
  have h2 : ((Ag p q).b : Rat) * (Ag p q).b + -((Ag p q).a : Rat) * -((Ag p q).a : Rat) = ((Ag p q).a : Rat) * (Ag p q).a + ((Ag p q).b : Rat) * (Ag p q).b := by grind
  rw [h2, Rat.div_def, Rat.div_def]
  generalize ((Ag p q).a : Rat) = a, ((Ag p q).b : Rat) = b at *
  generalize (a * a + b * b)⁻¹ = M at hi
  have : (b * q.1 + -a * q.2) * M - (b * p.1 + -a * p.2) * M = G * ((a * a + b * b) * M) := by grind
  rw [this, hi]; grind
 rw [e]; exact hG
theorem G0 (h : p ≠ q) : FGV (Ag p q) := ⟨(Pg h).1, by have := Qga h; grind⟩
def Jb (L : List (Rat × Rat)) (i : Nat) : FG := Ag (pg L i) (pg L ((i + 1) % L.length))
end
def rmax (x y : Rat) : Rat := if x < y then y else x
def rmin (x y : Rat) : Rat := if y < x then y else x
def inV (lo hi t : Rat) : Prop := lo ≤ t ∧ t ≤ hi
instance {lo hi t : Rat} : Decidable (inV lo hi t) := inferInstanceAs (Decidable (_ ∧ _))
section
set_option maxHeartbeats 40000000
set_option synthInstance.maxHeartbeats 1000000
set_option synthInstance.maxSize 100000
theorem Qhv {w : World} {n1x d1x n1y d1y n1z d1z n2x d2x n2y d2y n2z d2z : Int} {p1x p1y p1z p2x p2y p2z : Option Addr} {la lb lc ma mb mc : Rat} {k1x k1y k1z k2x k2y k2z : Nat} [h1x : CF w (.agg #[.int .i64 n1x, .int .i64 d1x, .pointer p1x]) la k1x] [h1y : CF w (.agg #[.int .i64 n1y, .int .i64 d1y, .pointer p1y]) lb k1y] [h1z : CF w (.agg #[.int .i64 n1z, .int .i64 d1z, .pointer p1z]) lc k1z] [h2x : CF w (.agg #[.int .i64 n2x, .int .i64 d2x, .pointer p2x]) ma k2x] [h2y : CF w (.agg #[.int .i64 n2y, .int .i64 d2y, .pointer p2y]) mb k2y] [h2z : CF w (.agg #[.int .i64 n2z, .int .i64 d2z, .pointer p2z]) mc k2z] (b : k1x ≤ 8000 ∧ k1y ≤ 8000 ∧ k1z ≤ 8000 ∧ k2x ≤ 8000 ∧ k2y ≤ 8000 ∧ k2z ≤ 8000) (HZ : Hid (decide (la * mb - lb * ma = 0) = false)) :
    Calls Tryz.prog 199 #[.agg #[.int .i64 n1x, .int .i64 d1x, .pointer p1x, .int .i64 n1y, .int .i64 d1y, .pointer p1y, .int .i64 n1z, .int .i64 d1z, .pointer p1z], .agg #[.int .i64 n2x, .int .i64 d2x, .pointer p2x, .int .i64 n2y, .int .i64 d2y, .pointer p2y, .int .i64 n2z, .int .i64 d2z, .pointer p2z]] w (Q9 w ((lb * mc - lc * mb) / (la * mb - lb * ma)) ((lc * ma - la * mc) / (la * mb - lb * ma)) true (3 * (k1x + k1y + k1z + k2x + k2y + k2z) + 100)) := by
  go_enter Tryz.func199, Tryz.ntmps199
  go_upto_region 1 with fail
  go_cut [6] from 9 to 13 (fun t wx => ∃ (b6 : Nat) (n6 d6 : Int) (p6 : Option Addr), t = .pointer (some ⟨b6, 0, none⟩) ∧ Bx wx b6 96 [.int .i64 n6, .int .i64 d6, .pointer p6] ∧ CF wx (.agg #[.int .i64 n6, .int .i64 d6, .pointer p6]) (la * mb - lb * ma) (2 * (k1x + k1y + k1z + k2x + k2y + k2z) + 20) ∧ Bx wx w.heap.size 161 [.int .i64 n1x, .int .i64 d1x, .pointer p1x, .int .i64 n1y, .int .i64 d1y, .pointer p1y, .int .i64 n1z, .int .i64 d1z, .pointer p1z] ∧ Bx wx (w.heap.size + 1) 161 [.int .i64 n2x, .int .i64 d2x, .pointer p2x, .int .i64 n2y, .int .i64 d2y, .pointer p2y, .int .i64 n2z, .int .i64 d2z, .pointer p2z] ∧ Bx wx (w.heap.size + 1 + 1) 98 [.int .i64 0, .int .i64 0, .pointer none, .int .i64 0, .int .i64 0, .pointer none] ∧ CF wx (.agg #[.int .i64 n1x, .int .i64 d1x, .pointer p1x]) la k1x ∧ CF wx (.agg #[.int .i64 n1y, .int .i64 d1y, .pointer p1y]) lb k1y ∧ CF wx (.agg #[.int .i64 n1z, .int .i64 d1z, .pointer p1z]) lc k1z ∧ CF wx (.agg #[.int .i64 n2x, .int .i64 d2x, .pointer p2x]) ma k2x ∧ CF wx (.agg #[.int .i64 n2y, .int .i64 d2y, .pointer p2y]) mb k2y ∧ CF wx (.agg #[.int .i64 n2z, .int .i64 d2z, .pointer p2z]) mc k2z ∧ Kp w wx)
  case first =>
    refine rgn [] [] fun hH => ?_; refine tk 0 hH ?_; refine tk 2 hH ?_; refine Az (rs := [1, 5]) (by kernel_rfl) (by simp) ?_; refine Lm.cons (by simp; rfl) (fun K hK => ?_) (Lm.cons (by simp; rfl) (fun K hK => ?_) Lm.nil); go_simp; refine Au (Ev (by omega)) ?_; intros; refine hd hK fun hH => ?_; refine Az (rs := [3, 5]) (by kernel_rfl) (by simp) ?_; refine Lm.cons (by simp; rfl) (fun K hK => ?_) (Lm.cons (by simp; rfl) (fun K hK => ?_) Lm.nil); go_simp; refine Au (Ev (by omega)) ?_; intros; refine hd hK fun hH => ?_; refine Az (rs := [4, 5]) (by kernel_rfl) (by simp) ?_; refine Lm.cons (by simp; rfl) (fun K hK => ?_) (Lm.cons (by simp; rfl) (fun K hK => ?_) Lm.nil); go_simp; refine Ab (Gt (by omega)) ?_; intros; refine hd hK fun hH => st 5 fun K hK => ?_; go_simp; refine hd hK fun hH => st 6 fun K hK => ?_; go_simp; refine hd hK fun hH => dn ?_; clear hH; go_wp2_with fail; go_meet; exact ⟨_, _, _, _, rfl, ii, CF.cast ii rfl (by omega), ii, ii, ii, ii, ii, ii, ii, ii, ii, ii⟩; go_simp; refine hd hK fun hH => st 4 fun K hK => ?_; go_simp; refine Ab (Gt (by omega)) ?_; intros; refine hd hK fun hH => st 6 fun K hK => ?_; go_simp; refine hd hK fun hH => dn ?_; clear hH; go_wp2_with fail; go_meet; exact ⟨_, _, _, _, rfl, ii, CF.cast ii rfl (by omega), ii, ii, ii, ii, ii, ii, ii, ii, ii, ii⟩; go_simp; refine hd hK fun hH => st 3 fun K hK => ?_; go_simp; refine Au (Ev (by omega)) ?_; intros; refine hd hK fun hH => st 4 fun K hK => ?_; go_simp; refine Ab (Gt (by omega)) ?_; intros; refine hd hK fun hH => st 6 fun K hK => ?_; go_simp; refine hd hK fun hH => dn ?_; clear hH; go_wp2_with fail; go_meet; exact ⟨_, _, _, _, rfl, ii, CF.cast ii rfl (by omega), ii, ii, ii, ii, ii, ii, ii, ii, ii, ii⟩; go_simp; refine hd hK fun hH => st 1 fun K hK => ?_; go_simp; refine Au (Ev (by omega)) ?_; intros; refine hd hK fun hH => st 3 fun K hK => ?_; go_simp; refine Au (Ev (by omega)) ?_; intros; refine hd hK fun hH => st 4 fun K hK => ?_; go_simp; refine Ab (Gt (by omega)) ?_; intros; refine hd hK fun hH => st 6 fun K hK => ?_; go_simp; refine hd hK fun hH => dn ?_; clear hH; go_wp2_with fail; go_meet; exact ⟨_, _, _, _, rfl, ii, CF.cast ii rfl (by omega), ii, ii, ii, ii, ii, ii, ii, ii, ii, ii⟩
  case rest =>
   obtain ⟨b6, n6, d6, p6, rfl, i1, i2, i3, i4, i5, i6, i7, i8, i9, i10, i11, i12⟩ := hcut
   go_upto_region 4 with (first | (go_at_call 80; refine Aa (Gj HZ) ?_; intros))
   go_cut [7] from 17 to 29 (fun t wx => ∃ (b7 : Nat) (n7 d7 : Int) (p7 : Option Addr), t = .pointer (some ⟨b7, 0, none⟩) ∧ Bx wx b7 96 [.int .i64 n7, .int .i64 d7, .pointer p7] ∧ CF wx (.agg #[.int .i64 n7, .int .i64 d7, .pointer p7]) ((lb * mc - lc * mb) / (la * mb - lb * ma)) (3 * (k1x + k1y + k1z + k2x + k2y + k2z) + 100) ∧ Kp wc wx)
   case first =>
    refine rgn [] [] fun hH => ?_; refine tk 0 hH ?_; refine tk 1 hH ?_; refine tk 2 hH ?_; refine tk 3 hH ?_; refine tk 5 hH ?_; refine tk 6 hH ?_; refine tk 7 hH ?_; refine tk 8 hH ?_; refine tk 11 hH ?_; refine Az (rs := [4, 13]) (by kernel_rfl) (by simp) ?_; refine Lm.cons (by simp; rfl) (fun K hK => ?_) (Lm.cons (by simp; rfl) (fun K hK => ?_) Lm.nil); go_simp; refine Ab (B4 (by omega)) ?_; intros; refine hd hK fun hH => ?_; refine Az (rs := [9, 13]) (by kernel_rfl) (by simp) ?_; refine Lm.cons (by simp; rfl) (fun K hK => ?_) (Lm.cons (by simp; rfl) (fun K hK => ?_) Lm.nil); go_simp; refine Ab (B4 (by omega)) ?_; intros; refine hd hK fun hH => ?_; refine Az (rs := [10, 13]) (by kernel_rfl) (by simp) ?_; refine Lm.cons (by simp; rfl) (fun K hK => ?_) (Lm.cons (by simp; rfl) (fun K hK => ?_) Lm.nil); go_simp; refine Ab (Dn (by omega)) ?_; intros; refine hd hK fun hH => ?_; refine Az (rs := [12, 13]) (by kernel_rfl) (by simp) ?_; refine Lm.cons (by simp; rfl) (fun K hK => ?_) (Lm.cons (by simp; rfl) (fun K hK => ?_) Lm.nil); go_simp; refine Ab (Dl (by omega)) ?_; intros; refine hd hK fun hH => st 13 fun K hK => ?_; go_simp; refine hd hK fun hH => st 14 fun K hK => ?_; go_simp; refine hd hK fun hH => dn ?_; clear hH; go_wp2_with fail; go_meet; exact ⟨_, _, _, _, rfl, ii, CF.cast ii rfl (by omega), ii⟩; go_simp; refine hd hK fun hH => st 12 fun K hK => ?_; go_simp; refine Ab (Dl (by omega)) ?_; intros; refine hd hK fun hH => st 14 fun K hK => ?_; go_simp; refine hd hK fun hH => dn ?_; clear hH; go_wp2_with fail; go_meet; exact ⟨_, _, _, _, rfl, ii, CF.cast ii rfl (by omega), ii⟩; go_simp; refine hd hK fun hH => st 10 fun K hK => ?_; go_simp; refine Ab (Dn (by omega)) ?_; intros; refine hd hK fun hH => st 12 fun K hK => ?_; go_simp; refine Ab (Dl (by omega)) ?_; intros; refine hd hK fun hH => st 14 fun K hK => ?_; go_simp; refine hd hK fun hH => dn ?_; clear hH; go_wp2_with fail; go_meet; exact ⟨_, _, _, _, rfl, ii, CF.cast ii rfl (by omega), ii⟩; go_simp; refine hd hK fun hH => st 9 fun K hK => ?_; go_simp; refine Ab (B4 (by omega)) ?_; intros; refine hd hK fun hH => st 10 fun K hK => ?_; go_simp; refine Ab (Dn (by omega)) ?_; intros; refine hd hK fun hH => st 12 fun K hK => ?_; go_simp; refine Ab (Dl (by omega)) ?_; intros; refine hd hK fun hH => st 14 fun K hK => ?_; go_simp; refine hd hK fun hH => dn ?_; clear hH; go_wp2_with fail; go_meet; exact ⟨_, _, _, _, rfl, ii, CF.cast ii rfl (by omega), ii⟩; go_simp; refine hd hK fun hH => st 4 fun K hK => ?_; go_simp; refine Ab (B4 (by omega)) ?_; intros; refine hd hK fun hH => st 9 fun K hK => ?_; go_simp; refine Ab (B4 (by omega)) ?_; intros; refine hd hK fun hH => st 10 fun K hK => ?_; go_simp; refine Ab (Dn (by omega)) ?_; intros; refine hd hK fun hH => st 12 fun K hK => ?_; go_simp; refine Ab (Dl (by omega)) ?_; intros; refine hd hK fun hH => st 14 fun K hK => ?_; go_simp; refine hd hK fun hH => dn ?_; clear hH; go_wp2_with fail; go_meet; exact ⟨_, _, _, _, rfl, ii, CF.cast ii rfl (by omega), ii⟩
   case rest =>
    obtain ⟨b7, n7, d7, p7, rfl, j1, j2, ⟨j3⟩⟩ := hcut; have j4 := Kp1.mk j3
    have j5 : Kp w wc := ii
    go_upto_region 5 with fail
    go_cut [8] from 30 to 42 (fun t wx => ∃ (b8 : Nat) (n8 d8 : Int) (p8 : Option Addr), t = .pointer (some ⟨b8, 0, none⟩) ∧ Bx wx b8 96 [.int .i64 n8, .int .i64 d8, .pointer p8] ∧ CF wx (.agg #[.int .i64 n8, .int .i64 d8, .pointer p8]) ((lc * ma - la * mc) / (la * mb - lb * ma)) (3 * (k1x + k1y + k1z + k2x + k2y + k2z) + 100) ∧ Kp wc wx)
    case first =>
     refine rgn [] [] fun hH => ?_; refine tk 0 hH ?_; refine tk 1 hH ?_; refine tk 2 hH ?_; refine tk 3 hH ?_; refine tk 5 hH ?_; refine tk 6 hH ?_; refine tk 7 hH ?_; refine tk 8 hH ?_; refine tk 11 hH ?_; refine Az (rs := [4, 13]) (by kernel_rfl) (by simp) ?_; refine Lm.cons (by simp; rfl) (fun K hK => ?_) (Lm.cons (by simp; rfl) (fun K hK => ?_) Lm.nil); go_simp; refine Ab (B4 (by omega)) ?_; intros; refine hd hK fun hH => ?_; refine Az (rs := [9, 13]) (by kernel_rfl) (by simp) ?_; refine Lm.cons (by simp; rfl) (fun K hK => ?_) (Lm.cons (by simp; rfl) (fun K hK => ?_) Lm.nil); go_simp; refine Ab (B4 (by omega)) ?_; intros; refine hd hK fun hH => ?_; refine Az (rs := [10, 13]) (by kernel_rfl) (by simp) ?_; refine Lm.cons (by simp; rfl) (fun K hK => ?_) (Lm.cons (by simp; rfl) (fun K hK => ?_) Lm.nil); go_simp; refine Ab (Dn (by omega)) ?_; intros; refine hd hK fun hH => ?_; refine Az (rs := [12, 13]) (by kernel_rfl) (by simp) ?_; refine Lm.cons (by simp; rfl) (fun K hK => ?_) (Lm.cons (by simp; rfl) (fun K hK => ?_) Lm.nil); go_simp; refine Ab (Dl (by omega)) ?_; intros; refine hd hK fun hH => st 13 fun K hK => ?_; go_simp; refine hd hK fun hH => st 14 fun K hK => ?_; go_simp; refine hd hK fun hH => dn ?_; clear hH; go_wp2_with fail; go_meet; exact ⟨_, _, _, _, rfl, ii, CF.cast ii rfl (by omega), ii⟩; go_simp; refine hd hK fun hH => st 12 fun K hK => ?_; go_simp; refine Ab (Dl (by omega)) ?_; intros; refine hd hK fun hH => st 14 fun K hK => ?_; go_simp; refine hd hK fun hH => dn ?_; clear hH; go_wp2_with fail; go_meet; exact ⟨_, _, _, _, rfl, ii, CF.cast ii rfl (by omega), ii⟩; go_simp; refine hd hK fun hH => st 10 fun K hK => ?_; go_simp; refine Ab (Dn (by omega)) ?_; intros; refine hd hK fun hH => st 12 fun K hK => ?_; go_simp; refine Ab (Dl (by omega)) ?_; intros; refine hd hK fun hH => st 14 fun K hK => ?_; go_simp; refine hd hK fun hH => dn ?_; clear hH; go_wp2_with fail; go_meet; exact ⟨_, _, _, _, rfl, ii, CF.cast ii rfl (by omega), ii⟩; go_simp; refine hd hK fun hH => st 9 fun K hK => ?_; go_simp; refine Ab (B4 (by omega)) ?_; intros; refine hd hK fun hH => st 10 fun K hK => ?_; go_simp; refine Ab (Dn (by omega)) ?_; intros; refine hd hK fun hH => st 12 fun K hK => ?_; go_simp; refine Ab (Dl (by omega)) ?_; intros; refine hd hK fun hH => st 14 fun K hK => ?_; go_simp; refine hd hK fun hH => dn ?_; clear hH; go_wp2_with fail; go_meet; exact ⟨_, _, _, _, rfl, ii, CF.cast ii rfl (by omega), ii⟩; go_simp; refine hd hK fun hH => st 4 fun K hK => ?_; go_simp; refine Ab (B4 (by omega)) ?_; intros; refine hd hK fun hH => st 9 fun K hK => ?_; go_simp; refine Ab (B4 (by omega)) ?_; intros; refine hd hK fun hH => st 10 fun K hK => ?_; go_simp; refine Ab (Dn (by omega)) ?_; intros; refine hd hK fun hH => st 12 fun K hK => ?_; go_simp; refine Ab (Dl (by omega)) ?_; intros; refine hd hK fun hH => st 14 fun K hK => ?_; go_simp; refine hd hK fun hH => dn ?_; clear hH; go_wp2_with fail; go_meet; exact ⟨_, _, _, _, rfl, ii, CF.cast ii rfl (by omega), ii⟩
    case rest =>
     obtain ⟨b8, n8, d8, p8, rfl, l1, l2, ⟨l3⟩⟩ := hcut; have l4 := Kp1.mk l3
     have l5 : Kp w wc := ii
     go_wp2_with fail
     refine B6 rfl Tryz.underlying98 rfl (by kernel_rfl) rfl rfl rfl ?_
     exact Q9.fin rfl (by omega) rfl (by omega)
end
section
set_option maxHeartbeats 40000000
set_option synthInstance.maxHeartbeats 1000000
set_option synthInstance.maxSize 100000
theorem I4 (x y : Rat) : (x < y ∧ isgn (x - y).num = -1) ∨ (x = y ∧ isgn (x - y).num = 0) ∨ (y < x ∧ isgn (x - y).num = 1) := by
 rcases F8 (x - y).num with ⟨_, h⟩ | ⟨_, h⟩ | ⟨_, h⟩
 ·exact .inl ⟨by have := Tc.1 h; grind, h⟩
 ·exact .inr (.inl ⟨by have := Lw.1 h; grind, h⟩)
 ·exact .inr (.inr ⟨by have := Qna.1 h; grind, h⟩)
variable {k : Nat} {w : World}
theorem Bk.cast {w' : World} {q q' : Rat} {e : Ending} (h : Bk w q k e w') (hq : q = q') : Bk w q' k e w' := hq ▸ h
variable {d1 d2 n1 n2 : Int} {p1 : Option Addr} {x y : Rat}
theorem Jj {p2 : Option Addr} [j1 : CF w (.agg #[.int .i64 n1, .int .i64 d1, .pointer p1]) x k] [j2 : CF w (.agg #[.int .i64 n2, .int .i64 d2, .pointer p2]) y k] (b : k ≤ 100000) :
  Calls Tryz.prog 234 #[.agg #[.int .i64 n1, .int .i64 d1, .pointer p1], .agg #[.int .i64 n2, .int .i64 d2, .pointer p2]] w (Bk w (rmax x y) k) := by
 rcases I4 y x with ⟨h, hv⟩ | ⟨h, hv⟩ | ⟨h, hv⟩
 all_goals
  have HV := Lib.hid hv
  have HR : Hid (rmax x y = (if x < y then y else x)) := Lib.hid (by unfold rmax; rfl)
  clear hv; go_enter Tryz.func234, Tryz.ntmps234
  go_wp2_with (first
   | (go_at_call 133; refine Aa (Cx (by omega) HV) ?_; intros))
  refine Ac rfl Tryz.underlying96 rfl (by kernel_rfl) rfl rfl rfl ?_
  refine Bk.cast (Bk.fin rfl (Nat.le_refl _)) ?_
  rw [HR.out]
  first
   | rw [if_pos (by grind)]
   | rw [if_neg (by grind)]
theorem Hb {p2 : Option Addr} [j1 : CF w (.agg #[.int .i64 n1, .int .i64 d1, .pointer p1]) x k] [j2 : CF w (.agg #[.int .i64 n2, .int .i64 d2, .pointer p2]) y k] (b : k ≤ 100000) :
  Calls Tryz.prog 178 #[.agg #[.int .i64 n1, .int .i64 d1, .pointer p1], .agg #[.int .i64 n2, .int .i64 d2, .pointer p2]] w (Bk w (rmin x y) k) := by
 rcases I4 y x with ⟨h, hv⟩ | ⟨h, hv⟩ | ⟨h, hv⟩
 all_goals
  have HV := Lib.hid hv
  have HR : Hid (rmin x y = (if y < x then y else x)) := Lib.hid (by unfold rmin; rfl)
  clear hv; go_enter Tryz.func178, Tryz.ntmps178
  go_wp2_with (first
   | (go_at_call 133; refine Aa (Cx (by omega) HV) ?_; intros))
  refine Ac rfl Tryz.underlying96 rfl (by kernel_rfl) rfl rfl rfl ?_
  refine Bk.cast (Bk.fin rfl (Nat.le_refl _)) ?_
  rw [HR.out]
  first
   | rw [if_pos (by grind)]
   | rw [if_neg (by grind)]
theorem Qlf {v : Bool} {nu du nv dv nt dt : Int} {pu pv pt : Option Addr} {lo hi t : Rat} {kt : Nat} [ju : CF w (.agg #[.int .i64 nu, .int .i64 du, .pointer pu]) lo k] [jv : CF w (.agg #[.int .i64 nv, .int .i64 dv, .pointer pv]) hi k] [jt : CF w (.agg #[.int .i64 nt, .int .i64 dt, .pointer pt]) t kt] (b : k ≤ 100000 ∧ kt ≤ 100000) (hv : Hid (decide (inV lo hi t) = v)) :
  Calls Tryz.prog 143 #[.agg #[.int .i64 nu, .int .i64 du, .pointer pu, .int .i64 nv, .int .i64 dv, .pointer pv, .bool false, .bool false], .agg #[.int .i64 nt, .int .i64 dt, .pointer pt]] w (fun e w' => e = .returned (.bool v) ∧ Below w.heap.size w w') := by
 rcases I4 lo t with ⟨h, hc⟩ | ⟨h, hc⟩ | ⟨h, hc⟩
 all_goals
  rcases I4 hi t with ⟨h', hc'⟩ | ⟨h', hc'⟩ | ⟨h', hc'⟩
  all_goals
   have HV := Lib.hid hc; have HW := Lib.hid hc'; clear hc hc'; go_enter Tryz.func143, Tryz.ntmps143
   go_wp2_with (first
    | (go_at_call 133; refine Aa (Cx (by omega) HV) ?_; intros)
    | (go_at_call 133; refine Aa (Cx (by omega) HW) ?_; intros))
   go_ret
   first
    | exact E.fin (by rw [show v = true from hv.out.symm.trans (decide_eq_true (show inV lo hi t from ⟨by grind, by grind⟩))]; rfl)
    | exact E.fin (by rw [show v = false from hv.out.symm.trans (decide_eq_false (fun hh : inV lo hi t => by unfold inV at hh; grind))]; rfl)
end
section
instance (priority := low) Ex.d0 {W0 W : World} {L : List Nat} [h : Ex W0 L W] : Ex W0.drew L W := ⟨h.size, h.block⟩
theorem Fr (g o j : Nat) : (⟨g, o, none⟩ : Addr).add j = ⟨g, o + j, none⟩ := by unfold Addr.add; split <;> simp_all
variable {P : Program}
theorem Ql8 (w : World) (t ty e : TypeId) (i : TypeInfo) (z : Value) (ht : P.underlying t = some (.slice e)) (hi : P.info? e = some i) (hz : i.zero = some z) (hzs : z.cells.size = i.size)
  {v : Value} {n : Nat} {xs : List Value} (hv : (v = .slice none 0 0 ∧ n = 0) ∨ ∃ a, v = .slice (some a) n n ∧ ∀ j u, xs[j]? = some u → w.cell? (a.add j) = some u) (hx : xs.length = n * i.size)
  (a : Addr) (m c : Nat) (news : List Value) (hl : news.length = m * i.size) (hnews : ∀ j u, news[j]? = some u → w.cell? (a.add j) = some u) (h0 : 0 < m) (h63 : n + m ≤ maxLen) (hbytes : (n + m) * i.bytes ≤ 140737488355328) :
  ∃ c' w', (Builtin.append_ #[t, t] ty #[v, .slice (some a) m c]).run P w = .ok (.slice (some ⟨w.heap.size, 0, none⟩) (n + m) c') w' ∧ w'.ownsRow w.heap.size e i.size (.slice (some ⟨w.heap.size, 0, none⟩) (n + m) c') (n + m) (xs ++ news) ∧ Below w.heap.size w w' ∧
   w'.heap[w.heap.size]? = some (.cells ((xs ++ news).toArray ++ Builtin.zeroCells z.cells (c' - (n + m))) e) := by
 have hsmall : n + m ≤ 9223372036854775807 := by simp only [maxLen] at h63; omega
 have hlen : (xs ++ news).length = (n + m) * i.size := by rw [List.length_append, hx, hl, Nat.add_mul]
 have grown : ∀ (old : Nat), old < n + m →
   (w.drew.alloc (.cells ((xs ++ news).toArray ++ Builtin.zeroCells z.cells (grownCap w (n + m) old e - (n + m))) e)).ownsRow w.heap.size e i.size
    (.slice (some ⟨w.heap.size, 0, none⟩) (n + m) (grownCap w (n + m) old e)) (n + m) (xs ++ news) := by
  intro old ho
  have hge := grownCap_ge w (n + m) old e
  have hcm : grownCap w (n + m) old e ≤ maxLen := grownCap_le_maxLen w (n + m) old e h63
  refine ⟨hlen, .inr ⟨w.heap.size, _, _, rfl, Nat.le_refl _, heap_alloc_new w.drew _, hge, hcm, ?_, ?_⟩⟩
  ·simp only [Array.size_append, List.size_toArray, size_zeroCells, hzs, hlen, ← Nat.add_mul]
   congr 1
   omega
  ·simp only [Array.toList_append]; rw [← hlen]; exact List.take_left
 have bel : ∀ o, Below w.heap.size w (w.drew.alloc o) := fun o => J3 (D0 (Below.refl _ _)) o
 rcases hv with ⟨rfl, rfl⟩ | ⟨b, rfl, hc⟩
 ·have hx0 : xs = [] := List.eq_nil_of_length_eq_zero (by simpa using hx)
  subst hx0
  have hr := run_append_nil (P := P) w t ty e i z ht hi hz a m c news hl hnews h0 (by omega) (by have hb := hbytes; simp only [Nat.zero_add] at hb; omega)
  have hg := grown 0 (by omega)
  simp only [Nat.zero_add, List.nil_append] at hg ⊢; exact ⟨_, _, hr, hg, bel _, heap_alloc_new w.drew _⟩
 ·have hr := run_append_grow (P := P) w t ty e i z ht hi hz b n n xs hx hc a m c news hl hnews (by omega) (by omega) (growslice_fits (by omega) hbytes)
  have e1 : xs.toArray ++ news.toArray = (xs ++ news).toArray := by simp
  rw [e1] at hr; exact ⟨_, _, hr, grown n (by omega), bel _, heap_alloc_new w.drew _⟩
theorem Qdc (w : World) (t ty e : TypeId) (i : TypeInfo) (ht : P.underlying t = some (.slice e)) (hi : P.info? e = some i) (b : Addr) (n cap : Nat) (hn : n ≤ cap) {x : Value} (hx : (∃ c, x = .slice none 0 c) ∨ ∃ a c, x = .slice (some a) 0 c) :
  (Builtin.append_ #[t, t] ty #[.slice (some b) n cap, x]).run P w = .ok (.slice (some b) n cap) w := by
 rcases hx with ⟨c, rfl⟩ | ⟨a, c, rfl⟩
 ·simp [Builtin.append_, run_underlying ht, sizeOf, typeInfo, hi, Builtin.lenOf, Builtin.firstCells, loadCells, loadCellsFrom, hn, storeCells]
 ·simp [Builtin.append_, run_underlying ht, sizeOf, typeInfo, hi, Builtin.lenOf, Builtin.firstCells, loadCells, loadCellsFrom, hn, storeCells]
theorem Qmh {w' : World} {g : Nat} {l : List Value} {z : Array Value} {k : Nat} {e : TypeId} (he : BoxT e) (hl : ∀ u ∈ l, Am u = false) (hz : ∀ u ∈ z.toList, Am u = false) (h : w'.heap[g]? = some (.cells (l.toArray ++ Builtin.zeroCells z k) e)) : SoftB w' g := by
 refine ⟨e, l ++ (Builtin.zeroCells z k).toList, ?_, he, ?_⟩
 ·rw [h]
  congr 2
  apply Array.ext'
  simp
 ·intro u hu
  rcases List.mem_append.1 hu with h | h
  ·exact hl u h
  ·unfold Builtin.zeroCells at h
   simp only [Array.toList_map, List.mem_map, Array.toList_range, List.mem_range] at h; obtain ⟨i, hi, rfl⟩ := h
   have hp : 0 < z.size := by
    rcases Nat.eq_zero_or_pos z.size with e | e
    ·rw [e] at hi; omega
    ·exact e
   rw [getElem!_pos z (i % z.size) (Nat.mod_lt i hp)]; exact hz _ (by simp)
section
variable {W w0 : World} {o : Oper} {a : Act} {K : Act → World → Prop} {Q : Exit → Act → World → Prop}
theorem Jn (s x : Operand) (t : TypeId) (hop : o.op = .call { callee := .builtin .append, args := #[s, x], argTypes := #[t, t] }) {e : TypeId} (ht : Tryz.prog.underlying t = some (.slice e)) {z : Value} {sz bt : Nat}
  (hi : (Tryz.prog.info? e).map (fun i => (i.zero, i.size, i.bytes)) = some (some z, sz, bt)) (hzs : z.cells.size = sz) (hbt : bt ≤ 1000) (hz0 : ∀ u ∈ z.cells.toList, Am u = false) (he : BoxT e) {v : Value} {n : Nat} {xs : List Value} (hs : a.eval s = v)
  (hv : (v = .slice none 0 0 ∧ n = 0) ∨ ∃ b, v = .slice (some b) n n ∧ ∀ j u, xs[j]? = some u → W.cell? (b.add j) = some u) (hxl : xs.length = n * sz) (hnx : ∀ u ∈ xs, Am u = false)
  {ad : Addr} {m c : Nat} {l : List Value} (hx : a.eval x = .slice (some ad) m c) (hb : ∀ j u, l[j]? = some u → W.cell? (ad.add j) = some u) (hl : l.length = m * sz) (hnl : ∀ u ∈ l, Am u = false) (hm : 0 < m) (hn : n + m ≤ 1000000)
  (hK : ∀ g c' W' [Kp1 W W'] [Rn W' (.slice (some ⟨g, 0, none⟩) (n + m) c') e sz (n + m) (xs ++ l) W.heap.size W'], K (a.put o.dst (.slice (some ⟨g, 0, none⟩) (n + m) c')) W') :
  Oper.wp Tryz.prog o a W K Q := by
 obtain ⟨i0, hi0⟩ : ∃ i0, Tryz.prog.info? e = some i0 := by
  cases h : Tryz.prog.info? e with
  | none => rw [h] at hi; cases hi
  | some i0 => exact ⟨i0, rfl⟩
 rw [hi0] at hi; simp only [Option.map_some, Option.some.injEq, Prod.mk.injEq] at hi; obtain ⟨hz, rfl, rfl⟩ := hi
 have hby : (n + m) * i0.bytes ≤ 140737488355328 := by
  have : (n + m) * i0.bytes ≤ 1000000 * 1000 := Nat.mul_le_mul hn hbt
  omega
 obtain ⟨c', w', hrun, h2, h3, h4⟩ := Ql8 (P := Tryz.prog) W t o.type e i0 z ht hi0 hz hzs hv hxl ad m c l hl hb hm (by unfold maxLen; omega) hby
 unfold Oper.wp execOp
 simp only [hop, resolve, invoke, builtin, Sem.run_bind, Sem.run_pure, Result.andThen_ok, List.map_toArray, List.map_cons, List.map_nil, hs, hx, hrun]
 have i1 : Kp1 W w' := ⟨h3⟩
 have i2 : Rn w' (.slice (some ⟨W.heap.size, 0, none⟩) (n + m) c') e i0.size (n + m) (xs ++ l) W.heap.size w' := ⟨Rw.mk1 h2 h3.size, fun g eg => by
  simp only [Value.ownBlock, Option.some.injEq] at eg; subst eg
  exact Qmh he (fun u hu => (List.mem_append.1 hu).elim (hnx u) (hnl u)) hz0 h4⟩
 exact @hK _ c' w' i1 i2
theorem Ro (s x : Operand) (t : TypeId) (hop : o.op = .call { callee := .builtin .append, args := #[s, x], argTypes := #[t, t] }) {e : TypeId} (ht : Tryz.prog.underlying t = some (.slice e)) {z : Value} {sz bt : Nat}
  (hi : (Tryz.prog.info? e).map (fun i => (i.zero, i.size, i.bytes)) = some (some z, sz, bt)) {b : Addr} {n cap : Nat} (hs : a.eval s = .slice (some b) n cap) (hn : n ≤ cap) {y : Value} (hx : a.eval x = y) (hy : (∃ c, y = .slice none 0 c) ∨ ∃ a c, y = .slice (some a) 0 c)
  (hK : K (a.put o.dst (.slice (some b) n cap)) W) : Oper.wp Tryz.prog o a W K Q := by
 obtain ⟨i0, hi0⟩ : ∃ i0, Tryz.prog.info? e = some i0 := by
  cases h : Tryz.prog.info? e with
  | none => rw [h] at hi; cases hi
  | some i0 => exact ⟨i0, rfl⟩
 have hrun := Qdc (P := Tryz.prog) W t o.type e i0 ht hi0 b n cap hn hy
 unfold Oper.wp execOp
 simp only [hop, resolve, invoke, builtin, Sem.run_bind, Sem.run_pure, Result.andThen_ok, List.map_toArray, List.map_cons, List.map_nil, hs, hx, hrun]; exact hK
end
end
end Go.Proofs.YtpnpnlmlamfpmaaGreatDoor
