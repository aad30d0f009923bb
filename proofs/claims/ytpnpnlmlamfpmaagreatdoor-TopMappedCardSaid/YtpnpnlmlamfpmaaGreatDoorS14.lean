import Derived.Test.YtpnpnlmlamfpmaaGreatDoorS13
namespace Go.Proofs.YtpnpnlmlamfpmaaGreatDoor
open Go.RowKit
set_option linter.unusedSimpArgs false
set_option linter.unusedVariables false
set_option maxRecDepth 100000
section
set_option maxHeartbeats 40000000
set_option synthInstance.maxHeartbeats 1000000
set_option synthInstance.maxSize 100000
variable {a a1 a2 : Option Addr} {c c1 c2 k k1 k2 l l1 l2 n : Nat} {g g1 g2 : Bool} {w : World}
theorem Db [h : CN w (.slice a l c) n k] : Calls Tryz.prog 99 #[.bool g, .slice a l c] w (Lr w a l c (sgn g n) k) := by
 go_enter Tryz.func99, Tryz.ntmps99
 cases g
 all_goals
  go_wp2; refine Ac rfl Tryz.underlying28 rfl (by kernel_rfl) rfl rfl rfl ?_; exact Lr.fin (by simp)
theorem Mq [h : CN w (.slice a l c) n k] : Calls Tryz.prog 203 #[.bool g, .slice a l c] w (Lr w a l c (sgn g n) k) := by
 go_enter Tryz.func203, Tryz.ntmps203
 cases g
 all_goals
  go_wp2; refine Ac rfl Tryz.underlying47 rfl (by kernel_rfl) rfl rfl rfl ?_; exact Lr.fin (by simp)
variable {x y : Int}
theorem Gf [h1 : CI w (.agg #[.bool g1, .slice a1 l1 c1]) x k1] (b : k1 ≤ 900000) :
  Calls Tryz.prog 162 #[.agg #[.bool g1, .slice a1 l1 c1]] w (Df w x (k1)) := by
 obtain ⟨m, r1, rfl⟩ := Fh h1
 have i1 : CR w (.slice a1 l1 c1) m k1 := ⟨r1⟩
 clear r1
 cases g1
 all_goals
  go_enter Tryz.func162, Tryz.ntmps162
  go_wp2_with (first
  | (go_at_call 164; refine Ae (Gq (by omega)) ?_; intros))
  refine Ac rfl Tryz.underlying47 rfl (by kernel_rfl) rfl rfl rfl ?_; exact Df.fin (hx := CZ.mkB (by simp)) rfl (by omega)
theorem Ql6 [h1 : CI w (.agg #[.bool g1, .slice a1 l1 c1]) x k1] (b : k1 ≤ 900000) :
  Calls Tryz.prog 212 #[.agg #[.bool g1, .slice a1 l1 c1]] w (Df w (-x) (k1)) := by
 obtain ⟨m, r1, rfl⟩ := Fh h1
 have i : CI w (.agg #[.bool (!g1), .slice a1 l1 c1]) (-sgn g1 m) k1 := ⟨⟨_, _, _, _, rfl, m, r1, by cases g1 <;> simp [sgn]⟩⟩
 clear r1
 cases g1
 all_goals
  simp only [Bool.not_false, Bool.not_true] at i; go_enter Tryz.func212, Tryz.ntmps212
  go_wp2_with (first
  | (go_at_call 162; refine Al (Gf (by omega)) ?_; intros))
  refine Ac rfl Tryz.underlying47 rfl (by kernel_rfl) rfl rfl rfl ?_; exact Df.fin rfl (by omega)
theorem Gd [h1 : CI w (.agg #[.bool g1, .slice a1 l1 c1]) x k1] [h2 : CI w (.agg #[.bool g2, .slice a2 l2 c2]) y k2] (b : k1 ≤ 900000 ∧ k2 ≤ 900000) :
  Calls Tryz.prog 158 #[.agg #[.bool g1, .slice a1 l1 c1], .agg #[.bool g2, .slice a2 l2 c2]] w (Df w (x + y) (max k1 k2 + 1)) := by
 obtain ⟨m, r1, rfl⟩ := Fh h1
 have i1 : CR w (.slice a1 l1 c1) m k1 := ⟨r1⟩
 obtain ⟨n, r2, rfl⟩ := Fh h2
 have i2 : CR w (.slice a2 l2 c2) n k2 := ⟨r2⟩
 clear r1 r2
 by_cases hg : g1 = g2
 ·subst hg
  have HE := Lib.hid (show sgn g1 (m + n) = sgn g1 m + sgn g1 n by cases g1 <;> simp [sgn] <;> omega)
  go_enter Tryz.func158, Tryz.ntmps158; go_wp2_with fail; refine rgn [w.heap.size + 1 + 1] [] fun hH => ?_; refine tk 0 hH ?_; refine tk 1 hH ?_; refine tk 2 hH ?_; refine tk 3 hH ?_; refine tk 4 hH ?_; refine tk 5 hH (st 6 fun K hK => ?_); go_simp; refine Ae (Qag (by omega)) ?_; intros; refine hd hK fun hH => st 7 fun K hK => ?_; go_simp; refine Ce (Mq) ?_; intros; refine hd hK fun hH => st 8 fun K hK => ?_; go_simp; refine hd hK fun hH => dn ?_; clear hH; go_wp2; refine Ac rfl Tryz.underlying47 rfl (by kernel_rfl) rfl rfl rfl ?_; exact Df.fin HE.out (by omega)
 ·have hg' : g2 = !g1 := by cases g1 <;> cases g2 <;> simp_all
  have hb0 : (g1 == g2) = false := by simpa using hg
  by_cases hnm : n ≤ m
  ·have hd : decide (n ≤ m) = true := decide_eq_true hnm
   have HE : Hid (sgn g1 (m - n) = sgn g1 m + sgn g2 n) := by show _ = _; subst hg'; cases g1 <;> simp [sgn] <;> omega
   clear hg hg' hnm; go_enter Tryz.func158, Tryz.ntmps158
   go_wp2_with (first
  | (go_at_call 205; refine Us (Ss (by omega)) ?_; intros)
  | (go_at_call 203; refine Ce (Mq) ?_; intros))
   refine Ac rfl Tryz.underlying47 rfl (by kernel_rfl) rfl rfl rfl ?_; exact Df.fin HE.out (by omega)
  ·have hd : decide (n ≤ m) = false := decide_eq_false hnm
   have HE : Hid (sgn g2 (n - m) = sgn g1 m + sgn g2 n) := by show _ = _; subst hg'; cases g1 <;> simp [sgn] <;> omega
   clear hg hg' hnm; go_enter Tryz.func158, Tryz.ntmps158
   go_wp2_with (first
  | (go_at_call 205; refine Us (Ss (by omega)) ?_; intros)
  | (go_at_call 203; refine Ce (Mq) ?_; intros))
   refine Ac rfl Tryz.underlying47 rfl (by kernel_rfl) rfl rfl rfl ?_; exact Df.fin HE.out (by omega)
theorem Em [h1 : CI w (.agg #[.bool g1, .slice a1 l1 c1]) x k1] [h2 : CI w (.agg #[.bool g2, .slice a2 l2 c2]) y k2] (b : k1 ≤ 900000 ∧ k2 ≤ 900000) :
  Calls Tryz.prog 159 #[.agg #[.bool g1, .slice a1 l1 c1], .agg #[.bool g2, .slice a2 l2 c2]] w (Df w (x * y) (k1 + k2)) := by
 obtain ⟨m, r1, rfl⟩ := Fh h1
 have i1 : CR w (.slice a1 l1 c1) m k1 := ⟨r1⟩
 obtain ⟨n, r2, rfl⟩ := Fh h2
 have i2 : CR w (.slice a2 l2 c2) n k2 := ⟨r2⟩
 clear r1 r2
 have HE := Lib.hid (show sgn (g1 != g2) (m * n) = sgn g1 m * sgn g2 n by cases g1 <;> cases g2 <;> simp [sgn, Int.neg_mul, Int.mul_neg])
 go_enter Tryz.func159, Tryz.ntmps159; go_wp2_with fail; refine rgn [w.heap.size + 1 + 1] [] fun hH => ?_; refine tk 0 hH ?_; refine tk 1 hH ?_; refine tk 2 hH ?_; refine tk 3 hH ?_; refine tk 4 hH ?_; refine tk 5 hH ?_; refine tk 6 hH ?_; refine tk 7 hH ?_; refine tk 8 hH (st 9 fun K hK => ?_); go_simp; refine Ae (Dd (by omega)) ?_; intros; refine hd hK fun hH => st 10 fun K hK => ?_; go_simp; refine Ce (Mq) ?_; intros; refine hd hK fun hH => st 11 fun K hK => ?_; go_simp; refine hd hK fun hH => dn ?_; clear hH; go_wp2; refine Ac rfl Tryz.underlying47 rfl (by kernel_rfl) rfl rfl rfl ?_; exact Df.fin HE.out (by omega)
theorem Gm [h1 : CI w (.agg #[.bool g1, .slice a1 l1 c1]) x k1] (b : k1 ≤ 900000) :
  Calls Tryz.prog 183 #[.agg #[.bool g1, .slice a1 l1 c1]] w (fun e w' => e = .returned (.int .i64 (isgn x)) ∧ Below w.heap.size w w') := by
 obtain ⟨m, r1, rfl⟩ := Fh h1
 have i1 : CR w (.slice a1 l1 c1) m k1 := ⟨r1⟩
 clear r1
 by_cases hm : m = 0
 ·have hb := Qj9 hm
  have HE : Hid (isgn (sgn g1 m) = 0) := by subst hm; cases g1 <;> rfl
  clear hm; go_enter Tryz.func183, Tryz.ntmps183
  go_wp2_with (first
  | (go_at_call 168; refine Aq (Dh (by omega)) ?_; intros))
  go_ret
  exact E.fin (by rw [HE.out]; rfl)
 ·have hb := Rh hm
  have HE : Hid (isgn (sgn g1 m) = if g1 then -1 else 1) := by
   show _ = _
   unfold isgn
   cases g1 <;> simp [sgn] <;> omega
  clear hm
  cases g1
  all_goals
   go_enter Tryz.func183, Tryz.ntmps183
   go_wp2_with (first
   | (go_at_call 168; refine Aq (Dh (by omega)) ?_; intros))
   go_ret
   exact E.fin (by rw [HE.out]; rfl)
theorem I6 [h1 : CI w (.agg #[.bool g1, .slice a1 l1 c1]) x k1] :
  Calls Tryz.prog 191 #[.agg #[.bool g1, .slice a1 l1 c1]] w (fun e w' => e = .returned (Kv x) ∧ Below w.heap.size w w') := by
 obtain ⟨m, r1, rfl⟩ := Fh h1
 have i1 : CR w (.slice a1 l1 c1) m k1 := ⟨r1⟩
 clear r1
 by_cases hm : m < 18446744073709551616
 ·have hu := Lib.hid (Cv hm)
  cases g1
  ·have HI := Lib.hid (fun h : (m : Int) ≤ 9223372036854775807 => Mx (x := sgn false m) (by simp only [G3]; omega))
   have HO := Lib.hid (fun h : ¬ (m : Int) ≤ 9223372036854775807 => Rk (x := sgn false m) (by simp only [G3]; omega))
   go_enter Tryz.func191, Tryz.ntmps191; go_wp2_with fail
   refine Aq Fo ?_
   rw [hu.out]
   by_cases h9 : (m : Int) ≤ 9223372036854775807
   ·go_wp2; go_ret2
    exact E.fin (by rw [HI.out h9]; rfl)
   ·go_wp2; go_ret2
    exact E.fin (by rw [HO.out h9]; rfl)
  ·have HI := Lib.hid (fun h : (m : Int) ≤ 9223372036854775808 => Mx (x := sgn true m) (by simp only [Fs]; omega))
   have HO := Lib.hid (fun h : ¬ (m : Int) ≤ 9223372036854775808 => Rk (x := sgn true m) (by simp only [Fs]; omega))
   have HB := Lib.hid (fun h : (m : Int) ≤ 9223372036854775808 => Qmg (m := m) (by omega)); go_enter Tryz.func191, Tryz.ntmps191; go_wp2_with fail
   refine Aq Fo ?_
   rw [hu.out]
   by_cases h9 : (m : Int) ≤ 9223372036854775808
   ·go_wp2; go_ret2
    exact E.fin (by rw [HI.out h9]; exact congrArg (fun z => Value.tuple #[.int .i64 z, .bool true]) (HB.out h9))
   ·go_wp2; go_ret2
    exact E.fin (by rw [HO.out h9]; rfl)
 ·have hu := Lib.hid (Hu (n := m) (by omega))
  have HO := Lib.hid (Rk (x := sgn g1 m) (by cases g1 <;> simp only [Fs, G3] <;> omega))
  go_enter Tryz.func191, Tryz.ntmps191; go_wp2_with fail
  refine Aq Fo ?_
  rw [hu.out]; go_wp2; go_ret2
  exact E.fin (by rw [HO.out]; rfl)
theorem Pt (b : -9223372036854775808 ≤ x ∧ x < 9223372036854775808) : Calls Tryz.prog 163 #[.int .i64 x] w (Df w x 2) := by
 by_cases hx : x < 0
 ·have HE := Lib.hid (Xp b.1 hx); have HD := Lib.hid (show true = decide (x < 0) by simp [hx]); go_enter Tryz.func163, Tryz.ntmps163; go_wp2_with fail; rw [HE.out]
  refine Ae (Q6 (by omega)) ?_
  intros
  go_wp2; refine Ac rfl Tryz.underlying47 rfl (by kernel_rfl) rfl rfl rfl ?_; exact Df.fin (hx := CZ.mkA (by omega) HD.out) rfl (by omega)
 ·have hx0 : 0 ≤ x := by omega
  have HD := Lib.hid (show false = decide (x < 0) by simp; exact hx0)
  go_enter Tryz.func163, Tryz.ntmps163; go_wp2_with fail
  refine Ae (Q6 (by omega)) ?_
  intros
  go_wp2; refine Ac rfl Tryz.underlying47 rfl (by kernel_rfl) rfl rfl rfl ?_; exact Df.fin (hx := CZ.mkA (by omega) HD.out) rfl (by omega)
theorem Zt (b : -9223372036854775808 ≤ x ∧ x < 9223372036854775808) : Calls Tryz.prog 55 #[.int .i64 x] w (Df w x 2) := by
 by_cases hx : x < 0
 ·have HE := Lib.hid (Xp b.1 hx)
  have HD := Lib.hid (show sgn true ((x.natAbs : Nat) : Int).natAbs = x by simp [sgn]; omega)
  go_enter Tryz.func55, Tryz.ntmps55; go_wp2_with fail; rw [HE.out]
  refine Ae (Ph (by omega)) ?_
  intros
  go_wp2_with (first
  | (go_at_call 99; refine Ce (Db) ?_; intros))
  refine Ac rfl Tryz.underlying28 rfl (by kernel_rfl) rfl rfl rfl ?_; exact Df.fin HD.out (by omega)
 ·have hx0 : 0 ≤ x := by omega
  have HD := Lib.hid (show sgn false x.natAbs = x by simp [sgn]; omega)
  go_enter Tryz.func55, Tryz.ntmps55; go_wp2_with fail
  refine Ae (Ph (by omega)) ?_
  intros
  go_wp2_with (first
  | (go_at_call 99; refine Ce (Db) ?_; intros))
  refine Ac rfl Tryz.underlying28 rfl (by kernel_rfl) rfl rfl rfl ?_; exact Df.fin HD.out (by omega)
theorem Qer [h1 : CZ w (.agg #[.bool g1, .slice a1 l1 c1]) x k1] :
  Calls Tryz.prog 25 #[.agg #[.bool g1, .slice a1 l1 c1]] w (fun e w' => e = .returned (.int .i64 (isgn x)) ∧ Below w.heap.size w w') := by
 have HL := Lib.hid (Cb h1).2.len; have HG := Lib.hid (Cb h1).1
 rcases F8 x with ⟨hx, e⟩ | ⟨hx, e⟩ | ⟨hx, e⟩
 ·have e1 : 0 < l1 := by rw [HL.out]; exact Bw (by omega)
  obtain rfl : g1 = true := by rw [HG.out]; simp [hx]
  clear HL HG hx h1; go_enter Tryz.func25, Tryz.ntmps25; go_wp2; go_ret
  exact E.fin (by rw [e]; rfl)
 ·obtain rfl : l1 = 0 := by rw [HL.out, hx]; rfl
  clear HL HG hx h1; go_enter Tryz.func25, Tryz.ntmps25; go_wp2; go_ret
  exact E.fin (by rw [e]; rfl)
 ·have e1 : 0 < l1 := by rw [HL.out]; exact Bw (by omega)
  obtain rfl : g1 = false := by rw [HG.out]; simp; omega
  clear HL HG hx h1; go_enter Tryz.func25, Tryz.ntmps25; go_wp2; go_ret
  exact E.fin (by rw [e]; rfl)
theorem Qcj [h1 : CZ w (.agg #[.bool g1, .slice a1 l1 c1]) x k1] :
  Calls Tryz.prog 103 #[.agg #[.bool g1, .slice a1 l1 c1]] w (Df w (-x) (k1)) := by
 have z1 := Cb h1
 have i1 : CN w (.slice a1 l1 c1) x.natAbs k1 := ⟨z1.2⟩
 have HE : Hid (sgn (!g1) x.natAbs = -x) := by show _ = _; rw [z1.1]; exact Qlb
 clear z1; go_enter Tryz.func103, Tryz.ntmps103
 go_wp2_with (first
  | (go_at_call 99; refine Ce (Db) ?_; intros))
 refine Ac rfl Tryz.underlying28 rfl (by kernel_rfl) rfl rfl rfl ?_; exact Df.fin HE.out (by omega)
theorem Hf [h1 : CZ w (.agg #[.bool g1, .slice a1 l1 c1]) x k1] [h2 : CZ w (.agg #[.bool g2, .slice a2 l2 c2]) y k2] (b : k1 ≤ 900000 ∧ k2 ≤ 900000) :
  Calls Tryz.prog 65 #[.agg #[.bool g1, .slice a1 l1 c1], .agg #[.bool g2, .slice a2 l2 c2]] w (Df w (x * y) (k1 + k2)) := by
 have z1 := Cb h1
 have i1 : CN w (.slice a1 l1 c1) x.natAbs k1 := ⟨z1.2⟩
 have z2 := Cb h2
 have i2 : CN w (.slice a2 l2 c2) y.natAbs k2 := ⟨z2.2⟩
 have HE : Hid (sgn (g1 != g2) (x.natAbs * y.natAbs) = x * y) := by show _ = _; rw [z1.1, z2.1]; exact Qcr
 clear z1 z2; go_enter Tryz.func65, Tryz.ntmps65; go_wp2_with fail; refine rgn [w.heap.size + 1 + 1] [] fun hH => ?_; refine tk 0 hH ?_; refine tk 1 hH ?_; refine tk 2 hH ?_; refine tk 3 hH ?_; refine tk 4 hH ?_; refine tk 5 hH ?_; refine tk 6 hH ?_; refine tk 7 hH ?_; refine tk 8 hH (st 9 fun K hK => ?_); go_simp; refine Ae (Km (by omega)) ?_; intros; refine hd hK fun hH => st 10 fun K hK => ?_; go_simp; refine Ce (Db) ?_; intros; refine hd hK fun hH => st 11 fun K hK => ?_; go_simp; refine hd hK fun hH => dn ?_; clear hH; go_wp2; refine Ac rfl Tryz.underlying28 rfl (by kernel_rfl) rfl rfl rfl ?_; exact Df.fin HE.out (by omega)
theorem Ns [h1 : CZ w (.agg #[.bool g1, .slice a1 l1 c1]) x k1] [h2 : CZ w (.agg #[.bool g2, .slice a2 l2 c2]) y k2] (b : k1 ≤ 900000 ∧ k2 ≤ 900000) :
  Calls Tryz.prog 102 #[.agg #[.bool g1, .slice a1 l1 c1], .agg #[.bool g2, .slice a2 l2 c2]] w (Df w (x + y) (max k1 k2 + 1)) := by
 have z1 := Cb h1
 have i1 : CN w (.slice a1 l1 c1) x.natAbs k1 := ⟨z1.2⟩
 have z2 := Cb h2
 have i2 : CN w (.slice a2 l2 c2) y.natAbs k2 := ⟨z2.2⟩
 by_cases hg : g1 = g2
 ·subst hg
  have HE : Hid (sgn g1 (x.natAbs + y.natAbs) = x + y) := by show _ = _; have h := Qh5 (z1.1.symm.trans z2.1); rw [← z1.1] at h; exact h
  clear z1 z2; go_enter Tryz.func102, Tryz.ntmps102; go_wp2_with fail; refine rgn [w.heap.size + 1 + 1] [] fun hH => ?_; refine tk 0 hH ?_; refine tk 1 hH ?_; refine tk 2 hH ?_; refine tk 3 hH ?_; refine tk 4 hH ?_; refine tk 5 hH (st 6 fun K hK => ?_); go_simp; refine Ae (Qd9 (by omega)) ?_; intros; refine hd hK fun hH => st 7 fun K hK => ?_; go_simp; refine Ce (Db) ?_; intros; refine hd hK fun hH => st 8 fun K hK => ?_; go_simp; refine hd hK fun hH => dn ?_; clear hH; go_wp2; refine Ac rfl Tryz.underlying28 rfl (by kernel_rfl) rfl rfl rfl ?_; exact Df.fin HE.out (by omega)
 ·have hb0 : (g1 == g2) = false := by simpa using hg
  rw [z1.1, z2.1] at hg
  by_cases hl : x.natAbs < y.natAbs
  ·have HE : Hid (sgn g2 (y.natAbs - x.natAbs) = x + y) := by show _ = _; rw [z2.1]; have := @Wz y x (Ne.symm hg) (by omega); rw [Int.add_comm]; exact this
   have hc := Qkh hl
   have hle : x.natAbs ≤ y.natAbs := (by omega); clear z1 z2 hg hl; go_enter Tryz.func102, Tryz.ntmps102
   go_wp2_with (first
  | (go_at_call 105; refine Aa (Je) ?_; intros))
   refine rgn [w.heap.size + 1 + 1] [] fun hH => ?_; refine tk 0 hH ?_; refine tk 1 hH ?_; refine tk 2 hH ?_; refine tk 3 hH ?_; refine tk 4 hH ?_; refine tk 5 hH (st 6 fun K hK => ?_); go_simp; refine Ae (Ti (by omega) hle) ?_; intros; refine hd hK fun hH => st 7 fun K hK => ?_; go_simp; refine Ce (Db) ?_; intros; refine hd hK fun hH => st 8 fun K hK => ?_; go_simp; refine hd hK fun hH => dn ?_; clear hH; go_wp2; refine Ac rfl Tryz.underlying28 rfl (by kernel_rfl) rfl rfl rfl ?_; exact Df.fin HE.out (by omega)
  ·have hle : y.natAbs ≤ x.natAbs := by omega
   have HE : Hid (sgn g1 (x.natAbs - y.natAbs) = x + y) := by show _ = _; rw [z1.1]; exact Wz hg hle
   have hc := Qf9 hle
   clear z1 z2 hg hl; go_enter Tryz.func102, Tryz.ntmps102
   go_wp2_with (first
  | (go_at_call 105; refine Aa (Je) ?_; intros))
   refine rgn [w.heap.size + 1 + 1] [] fun hH => ?_; refine tk 0 hH ?_; refine tk 1 hH ?_; refine tk 2 hH ?_; refine tk 3 hH ?_; refine tk 4 hH ?_; refine tk 5 hH (st 6 fun K hK => ?_); go_simp; refine Ae (Ti (by omega) hle) ?_; intros; refine hd hK fun hH => st 7 fun K hK => ?_; go_simp; refine Ce (Db) ?_; intros; refine hd hK fun hH => st 8 fun K hK => ?_; go_simp; refine hd hK fun hH => dn ?_; clear hH; go_wp2; refine Ac rfl Tryz.underlying28 rfl (by kernel_rfl) rfl rfl rfl ?_; exact Df.fin HE.out (by omega)
theorem Qh3 [h1 : CI w (.agg #[.bool g1, .slice a1 l1 c1]) x k1] (b : k1 ≤ 900000) :
  Calls Tryz.prog 72 #[.agg #[.bool g1, .slice a1 l1 c1]] w (Df w x (k1)) := by
 obtain ⟨m, r1, rfl⟩ := Fh h1
 have i1 : CR w (.slice a1 l1 c1) m k1 := ⟨r1⟩
 clear r1; go_enter Tryz.func72, Tryz.ntmps72; go_wp2_with fail; refine rgn [w.heap.size + 1] [] fun hH => ?_; refine tk 0 hH ?_; refine tk 1 hH ?_; refine tk 2 hH ?_; refine tk 3 hH (st 4 fun K hK => ?_); go_simp; refine Ae (Nl (by omega)) ?_; intros; refine hd hK fun hH => st 5 fun K hK => ?_; go_simp; refine Ce (Db) ?_; intros; refine hd hK fun hH => st 6 fun K hK => ?_; go_simp; refine hd hK fun hH => dn ?_; clear hH; go_wp2; refine Ac rfl Tryz.underlying28 rfl (by kernel_rfl) rfl rfl rfl ?_; exact Df.fin rfl (by omega)
theorem Qdp [h1 : CZ w (.agg #[.bool g1, .slice a1 l1 c1]) x k1] (b : k1 ≤ 900000) :
  Calls Tryz.prog 32 #[.agg #[.bool g1, .slice a1 l1 c1]] w (Df w x (k1)) := by
 have z1 := Cb h1
 have i1 : CN w (.slice a1 l1 c1) x.natAbs k1 := ⟨z1.2⟩
 have HG := Lib.hid z1.1; clear z1; go_enter Tryz.func32, Tryz.ntmps32; go_wp2_with fail; refine rgn [w.heap.size + 1] [] fun hH => ?_; refine tk 0 hH ?_; refine tk 1 hH ?_; refine tk 2 hH ?_; refine tk 3 hH (st 4 fun K hK => ?_); go_simp; refine Ae (Sm (by omega)) ?_; intros; refine hd hK fun hH => ?_; refine tk 5 hH (st 6 fun K hK => ?_); go_simp; refine hd hK fun hH => dn ?_; clear hH; go_wp2; refine Ac rfl Tryz.underlying47 rfl (by kernel_rfl) rfl rfl rfl ?_; exact Df.fin (hx := CZ.mkA rfl HG.out) rfl (by omega)
end
section
structure Pres (W W2 : World) : Prop where
 nn : ∀ {v : Value} {n k : Nat}, Nn W v n k → Nn W2 v n k
 rr : ∀ {v : Value} {n k : Nat}, Rr W v n k → Rr W2 v n k
 pair : ∀ {b : Nat} {l : Array Value}, W.heap[b]? = some (Obj.cells l 254 (0, 0)) → W2.heap[b]? = some (Obj.cells l 254 (0, 0))
variable {W W2 w w' : World}
theorem Pres.below (h : Below W.heap.size W W2) : Pres W W2 := ⟨fun x => x.keep h, fun x => x.keep h, fun x => by rw [h.block _ (Ep x)]; exact x⟩
theorem Pres.tape {g : Nat} (h : Tp1 W W2 g) : Pres W W2 := ⟨fun x => Nn.tp2 h.gb h.tp x, fun x => Rr.tp2 h.gb h.tp x, fun {b l} x => by
 rw [h.gb.block _ (Ep x) ?_]
 ·exact x
 ·intro e
  injection e with e
  subst e; obtain ⟨a, n, c, at_, zs, hh, _⟩ := h.tp; rw [x] at hh
  injection hh with hh
  injection hh with _ h2
  exact absurd h2 (by decide)⟩
theorem Pres.soft {q i : Nat} {x : Value} (h : SoftB W q) : Pres W (W.setCell ⟨q, i, none⟩ x) := ⟨fun y => y.soft h, fun y => y.soft h, fun {b l} y => by
 obtain ⟨t, l', h1, h2, _⟩ := h.out
 have hne : q ≠ b := by
  intro e; subst e; rw [h1] at y
  injection y with y
  injection y with _ y2
  exact h2.pair y2
 simp only [World.setCell, Array.getElem?_modify]
 rw [if_neg hne]; exact y⟩
def Qq (W : World) (v : Value) (q : Rat) (k : Nat) : Prop := ∃ g a l c aa ll cc, v = .agg #[.bool g, .slice a l c, .slice aa ll cc] ∧ (g = decide (q.num < 0) ∧ Nn W (.slice a l c) q.num.natAbs k) ∧ Nn W (.slice aa ll cc) (if q.den = 1 then 0 else q.den) k
def Qa (W : World) (v : Value) (q : Rat) (k : Nat) : Prop := ∃ g a l c aa ll cc, v = .agg #[.bool g, .slice a l c, .slice aa ll cc] ∧ (g = decide (q.num < 0) ∧ Nn W (.slice a l c) q.num.natAbs k) ∧ Nn W (.slice aa ll cc) q.den k
def Qw (W : World) (v : Value) (q : Rat) (k : Nat) : Prop := ∃ g a l c aa ll cc m n, v = .agg #[.bool g, .slice a l c, .slice aa ll cc] ∧ Rr W (.slice a l c) m k ∧ Rr W (.slice aa ll cc) n k ∧ q = mkRat (sgn g m) n
def Qf (W : World) (v : Value) (q : Rat) (k : Nat) : Prop :=
 (v = .agg #[.int .i64 q.num, .int .i64 ((q.den : Int) - 1), .pointer none] ∧ -4611686018427387904 < q.num ∧ q.num < 4611686018427387904 ∧ q.den < 4611686018427387904 ∧ 2 ≤ k) ∨
 (∃ b g a l c aa ll cc, v = .agg #[.int .i64 0, .int .i64 0, .pointer (some ⟨b, 0, none⟩)] ∧ W.heap[b]? = some (.cells #[.bool g, .slice a l c, .slice aa ll cc] 254 (0, 0)) ∧
  (g = decide (q.num < 0) ∧ Nn W (.slice a l c) q.num.natAbs k) ∧ Nn W (.slice aa ll cc) q.den k ∧ q ≠ 0 ∧ ¬ (q.num.natAbs < 4611686018427387904 ∧ q.den < 4611686018427387904))
variable {c ccx ccy cx cy ib k k' k1 k2 kx ky l ll llx lly lx ly qb : Nat} {q q' x x' y y' : Rat} {v : Value}
theorem Qq.map (h : Qq W v q k) (p : Pres W W2) : Qq W2 v q k := by
 obtain ⟨g, a, l, c, aa, ll, cc, e, h1, h2⟩ := h; exact ⟨g, a, l, c, aa, ll, cc, e, ⟨h1.1, p.nn h1.2⟩, p.nn h2⟩
theorem Qa.map (h : Qa W v q k) (p : Pres W W2) : Qa W2 v q k := by
 obtain ⟨g, a, l, c, aa, ll, cc, e, h1, h2⟩ := h; exact ⟨g, a, l, c, aa, ll, cc, e, ⟨h1.1, p.nn h1.2⟩, p.nn h2⟩
theorem Qw.map (h : Qw W v q k) (p : Pres W W2) : Qw W2 v q k := by
 obtain ⟨g, a, l, c, aa, ll, cc, m, n, e, h1, h2, h3⟩ := h; exact ⟨g, a, l, c, aa, ll, cc, m, n, e, p.rr h1, p.rr h2, h3⟩
theorem Qf.map (h : Qf W v q k) (p : Pres W W2) : Qf W2 v q k := by
 rcases h with h | ⟨b, g, a, l, c, aa, ll, cc, e, h0, h1, h2, h3⟩
 ·exact .inl h
 ·exact .inr ⟨b, g, a, l, c, aa, ll, cc, e, p.pair h0, ⟨h1.1, p.nn h1.2⟩, p.nn h2, h3⟩
class CQ (W : World) (v : Value) (q : outParam Rat) (k : outParam Nat) : Prop where out : Qq W v q k
variable {o : Obj}
instance CQ.al [h : CQ W v q k] : CQ (W.alloc o) v q k := ⟨h.out.map (Pres.below (Bh _ _))⟩
instance CQ.dr [h : CQ W v q k] : CQ W.drew v q k := ⟨h.out.map (Pres.below (D0 (Below.refl _ _)))⟩
instance CQ.kp [b : Kp1 W W2] [h : CQ W v q k] : CQ W2 v q k := ⟨h.out.map (Pres.below (b.out))⟩
instance CQ.tp {g : Nat} [b : Tp1 W W2 g] [h : CQ W v q k] : CQ W2 v q k := ⟨h.out.map (Pres.tape b)⟩
instance CQ.st {xv : Value} [b : SoftB W qb] [h : CQ W v q k] : CQ (W.setCell ⟨qb, ib, none⟩ xv) v q k := ⟨h.out.map (Pres.soft b)⟩
class CA (W : World) (v : Value) (q : outParam Rat) (k : outParam Nat) : Prop where out : Qa W v q k
instance CA.al [h : CA W v q k] : CA (W.alloc o) v q k := ⟨h.out.map (Pres.below (Bh _ _))⟩
instance CA.dr [h : CA W v q k] : CA W.drew v q k := ⟨h.out.map (Pres.below (D0 (Below.refl _ _)))⟩
instance CA.kp [b : Kp1 W W2] [h : CA W v q k] : CA W2 v q k := ⟨h.out.map (Pres.below (b.out))⟩
instance CA.tp {g : Nat} [b : Tp1 W W2 g] [h : CA W v q k] : CA W2 v q k := ⟨h.out.map (Pres.tape b)⟩
instance CA.st {xv : Value} [b : SoftB W qb] [h : CA W v q k] : CA (W.setCell ⟨qb, ib, none⟩ xv) v q k := ⟨h.out.map (Pres.soft b)⟩
class CW (W : World) (v : Value) (q : outParam Rat) (k : outParam Nat) : Prop where out : Qw W v q k
instance CW.al [h : CW W v q k] : CW (W.alloc o) v q k := ⟨h.out.map (Pres.below (Bh _ _))⟩
instance CW.dr [h : CW W v q k] : CW W.drew v q k := ⟨h.out.map (Pres.below (D0 (Below.refl _ _)))⟩
instance CW.kp [b : Kp1 W W2] [h : CW W v q k] : CW W2 v q k := ⟨h.out.map (Pres.below (b.out))⟩
class CF (W : World) (v : Value) (q : outParam Rat) (k : outParam Nat) : Prop where out : Qf W v q k
instance CF.al [h : CF W v q k] : CF (W.alloc o) v q k := ⟨h.out.map (Pres.below (Bh _ _))⟩
instance CF.dr [h : CF W v q k] : CF W.drew v q k := ⟨h.out.map (Pres.below (D0 (Below.refl _ _)))⟩
instance CF.kp [b : Kp1 W W2] [h : CF W v q k] : CF W2 v q k := ⟨h.out.map (Pres.below (b.out))⟩
instance CF.st {xv : Value} [b : SoftB W qb] [h : CF W v q k] : CF (W.setCell ⟨qb, ib, none⟩ xv) v q k := ⟨h.out.map (Pres.soft b)⟩
theorem Qq.mono (h : Qq W v q k) (b : k ≤ k') : Qq W v q k' := by
 obtain ⟨g, a, l, c, aa, ll, cc, e, h1, h2⟩ := h; exact ⟨g, a, l, c, aa, ll, cc, e, ⟨h1.1, h1.2.mono b⟩, h2.mono b⟩
theorem Qa.mono (h : Qa W v q k) (b : k ≤ k') : Qa W v q k' := by
 obtain ⟨g, a, l, c, aa, ll, cc, e, h1, h2⟩ := h; exact ⟨g, a, l, c, aa, ll, cc, e, ⟨h1.1, h1.2.mono b⟩, h2.mono b⟩
theorem Qf.mono (h : Qf W v q k) (b : k ≤ k') : Qf W v q k' := by
 rcases h with ⟨e, h1, h2, h3, h4⟩ | ⟨bb, g, a, l, c, aa, ll, cc, e, h0, h1, h2, h3⟩
 ·exact .inl ⟨e, h1, h2, h3, Nat.le_trans h4 b⟩
 ·exact .inr ⟨bb, g, a, l, c, aa, ll, cc, e, h0, ⟨h1.1, h1.2.mono b⟩, h2.mono b, h3⟩
theorem CQ.cast (h : CQ W v q k) (e : q = q') (b : k ≤ k') : CQ W v q' k' := by
 subst e; exact ⟨h.out.mono b⟩
theorem CA.cast (h : CA W v q k) (e : q = q') (b : k ≤ k') : CA W v q' k' := by
 subst e; exact ⟨h.out.mono b⟩
theorem CF.cast (h : CF W v q k) (e : q = q') (b : k ≤ k') : CF W v q' k' := by
 subst e; exact ⟨h.out.mono b⟩
def Ei (w : World) (x : Rat) (k : Nat) (e : Ending) (w' : World) : Prop := ∃ g a l c aa ll cc, e = .returned (.agg #[.bool g, .slice a l c, .slice aa ll cc]) ∧ CQ w' (.agg #[.bool g, .slice a l c, .slice aa ll cc]) x k ∧ Below w.heap.size w w'
variable {K : Ending → World → Prop} {P : Program} {args : Array Value} {f : FuncId}
theorem A3 (h : Calls P f args w (Ei w x k))
  (hK : ∀ w' [Kp1 w w'] (g : Bool) (a : Option Addr) (l : Nat) (c : Nat) (aa : Option Addr) (ll : Nat) (cc : Nat) [CQ w' (.agg #[.bool g, .slice a l c, .slice aa ll cc]) x k], K (.returned (.agg #[.bool g, .slice a l c, .slice aa ll cc])) w') : Calls P f args w K := by
 refine h.mono ?_
 rintro e w' ⟨g, a, l, c, aa, ll, cc, rfl, hx, hb⟩
 exact @hK w' ⟨hb⟩ g a l c aa ll cc hx
variable {a aa aax aay ax ay p : Option Addr} {g gx : Bool}
theorem Ei.fin {cc : Nat} [b : Kp w w'] [hx : CQ w' (.agg #[.bool g, .slice a l c, .slice aa ll cc]) x kx] (ex : x = x') (mx : kx ≤ k) : Ei w x' k (.returned (.agg #[.bool g, .slice a l c, .slice aa ll cc])) w' :=
 ⟨_, _, _, _, _, _, _, rfl, hx.cast ex mx, b.out⟩
def Mv (w : World) (x : Rat) (k : Nat) (e : Ending) (w' : World) : Prop := ∃ g a l c aa ll cc, e = .returned (.agg #[.bool g, .slice a l c, .slice aa ll cc]) ∧ CA w' (.agg #[.bool g, .slice a l c, .slice aa ll cc]) x k ∧ Below w.heap.size w w'
theorem A9 (h : Calls P f args w (Mv w x k))
  (hK : ∀ w' [Kp1 w w'] (g : Bool) (a : Option Addr) (l : Nat) (c : Nat) (aa : Option Addr) (ll : Nat) (cc : Nat) [CA w' (.agg #[.bool g, .slice a l c, .slice aa ll cc]) x k], K (.returned (.agg #[.bool g, .slice a l c, .slice aa ll cc])) w') : Calls P f args w K := by
 refine h.mono ?_
 rintro e w' ⟨g, a, l, c, aa, ll, cc, rfl, hx, hb⟩
 exact @hK w' ⟨hb⟩ g a l c aa ll cc hx
theorem Mv.fin {cc : Nat} [b : Kp w w'] [hx : CA w' (.agg #[.bool g, .slice a l c, .slice aa ll cc]) x kx] (ex : x = x') (mx : kx ≤ k) : Mv w x' k (.returned (.agg #[.bool g, .slice a l c, .slice aa ll cc])) w' :=
 ⟨_, _, _, _, _, _, _, rfl, hx.cast ex mx, b.out⟩
def Bk (w : World) (x : Rat) (k : Nat) (e : Ending) (w' : World) : Prop := ∃ n d p, e = .returned (.agg #[.int .i64 n, .int .i64 d, .pointer p]) ∧ CF w' (.agg #[.int .i64 n, .int .i64 d, .pointer p]) x k ∧ Below w.heap.size w w'
theorem Ab (h : Calls P f args w (Bk w x k))
  (hK : ∀ w' [Kp1 w w'] (n : Int) (d : Int) (p : Option Addr) [CF w' (.agg #[.int .i64 n, .int .i64 d, .pointer p]) x k], K (.returned (.agg #[.int .i64 n, .int .i64 d, .pointer p])) w') : Calls P f args w K := by
 refine h.mono ?_
 rintro e w' ⟨n, d, p, rfl, hx, hb⟩
 exact @hK w' ⟨hb⟩ n d p hx
variable {d n z : Int}
theorem Bk.fin [b : Kp w w'] [hx : CF w' (.agg #[.int .i64 n, .int .i64 d, .pointer p]) x kx] (ex : x = x') (mx : kx ≤ k) : Bk w x' k (.returned (.agg #[.int .i64 n, .int .i64 d, .pointer p])) w' :=
 ⟨_, _, _, rfl, hx.cast ex mx, b.out⟩
def Ld (w : World) (x y : Rat) (k : Nat) (e : Ending) (w' : World) : Prop := ∃ gx ax lx cx aax llx ccx gy ay ly cy aay lly ccy, e = .returned (.agg #[.bool gx, .slice ax lx cx, .slice aax llx ccx, .bool gy, .slice ay ly cy, .slice aay lly ccy]) ∧ CQ w' (.agg #[.bool gx, .slice ax lx cx, .slice aax llx ccx]) x k ∧ CQ w' (.agg #[.bool gy, .slice ay ly cy, .slice aay lly ccy]) y k ∧ Below w.heap.size w w'
theorem Dk (h : Calls P f args w (Ld w x y k))
  (hK : ∀ w' [Kp1 w w'] (gx : Bool) (ax : Option Addr) (lx : Nat) (cx : Nat) (aax : Option Addr) (llx : Nat) (ccx : Nat) (gy : Bool) (ay : Option Addr) (ly : Nat) (cy : Nat) (aay : Option Addr) (lly : Nat) (ccy : Nat) [CQ w' (.agg #[.bool gx, .slice ax lx cx, .slice aax llx ccx]) x k] [CQ w' (.agg #[.bool gy, .slice ay ly cy, .slice aay lly ccy]) y k], K (.returned (.agg #[.bool gx, .slice ax lx cx, .slice aax llx ccx, .bool gy, .slice ay ly cy, .slice aay lly ccy])) w') : Calls P f args w K := by
 refine h.mono ?_
 rintro e w' ⟨gx, ax, lx, cx, aax, llx, ccx, gy, ay, ly, cy, aay, lly, ccy, rfl, hx, hy, hb⟩
 exact @hK w' ⟨hb⟩ gx ax lx cx aax llx ccx gy ay ly cy aay lly ccy hx hy
theorem Ld.fin {gy : Bool} [b : Kp w w'] [hx : CQ w' (.agg #[.bool gx, .slice ax lx cx, .slice aax llx ccx]) x kx] [hy : CQ w' (.agg #[.bool gy, .slice ay ly cy, .slice aay lly ccy]) y ky] (ex : x = x') (mx : kx ≤ k) (ey : y = y') (my : ky ≤ k) : Ld w x' y' k (.returned (.agg #[.bool gx, .slice ax lx cx, .slice aax llx ccx, .bool gy, .slice ay ly cy, .slice aay lly ccy])) w' :=
 ⟨_, _, _, _, _, _, _, _, _, _, _, _, _, _, rfl, hx.cast ex mx, hy.cast ey my, b.out⟩
def Jv (w : World) (x y : Rat) (k : Nat) (e : Ending) (w' : World) : Prop := ∃ gx ax lx cx aax llx ccx gy ay ly cy aay lly ccy, e = .returned (.agg #[.bool gx, .slice ax lx cx, .slice aax llx ccx, .bool gy, .slice ay ly cy, .slice aay lly ccy]) ∧ CA w' (.agg #[.bool gx, .slice ax lx cx, .slice aax llx ccx]) x k ∧ CA w' (.agg #[.bool gy, .slice ay ly cy, .slice aay lly ccy]) y k ∧ Below w.heap.size w w'
theorem F5 (h : Calls P f args w (Jv w x y k))
  (hK : ∀ w' [Kp1 w w'] (gx : Bool) (ax : Option Addr) (lx : Nat) (cx : Nat) (aax : Option Addr) (llx : Nat) (ccx : Nat) (gy : Bool) (ay : Option Addr) (ly : Nat) (cy : Nat) (aay : Option Addr) (lly : Nat) (ccy : Nat) [CA w' (.agg #[.bool gx, .slice ax lx cx, .slice aax llx ccx]) x k] [CA w' (.agg #[.bool gy, .slice ay ly cy, .slice aay lly ccy]) y k], K (.returned (.agg #[.bool gx, .slice ax lx cx, .slice aax llx ccx, .bool gy, .slice ay ly cy, .slice aay lly ccy])) w') : Calls P f args w K := by
 refine h.mono ?_
 rintro e w' ⟨gx, ax, lx, cx, aax, llx, ccx, gy, ay, ly, cy, aay, lly, ccy, rfl, hx, hy, hb⟩
 exact @hK w' ⟨hb⟩ gx ax lx cx aax llx ccx gy ay ly cy aay lly ccy hx hy
theorem Jv.fin {gy : Bool} [b : Kp w w'] [hx : CA w' (.agg #[.bool gx, .slice ax lx cx, .slice aax llx ccx]) x kx] [hy : CA w' (.agg #[.bool gy, .slice ay ly cy, .slice aay lly ccy]) y ky] (ex : x = x') (mx : kx ≤ k) (ey : y = y') (my : ky ≤ k) : Jv w x' y' k (.returned (.agg #[.bool gx, .slice ax lx cx, .slice aax llx ccx, .bool gy, .slice ay ly cy, .slice aay lly ccy])) w' :=
 ⟨_, _, _, _, _, _, _, _, _, _, _, _, _, _, rfl, hx.cast ex mx, hy.cast ey my, b.out⟩
def Cd (w : World) (x y : Rat) (k : Nat) (e : Ending) (w' : World) : Prop := ∃ nx dx px ny dy py, e = .returned (.agg #[.int .i64 nx, .int .i64 dx, .pointer px, .int .i64 ny, .int .i64 dy, .pointer py]) ∧ CF w' (.agg #[.int .i64 nx, .int .i64 dx, .pointer px]) x k ∧ CF w' (.agg #[.int .i64 ny, .int .i64 dy, .pointer py]) y k ∧ Below w.heap.size w w'
theorem Au (h : Calls P f args w (Cd w x y k))
  (hK : ∀ w' [Kp1 w w'] (nx : Int) (dx : Int) (px : Option Addr) (ny : Int) (dy : Int) (py : Option Addr) [CF w' (.agg #[.int .i64 nx, .int .i64 dx, .pointer px]) x k] [CF w' (.agg #[.int .i64 ny, .int .i64 dy, .pointer py]) y k], K (.returned (.agg #[.int .i64 nx, .int .i64 dx, .pointer px, .int .i64 ny, .int .i64 dy, .pointer py])) w') : Calls P f args w K := by
 refine h.mono ?_
 rintro e w' ⟨nx, dx, px, ny, dy, py, rfl, hx, hy, hb⟩
 exact @hK w' ⟨hb⟩ nx dx px ny dy py hx hy
theorem Cd.fin {nx : Int} {dx : Int} {px : Option Addr} {ny : Int} {dy : Int} {py : Option Addr} [b : Kp w w'] [hx : CF w' (.agg #[.int .i64 nx, .int .i64 dx, .pointer px]) x kx] [hy : CF w' (.agg #[.int .i64 ny, .int .i64 dy, .pointer py]) y ky] (ex : x = x') (mx : kx ≤ k) (ey : y = y') (my : ky ≤ k) : Cd w x' y' k (.returned (.agg #[.int .i64 nx, .int .i64 dx, .pointer px, .int .i64 ny, .int .i64 dy, .pointer py])) w' :=
 ⟨_, _, _, _, _, _, rfl, hx.cast ex mx, hy.cast ey my, b.out⟩
def Yz (w : World) (x y z : Int) (k : Nat) (e : Ending) (w' : World) : Prop := ∃ gx ax lx cx gy ay ly cy gz az lz cz, e = .returned (.agg #[.bool gx, .slice ax lx cx, .bool gy, .slice ay ly cy, .bool gz, .slice az lz cz]) ∧ CZ w' (.agg #[.bool gx, .slice ax lx cx]) x k ∧ CZ w' (.agg #[.bool gy, .slice ay ly cy]) y k ∧ CZ w' (.agg #[.bool gz, .slice az lz cz]) z k ∧ Below w.heap.size w w'
theorem Yz.fin {gy : Bool} {gz : Bool} {az : Option Addr} {lz : Nat} {cz : Nat} {x x' : Int} {y y' : Int} {z' : Int} {kz : Nat} [b : Kp w w'] [hx : CZ w' (.agg #[.bool gx, .slice ax lx cx]) x kx] [hy : CZ w' (.agg #[.bool gy, .slice ay ly cy]) y ky] [hz : CZ w' (.agg #[.bool gz, .slice az lz cz]) z kz] (ex : x = x') (mx : kx ≤ k) (ey : y = y') (my : ky ≤ k) (ez : z = z') (mz : kz ≤ k) : Yz w x' y' z' k (.returned (.agg #[.bool gx, .slice ax lx cx, .bool gy, .slice ay ly cy, .bool gz, .slice az lz cz])) w' :=
 ⟨_, _, _, _, _, _, _, _, _, _, _, _, rfl, hx.cast ex mx, hy.cast ey my, hz.cast ez mz, b.out⟩
theorem Kj {g' : Bool} {a' aa' : Option Addr} {l' c' ll' cc cc' : Nat} (e : Value.agg #[.bool g, .slice a l c, .slice aa ll cc] = .agg #[.bool g', .slice a' l' c', .slice aa' ll' cc']) :
  g' = g ∧ Value.slice a' l' c' = .slice a l c ∧ Value.slice aa' ll' cc' = .slice aa ll cc := by
 simp only [Value.agg.injEq, Array.mk.injEq, List.cons.injEq, Value.bool.injEq, and_true] at e; exact ⟨e.1.symm, e.2.1.symm, e.2.2.symm⟩
theorem CQ.num {cc : Nat} (h : CQ W (.agg #[.bool g, .slice a l c, .slice aa ll cc]) q k) : CZ W (.agg #[.bool g, .slice a l c]) q.num k := by
 obtain ⟨g', a', l', c', aa', ll', cc', e, h1, h2⟩ := h.out; obtain ⟨rfl, e1, e2⟩ := Kj e
 exact ⟨⟨_, _, _, _, rfl, by rw [← e1]; exact h1⟩⟩
theorem CQ.den {cc : Nat} (h : CQ W (.agg #[.bool g, .slice a l c, .slice aa ll cc]) q k) : CN W (.slice aa ll cc) (if q.den = 1 then 0 else q.den) k := by
 obtain ⟨g', a', l', c', aa', ll', cc', e, h1, h2⟩ := h.out; obtain ⟨rfl, e1, e2⟩ := Kj e
 exact ⟨by rw [← e2]; exact h2⟩
theorem CA.num {cc : Nat} (h : CA W (.agg #[.bool g, .slice a l c, .slice aa ll cc]) q k) : CZ W (.agg #[.bool g, .slice a l c]) q.num k := by
 obtain ⟨g', a', l', c', aa', ll', cc', e, h1, h2⟩ := h.out; obtain ⟨rfl, e1, e2⟩ := Kj e
 exact ⟨⟨_, _, _, _, rfl, by rw [← e1]; exact h1⟩⟩
theorem CA.den {cc : Nat} (h : CA W (.agg #[.bool g, .slice a l c, .slice aa ll cc]) q k) : CN W (.slice aa ll cc) q.den k := by
 obtain ⟨g', a', l', c', aa', ll', cc', e, h1, h2⟩ := h.out; obtain ⟨rfl, e1, e2⟩ := Kj e
 exact ⟨by rw [← e2]; exact h2⟩
theorem CW.parts {cc : Nat} (h : CW W (.agg #[.bool g, .slice a l c, .slice aa ll cc]) q k) : ∃ x n, q = mkRat x n ∧ CI W (.agg #[.bool g, .slice a l c]) x k ∧ CR W (.slice aa ll cc) n k := by
 obtain ⟨g', a', l', c', aa', ll', cc', m, n, e, h1, h2, h3⟩ := h.out; obtain ⟨rfl, e1, e2⟩ := Kj e
 exact ⟨_, n, h3, ⟨⟨_, _, _, _, rfl, m, by rw [← e1]; exact h1, rfl⟩⟩, ⟨by rw [← e2]; exact h2⟩⟩
theorem CQ.mk' {cc : Nat} {n : Nat} [h1 : CZ W (.agg #[.bool g, .slice a l c]) z k1] [h2 : CN W (.slice aa ll cc) n k2] (e1 : z = q.num) (e2 : n = if q.den = 1 then 0 else q.den) (b1 : k1 ≤ k) (b2 : k2 ≤ k) :
  CQ W (.agg #[.bool g, .slice a l c, .slice aa ll cc]) q k := by
 subst e1
 have h := Cb h1
 exact ⟨⟨_, _, _, _, _, _, _, rfl, ⟨h.1, h.2.mono b1⟩, by rw [← e2]; exact h2.out.mono b2⟩⟩
theorem CA.mk' {cc : Nat} {n : Nat} [h1 : CZ W (.agg #[.bool g, .slice a l c]) z k1] [h2 : CN W (.slice aa ll cc) n k2] (e1 : z = q.num) (e2 : n = q.den) (b1 : k1 ≤ k) (b2 : k2 ≤ k) :
  CA W (.agg #[.bool g, .slice a l c, .slice aa ll cc]) q k := by
 subst e1
 have h := Cb h1
 exact ⟨⟨_, _, _, _, _, _, _, rfl, ⟨h.1, h.2.mono b1⟩, by rw [← e2]; exact h2.out.mono b2⟩⟩
instance (priority := low) CQ.int [h : CZ W (.agg #[.bool g, .slice a l c]) z k] : CQ W (.agg #[.bool g, .slice a l c, .slice none 0 0]) (z : Rat) k :=
 CQ.mk' (k2 := 0) (by simp) (by simp) (Nat.le_refl _) (Nat.zero_le _)
theorem CW.of (h : CA W v q k) : CW W v q k := by
 obtain ⟨g, a, l, c, aa, ll, cc, rfl, ⟨h1, h2⟩, h3⟩ := h.out
 refine ⟨⟨g, a, l, c, aa, ll, cc, _, _, rfl, h2.rr, h3.rr, ?_⟩⟩
 rw [h1, Gy, Rat.mkRat_self]
instance CW.ofA [h : CA W v q k] : CW W v q k := CW.of h
theorem CF.small (e1 : q.num = n) (e2 : (q.den : Int) = d + 1) (b1 : -4611686018427387904 < n) (b2 : n < 4611686018427387904) (b3 : d + 1 < 4611686018427387904) (hk : 2 ≤ k) :
  CF W (.agg #[.int .i64 n, .int .i64 d, .pointer none]) q k := by
 subst e1
 refine ⟨.inl ⟨?_, b1, b2, by omega, hk⟩⟩
 rw [show (q.den : Int) - 1 = d by omega]
theorem CF.big {b : Nat} {cc : Nat} {n : Nat} [h : Bx W b 254 [.bool g, .slice a l c, .slice aa ll cc]] [h1 : CZ W (.agg #[.bool g, .slice a l c]) z k1] [h2 : CN W (.slice aa ll cc) n k2]
  (e1 : z = q.num) (e2 : n = q.den) (hq : q ≠ 0) (hB : ¬ (q.num.natAbs < 4611686018427387904 ∧ q.den < 4611686018427387904)) (b1 : k1 ≤ k) (b2 : k2 ≤ k) : CF W (.agg #[.int .i64 0, .int .i64 0, .pointer (some ⟨b, 0, none⟩)]) q k := by
 subst e1
 have h3 := Cb h1
 exact ⟨.inr ⟨b, g, a, l, c, aa, ll, cc, rfl, h.out, ⟨h3.1, h3.2.mono b1⟩, by rw [← e2]; exact h2.out.mono b2, hq, hB⟩⟩
theorem CF.bigger {p : Addr} (h : CF W (.agg #[.int .i64 n, .int .i64 d, .pointer (some p)]) q k) : ¬ (q.num.natAbs < 4611686018427387904 ∧ q.den < 4611686018427387904) := by
 rcases h.out with ⟨e, _⟩ | ⟨b, g, a, l, c, aa, ll, cc, e, h0, h1, h2, h3, h4⟩
 ·simp at e
 ·exact h4
theorem CF.lit (h : CF W (.agg #[.int .i64 n, .int .i64 d, .pointer p]) q k) (s : (q.num.natAbs < 4611686018427387904 ∧ q.den < 4611686018427387904)) : n = q.num ∧ d = (q.den : Int) - 1 ∧ p = none := by
 rcases h.out with ⟨e, _⟩ | ⟨b, g, a, l, c, aa, ll, cc, e, h0, h1, h2, h3, h4⟩
 ·simp only [Value.agg.injEq, Array.mk.injEq, List.cons.injEq, Value.int.injEq, Value.pointer.injEq, true_and, and_true] at e; exact e
 ·exact absurd s h4
theorem CF.cases (h : CF W (.agg #[.int .i64 n, .int .i64 d, .pointer p]) q k) :
  (p = none ∧ q.num = n ∧ (q.den : Int) = d + 1 ∧ -4611686018427387904 < n ∧ n < 4611686018427387904 ∧ 0 ≤ d ∧ d < 4611686018427387903 ∧ 2 ≤ k) ∨
  (n = 0 ∧ d = 0 ∧ q ≠ 0 ∧ ∃ b g a l c aa ll cc, p = some ⟨b, 0, none⟩ ∧ Bx W b 254 [.bool g, .slice a l c, .slice aa ll cc] ∧ CZ W (.agg #[.bool g, .slice a l c]) q.num k ∧ CN W (.slice aa ll cc) q.den k) := by
 rcases h.out with ⟨e, h1, h2, h3, h4⟩ | ⟨b, g, a, l, c, aa, ll, cc, e, h0, h1, h2, h3⟩
 ·left
  simp only [Value.agg.injEq, Array.mk.injEq, List.cons.injEq, Value.int.injEq, Value.pointer.injEq, true_and, and_true] at e; obtain ⟨e1, e2, e3⟩ := e
  have := Mr q
  subst e1
  exact ⟨e3, rfl, by omega, h1, h2, by omega, by omega, h4⟩
 ·right
  simp only [Value.agg.injEq, Array.mk.injEq, List.cons.injEq, Value.int.injEq, Value.pointer.injEq, true_and, and_true] at e; obtain ⟨e1, e2, e3⟩ := e; exact ⟨e1, e2, h3.1, b, g, a, l, c, aa, ll, cc, e3, ⟨h0⟩, ⟨⟨_, _, _, _, rfl, h1⟩⟩, ⟨h2⟩⟩
end
end Go.Proofs.YtpnpnlmlamfpmaaGreatDoor
