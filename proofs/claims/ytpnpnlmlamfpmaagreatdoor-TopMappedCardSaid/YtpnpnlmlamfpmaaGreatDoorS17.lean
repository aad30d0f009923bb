import Derived.Test.YtpnpnlmlamfpmaaGreatDoorS15
import Derived.Test.YtpnpnlmlamfpmaaGreatDoorSh
namespace Go.Proofs.YtpnpnlmlamfpmaaGreatDoor
open Go.RowKit
set_option maxHeartbeats 40000000
set_option maxRecDepth 100000
set_option synthInstance.maxHeartbeats 1000000
set_option synthInstance.maxSize 100000
section
variable {c1 cc1 k k1 l1 ll1 m t : Nat}
theorem O0 {n : Nat} (h : m ≠ n) : (Av m n == 0) = false ∧ (Av m n != 0) = true := by
 have : Av m n ≠ 0 := by
  rcases Nat.lt_or_gt_of_ne h with h' | h'
  ·rw [Fl h']; decide
  ·rw [Fx h']; decide
 exact ⟨by simpa using this, by simpa using this⟩
variable {n z : Int}
theorem Qmq {g : Bool} {G : Nat} (hg : g = decide (z < 0)) (h : G ∣ z.natAbs) : sgn g (z.natAbs / G) = z / (G : Int) := by
 subst hg; obtain ⟨k, hk⟩ := h
 rcases Nat.eq_zero_or_pos G with h0 | h0
 ·subst h0; simp [sgn]
 ·have hG : (G : Int) ≠ 0 := by omega
  rw [hk, Nat.mul_div_cancel_left _ h0]
  by_cases hz : z < 0
  ·rw [show z = (G : Int) * (-(k : Int)) by rw [Int.mul_neg, ← Int.natCast_mul, ← hk]; omega, Int.mul_ediv_cancel_left _ hG]
   have hz' : (G : Int) * (-(k : Int)) < 0 := by rw [Int.mul_neg, ← Int.natCast_mul, ← hk]; omega
   simp only [hz', decide_true, Fs]
  ·have e : z = (G : Int) * (k : Int) := by rw [← Int.natCast_mul, ← hk]; omega
   have hz' : ¬ (G : Int) * (k : Int) < 0 := by rw [← e]; exact hz
   rw [e, Int.mul_ediv_cancel_left _ hG]; simp only [hz', decide_false, G3]
variable {a1 aa1 : Option Addr} {g1 : Bool} {w : World}
theorem H6 {a2 : Option Addr} {l2 c2 : Nat} {k2 : Nat} [h1 : CZ w (.agg #[.bool g1, .slice a1 l1 c1]) z k1] [h2 : CN w (.slice a2 l2 c2) m k2] (b : k1 ≤ 100000 ∧ k2 ≤ 100000) (hm : m ≠ 0) :
  Calls Tryz.prog 66 #[.agg #[.bool g1, .slice a1 l1 c1], .slice a2 l2 c2] w (Ei w (mkRat z m) (max k1 k2 + 2)) := by
 have hg := Lib.hid (Cb h1).1
 have i1 : CN w (.slice a1 l1 c1) z.natAbs k1 := ⟨(Cb h1).2⟩
 have hg0 : Nat.gcd z.natAbs m ≠ 0 := Nat.ne_of_gt (Nat.gcd_pos_of_pos_right _ (Nat.pos_of_ne_zero hm))
 have HQ := Lib.hid (And.intro (M8 z hm) (Oq z hm))
 by_cases hG : Nat.gcd z.natAbs m = 1
 ·rw [hG] at HQ
  have HN := Lib.hid (show z = (mkRat z m).num by rw [HQ.out.1]; simp)
  rw [Nat.div_one] at HQ
  have e0 : Av (Nat.gcd z.natAbs m) 1 = 0 := H0 hG
  clear hG hm
  by_cases hD : m = 1
  ·have HE := Lib.hid (show 0 = (if (mkRat z m).den = 1 then 0 else (mkRat z m).den) by rw [HQ.out.2]; rw [if_pos hD])
   have e2 : Av (m) 1 = 0 := H0 hD
   clear hD; go_enter Tryz.func66, Tryz.ntmps66
   go_wp2_with (first
     | (go_at_call 104; refine Ae (L7 (by omega)) ?_; intros)
     | (go_at_call 73; refine Ae (Jf) ?_; intros)
     | (go_at_call 105; refine Aa (Je) ?_; intros)
     | (go_at_call 106; refine M3 (K1 (by omega) (by assumption)) ?_; intros)
     | (go_at_call 99; refine Ce (Db) ?_; intros))
   refine Ac rfl Tryz.underlying30 rfl (by kernel_rfl) rfl rfl rfl ?_; exact Ei.fin (hx := CQ.mk' (k := max k1 k2 + 2) HN.out HE.out (by omega) (by omega)) rfl (by omega)
  ·have HE := Lib.hid (show m = (if (mkRat z m).den = 1 then 0 else (mkRat z m).den) by rw [HQ.out.2]; rw [if_neg hD])
   obtain ⟨e2, e3⟩ := O0 hD; clear hD; go_enter Tryz.func66, Tryz.ntmps66
   go_wp2_with (first
     | (go_at_call 104; refine Ae (L7 (by omega)) ?_; intros)
     | (go_at_call 73; refine Ae (Jf) ?_; intros)
     | (go_at_call 105; refine Aa (Je) ?_; intros)
     | (go_at_call 106; refine M3 (K1 (by omega) (by assumption)) ?_; intros)
     | (go_at_call 99; refine Ce (Db) ?_; intros))
   refine Ac rfl Tryz.underlying30 rfl (by kernel_rfl) rfl rfl rfl ?_; exact Ei.fin (hx := CQ.mk' (k := max k1 k2 + 2) HN.out HE.out (by omega) (by omega)) rfl (by omega)
 ·have HN := Lib.hid (show sgn g1 (z.natAbs / Nat.gcd z.natAbs m) = (mkRat z m).num by rw [HQ.out.1]; exact Qmq hg.out (Nat.gcd_dvd_left _ _))
  obtain ⟨e0, e1⟩ := O0 hG; clear hG hm
  by_cases hD : m / Nat.gcd z.natAbs m = 1
  ·have HE := Lib.hid (show 0 = (if (mkRat z m).den = 1 then 0 else (mkRat z m).den) by rw [HQ.out.2]; rw [if_pos hD])
   have e2 : Av (m / Nat.gcd z.natAbs m) 1 = 0 := H0 hD
   clear hD; go_enter Tryz.func66, Tryz.ntmps66
   go_wp2_with (first
     | (go_at_call 104; refine Ae (L7 (by omega)) ?_; intros)
     | (go_at_call 73; refine Ae (Jf) ?_; intros)
     | (go_at_call 105; refine Aa (Je) ?_; intros)
     | (go_at_call 106; refine M3 (K1 (by omega) (by assumption)) ?_; intros)
     | (go_at_call 99; refine Ce (Db) ?_; intros))
   refine Ac rfl Tryz.underlying30 rfl (by kernel_rfl) rfl rfl rfl ?_; exact Ei.fin (hx := CQ.mk' (k := max k1 k2 + 2) HN.out HE.out (by omega) (by omega)) rfl (by omega)
  ·have HE := Lib.hid (show m / Nat.gcd z.natAbs m = (if (mkRat z m).den = 1 then 0 else (mkRat z m).den) by rw [HQ.out.2]; rw [if_neg hD])
   obtain ⟨e2, e3⟩ := O0 hD; clear hD; go_enter Tryz.func66, Tryz.ntmps66
   go_wp2_with (first
     | (go_at_call 104; refine Ae (L7 (by omega)) ?_; intros)
     | (go_at_call 73; refine Ae (Jf) ?_; intros)
     | (go_at_call 105; refine Aa (Je) ?_; intros)
     | (go_at_call 106; refine M3 (K1 (by omega) (by assumption)) ?_; intros)
     | (go_at_call 99; refine Ce (Db) ?_; intros))
   refine Ac rfl Tryz.underlying30 rfl (by kernel_rfl) rfl rfl rfl ?_; exact Ei.fin (hx := CQ.mk' (k := max k1 k2 + 2) HN.out HE.out (by omega) (by omega)) rfl (by omega)
variable {x : Rat}
theorem Ea [h1 : CQ w (.agg #[.bool g1, .slice a1 l1 c1, .slice aa1 ll1 cc1]) x k1] :
  Calls Tryz.prog 34 #[.agg #[.bool g1, .slice a1 l1 c1, .slice aa1 ll1 cc1]] w (Cm w x.den (k1 + 1)) := by
 have hd := h1.den
 have hl := hd.out.len
 by_cases hx : x.den = 1
 ·rw [if_pos hx] at hl; obtain rfl : ll1 = 0 := hl; have HE := Lib.hid hx; clear hd hx; go_enter Tryz.func34, Tryz.ntmps34
  go_wp2_with (first
  | (go_at_call 73; refine Ae (Jf) ?_; intros))
  go_ret; exact Cm.fin HE.out.symm (by omega)
 ·rw [if_neg hx] at hl hd
  have hl0 : 0 < ll1 := by rw [hl]; exact Bw x.den_nz
  clear hl hx; go_enter Tryz.func34, Tryz.ntmps34
  go_wp2_with (first
  | (go_at_call 73; refine Ae (Jf) ?_; intros))
  go_ret; exact Cm.fin rfl (by omega)
theorem Fj (b : -9223372036854775808 ≤ n ∧ n < 9223372036854775808) : Calls Tryz.prog 21 #[.int .i64 n] w (Ei w (n : Rat) 2) := by
 go_enter Tryz.func21, Tryz.ntmps21
 go_wp2_with (first
  | (go_at_call 55; refine Al (Zt (by omega)) ?_; intros))
 refine Ac rfl Tryz.underlying30 rfl (by kernel_rfl) rfl rfl rfl ?_; exact Ei.fin rfl (by omega)
theorem Wh {d : Int} (b : -9223372036854775808 ≤ n ∧ n < 9223372036854775808 ∧ 0 < d ∧ d < 9223372036854775808) : Calls Tryz.prog 56 #[.int .i64 n, .int .i64 d] w (Ei w (mkRat n d.natAbs) 4) := by
 obtain ⟨b1, b2, b3, b4⟩ := b; have hd : d.natAbs ≠ 0 := (by omega); go_enter Tryz.func56, Tryz.ntmps56
 go_wp2_with (first
  | (go_at_call 55; refine Al (Zt (by omega)) ?_; intros)
  | (go_at_call 100; refine Ae (Ph (by omega)) ?_; intros)
  | (go_at_call 66; refine A3 (H6 (by omega) (by assumption)) ?_; intros))
 refine Ac rfl Tryz.underlying30 rfl (by kernel_rfl) rfl rfl rfl ?_; exact Ei.fin rfl (by omega)
theorem Bj [h1 : CQ w (.agg #[.bool g1, .slice a1 l1 c1, .slice aa1 ll1 cc1]) x k1] (b : k1 ≤ 800000) :
  Calls Tryz.prog 13 #[.agg #[.bool g1, .slice a1 l1 c1, .slice aa1 ll1 cc1]] w (Mv w x (k1 + 1)) := by
 have i1 := h1.num
 go_enter Tryz.func13, Tryz.ntmps13; go_wp2_with fail; refine rgn [w.heap.size + 1] [] fun hH => ?_; refine tk 0 hH ?_; refine tk 1 hH ?_; refine tk 3 hH (st 2 fun K hK => ?_); go_simp; refine Al (Qdp (by omega)) ?_; intros; refine hd hK fun hH => st 4 fun K hK => ?_; go_simp; refine Ae (Ea) ?_; intros; refine hd hK fun hH => st 5 fun K hK => ?_; go_simp; refine Ae (Sm (by omega)) ?_; intros; refine hd hK fun hH => ?_; refine tk 6 hH (st 7 fun K hK => ?_); go_simp; refine hd hK fun hH => dn ?_; clear hH; go_wp2; refine Ac rfl Tryz.underlying49 rfl (by kernel_rfl) rfl rfl rfl ?_; exact Mv.fin (hx := CA.mk' rfl rfl (by omega) (by omega)) rfl (Nat.le_refl _)
def Ta (w : World) (t : Nat) (k : Nat) (e : Ending) (w' : World) : Prop := ∃ (g : Bool) (a : Option Addr) (l c : Nat) (aa : Option Addr) (ll cc : Nat) (x : Rat), e = .returned (.agg #[.bool g, .slice a l c, .slice aa ll cc]) ∧ CQ w' (.agg #[.bool g, .slice a l c, .slice aa ll cc]) x k ∧ Ct w' t ∧ Gb w w' t
variable {K : Ending → World → Prop} {P : Program} {args : Array Value} {f : FuncId}
theorem Qg1 [ht : Ct w t] (h : Calls P f args w (Ta w t k))
  (hK : ∀ w' [Tp1 w w' t] [Ct w' t] (g : Bool) (a : Option Addr) (l c : Nat) (aa : Option Addr) (ll cc : Nat) (x : Rat) [CQ w' (.agg #[.bool g, .slice a l c, .slice aa ll cc]) x k], K (.returned (.agg #[.bool g, .slice a l c, .slice aa ll cc])) w') : Calls P f args w K := by
 refine h.mono ?_
 rintro e w' ⟨g, a, l, c, aa, ll, cc, x, rfl, hx, hc, hb⟩
 exact @hK w' ⟨hb.out, ht.out⟩ hc g a l c aa ll cc x hx
def Z4 (w : World) (t : Nat) (k : Nat) (e : Ending) (w' : World) : Prop := ∃ (g : Bool) (a : Option Addr) (l c : Nat) (aa : Option Addr) (ll cc : Nat) (g2 : Bool) (a2 : Option Addr) (l2 c2 : Nat) (aa2 : Option Addr) (ll2 cc2 : Nat) (x y : Rat), e = .returned (.agg #[.bool g, .slice a l c, .slice aa ll cc, .bool g2, .slice a2 l2 c2, .slice aa2 ll2 cc2]) ∧ CQ w' (.agg #[.bool g, .slice a l c, .slice aa ll cc]) x k ∧ CQ w' (.agg #[.bool g2, .slice a2 l2 c2, .slice aa2 ll2 cc2]) y k ∧ Ct w' t ∧ Gb w w' t
theorem Qew [ht : Ct w t] (h : Calls P f args w (Z4 w t k))
  (hK : ∀ w' [Tp1 w w' t] [Ct w' t] (g : Bool) (a : Option Addr) (l c : Nat) (aa : Option Addr) (ll cc : Nat) (g2 : Bool) (a2 : Option Addr) (l2 c2 : Nat) (aa2 : Option Addr) (ll2 cc2 : Nat) (x y : Rat) [CQ w' (.agg #[.bool g, .slice a l c, .slice aa ll cc]) x k] [CQ w' (.agg #[.bool g2, .slice a2 l2 c2, .slice aa2 ll2 cc2]) y k], K (.returned (.agg #[.bool g, .slice a l c, .slice aa ll cc, .bool g2, .slice a2 l2 c2, .slice aa2 ll2 cc2])) w') : Calls P f args w K := by
 refine h.mono ?_
 rintro e w' ⟨g, a, l, c, aa, ll, cc, g2, a2, l2, c2, aa2, ll2, cc2, x, y, rfl, hx, hy, hc, hb⟩
 exact @hK w' ⟨hb.out, ht.out⟩ hc g a l c aa ll cc g2 a2 l2 c2 aa2 ll2 cc2 x y hx hy
def Xb (w : World) (t : Nat) (n : Int) (e : Ending) (w' : World) : Prop := ∃ v : Int, e = .returned (.int .i64 v) ∧ 0 ≤ v ∧ v < n ∧ Ct w' t ∧ Gb w w' t
theorem D6 [ht : Ct w t] (h : Calls P f args w (Xb w t n))
  (hK : ∀ w' [Tp1 w w' t] [Ct w' t] (v : Int), 0 ≤ v → v < n → K (.returned (.int .i64 v)) w') : Calls P f args w K := by
 refine h.mono ?_
 rintro e w' ⟨v, rfl, h0, h1, hc, hb⟩
 exact @hK w' ⟨hb.out, ht.out⟩ hc v h0 h1
theorem D5 [ht : Ct w t] (b : 0 < n ∧ n ≤ 1000000) : Calls Tryz.prog 8 #[.pointer (some ⟨t, 0, none⟩), .int .i64 n] w (Xb w t n) := by
 refine (Qah ht.out b.1 b.2).mono ?_
 rintro e w' ⟨v, rfl, h0, h1, hc, hb⟩
 exact ⟨v, rfl, h0, h1, ⟨hc⟩, ⟨hb⟩⟩
theorem Qmc (h : Calls P f args w (fun e w' => e = .returned (.pointer (some ⟨w.heap.size, 0, none⟩)) ∧ Bo w' w.heap.size ∧ Below w.heap.size w w'))
  (hK : ∀ w' [Kp1 w w'] [Ct w' w.heap.size], K (.returned (.pointer (some ⟨w.heap.size, 0, none⟩))) w') : Calls P f args w K := by
 refine h.mono ?_
 rintro e w' ⟨rfl, ht, hb⟩
 exact @hK w' ⟨hb⟩ ⟨ht⟩
theorem Qh1 [ht : Ct w t] : Calls Tryz.prog 22 #[.pointer (some ⟨t, 0, none⟩)] w (Ta w t 4) := by
 go_enter Tryz.func22, Tryz.ntmps22
 go_wp2_with (first
  | (go_at_call 8; refine D6 (D5 (by omega)) ?_; intros)
  | (go_at_call 56; refine A3 (Wh (by omega)) ?_; intros)
  | (go_at_call 21; refine A3 (Fj (by omega)) ?_; intros))
 all_goals
  refine Ac rfl Tryz.underlying30 rfl (by kernel_rfl) rfl rfl rfl ?_; exact ⟨_, _, _, _, _, _, _, _, rfl, CQ.cast ii rfl (by omega), ii, ii⟩
theorem Qc4 [ht : Ct w t] : Calls Tryz.prog 9 #[.pointer (some ⟨t, 0, none⟩)] w (Z4 w t 4) := by
 go_enter Tryz.func9, Tryz.ntmps9
 go_wp2_with (first
  | (go_at_call 22; refine Qg1 (Qh1) ?_; intros))
 refine Ac rfl Tryz.underlying40 rfl (by kernel_rfl) rfl rfl rfl ?_; exact ⟨_, _, _, _, _, _, _, _, _, _, _, _, _, _, _, _, rfl, ii, ii, ii, ii⟩
end
section
variable {w : World} {x y : Rat}
theorem CQ.len {g : Bool} {a aa : Option Addr} {l c ll cc : Nat} {k : Nat} (h : CQ w (.agg #[.bool g, .slice a l c, .slice aa ll cc]) x k) : (x.den = 1 → ll = 0) ∧ (x.den ≠ 1 → 0 < ll) := by
 have hl := h.den.out.len
 refine ⟨fun e => ?_, fun e => ?_⟩
 ·rw [if_pos e] at hl; exact hl
 ·rw [if_neg e] at hl; rw [hl]; exact Bw x.den_nz
theorem Qek (x y : Rat) : mkRat (x.num * sgn false y.den + y.num * sgn false x.den) (x.den * y.den) = x + y := by rw [Kh]; rfl
theorem Qab (x y : Rat) : mkRat (x.num * y.num) (x.den * y.den) = x * y := (Lj x y).symm
variable {a1 a2 aa1 aa2 : Option Addr} {c1 c2 cc1 cc2 k1 k2 l1 l2 ll1 ll2 : Nat} {g1 g2 : Bool}
theorem Tq [h1 : CQ w (.agg #[.bool g1, .slice a1 l1 c1, .slice aa1 ll1 cc1]) x k1] :
  Calls Tryz.prog 10 #[.agg #[.bool g1, .slice a1 l1 c1, .slice aa1 ll1 cc1]] w (fun e w' => e = .returned (.int .i64 (isgn x.num)) ∧ Below w.heap.size w w') := by
 have i1 := h1.num
 go_enter Tryz.func10, Tryz.ntmps10
 go_wp2_with (first
  | (go_at_call 25; refine Aa (Qer) ?_; intros))
 go_ret; exact E.fin rfl
theorem Qi7 [h1 : CQ w (.agg #[.bool g1, .slice a1 l1 c1, .slice aa1 ll1 cc1]) x k1] :
  Calls Tryz.prog 64 #[.agg #[.bool g1, .slice a1 l1 c1, .slice aa1 ll1 cc1]] w (Ei w (-x) k1) := by
 have i1 := h1.num
 have i2 := h1.den
 go_enter Tryz.func64, Tryz.ntmps64; go_wp2_with fail; refine rgn [w.heap.size + 1] [] fun hH => ?_; refine tk 0 hH ?_; refine tk 1 hH ?_; refine tk 3 hH ?_; refine tk 4 hH (st 2 fun K hK => ?_); go_simp; refine Al (Qcj) ?_; intros; refine hd hK fun hH => ?_; refine tk 5 hH (st 6 fun K hK => ?_); go_simp; refine hd hK fun hH => dn ?_; clear hH; go_wp2; refine Ac rfl Tryz.underlying30 rfl (by kernel_rfl) rfl rfl rfl ?_; exact Ei.fin (hx := CQ.mk' (k := k1) (Rat.neg_num x).symm (by rw [Rat.neg_den]) (Nat.le_refl _) (Nat.le_refl _)) rfl (Nat.le_refl _)
theorem Np [h1 : CQ w (.agg #[.bool g1, .slice a1 l1 c1, .slice aa1 ll1 cc1]) x k1] [h2 : CQ w (.agg #[.bool g2, .slice a2 l2 c2, .slice aa2 ll2 cc2]) y k2] (b : k1 ≤ 40000 ∧ k2 ≤ 40000) :
  Calls Tryz.prog 63 #[.agg #[.bool g1, .slice a1 l1 c1, .slice aa1 ll1 cc1], .agg #[.bool g2, .slice a2 l2 c2, .slice aa2 ll2 cc2]] w (Ei w (x + y) (k1 + k2 + 4)) := by
 have i1 := h1.num
 have i2 := h2.num
 obtain ⟨p1, p2⟩ := h1.len; obtain ⟨p3, p4⟩ := h2.len
 have hm : x.den * y.den ≠ 0 := Nat.mul_ne_zero x.den_nz y.den_nz
 have HE := Lib.hid (Qek x y)
 by_cases hx : x.den = 1
 ·have l1 := p1 hx
  clear p1 p2
  by_cases hy : y.den = 1
  ·have l2 := p3 hy
   clear p3 p4; have HF := Lib.hid (Xt (x := x) (y := y) hx hy)
   subst l1 l2
   clear hx hy; go_enter Tryz.func63, Tryz.ntmps63
   go_wp2_with (first
  | (go_at_call 102; refine Al (Ns (by omega)) ?_; intros))
   refine Ac rfl Tryz.underlying30 rfl (by kernel_rfl) rfl rfl rfl ?_; exact Ei.fin (by exact HF.out.symm) (by omega)
  ·have l2 := p4 hy
   clear p3 p4; subst l1; clear hx hy; go_enter Tryz.func63, Tryz.ntmps63; go_wp2_with fail; refine rgn [w.heap.size + 1 + 1] [] fun hH => ?_; refine tk 0 hH ?_; refine tk 1 hH ?_; refine tk 2 hH ?_; refine tk 6 hH ?_; refine tk 7 hH ?_; refine tk 8 hH ?_; refine tk 13 hH ?_; refine tk 15 hH (st 3 fun K hK => ?_); go_simp; refine Ae (Ea) ?_; intros; refine hd hK fun hH => st 4 fun K hK => ?_; go_simp; refine Ce (Db) ?_; intros; refine hd hK fun hH => st 5 fun K hK => ?_; go_simp; refine Al (Hf (by omega)) ?_; intros; refine hd hK fun hH => st 9 fun K hK => ?_; go_simp; refine Ae (Ea) ?_; intros; refine hd hK fun hH => st 10 fun K hK => ?_; go_simp; refine Ce (Db) ?_; intros; refine hd hK fun hH => st 11 fun K hK => ?_; go_simp; refine Al (Hf (by omega)) ?_; intros; refine hd hK fun hH => st 12 fun K hK => ?_; go_simp; refine Al (Ns (by omega)) ?_; intros; refine hd hK fun hH => st 14 fun K hK => ?_; go_simp; refine Ae (Ea) ?_; intros; refine hd hK fun hH => st 16 fun K hK => ?_; go_simp; refine Ae (Ea) ?_; intros; refine hd hK fun hH => st 17 fun K hK => ?_; go_simp; refine Ae (Km (by omega)) ?_; intros; refine hd hK fun hH => st 18 fun K hK => ?_; go_simp; refine A3 (H6 (by omega) hm) ?_; intros; refine hd hK fun hH => st 19 fun K hK => ?_; go_simp; refine hd hK fun hH => dn ?_; clear hH; go_wp2; refine Ac rfl Tryz.underlying30 rfl (by kernel_rfl) rfl rfl rfl ?_; exact Ei.fin HE.out (by omega)
 ·have l1 := p2 hx
  clear p1 p2 p3 p4 hx; go_enter Tryz.func63, Tryz.ntmps63; go_wp2_with fail; refine rgn [w.heap.size + 1 + 1] [] fun hH => ?_; refine tk 0 hH ?_; refine tk 1 hH ?_; refine tk 2 hH ?_; refine tk 6 hH ?_; refine tk 7 hH ?_; refine tk 8 hH ?_; refine tk 13 hH ?_; refine tk 15 hH (st 3 fun K hK => ?_); go_simp; refine Ae (Ea) ?_; intros; refine hd hK fun hH => st 4 fun K hK => ?_; go_simp; refine Ce (Db) ?_; intros; refine hd hK fun hH => st 5 fun K hK => ?_; go_simp; refine Al (Hf (by omega)) ?_; intros; refine hd hK fun hH => st 9 fun K hK => ?_; go_simp; refine Ae (Ea) ?_; intros; refine hd hK fun hH => st 10 fun K hK => ?_; go_simp; refine Ce (Db) ?_; intros; refine hd hK fun hH => st 11 fun K hK => ?_; go_simp; refine Al (Hf (by omega)) ?_; intros; refine hd hK fun hH => st 12 fun K hK => ?_; go_simp; refine Al (Ns (by omega)) ?_; intros; refine hd hK fun hH => st 14 fun K hK => ?_; go_simp; refine Ae (Ea) ?_; intros; refine hd hK fun hH => st 16 fun K hK => ?_; go_simp; refine Ae (Ea) ?_; intros; refine hd hK fun hH => st 17 fun K hK => ?_; go_simp; refine Ae (Km (by omega)) ?_; intros; refine hd hK fun hH => st 18 fun K hK => ?_; go_simp; refine A3 (H6 (by omega) hm) ?_; intros; refine hd hK fun hH => st 19 fun K hK => ?_; go_simp; refine hd hK fun hH => dn ?_; clear hH; go_wp2; refine Ac rfl Tryz.underlying30 rfl (by kernel_rfl) rfl rfl rfl ?_; exact Ei.fin HE.out (by omega)
theorem Ip [h1 : CQ w (.agg #[.bool g1, .slice a1 l1 c1, .slice aa1 ll1 cc1]) x k1] [h2 : CQ w (.agg #[.bool g2, .slice a2 l2 c2, .slice aa2 ll2 cc2]) y k2] (b : k1 ≤ 40000 ∧ k2 ≤ 40000) :
  Calls Tryz.prog 27 #[.agg #[.bool g1, .slice a1 l1 c1, .slice aa1 ll1 cc1], .agg #[.bool g2, .slice a2 l2 c2, .slice aa2 ll2 cc2]] w (Ei w (x * y) (k1 + k2 + 4)) := by
 have i1 := h1.num
 have i2 := h2.num
 obtain ⟨p1, p2⟩ := h1.len; obtain ⟨p3, p4⟩ := h2.len
 have hm : x.den * y.den ≠ 0 := Nat.mul_ne_zero x.den_nz y.den_nz
 have HE := Lib.hid (Qab x y)
 by_cases hx : x.den = 1
 ·have l1 := p1 hx
  clear p1 p2
  by_cases hy : y.den = 1
  ·have l2 := p3 hy
   clear p3 p4; have HF := Lib.hid (Qhu (x := x) (y := y) hx hy)
   subst l1 l2
   clear hx hy; go_enter Tryz.func27, Tryz.ntmps27
   go_wp2_with (first
  | (go_at_call 65; refine Al (Hf (by omega)) ?_; intros))
   refine Ac rfl Tryz.underlying30 rfl (by kernel_rfl) rfl rfl rfl ?_; exact Ei.fin (by exact HF.out.symm) (by omega)
  ·have l2 := p4 hy
   clear p3 p4; subst l1; clear hx hy; go_enter Tryz.func27, Tryz.ntmps27; go_wp2_with fail; refine rgn [w.heap.size + 1 + 1] [] fun hH => ?_; refine tk 0 hH ?_; refine tk 1 hH ?_; refine tk 2 hH ?_; refine tk 3 hH ?_; refine tk 5 hH ?_; refine tk 7 hH (st 4 fun K hK => ?_); go_simp; refine Al (Hf (by omega)) ?_; intros; refine hd hK fun hH => st 6 fun K hK => ?_; go_simp; refine Ae (Ea) ?_; intros; refine hd hK fun hH => st 8 fun K hK => ?_; go_simp; refine Ae (Ea) ?_; intros; refine hd hK fun hH => st 9 fun K hK => ?_; go_simp; refine Ae (Km (by omega)) ?_; intros; refine hd hK fun hH => st 10 fun K hK => ?_; go_simp; refine A3 (H6 (by omega) hm) ?_; intros; refine hd hK fun hH => st 11 fun K hK => ?_; go_simp; refine hd hK fun hH => dn ?_; clear hH; go_wp2; refine Ac rfl Tryz.underlying30 rfl (by kernel_rfl) rfl rfl rfl ?_; exact Ei.fin HE.out (by omega)
 ·have l1 := p2 hx
  clear p1 p2 p3 p4 hx; go_enter Tryz.func27, Tryz.ntmps27; go_wp2_with fail; refine rgn [w.heap.size + 1 + 1] [] fun hH => ?_; refine tk 0 hH ?_; refine tk 1 hH ?_; refine tk 2 hH ?_; refine tk 3 hH ?_; refine tk 5 hH ?_; refine tk 7 hH (st 4 fun K hK => ?_); go_simp; refine Al (Hf (by omega)) ?_; intros; refine hd hK fun hH => st 6 fun K hK => ?_; go_simp; refine Ae (Ea) ?_; intros; refine hd hK fun hH => st 8 fun K hK => ?_; go_simp; refine Ae (Ea) ?_; intros; refine hd hK fun hH => st 9 fun K hK => ?_; go_simp; refine Ae (Km (by omega)) ?_; intros; refine hd hK fun hH => st 10 fun K hK => ?_; go_simp; refine A3 (H6 (by omega) hm) ?_; intros; refine hd hK fun hH => st 11 fun K hK => ?_; go_simp; refine hd hK fun hH => dn ?_; clear hH; go_wp2; refine Ac rfl Tryz.underlying30 rfl (by kernel_rfl) rfl rfl rfl ?_; exact Ei.fin HE.out (by omega)
theorem Nr [h1 : CQ w (.agg #[.bool g1, .slice a1 l1 c1, .slice aa1 ll1 cc1]) x k1] [h2 : CQ w (.agg #[.bool g2, .slice a2 l2 c2, .slice aa2 ll2 cc2]) y k2] (b : k1 ≤ 40000 ∧ k2 ≤ 40000) :
  Calls Tryz.prog 26 #[.agg #[.bool g1, .slice a1 l1 c1, .slice aa1 ll1 cc1], .agg #[.bool g2, .slice a2 l2 c2, .slice aa2 ll2 cc2]] w (Ei w (x - y) (k1 + k2 + 4)) := by
 have HE := Lib.hid (Rat.sub_eq_add_neg x y); go_enter Tryz.func26, Tryz.ntmps26; go_wp2_with fail; refine rgn [w.heap.size + 1 + 1] [] fun hH => ?_; refine tk 0 hH ?_; refine tk 1 hH (st 2 fun K hK => ?_); go_simp; refine A3 (Qi7) ?_; intros; refine hd hK fun hH => st 3 fun K hK => ?_; go_simp; refine A3 (Np (by omega)) ?_; intros; refine hd hK fun hH => st 4 fun K hK => ?_; go_simp; refine hd hK fun hH => dn ?_; clear hH; go_wp2; refine Ac rfl Tryz.underlying30 rfl (by kernel_rfl) rfl rfl rfl ?_; exact Ei.fin HE.out.symm (by omega)
theorem Ou [h1 : CQ w (.agg #[.bool g1, .slice a1 l1 c1, .slice aa1 ll1 cc1]) x k1] [h2 : CQ w (.agg #[.bool g2, .slice a2 l2 c2, .slice aa2 ll2 cc2]) y k2] (b : k1 ≤ 40000 ∧ k2 ≤ 40000) :
  Calls Tryz.prog 30 #[.agg #[.bool g1, .slice a1 l1 c1, .slice aa1 ll1 cc1], .agg #[.bool g2, .slice a2 l2 c2, .slice aa2 ll2 cc2]] w (fun e w' => e = .returned (.int .i64 (isgn (x - y).num)) ∧ Below w.heap.size w w') := by
 go_enter Tryz.func30, Tryz.ntmps30
 go_wp2_with (first
  | (go_at_call 26; refine A3 (Nr (by omega)) ?_; intros)
  | (go_at_call 10; refine Aa (Tq) ?_; intros))
 go_ret; exact E.fin rfl
theorem Qin [h1 : CW w (.agg #[.bool g1, .slice a1 l1 c1, .slice aa1 ll1 cc1]) x k1] (b : k1 ≤ 90000) :
  Calls Tryz.prog 31 #[.agg #[.bool g1, .slice a1 l1 c1, .slice aa1 ll1 cc1]] w (Ei w x (k1 + 2)) := by
 obtain ⟨z, m, rfl, i1, i2⟩ := CW.parts h1
 by_cases hm : m = 0
 ·subst hm; rw [Rat.mkRat_zero]; go_enter Tryz.func31, Tryz.ntmps31; go_wp2_with fail
  refine Ae (Nl (by omega)) ?_
  intro W1 _ a3 l3 c3 i3
  have hl : l3 = 0 := i3.out.len
  subst hl; go_wp2; refine Ac rfl Tryz.underlying30 rfl (by kernel_rfl) rfl rfl rfl ?_; exact Ei.fin (hx := CQ.mk' (z := 0) (n := 0) (k := k1 + 2) (by simp) (by simp) (by omega) (by omega)) rfl (by omega)
 ·go_enter Tryz.func31, Tryz.ntmps31; go_wp2_with fail
  refine Ae (Nl (by omega)) ?_
  intro W1 _ a3 l3 c3 i3
  have hl := i3.out.len
  have hl0 : 0 < l3 := by rw [hl]; exact Bw hm
  clear hl
  go_wp2_with (first
  | (go_at_call 72; refine Al (Qh3 (by omega)) ?_; intros)
  | (go_at_call 66; refine A3 (H6 (by omega) hm) ?_; intros))
  refine Ac rfl Tryz.underlying30 rfl (by kernel_rfl) rfl rfl rfl ?_; exact Ei.fin rfl (by omega)
end
end Go.Proofs.YtpnpnlmlamfpmaaGreatDoor
