/-
  Texts of this claim, joined: QLn5, QLn6.
-/
import Derived.Test.YtlameeijogdckaaGreatQM
/- Lines through points: package line and the reference; lines off the tape. printed by a small program (mkln5.py). -/
namespace Go.Proofs.YtlameeijogdckaaGreat
open Go.RowKit
set_option linter.unusedVariables false

def phiQ (x : Rat) (k : Nat) (v : Value) (W : World) : Prop := ∃ g a l c aa ll cc, v = .agg #[.bool g, .slice a l c, .slice aa ll cc] ∧ CQ W (.agg #[.bool g, .slice a l c, .slice aa ll cc]) x k
instance {x : Rat} {k : Nat} : Last (phiQ x k) := ⟨fun _ _ _ hb ⟨g, a, l, c, aa, ll, cc, e, _⟩ => have := Kp1.mk hb; ⟨g, a, l, c, aa, ll, cc, e, inferInstance⟩⟩
theorem phiQ.fin {x x' : Rat} {k k' : Nat} {g : Bool} {a aa : Option Addr} {l c ll cc : Nat} {W : World} [h : CQ W (.agg #[.bool g, .slice a l c, .slice aa ll cc]) x' k'] (e : x' = x) (b : k' ≤ k) : phiQ x k (.agg #[.bool g, .slice a l c, .slice aa ll cc]) W := ⟨g, a, l, c, aa, ll, cc, rfl, h.cast e b⟩
/-- The coefficients of the line through two points, not yet in lowest terms. -/
abbrev thA (y1 y2 : Rat) : Rat := -(y2 - y1)
abbrev thC (x1 y1 x2 y2 : Rat) : Rat := -(-(y2 - y1) * x1 + (x2 - x1) * y1)
theorem lnV_num {a b : Rat} (c : Rat) (h : ¬ (a = 0 ∧ b = 0)) : LnV (lnK a a b c).num (lnK b a b c).num (lnK c a b c).num := by
  obtain ⟨A, B, C, h1, h2, h3, h4⟩ := lnK_valid (c := c) h
  rw [← h1, ← h2, ← h3]
  exact h4
theorem thr_num {a b c : Rat} (h : ¬ (a = 0 ∧ b = 0)) {M : Int} (hm : M = ((a.den * b.den * c.den : Nat) : Int)) : ¬ ((a * ((M : Int) : Rat)).num = 0 ∧ (b * ((M : Int) : Rat)).num = 0) ∧
    (a * ((M : Int) : Rat)).num / ((gcd3 (a * ((M : Int) : Rat)).num (b * ((M : Int) : Rat)).num (c * ((M : Int) : Rat)).num : Nat) : Int) = (lnK a a b c).num ∧
    (b * ((M : Int) : Rat)).num / ((gcd3 (a * ((M : Int) : Rat)).num (b * ((M : Int) : Rat)).num (c * ((M : Int) : Rat)).num : Nat) : Int) = (lnK b a b c).num ∧
    (c * ((M : Int) : Rat)).num / ((gcd3 (a * ((M : Int) : Rat)).num (b * ((M : Int) : Rat)).num (c * ((M : Int) : Rat)).num : Nat) : Int) = (lnK c a b c).num := by
  subst hm
  have hm : (0 : Rat) < (((a.den * b.den * c.den : Nat) : Int) : Rat) := by
    have : 0 < a.den * b.den * c.den := Nat.mul_pos (Nat.mul_pos a.den_pos b.den_pos) c.den_pos
    exact Rat.intCast_pos.2 (by omega)
  have ha := mulD_int a (m := a.den * b.den * c.den) ⟨b.den * c.den, by rw [Nat.mul_assoc]⟩
  have hb := mulD_int b (m := a.den * b.den * c.den) ⟨a.den * c.den, by rw [Nat.mul_comm a.den b.den, Nat.mul_assoc]⟩
  have hc := mulD_int c (m := a.den * b.den * c.den) ⟨a.den * b.den, by rw [Nat.mul_comm]⟩
  generalize (((a.den * b.den * c.den : Nat) : Int) : Rat) = m at *
  generalize (a * m).num = x at *
  generalize (b * m).num = y at *
  generalize (c * m).num = z at *
  have hxy : ¬ (x = 0 ∧ y = 0) := by
    rintro ⟨rfl, rfl⟩
    refine h ⟨?_, ?_⟩
    · rcases Rat.mul_eq_zero.1 (ha.trans rfl) with e | e
      · exact e
      · rw [e] at hm; exact absurd hm (by decide)
    · rcases Rat.mul_eq_zero.1 (hb.trans rfl) with e | e
      · exact e
      · rw [e] at hm; exact absurd hm (by decide)
  have hd := gcd3_dvd x y z
  refine ⟨hxy, ?_, ?_, ?_⟩
  · rw [← lnK_mul a a b c hm, ha, hb, hc, lnK_int hxy hd.1]; rfl
  · rw [← lnK_mul b a b c hm, ha, hb, hc, lnK_int hxy hd.2.1]; rfl
  · rw [← lnK_mul c a b c hm, ha, hb, hc, lnK_int hxy hd.2.2]; rfl
theorem Calls.cNpos {P : Program} {f : FuncId} {args : Array Value} {w : World} {n k : Nat} {K : Ending → World → Prop} (h : Calls P f args w (CNRet w n k)) (hn : n ≠ 0)
    (hK : ∀ w' [Kp1 w w'] (a : Option Addr) (l c : Nat) [CN w' (.slice a l c) n k], ((l : Int) == 0) = false → K (.returned (.slice a l c)) w') : Calls P f args w K := by
  refine h.mono ?_
  rintro e w' ⟨a, l, c, rfl, hx, hb⟩
  refine @hK w' ⟨hb⟩ a l c hx ?_
  rw [beq_eq_false_iff_ne, hx.out.len]
  have := nf_len_pos hn
  omega
theorem gcd3_nat (a b c : Int) : gcd3 a b c ∣ a.natAbs ∧ gcd3 a b c ∣ b.natAbs ∧ gcd3 a b c ∣ c.natAbs :=
  ⟨Nat.dvd_trans (Nat.gcd_dvd_left _ _) (Nat.gcd_dvd_left _ _), Nat.dvd_trans (Nat.gcd_dvd_left _ _) (Nat.gcd_dvd_right _ _), Nat.gcd_dvd_right _ _⟩
set_option maxRecDepth 100000 in
set_option maxHeartbeats 4000000 in
set_option synthInstance.maxSize 100000 in
set_option synthInstance.maxHeartbeats 1000000 in
theorem writeOk {w : World} {n1x : Int} {d1x : Int} {p1x : Option Addr} {n1y : Int} {d1y : Int} {p1y : Option Addr} {n1z : Int} {d1z : Int} {p1z : Option Addr} {la lb lc : Rat} {k1x k1y k1z : Nat} [h1x : CF w (.agg #[.int .i64 n1x, .int .i64 d1x, .pointer p1x]) la k1x] [h1y : CF w (.agg #[.int .i64 n1y, .int .i64 d1y, .pointer p1y]) lb k1y] [h1z : CF w (.agg #[.int .i64 n1z, .int .i64 d1z, .pointer p1z]) lc k1z] (b : k1x ≤ 200000 ∧ k1y ≤ 200000 ∧ k1z ≤ 200000) :
    Calls Tryz.prog 97 #[.agg #[.int .i64 n1x, .int .i64 d1x, .pointer p1x, .int .i64 n1y, .int .i64 d1y, .pointer p1y, .int .i64 n1z, .int .i64 d1z, .pointer p1z], .bool true] w (LZBRet w la.num lb.num lc.num true (max k1x (max k1y k1z))) := by
  go_enter Tryz.func97, Tryz.ntmps97
  go_wp2_with (first
    | (go_at_call 154; (with_reducible refine Calls.cLZ (lnApiC (by omega)) ?_); intros))
  refine ret_bt rfl Tryz.underlying51 rfl (by kernel_rfl) rfl rfl rfl ?_
  exact LZBRet.fin rfl (by omega) rfl (by omega) rfl (by omega)

set_option maxRecDepth 100000 in
set_option maxHeartbeats 4000000 in
set_option synthInstance.maxSize 100000 in
set_option synthInstance.maxHeartbeats 1000000 in
theorem gThroughOk {w : World} {n1x : Int} {d1x : Int} {p1x : Option Addr} {n1y : Int} {d1y : Int} {p1y : Option Addr} {x1 y1 : Rat} {n2x : Int} {d2x : Int} {p2x : Option Addr} {n2y : Int} {d2y : Int} {p2y : Option Addr} {x2 y2 : Rat} {k1x k1y k2x k2y : Nat} [h1x : CF w (.agg #[.int .i64 n1x, .int .i64 d1x, .pointer p1x]) x1 k1x] [h1y : CF w (.agg #[.int .i64 n1y, .int .i64 d1y, .pointer p1y]) y1 k1y] [h2x : CF w (.agg #[.int .i64 n2x, .int .i64 d2x, .pointer p2x]) x2 k2x] [h2y : CF w (.agg #[.int .i64 n2y, .int .i64 d2y, .pointer p2y]) y2 k2y] (b : k1x ≤ 300 ∧ k1y ≤ 300 ∧ k2x ≤ 300 ∧ k2y ≤ 300) (h0 : Hid (¬ (thA y1 y2 = 0 ∧ x2 - x1 = 0))) :
    Calls Tryz.prog 105 #[.agg #[.int .i64 n1x, .int .i64 d1x, .pointer p1x, .int .i64 n1y, .int .i64 d1y, .pointer p1y], .agg #[.int .i64 n2x, .int .i64 d2x, .pointer p2x, .int .i64 n2y, .int .i64 d2y, .pointer p2y]] w (LFBRet w (lnK (thA y1 y2) (thA y1 y2) (x2 - x1) (thC x1 y1 x2 y2)) (lnK (x2 - x1) (thA y1 y2) (x2 - x1) (thC x1 y1 x2 y2)) (lnK (thC x1 y1 x2 y2) (thA y1 y2) (x2 - x1) (thC x1 y1 x2 y2)) true (20 * (k1x + k1y + k2x + k2y) + 200)) := by
  go_enter Tryz.func105, Tryz.ntmps105
  go_wp2_with (first
    | (go_at_call 182; (with_reducible refine Calls.cPF (ptSubC (by omega)) ?_); intros)
    | (go_at_call 183; (with_reducible refine Calls.cPF (turnC (by omega)) ?_); intros))
  refine region_cls (by kernel_rfl) [w.heap.size + 1 + 1] (fun hHeld => ?_)
  refine wpAnyH_take (i := 0) (v := ?z544) (by simp; rfl) (by kernel_rfl) (by kernel_rfl) (by kernel_rfl) (by exact fun _ _ _ h => h) (Or.inl ⟨by rfl, ?yz544⟩) hHeld ?_
  case yz544 => (intro wx hSw; have hSx := Ex1.mk hSw; go_simp; (try with_reducible rfl))
  try simp only [Act.put, List.setIfInBounds_toArray, List.set_cons_zero, List.set_cons_succ]
  refine wpAnyH_take (i := 1) (v := ?z545) (by simp; rfl) (by kernel_rfl) (by kernel_rfl) (by kernel_rfl) (by exact fun _ _ _ h => h) (Or.inl ⟨by rfl, ?yz545⟩) hHeld ?_
  case yz545 => (intro wx hSw; have hSx := Ex1.mk hSw; go_simp; (try with_reducible rfl))
  try simp only [Act.put, List.setIfInBounds_toArray, List.set_cons_zero, List.set_cons_succ]
  refine wpAnyH_take (i := 2) (v := ?z546) (by simp; rfl) (by kernel_rfl) (by kernel_rfl) (by kernel_rfl) (by exact fun _ _ _ h => h) (Or.inl ⟨by rfl, ?yz546⟩) hHeld ?_
  case yz546 => (intro wx hSw; have hSx := Ex1.mk hSw; go_simp; (try with_reducible rfl))
  try simp only [Act.put, List.setIfInBounds_toArray, List.set_cons_zero, List.set_cons_succ]
  refine wpAnyH_take (i := 3) (v := ?z547) (by simp; rfl) (by kernel_rfl) (by kernel_rfl) (by kernel_rfl) (by exact fun _ _ _ h => h) (Or.inl ⟨by rfl, ?yz547⟩) hHeld ?_
  case yz547 => (intro wx hSw; have hSx := Ex1.mk hSw; go_simp; (try with_reducible rfl))
  try simp only [Act.put, List.setIfInBounds_toArray, List.set_cons_zero, List.set_cons_succ]
  refine wpAnyH_take (i := 4) (v := ?z548) (by simp; rfl) (by kernel_rfl) (by kernel_rfl) (by kernel_rfl) (by exact fun _ _ _ h => h) (Or.inl ⟨by rfl, ?yz548⟩) hHeld ?_
  case yz548 => (intro wx hSw; have hSx := Ex1.mk hSw; go_simp; (try with_reducible rfl))
  try simp only [Act.put, List.setIfInBounds_toArray, List.set_cons_zero, List.set_cons_succ]
  refine wpAnyH_take (i := 5) (v := ?z549) (by simp; rfl) (by kernel_rfl) (by kernel_rfl) (by kernel_rfl) (by exact fun _ _ _ h => h) (Or.inl ⟨by rfl, ?yz549⟩) hHeld ?_
  case yz549 => (intro wx hSw; have hSx := Ex1.mk hSw; go_simp; (try with_reducible rfl))
  try simp only [Act.put, List.setIfInBounds_toArray, List.set_cons_zero, List.set_cons_succ]
  refine wpAnyH_ready (rs := [6]) (by kernel_rfl) (by simp) ?_
  refine AllReadyH.cons (by simp; rfl) (fun K hK => ?_) AllReadyH.nil
  go_simp
  (go_at_call 184; (with_reducible refine Calls.cF (gDotC (by omega)) ?_); intros)
  refine hK.out _ _ inferInstance ?_
  clear hHeld hK K
  intro hHeld
  try simp only [Act.put, List.setIfInBounds_toArray, List.set_cons_zero, List.set_cons_succ]
  refine wpAnyH_ready (rs := [7]) (by kernel_rfl) (by simp) ?_
  refine AllReadyH.cons (by simp; rfl) (fun K hK => ?_) AllReadyH.nil
  go_simp
  (go_at_call 185; (with_reducible refine Calls.cF (rNegC (by omega)) ?_); intros)
  refine hK.out _ _ inferInstance ?_
  clear hHeld hK K
  intro hHeld
  try simp only [Act.put, List.setIfInBounds_toArray, List.set_cons_zero, List.set_cons_succ]
  refine wpAnyH_ready (rs := [8]) (by kernel_rfl) (by simp) ?_
  refine AllReadyH.cons (by simp; rfl) (fun K hK => ?_) AllReadyH.nil
  go_simp
  (go_at_call 98; (with_reducible refine Calls.cLFB (makeOk (by omega) h0) ?_); intros)
  refine hK.out _ _ inferInstance ?_
  clear hHeld hK K
  intro hHeld
  try simp only [Act.put, List.setIfInBounds_toArray, List.set_cons_zero, List.set_cons_succ]
  refine wpAnyH_take (i := 9) (v := ?z550) (by simp; rfl) (by kernel_rfl) (by kernel_rfl) (by kernel_rfl) (by exact fun _ _ _ h => h) (Or.inl ⟨by rfl, ?yz550⟩) hHeld ?_
  case yz550 => (intro wx hSw; have hSx := Ex1.mk hSw; go_simp; (try with_reducible rfl))
  try simp only [Act.put, List.setIfInBounds_toArray, List.set_cons_zero, List.set_cons_succ]
  refine wpAnyH_take (i := 10) (v := ?z551) (by simp; rfl) (by kernel_rfl) (by kernel_rfl) (by kernel_rfl) (by exact fun _ _ _ h => h) (Or.inl ⟨by rfl, ?yz551⟩) hHeld ?_
  case yz551 => (intro wx hSw; have hSx := Ex1.mk hSw; go_simp; (try with_reducible rfl))
  try simp only [Act.put, List.setIfInBounds_toArray, List.set_cons_zero, List.set_cons_succ]
  refine wpAnyH_ready (rs := [11]) (by kernel_rfl) (by simp) ?_
  refine AllReadyH.cons (by simp; rfl) (fun K hK => ?_) AllReadyH.nil
  go_simp
  refine hK.out _ _ inferInstance ?_
  clear hHeld hK K
  intro hHeld
  try simp only [Act.put, List.setIfInBounds_toArray, List.set_cons_zero, List.set_cons_succ]
  refine wpAnyH_take (i := 12) (v := ?z552) (by simp; rfl) (by kernel_rfl) (by kernel_rfl) (by kernel_rfl) (by exact fun _ _ _ h => h) (Or.inl ⟨by rfl, ?yz552⟩) hHeld ?_
  case yz552 => (intro wx hSw; have hSx := Ex1.mk hSw; go_simp; (try with_reducible rfl))
  try simp only [Act.put, List.setIfInBounds_toArray, List.set_cons_zero, List.set_cons_succ]
  refine wpAnyH_done (by kernel_rfl) ?_ _
  clear hHeld
  go_wp2_with fail
  refine ret_bt rfl Tryz.underlying128 rfl (by kernel_rfl) rfl rfl rfl ?_
  exact LFBRet.fin rfl (by omega) rfl (by omega) rfl (by omega)

set_option maxRecDepth 100000 in
set_option maxHeartbeats 4000000 in
set_option synthInstance.maxSize 100000 in
set_option synthInstance.maxHeartbeats 1000000 in
theorem lineThroughOk {w : World} {g1x : Bool} {a1x : Option Addr} {l1x : Nat} {c1x : Nat} {aa1x : Option Addr} {ll1x : Nat} {cc1x : Nat} {g1y : Bool} {a1y : Option Addr} {l1y : Nat} {c1y : Nat} {aa1y : Option Addr} {ll1y : Nat} {cc1y : Nat} {x1 y1 : Rat} {g2x : Bool} {a2x : Option Addr} {l2x : Nat} {c2x : Nat} {aa2x : Option Addr} {ll2x : Nat} {cc2x : Nat} {g2y : Bool} {a2y : Option Addr} {l2y : Nat} {c2y : Nat} {aa2y : Option Addr} {ll2y : Nat} {cc2y : Nat} {x2 y2 : Rat} {k1x k1y k2x k2y : Nat} [h1x : CW w (.agg #[.bool g1x, .slice a1x l1x c1x, .slice aa1x ll1x cc1x]) x1 k1x] [h1y : CW w (.agg #[.bool g1y, .slice a1y l1y c1y, .slice aa1y ll1y cc1y]) y1 k1y] [h2x : CW w (.agg #[.bool g2x, .slice a2x l2x c2x, .slice aa2x ll2x cc2x]) x2 k2x] [h2y : CW w (.agg #[.bool g2y, .slice a2y l2y c2y, .slice aa2y ll2y cc2y]) y2 k2y] (b : k1x ≤ 200 ∧ k1y ≤ 200 ∧ k2x ≤ 200 ∧ k2y ≤ 200) (h0 : Hid (¬ (thA y1 y2 = 0 ∧ x2 - x1 = 0))) :
    Calls Tryz.prog 32 #[.agg #[.bool g1x, .slice a1x l1x c1x, .slice aa1x ll1x cc1x, .bool g1y, .slice a1y l1y c1y, .slice aa1y ll1y cc1y], .agg #[.bool g2x, .slice a2x l2x c2x, .slice aa2x ll2x cc2x, .bool g2y, .slice a2y l2y c2y, .slice aa2y ll2y cc2y]] w (LZBRet w ((lnK (thA y1 y2) (thA y1 y2) (x2 - x1) (thC x1 y1 x2 y2))).num ((lnK (x2 - x1) (thA y1 y2) (x2 - x1) (thC x1 y1 x2 y2))).num ((lnK (thC x1 y1 x2 y2) (thA y1 y2) (x2 - x1) (thC x1 y1 x2 y2))).num true (40 * (k1x + k1y + k2x + k2y) + 600)) := by
  go_enter Tryz.func32, Tryz.ntmps32
  go_wp2_with fail
  refine region_cls (by kernel_rfl) [w.heap.size + 1 + 1] (fun hHeld => ?_)
  refine wpAnyH_take (i := 0) (v := ?z562) (by simp; rfl) (by kernel_rfl) (by kernel_rfl) (by kernel_rfl) (by exact fun _ _ _ h => h) (Or.inl ⟨by rfl, ?yz562⟩) hHeld ?_
  case yz562 => (intro wx hSw; have hSx := Ex1.mk hSw; go_simp; (try with_reducible rfl))
  try simp only [Act.put, List.setIfInBounds_toArray, List.set_cons_zero, List.set_cons_succ]
  refine wpAnyH_take (i := 2) (v := ?z563) (by simp; rfl) (by kernel_rfl) (by kernel_rfl) (by kernel_rfl) (by exact fun _ _ _ h => h) (Or.inl ⟨by rfl, ?yz563⟩) hHeld ?_
  case yz563 => (intro wx hSw; have hSx := Ex1.mk hSw; go_simp; (try with_reducible rfl))
  try simp only [Act.put, List.setIfInBounds_toArray, List.set_cons_zero, List.set_cons_succ]
  refine wpAnyH_ready (rs := [1]) (by kernel_rfl) (by simp) ?_
  refine AllReadyH.cons (by simp; rfl) (fun K hK => ?_) AllReadyH.nil
  go_simp
  (go_at_call 89; (with_reducible refine Calls.cPF (ptOfC (by omega)) ?_); intros)
  refine hK.out _ _ inferInstance ?_
  clear hHeld hK K
  intro hHeld
  try simp only [Act.put, List.setIfInBounds_toArray, List.set_cons_zero, List.set_cons_succ]
  refine wpAnyH_ready (rs := [3]) (by kernel_rfl) (by simp) ?_
  refine AllReadyH.cons (by simp; rfl) (fun K hK => ?_) AllReadyH.nil
  go_simp
  (go_at_call 89; (with_reducible refine Calls.cPF (ptOfC (by omega)) ?_); intros)
  refine hK.out _ _ inferInstance ?_
  clear hHeld hK K
  intro hHeld
  try simp only [Act.put, List.setIfInBounds_toArray, List.set_cons_zero, List.set_cons_succ]
  refine wpAnyH_ready (rs := [4]) (by kernel_rfl) (by simp) ?_
  refine AllReadyH.cons (by simp; rfl) (fun K hK => ?_) AllReadyH.nil
  go_simp
  (go_at_call 105; (with_reducible refine Calls.cLFB (gThroughOk (by omega) h0) ?_); intros)
  refine hK.out _ _ inferInstance ?_
  clear hHeld hK K
  intro hHeld
  try simp only [Act.put, List.setIfInBounds_toArray, List.set_cons_zero, List.set_cons_succ]
  refine wpAnyH_take (i := 5) (v := ?z564) (by simp; rfl) (by kernel_rfl) (by kernel_rfl) (by kernel_rfl) (by exact fun _ _ _ h => h) (Or.inl ⟨by rfl, ?yz564⟩) hHeld ?_
  case yz564 => (intro wx hSw; have hSx := Ex1.mk hSw; go_simp; (try with_reducible rfl))
  try simp only [Act.put, List.setIfInBounds_toArray, List.set_cons_zero, List.set_cons_succ]
  refine wpAnyH_take (i := 6) (v := ?z565) (by simp; rfl) (by kernel_rfl) (by kernel_rfl) (by kernel_rfl) (by exact fun _ _ _ h => h) (Or.inl ⟨by rfl, ?yz565⟩) hHeld ?_
  case yz565 => (intro wx hSw; have hSx := Ex1.mk hSw; go_simp; (try with_reducible rfl))
  try simp only [Act.put, List.setIfInBounds_toArray, List.set_cons_zero, List.set_cons_succ]
  refine wpAnyH_ready (rs := [7]) (by kernel_rfl) (by simp) ?_
  refine AllReadyH.cons (by simp; rfl) (fun K hK => ?_) AllReadyH.nil
  go_simp
  (go_at_call 97; (with_reducible refine Calls.cLZB (writeOk (by omega)) ?_); intros)
  refine hK.out _ _ inferInstance ?_
  clear hHeld hK K
  intro hHeld
  try simp only [Act.put, List.setIfInBounds_toArray, List.set_cons_zero, List.set_cons_succ]
  refine wpAnyH_take (i := 8) (v := ?z566) (by simp; rfl) (by kernel_rfl) (by kernel_rfl) (by kernel_rfl) (by exact fun _ _ _ h => h) (Or.inl ⟨by rfl, ?yz566⟩) hHeld ?_
  case yz566 => (intro wx hSw; have hSx := Ex1.mk hSw; go_simp; (try with_reducible rfl))
  try simp only [Act.put, List.setIfInBounds_toArray, List.set_cons_zero, List.set_cons_succ]
  refine wpAnyH_take (i := 9) (v := ?z567) (by simp; rfl) (by kernel_rfl) (by kernel_rfl) (by kernel_rfl) (by exact fun _ _ _ h => h) (Or.inl ⟨by rfl, ?yz567⟩) hHeld ?_
  case yz567 => (intro wx hSw; have hSx := Ex1.mk hSw; go_simp; (try with_reducible rfl))
  try simp only [Act.put, List.setIfInBounds_toArray, List.set_cons_zero, List.set_cons_succ]
  refine wpAnyH_ready (rs := [10]) (by kernel_rfl) (by simp) ?_
  refine AllReadyH.cons (by simp; rfl) (fun K hK => ?_) AllReadyH.nil
  go_simp
  refine hK.out _ _ inferInstance ?_
  clear hHeld hK K
  intro hHeld
  try simp only [Act.put, List.setIfInBounds_toArray, List.set_cons_zero, List.set_cons_succ]
  refine wpAnyH_take (i := 11) (v := ?z568) (by simp; rfl) (by kernel_rfl) (by kernel_rfl) (by kernel_rfl) (by exact fun _ _ _ h => h) (Or.inl ⟨by rfl, ?yz568⟩) hHeld ?_
  case yz568 => (intro wx hSw; have hSx := Ex1.mk hSw; go_simp; (try with_reducible rfl))
  try simp only [Act.put, List.setIfInBounds_toArray, List.set_cons_zero, List.set_cons_succ]
  refine wpAnyH_done (by kernel_rfl) ?_ _
  clear hHeld
  go_wp2_with fail
  refine ret_bt rfl Tryz.underlying51 rfl (by kernel_rfl) rfl rfl rfl ?_
  exact LZBRet.fin rfl (by omega) rfl (by omega) rfl (by omega)

set_option maxRecDepth 100000 in
set_option maxHeartbeats 4000000 in
set_option synthInstance.maxSize 100000 in
set_option synthInstance.maxHeartbeats 1000000 in
theorem validC {w : World} {g1x : Bool} {a1x : Option Addr} {l1x : Nat} {c1x : Nat} {g1y : Bool} {a1y : Option Addr} {l1y : Nat} {c1y : Nat} {g1z : Bool} {a1z : Option Addr} {l1z : Nat} {c1z : Nat} {la lb lc : Int} {k1x k1y k1z : Nat} [h1x : CZ w (.agg #[.bool g1x, .slice a1x l1x c1x]) la k1x] [h1y : CZ w (.agg #[.bool g1y, .slice a1y l1y c1y]) lb k1y] [h1z : CZ w (.agg #[.bool g1z, .slice a1z l1z c1z]) lc k1z] (b : k1x ≤ 5000 ∧ k1y ≤ 5000 ∧ k1z ≤ 5000) (hv : Hid (LnV la lb lc)) :
    Calls Tryz.prog 96 #[.agg #[.bool g1x, .slice a1x l1x c1x, .bool g1y, .slice a1y l1y c1y, .bool g1z, .slice a1z l1z c1z]] w (fun e w' => e = .returned (.bool true) ∧ Below w.heap.size w w') := by
  go_enter Tryz.func96, Tryz.ntmps96
  go_wp2_with (first
    | (go_at_call 149; (with_reducible refine Calls.cLFB (lnOfC (by omega) hv) ?_); intros))
  go_ret
  exact E.fin rfl

set_option maxRecDepth 100000 in
set_option maxHeartbeats 4000000 in
set_option synthInstance.maxSize 100000 in
set_option synthInstance.maxHeartbeats 1000000 in
theorem refMakeOk {w : World} {g1 : Bool} {a1 : Option Addr} {l1 : Nat} {c1 : Nat} {x : Int} {g2 : Bool} {a2 : Option Addr} {l2 : Nat} {c2 : Nat} {y : Int} {g3 : Bool} {a3 : Option Addr} {l3 : Nat} {c3 : Nat} {z : Int} {k1 k2 k3 : Nat} [h1 : CZ w (.agg #[.bool g1, .slice a1 l1 c1]) x k1] [h2 : CZ w (.agg #[.bool g2, .slice a2 l2 c2]) y k2] [h3 : CZ w (.agg #[.bool g3, .slice a3 l3 c3]) z k3] (b : k1 ≤ 50000 ∧ k2 ≤ 50000 ∧ k3 ≤ 50000) (h0 : Hid (¬ (x = 0 ∧ y = 0))) :
    Calls Tryz.prog 26 #[.agg #[.bool g1, .slice a1 l1 c1], .agg #[.bool g2, .slice a2 l2 c2], .agg #[.bool g3, .slice a3 l3 c3]] w (LZBRet w (x / ((gcd3 x y z : Nat) : Int)) (y / ((gcd3 x y z : Nat) : Int)) (z / ((gcd3 x y z : Nat) : Int)) true (2 * (k1 + k2 + k3) + 10)) := by
  have z1 := zz_of h1
  have z2 := zz_of h2
  have z3 := zz_of h3
  have n1 : CN w (.slice a1 l1 c1) x.natAbs k1 := ⟨z1.2⟩
  have n2 : CN w (.slice a2 l2 c2) y.natAbs k2 := ⟨z2.2⟩
  have n3 : CN w (.slice a3 l3 c3) z.natAbs k3 := ⟨z3.2⟩
  have hg : Nat.gcd x.natAbs y.natAbs ≠ 0 := by
    intro e
    obtain ⟨e1, e2⟩ := Nat.gcd_eq_zero_iff.1 e
    exact h0.out ⟨Int.natAbs_eq_zero.1 e1, Int.natAbs_eq_zero.1 e2⟩
  have hg3 : Nat.gcd (Nat.gcd x.natAbs y.natAbs) z.natAbs ≠ 0 := fun e => hg (Nat.gcd_eq_zero_iff.1 e).1
  have HS1 : Hid (sgn g1 (x.natAbs / Nat.gcd (Nat.gcd x.natAbs y.natAbs) z.natAbs) = x / ((gcd3 x y z : Nat) : Int)) := sgn_div z1.1 (gcd3_nat x y z).1
  have HS2 : Hid (sgn g2 (y.natAbs / Nat.gcd (Nat.gcd x.natAbs y.natAbs) z.natAbs) = y / ((gcd3 x y z : Nat) : Int)) := sgn_div z2.1 (gcd3_nat x y z).2.1
  have HS3 : Hid (sgn g3 (z.natAbs / Nat.gcd (Nat.gcd x.natAbs y.natAbs) z.natAbs) = z / ((gcd3 x y z : Nat) : Int)) := sgn_div z3.1 (gcd3_nat x y z).2.2
  clear z1 z2 z3
  go_enter Tryz.func26, Tryz.ntmps26
  go_wp2_with (first
    | (go_at_call 100; (with_reducible refine Calls.cNpos (commonC (m := x.natAbs) (n := y.natAbs) (by omega)) hg ?_); intros)
    | (go_at_call 100; (with_reducible refine Calls.cN (commonC (by omega)) ?_); intros)
    | (go_at_call 101; (with_reducible refine Calls.cQR (divideC (by omega) hg3) ?_); intros))
  refine region_cls (by kernel_rfl) [w.heap.size + 1 + 1 + 1] (fun hHeld => ?_)
  refine wpAnyH_take (i := 0) (v := ?z576) (by simp; rfl) (by kernel_rfl) (by kernel_rfl) (by kernel_rfl) (by exact fun _ _ _ h => h) (Or.inl ⟨by rfl, ?yz576⟩) hHeld ?_
  case yz576 => (intro wx hSw; have hSx := Ex1.mk hSw; go_simp; (try with_reducible rfl))
  try simp only [Act.put, List.setIfInBounds_toArray, List.set_cons_zero, List.set_cons_succ]
  refine wpAnyH_take (i := 1) (v := ?z577) (by simp; rfl) (by kernel_rfl) (by kernel_rfl) (by kernel_rfl) (by exact fun _ _ _ h => h) (Or.inl ⟨by rfl, ?yz577⟩) hHeld ?_
  case yz577 => (intro wx hSw; have hSx := Ex1.mk hSw; go_simp; (try with_reducible rfl))
  try simp only [Act.put, List.setIfInBounds_toArray, List.set_cons_zero, List.set_cons_succ]
  refine wpAnyH_take (i := 2) (v := ?z578) (by simp; rfl) (by kernel_rfl) (by kernel_rfl) (by kernel_rfl) (by exact fun _ _ _ h => h) (Or.inl ⟨by rfl, ?yz578⟩) hHeld ?_
  case yz578 => (intro wx hSw; have hSx := Ex1.mk hSw; go_simp; (try with_reducible rfl))
  try simp only [Act.put, List.setIfInBounds_toArray, List.set_cons_zero, List.set_cons_succ]
  refine wpAnyH_take (i := 4) (v := ?z579) (by simp; rfl) (by kernel_rfl) (by kernel_rfl) (by kernel_rfl) (by exact fun _ _ _ h => h) (Or.inl ⟨by rfl, ?yz579⟩) hHeld ?_
  case yz579 => (intro wx hSw; have hSx := Ex1.mk hSw; go_simp; (try with_reducible rfl))
  try simp only [Act.put, List.setIfInBounds_toArray, List.set_cons_zero, List.set_cons_succ]
  refine wpAnyH_take (i := 5) (v := ?z580) (by simp; rfl) (by kernel_rfl) (by kernel_rfl) (by kernel_rfl) (by exact fun _ _ _ h => h) (Or.inl ⟨by rfl, ?yz580⟩) hHeld ?_
  case yz580 => (intro wx hSw; have hSx := Ex1.mk hSw; go_simp; (try with_reducible rfl))
  try simp only [Act.put, List.setIfInBounds_toArray, List.set_cons_zero, List.set_cons_succ]
  refine wpAnyH_take (i := 6) (v := ?z581) (by simp; rfl) (by kernel_rfl) (by kernel_rfl) (by kernel_rfl) (by exact fun _ _ _ h => h) (Or.inl ⟨by rfl, ?yz581⟩) hHeld ?_
  case yz581 => (intro wx hSw; have hSx := Ex1.mk hSw; go_simp; (try with_reducible rfl))
  try simp only [Act.put, List.setIfInBounds_toArray, List.set_cons_zero, List.set_cons_succ]
  refine wpAnyH_take (i := 8) (v := ?z582) (by simp; rfl) (by kernel_rfl) (by kernel_rfl) (by kernel_rfl) (by exact fun _ _ _ h => h) (Or.inl ⟨by rfl, ?yz582⟩) hHeld ?_
  case yz582 => (intro wx hSw; have hSx := Ex1.mk hSw; go_simp; (try with_reducible rfl))
  try simp only [Act.put, List.setIfInBounds_toArray, List.set_cons_zero, List.set_cons_succ]
  refine wpAnyH_take (i := 9) (v := ?z583) (by simp; rfl) (by kernel_rfl) (by kernel_rfl) (by kernel_rfl) (by exact fun _ _ _ h => h) (Or.inl ⟨by rfl, ?yz583⟩) hHeld ?_
  case yz583 => (intro wx hSw; have hSx := Ex1.mk hSw; go_simp; (try with_reducible rfl))
  try simp only [Act.put, List.setIfInBounds_toArray, List.set_cons_zero, List.set_cons_succ]
  refine wpAnyH_take (i := 10) (v := ?z584) (by simp; rfl) (by kernel_rfl) (by kernel_rfl) (by kernel_rfl) (by exact fun _ _ _ h => h) (Or.inl ⟨by rfl, ?yz584⟩) hHeld ?_
  case yz584 => (intro wx hSw; have hSx := Ex1.mk hSw; go_simp; (try with_reducible rfl))
  try simp only [Act.put, List.setIfInBounds_toArray, List.set_cons_zero, List.set_cons_succ]
  refine wpAnyH_ready (rs := [3]) (by kernel_rfl) (by simp) ?_
  refine AllReadyH.cons (by simp; rfl) (fun K hK => ?_) AllReadyH.nil
  go_simp
  (go_at_call 102; (with_reducible refine Calls.cSg (makeC) ?_); intros)
  refine hK.out _ _ inferInstance ?_
  clear hHeld hK K
  intro hHeld
  try simp only [Act.put, List.setIfInBounds_toArray, List.set_cons_zero, List.set_cons_succ]
  refine wpAnyH_ready (rs := [7]) (by kernel_rfl) (by simp) ?_
  refine AllReadyH.cons (by simp; rfl) (fun K hK => ?_) AllReadyH.nil
  go_simp
  (go_at_call 102; (with_reducible refine Calls.cSg (makeC) ?_); intros)
  refine hK.out _ _ inferInstance ?_
  clear hHeld hK K
  intro hHeld
  try simp only [Act.put, List.setIfInBounds_toArray, List.set_cons_zero, List.set_cons_succ]
  refine wpAnyH_ready (rs := [11]) (by kernel_rfl) (by simp) ?_
  refine AllReadyH.cons (by simp; rfl) (fun K hK => ?_) AllReadyH.nil
  go_simp
  (go_at_call 102; (with_reducible refine Calls.cSg (makeC) ?_); intros)
  refine hK.out _ _ inferInstance ?_
  clear hHeld hK K
  intro hHeld
  try simp only [Act.put, List.setIfInBounds_toArray, List.set_cons_zero, List.set_cons_succ]
  refine wpAnyH_take (i := 12) (v := ?z585) (by simp; rfl) (by kernel_rfl) (by kernel_rfl) (by kernel_rfl) (by exact fun _ _ _ h => h) (Or.inl ⟨by rfl, ?yz585⟩) hHeld ?_
  case yz585 => (intro wx hSw; have hSx := Ex1.mk hSw; go_simp; (try with_reducible rfl))
  try simp only [Act.put, List.setIfInBounds_toArray, List.set_cons_zero, List.set_cons_succ]
  refine wpAnyH_ready (rs := [13]) (by kernel_rfl) (by simp) ?_
  refine AllReadyH.cons (by simp; rfl) (fun K hK => ?_) AllReadyH.nil
  go_simp
  refine hK.out _ _ inferInstance ?_
  clear hHeld hK K
  intro hHeld
  try simp only [Act.put, List.setIfInBounds_toArray, List.set_cons_zero, List.set_cons_succ]
  refine wpAnyH_take (i := 14) (v := ?z586) (by simp; rfl) (by kernel_rfl) (by kernel_rfl) (by kernel_rfl) (by exact fun _ _ _ h => h) (Or.inl ⟨by rfl, ?yz586⟩) hHeld ?_
  case yz586 => (intro wx hSw; have hSx := Ex1.mk hSw; go_simp; (try with_reducible rfl))
  try simp only [Act.put, List.setIfInBounds_toArray, List.set_cons_zero, List.set_cons_succ]
  refine wpAnyH_done (by kernel_rfl) ?_ _
  clear hHeld
  go_wp2_with fail
  refine ret_bt rfl Tryz.underlying55 rfl (by kernel_rfl) rfl rfl rfl ?_
  exact LZBRet.fin HS1.out (by omega) HS2.out (by omega) HS3.out (by omega)

set_option maxRecDepth 100000 in
set_option maxHeartbeats 4000000 in
set_option synthInstance.maxSize 100000 in
set_option synthInstance.maxHeartbeats 1000000 in
theorem toLC {w : World} {g1x : Bool} {a1x : Option Addr} {l1x : Nat} {c1x : Nat} {g1y : Bool} {a1y : Option Addr} {l1y : Nat} {c1y : Nat} {g1z : Bool} {a1z : Option Addr} {l1z : Nat} {c1z : Nat} {la lb lc : Int} {k1x k1y k1z : Nat} [h1x : CZ w (.agg #[.bool g1x, .slice a1x l1x c1x]) la k1x] [h1y : CZ w (.agg #[.bool g1y, .slice a1y l1y c1y]) lb k1y] [h1z : CZ w (.agg #[.bool g1z, .slice a1z l1z c1z]) lc k1z] (b : k1x ≤ 300000 ∧ k1y ≤ 300000 ∧ k1z ≤ 300000) :
    Calls Tryz.prog 56 #[.agg #[.bool g1x, .slice a1x l1x c1x, .bool g1y, .slice a1y l1y c1y, .bool g1z, .slice a1z l1z c1z]] w (CLZRet w la lb lc (max k1x (max k1y k1z))) := by
  go_enter Tryz.func56, Tryz.ntmps56
  go_wp2_with fail
  refine region_cls (by kernel_rfl) [w.heap.size + 1] (fun hHeld => ?_)
  refine wpAnyH_take (i := 0) (v := ?z587) (by simp; rfl) (by kernel_rfl) (by kernel_rfl) (by kernel_rfl) (by exact fun _ _ _ h => h) (Or.inl ⟨by rfl, ?yz587⟩) hHeld ?_
  case yz587 => (intro wx hSw; have hSx := Ex1.mk hSw; go_simp; (try with_reducible rfl))
  try simp only [Act.put, List.setIfInBounds_toArray, List.set_cons_zero, List.set_cons_succ]
  refine wpAnyH_take (i := 1) (v := ?z588) (by simp; rfl) (by kernel_rfl) (by kernel_rfl) (by kernel_rfl) (by exact fun _ _ _ h => h) (Or.inl ⟨by rfl, ?yz588⟩) hHeld ?_
  case yz588 => (intro wx hSw; have hSx := Ex1.mk hSw; go_simp; (try with_reducible rfl))
  try simp only [Act.put, List.setIfInBounds_toArray, List.set_cons_zero, List.set_cons_succ]
  refine wpAnyH_take (i := 3) (v := ?z589) (by simp; rfl) (by kernel_rfl) (by kernel_rfl) (by kernel_rfl) (by exact fun _ _ _ h => h) (Or.inl ⟨by rfl, ?yz589⟩) hHeld ?_
  case yz589 => (intro wx hSw; have hSx := Ex1.mk hSw; go_simp; (try with_reducible rfl))
  try simp only [Act.put, List.setIfInBounds_toArray, List.set_cons_zero, List.set_cons_succ]
  refine wpAnyH_take (i := 4) (v := ?z590) (by simp; rfl) (by kernel_rfl) (by kernel_rfl) (by kernel_rfl) (by exact fun _ _ _ h => h) (Or.inl ⟨by rfl, ?yz590⟩) hHeld ?_
  case yz590 => (intro wx hSw; have hSx := Ex1.mk hSw; go_simp; (try with_reducible rfl))
  try simp only [Act.put, List.setIfInBounds_toArray, List.set_cons_zero, List.set_cons_succ]
  refine wpAnyH_take (i := 6) (v := ?z591) (by simp; rfl) (by kernel_rfl) (by kernel_rfl) (by kernel_rfl) (by exact fun _ _ _ h => h) (Or.inl ⟨by rfl, ?yz591⟩) hHeld ?_
  case yz591 => (intro wx hSw; have hSx := Ex1.mk hSw; go_simp; (try with_reducible rfl))
  try simp only [Act.put, List.setIfInBounds_toArray, List.set_cons_zero, List.set_cons_succ]
  refine wpAnyH_take (i := 7) (v := ?z592) (by simp; rfl) (by kernel_rfl) (by kernel_rfl) (by kernel_rfl) (by exact fun _ _ _ h => h) (Or.inl ⟨by rfl, ?yz592⟩) hHeld ?_
  case yz592 => (intro wx hSw; have hSx := Ex1.mk hSw; go_simp; (try with_reducible rfl))
  try simp only [Act.put, List.setIfInBounds_toArray, List.set_cons_zero, List.set_cons_succ]
  refine wpAnyH_ready (rs := [2]) (by kernel_rfl) (by simp) ?_
  refine AllReadyH.cons (by simp; rfl) (fun K hK => ?_) AllReadyH.nil
  go_simp
  (go_at_call 114; (with_reducible refine Calls.cZ (toIC (by omega)) ?_); intros)
  refine hK.out _ _ inferInstance ?_
  clear hHeld hK K
  intro hHeld
  try simp only [Act.put, List.setIfInBounds_toArray, List.set_cons_zero, List.set_cons_succ]
  refine wpAnyH_ready (rs := [5]) (by kernel_rfl) (by simp) ?_
  refine AllReadyH.cons (by simp; rfl) (fun K hK => ?_) AllReadyH.nil
  go_simp
  (go_at_call 114; (with_reducible refine Calls.cZ (toIC (by omega)) ?_); intros)
  refine hK.out _ _ inferInstance ?_
  clear hHeld hK K
  intro hHeld
  try simp only [Act.put, List.setIfInBounds_toArray, List.set_cons_zero, List.set_cons_succ]
  refine wpAnyH_ready (rs := [8]) (by kernel_rfl) (by simp) ?_
  refine AllReadyH.cons (by simp; rfl) (fun K hK => ?_) AllReadyH.nil
  go_simp
  (go_at_call 114; (with_reducible refine Calls.cZ (toIC (by omega)) ?_); intros)
  refine hK.out _ _ inferInstance ?_
  clear hHeld hK K
  intro hHeld
  try simp only [Act.put, List.setIfInBounds_toArray, List.set_cons_zero, List.set_cons_succ]
  refine wpAnyH_take (i := 9) (v := ?z593) (by simp; rfl) (by kernel_rfl) (by kernel_rfl) (by kernel_rfl) (by exact fun _ _ _ h => h) (Or.inl ⟨by rfl, ?yz593⟩) hHeld ?_
  case yz593 => (intro wx hSw; have hSx := Ex1.mk hSw; go_simp; (try with_reducible rfl))
  try simp only [Act.put, List.setIfInBounds_toArray, List.set_cons_zero, List.set_cons_succ]
  refine wpAnyH_ready (rs := [10]) (by kernel_rfl) (by simp) ?_
  refine AllReadyH.cons (by simp; rfl) (fun K hK => ?_) AllReadyH.nil
  go_simp
  refine hK.out _ _ inferInstance ?_
  clear hHeld hK K
  intro hHeld
  try simp only [Act.put, List.setIfInBounds_toArray, List.set_cons_zero, List.set_cons_succ]
  refine wpAnyH_done (by kernel_rfl) ?_ _
  clear hHeld
  go_wp2
  refine ret_bx rfl Tryz.underlying51 rfl (by kernel_rfl) rfl rfl rfl ?_
  exact CLZRet.fin rfl (by omega) rfl (by omega) rfl (by omega)

end Go.Proofs.YtlameeijogdckaaGreat

/- The reference's line through two points; lines off the tape. printed by a small program (mkln6.py). -/
namespace Go.Proofs.YtlameeijogdckaaGreat
open Go.RowKit
set_option linter.unusedVariables false

theorem Calls.cQz {P : Program} {f : FuncId} {args : Array Value} {w : World} {x : Rat} {k : Nat} {K : Ending → World → Prop} (h : Calls P f args w (CQRet w x k))
    (hK : ∀ w' [Kp1 w w'] (g : Bool) (a : Option Addr) (l c : Nat) (aa : Option Addr) (ll cc : Nat) [CQ w' (.agg #[.bool g, .slice a l c, .slice aa ll cc]) x k] [CZ w' (.agg #[.bool g, .slice a l c]) x.num k], K (.returned (.agg #[.bool g, .slice a l c, .slice aa ll cc])) w') : Calls P f args w K := by
  refine h.mono ?_
  rintro e w' ⟨g, a, l, c, aa, ll, cc, rfl, hx, hb⟩
  exact @hK w' ⟨hb⟩ g a l c aa ll cc hx hx.num
theorem thr_ne {x y u v : Rat} (h : ¬ (u = 0 ∧ v = 0)) : Hid (¬ (thA y (y + ((1 : Int) : Rat) * v) = 0 ∧ x + ((1 : Int) : Rat) * u - x = 0)) := by
  rintro ⟨h1, h2⟩
  refine h ⟨?_, ?_⟩
  · rw [show ((1 : Int) : Rat) = 1 from rfl] at h2; grind
  · unfold thA at h1; rw [show ((1 : Int) : Rat) = 1 from rfl] at h1; grind
set_option maxRecDepth 100000 in
set_option maxHeartbeats 4000000 in
set_option synthInstance.maxSize 100000 in
set_option synthInstance.maxHeartbeats 1000000 in
theorem refThroughOk {w : World} {g1x : Bool} {a1x : Option Addr} {l1x : Nat} {c1x : Nat} {aa1x : Option Addr} {ll1x : Nat} {cc1x : Nat} {g1y : Bool} {a1y : Option Addr} {l1y : Nat} {c1y : Nat} {aa1y : Option Addr} {ll1y : Nat} {cc1y : Nat} {x1 y1 : Rat} {g2x : Bool} {a2x : Option Addr} {l2x : Nat} {c2x : Nat} {aa2x : Option Addr} {ll2x : Nat} {cc2x : Nat} {g2y : Bool} {a2y : Option Addr} {l2y : Nat} {c2y : Nat} {aa2y : Option Addr} {ll2y : Nat} {cc2y : Nat} {x2 y2 : Rat} {k1x k1y k2x k2y : Nat} [h1x : CQ w (.agg #[.bool g1x, .slice a1x l1x c1x, .slice aa1x ll1x cc1x]) x1 k1x] [h1y : CQ w (.agg #[.bool g1y, .slice a1y l1y c1y, .slice aa1y ll1y cc1y]) y1 k1y] [h2x : CQ w (.agg #[.bool g2x, .slice a2x l2x c2x, .slice aa2x ll2x cc2x]) x2 k2x] [h2y : CQ w (.agg #[.bool g2y, .slice a2y l2y c2y, .slice aa2y ll2y cc2y]) y2 k2y] (b : k1x ≤ 100 ∧ k1y ≤ 100 ∧ k2x ≤ 100 ∧ k2y ≤ 100) (h0 : Hid (¬ (thA y1 y2 = 0 ∧ x2 - x1 = 0))) :
    Calls Tryz.prog 34 #[.agg #[.bool g1x, .slice a1x l1x c1x, .slice aa1x ll1x cc1x, .bool g1y, .slice a1y l1y c1y, .slice aa1y ll1y cc1y], .agg #[.bool g2x, .slice a2x l2x c2x, .slice aa2x ll2x cc2x, .bool g2y, .slice a2y l2y c2y, .slice aa2y ll2y cc2y]] w (LZBRet w ((lnK (thA y1 y2) (thA y1 y2) (x2 - x1) (thC x1 y1 x2 y2))).num ((lnK (x2 - x1) (thA y1 y2) (x2 - x1) (thC x1 y1 x2 y2))).num ((lnK (thC x1 y1 x2 y2) (thA y1 y2) (x2 - x1) (thC x1 y1 x2 y2))).num true (50 * (max k1x k1y + max k2x k2y + 12) + 600)) := by
  go_enter Tryz.func34, Tryz.ntmps34
  go_upto_region 1 with fail
  go_cut [6] from 12 to 14 (fun s wx => ∃ (b6 : Nat) (gX : Bool) (aX : Option Addr) (lX cX : Nat) (aaX : Option Addr) (llX ccX : Nat) (gY : Bool) (aY : Option Addr) (lY cY : Nat) (aaY : Option Addr) (llY ccY : Nat), s = .pointer (some ⟨b6, 0, none⟩) ∧ Bx wx b6 38 [.bool gX, .slice aX lX cX, .slice aaX llX ccX, .bool gY, .slice aY lY cY, .slice aaY llY ccY] ∧ CQ wx (.agg #[.bool gX, .slice aX lX cX, .slice aaX llX ccX]) (x2 - x1) (max k1x k1y + max k2x k2y + 12) ∧ CQ wx (.agg #[.bool gY, .slice aY lY cY, .slice aaY llY ccY]) (y2 - y1) (max k1x k1y + max k2x k2y + 12) ∧ Bx wx w.heap.size 38 [.bool g1x, .slice a1x l1x c1x, .slice aa1x ll1x cc1x, .bool g1y, .slice a1y l1y c1y, .slice aa1y ll1y cc1y] ∧ Bx wx (w.heap.size + 1 + 1) 55 [.bool false, .slice none 0 0, .bool false, .slice none 0 0, .bool false, .slice none 0 0] ∧ CQ wx (.agg #[.bool g1x, .slice a1x l1x c1x, .slice aa1x ll1x cc1x]) x1 k1x ∧ CQ wx (.agg #[.bool g1y, .slice a1y l1y c1y, .slice aa1y ll1y cc1y]) y1 k1y ∧ Kp w wx)
  case first =>
    go_wp2_with (first
    | (go_at_call 48; (with_reducible refine Calls.cPQ (refPSubC (by omega)) ?_); intros))
    go_meet
    exact ⟨_, _, _, _, _, _, _, _, _, _, _, _, _, _, _, rfl, inferInstance, CQ.cast inferInstance rfl (by omega), CQ.cast inferInstance rfl (by omega), inferInstance, inferInstance, inferInstance, inferInstance, inferInstance⟩
  case rest =>
    obtain ⟨b6, gX, aX, lX, cX, aaX, llX, ccX, gY, aY, lY, cY, aaY, llY, ccY, rfl, i1, i2, i3, i4, i5, i6, i7, i8⟩ := hcut
    go_upto_region 2 with fail
    go_cut [7, 8] from 15 to 19 (fun p q wx => ∃ (b7 b8 : Nat) (gA : Bool) (aA : Option Addr) (lA cA : Nat) (aaA : Option Addr) (llA ccA : Nat), p = .pointer (some ⟨b7, 0, none⟩) ∧ q = .pointer (some ⟨b8, 0, none⟩) ∧ Bx wx b7 36 [.bool gA, .slice aA lA cA, .slice aaA llA ccA] ∧ Bx wx b8 36 [.bool gX, .slice aX lX cX, .slice aaX llX ccX] ∧ CQ wx (.agg #[.bool gA, .slice aA lA cA, .slice aaA llA ccA]) (thA y1 y2) (max k1x k1y + max k2x k2y + 12) ∧ Kp wc wx)
    case first =>
      refine region_t (by kernel_rfl) [] (List.contains []) (fun hHeld => ?_)
      refine wpAnyT_take (i := 0) (v := ?z624) (by simp; rfl) (by kernel_rfl) (by kernel_rfl) (by kernel_rfl) (by exact fun _ _ _ h => h) (T_waits (by kernel_rfl)) (Or.inl ⟨by rfl, ?yz624⟩) hHeld ?_
      case yz624 => (intro wx hSw; have hSx := Ex1.mk hSw; go_simp; (try with_reducible rfl))
      try simp only [Act.put, List.setIfInBounds_toArray, List.set_cons_zero, List.set_cons_succ]
      refine wpAnyT_take (i := 1) (v := ?z625) (by simp; rfl) (by kernel_rfl) (by kernel_rfl) (by kernel_rfl) (by exact fun _ _ _ h => h) (T_waits (by kernel_rfl)) (Or.inl ⟨by rfl, ?yz625⟩) hHeld ?_
      case yz625 => (intro wx hSw; have hSx := Ex1.mk hSw; go_simp; (try with_reducible rfl))
      try simp only [Act.put, List.setIfInBounds_toArray, List.set_cons_zero, List.set_cons_succ]
      refine wpAnyT_take (i := 3) (v := ?z626) (by simp; rfl) (by kernel_rfl) (by kernel_rfl) (by kernel_rfl) (by exact fun _ _ _ h => h) (T_waits (by kernel_rfl)) (Or.inl ⟨by rfl, ?yz626⟩) hHeld ?_
      case yz626 => (intro wx hSw; have hSx := Ex1.mk hSw; go_simp; (try with_reducible rfl))
      try simp only [Act.put, List.setIfInBounds_toArray, List.set_cons_zero, List.set_cons_succ]
      refine wpAnyT_take (i := 4) (v := ?z627) (by simp; rfl) (by kernel_rfl) (by kernel_rfl) (by kernel_rfl) (by exact fun _ _ _ h => h) (T_waits (by kernel_rfl)) (Or.inl ⟨by rfl, ?yz627⟩) hHeld ?_
      case yz627 => (intro wx hSw; have hSx := Ex1.mk hSw; go_simp; (try with_reducible rfl))
      try simp only [Act.put, List.setIfInBounds_toArray, List.set_cons_zero, List.set_cons_succ]
      refine wpAnyT_inv [(2, 17), (5, 7), (6, 8)] (fun i => match i with | 2 => [] | 5 => [] | 6 => [] | _ => []) [phiQ (thA y1 y2) (max k1x k1y + max k2x k2y + 12), phiB wc 36 [.bool false, .slice none 0 0, .slice none 0 0], phiB wc 36 [.bool false, .slice none 0 0, .slice none 0 0]] [5, 6] 2 (by rfl) (by decide +kernel) (by decide) (by decide) (by kernel_rfl) ?_ (fun _ _ => Ex.below) hHeld ?_ ?_
      · intro i hi v W h
        simp only [List.mem_cons, List.not_mem_nil, or_false] at hi
        rcases hi with rfl | rfl
        all_goals exact phiB.old h
      · intro i hi f W hSw hbw hp
        have kw := Kp1.mk hbw
        have hSx := Ex1.mk hSw
        clear hHeld
        simp only [List.map_cons, List.map_nil, List.mem_cons, List.not_mem_nil, or_false] at hi
        rcases hi with rfl | rfl | rfl
        · refine ⟨_, by simp; rfl, fun K' hK => ?_⟩
          clear hp
          simp only [putAll, Act.put, List.setIfInBounds_toArray, List.set_cons_zero, List.set_cons_succ] at hK ⊢
          generalize f 2 = v2 at *
          generalize f 5 = v5 at *
          generalize f 6 = v6 at *
          go_simp
          (go_at_call 78; (with_reducible refine Calls.cQ (numOppC) ?_); intros)
          refine hK.out _ _ _ rfl ?_ ?_ ?_
          · exact (inferInstance : Kp W _).out
          · show phiQ (thA y1 y2) (max k1x k1y + max k2x k2y + 12) _ _
            exact phiQ.fin rfl (by omega)
          · exact fun h => absurd h (by decide)
        · refine ⟨_, by simp; rfl, fun K' hK => ?_⟩
          clear hp
          simp only [putAll, Act.put, List.setIfInBounds_toArray, List.set_cons_zero, List.set_cons_succ] at hK ⊢
          generalize f 2 = v2 at *
          generalize f 5 = v5 at *
          generalize f 6 = v6 at *
          go_simp
          refine hK.out _ _ _ rfl ?_ ?_ ?_
          · exact (inferInstance : Kp W _).out
          · show phiB wc 36 [.bool false, .slice none 0 0, .slice none 0 0] _ _
            exact phiB.fin
          · exact fun _ => ⟨_, rfl, Nat.le_refl _⟩
        · refine ⟨_, by simp; rfl, fun K' hK => ?_⟩
          clear hp
          simp only [putAll, Act.put, List.setIfInBounds_toArray, List.set_cons_zero, List.set_cons_succ] at hK ⊢
          generalize f 2 = v2 at *
          generalize f 5 = v5 at *
          generalize f 6 = v6 at *
          go_simp
          refine hK.out _ _ _ rfl ?_ ?_ ?_
          · exact (inferInstance : Kp W _).out
          · show phiB wc 36 [.bool false, .slice none 0 0, .slice none 0 0] _ _
            exact phiB.fin
          · exact fun _ => ⟨_, rfl, Nat.le_refl _⟩
      · intro f W hSw hbw hf hne
        have kw := Kp1.mk hbw
        have hSx := Ex1.mk hSw
        clear hHeld
        have h2 : phiQ (thA y1 y2) (max k1x k1y + max k2x k2y + 12) (f 2) W := hf 2 (by decide)
        have h5 : phiB wc 36 [.bool false, .slice none 0 0, .slice none 0 0] (f 5) W := hf 5 (by decide)
        have h6 : phiB wc 36 [.bool false, .slice none 0 0, .slice none 0 0] (f 6) W := hf 6 (by decide)
        have n5_6 := hne 5 6 (by decide) (by decide) (by decide) (by decide) (by decide)
        clear hf hne
        simp only [putAll, lset, List.map_cons, List.map_nil, Act.put, List.setIfInBounds_toArray, List.set_cons_zero, List.set_cons_succ]
        generalize f 2 = v2 at *
        generalize f 5 = v5 at *
        generalize f 6 = v6 at *
        obtain ⟨g2, a2, l2, c2, aa2, ll2, cc2, rfl, i2⟩ := h2
        obtain ⟨b5, rfl, i5, j5, k5⟩ := h5
        obtain ⟨b6, rfl, i6, j6, k6⟩ := h6
        have n5_6 := ptr_ne n5_6
        have n6_5 : NeN b6 b5 := ⟨fun e => n5_6.out e.symm⟩
        have hHeld := hSw
        refine wpAnyT_ready (rs := [7]) (by kernel_rfl) (by simp) ?_
        refine AllT.cons (by simp; rfl) (fun K hK => ?_) AllT.nil
        go_simp
        refine hK.out _ _ (fun _ => inferInstance) ?_
        clear hHeld hK K
        intro hHeld
        have hHeld := hHeld (by decide)
        try simp only [Act.put, List.setIfInBounds_toArray, List.set_cons_zero, List.set_cons_succ]
        refine wpAnyT_ready (rs := [8]) (by kernel_rfl) (by simp) ?_
        refine AllT.cons (by simp; rfl) (fun K hK => ?_) AllT.nil
        go_simp
        refine hK.out _ _ (fun _ => inferInstance) ?_
        clear hHeld hK K
        intro hHeld
        have hHeld := hHeld (by decide)
        try simp only [Act.put, List.setIfInBounds_toArray, List.set_cons_zero, List.set_cons_succ]
        refine wpAnyT_done (by kernel_rfl) ?_ _
        clear hHeld
        go_wp2_with fail
        go_meet
        exact ⟨_, _, _, _, _, _, _, _, _, rfl, rfl, inferInstance, inferInstance, inferInstance, inferInstance⟩
    case rest =>
      obtain ⟨b7, b8, gA, aA, lA, cA, aaA, llA, ccA, rfl, rfl, m1, m2, m3, ⟨m4⟩⟩ := hcut
      have m5 := Kp1.mk m4
      have m6 : Kp w wc := inferInstance
      go_upto_region 3 with fail
      go_cut [9] from 20 to 29 (fun p wx => ∃ (b9 : Nat) (gC : Bool) (aC : Option Addr) (lC cC : Nat) (aaC : Option Addr) (llC ccC : Nat), p = .pointer (some ⟨b9, 0, none⟩) ∧ Bx wx b9 36 [.bool gC, .slice aC lC cC, .slice aaC llC ccC] ∧ CQ wx (.agg #[.bool gC, .slice aC lC cC, .slice aaC llC ccC]) (thC x1 y1 x2 y2) (4 * (max k1x k1y + max k2x k2y + 12) + 40) ∧ Kp wc wx)
      case first =>
        refine region_t (by kernel_rfl) [] (List.contains []) (fun hHeld => ?_)
        refine wpAnyT_take (i := 0) (v := ?z628) (by simp; rfl) (by kernel_rfl) (by kernel_rfl) (by kernel_rfl) (by exact fun _ _ _ h => h) (T_waits (by kernel_rfl)) (Or.inl ⟨by rfl, ?yz628⟩) hHeld ?_
        case yz628 => (intro wx hSw; have hSx := Ex1.mk hSw; go_simp; (try with_reducible rfl))
        try simp only [Act.put, List.setIfInBounds_toArray, List.set_cons_zero, List.set_cons_succ]
        refine wpAnyT_take (i := 1) (v := ?z629) (by simp; rfl) (by kernel_rfl) (by kernel_rfl) (by kernel_rfl) (by exact fun _ _ _ h => h) (T_waits (by kernel_rfl)) (Or.inl ⟨by rfl, ?yz629⟩) hHeld ?_
        case yz629 => (intro wx hSw; have hSx := Ex1.mk hSw; go_simp; (try with_reducible rfl))
        try simp only [Act.put, List.setIfInBounds_toArray, List.set_cons_zero, List.set_cons_succ]
        refine wpAnyT_take (i := 2) (v := ?z630) (by simp; rfl) (by kernel_rfl) (by kernel_rfl) (by kernel_rfl) (by exact fun _ _ _ h => h) (T_waits (by kernel_rfl)) (Or.inl ⟨by rfl, ?yz630⟩) hHeld ?_
        case yz630 => (intro wx hSw; have hSx := Ex1.mk hSw; go_simp; (try with_reducible rfl))
        try simp only [Act.put, List.setIfInBounds_toArray, List.set_cons_zero, List.set_cons_succ]
        refine wpAnyT_take (i := 4) (v := ?z631) (by simp; rfl) (by kernel_rfl) (by kernel_rfl) (by kernel_rfl) (by exact fun _ _ _ h => h) (T_waits (by kernel_rfl)) (Or.inl ⟨by rfl, ?yz631⟩) hHeld ?_
        case yz631 => (intro wx hSw; have hSx := Ex1.mk hSw; go_simp; (try with_reducible rfl))
        try simp only [Act.put, List.setIfInBounds_toArray, List.set_cons_zero, List.set_cons_succ]
        refine wpAnyT_take (i := 5) (v := ?z632) (by simp; rfl) (by kernel_rfl) (by kernel_rfl) (by kernel_rfl) (by exact fun _ _ _ h => h) (T_waits (by kernel_rfl)) (Or.inl ⟨by rfl, ?yz632⟩) hHeld ?_
        case yz632 => (intro wx hSw; have hSx := Ex1.mk hSw; go_simp; (try with_reducible rfl))
        try simp only [Act.put, List.setIfInBounds_toArray, List.set_cons_zero, List.set_cons_succ]
        refine wpAnyT_take (i := 6) (v := ?z633) (by simp; rfl) (by kernel_rfl) (by kernel_rfl) (by kernel_rfl) (by exact fun _ _ _ h => h) (T_waits (by kernel_rfl)) (Or.inl ⟨by rfl, ?yz633⟩) hHeld ?_
        case yz633 => (intro wx hSw; have hSx := Ex1.mk hSw; go_simp; (try with_reducible rfl))
        try simp only [Act.put, List.setIfInBounds_toArray, List.set_cons_zero, List.set_cons_succ]
        refine wpAnyT_inv [(3, 23), (7, 27), (8, 28), (9, 29), (10, 9)] (fun i => match i with | 3 => [] | 7 => [3] | 8 => [3, 7] | 9 => [8] | 10 => [] | _ => []) [phiQ (thA y1 y2 * x1) ((max k1x k1y + max k2x k2y + 12) + k1x + 5), phiQ ((x2 - x1) * y1) ((max k1x k1y + max k2x k2y + 12) + k1y + 5), phiQ (thA y1 y2 * x1 + (x2 - x1) * y1) (2 * (max k1x k1y + max k2x k2y + 12) + k1x + k1y + 15), phiQ (thC x1 y1 x2 y2) (4 * (max k1x k1y + max k2x k2y + 12) + 40), phiB wc 36 [.bool false, .slice none 0 0, .slice none 0 0]] [10] 1 (by rfl) (by decide +kernel) (by decide) (by decide) (by kernel_rfl) ?_ (fun _ _ => Ex.below) hHeld ?_ ?_
        · intro i hi v W h
          simp only [List.mem_cons, List.not_mem_nil, or_false] at hi
          rcases hi with rfl
          all_goals exact phiB.old h
        · intro i hi f W hSw hbw hp
          have kw := Kp1.mk hbw
          have hSx := Ex1.mk hSw
          clear hHeld
          simp only [List.map_cons, List.map_nil, List.mem_cons, List.not_mem_nil, or_false] at hi
          rcases hi with rfl | rfl | rfl | rfl | rfl
          · refine ⟨_, by simp; rfl, fun K' hK => ?_⟩
            clear hp
            simp only [putAll, Act.put, List.setIfInBounds_toArray, List.set_cons_zero, List.set_cons_succ] at hK ⊢
            generalize f 3 = v3 at *
            generalize f 7 = v7 at *
            generalize f 8 = v8 at *
            generalize f 9 = v9 at *
            generalize f 10 = v10 at *
            go_simp
            (go_at_call 107; (with_reducible refine Calls.cQ (numTimesC (by omega)) ?_); intros)
            refine hK.out _ _ _ rfl ?_ ?_ ?_
            · exact (inferInstance : Kp W _).out
            · show phiQ (thA y1 y2 * x1) ((max k1x k1y + max k2x k2y + 12) + k1x + 5) _ _
              exact phiQ.fin rfl (by omega)
            · exact fun h => absurd h (by decide)
          · have h3 : phiQ (thA y1 y2 * x1) ((max k1x k1y + max k2x k2y + 12) + k1x + 5) (f 3) W := hp 3 (by decide)
            refine ⟨_, by simp; rfl, fun K' hK => ?_⟩
            clear hp
            simp only [putAll, Act.put, List.setIfInBounds_toArray, List.set_cons_zero, List.set_cons_succ] at hK ⊢
            generalize f 3 = v3 at *
            generalize f 7 = v7 at *
            generalize f 8 = v8 at *
            generalize f 9 = v9 at *
            generalize f 10 = v10 at *
            obtain ⟨g3, a3, l3, c3, aa3, ll3, cc3, rfl, i3⟩ := h3
            go_simp
            (go_at_call 107; (with_reducible refine Calls.cQ (numTimesC (by omega)) ?_); intros)
            refine hK.out _ _ _ rfl ?_ ?_ ?_
            · exact (inferInstance : Kp W _).out
            · show phiQ ((x2 - x1) * y1) ((max k1x k1y + max k2x k2y + 12) + k1y + 5) _ _
              exact phiQ.fin rfl (by omega)
            · exact fun h => absurd h (by decide)
          · have h3 : phiQ (thA y1 y2 * x1) ((max k1x k1y + max k2x k2y + 12) + k1x + 5) (f 3) W := hp 3 (by decide)
            have h7 : phiQ ((x2 - x1) * y1) ((max k1x k1y + max k2x k2y + 12) + k1y + 5) (f 7) W := hp 7 (by decide)
            refine ⟨_, by simp; rfl, fun K' hK => ?_⟩
            clear hp
            simp only [putAll, Act.put, List.setIfInBounds_toArray, List.set_cons_zero, List.set_cons_succ] at hK ⊢
            generalize f 3 = v3 at *
            generalize f 7 = v7 at *
            generalize f 8 = v8 at *
            generalize f 9 = v9 at *
            generalize f 10 = v10 at *
            obtain ⟨g3, a3, l3, c3, aa3, ll3, cc3, rfl, i3⟩ := h3
            obtain ⟨g7, a7, l7, c7, aa7, ll7, cc7, rfl, i7⟩ := h7
            go_simp
            (go_at_call 106; (with_reducible refine Calls.cQ (numPlusC (by omega)) ?_); intros)
            refine hK.out _ _ _ rfl ?_ ?_ ?_
            · exact (inferInstance : Kp W _).out
            · show phiQ (thA y1 y2 * x1 + (x2 - x1) * y1) (2 * (max k1x k1y + max k2x k2y + 12) + k1x + k1y + 15) _ _
              exact phiQ.fin rfl (by omega)
            · exact fun h => absurd h (by decide)
          · have h8 : phiQ (thA y1 y2 * x1 + (x2 - x1) * y1) (2 * (max k1x k1y + max k2x k2y + 12) + k1x + k1y + 15) (f 8) W := hp 8 (by decide)
            refine ⟨_, by simp; rfl, fun K' hK => ?_⟩
            clear hp
            simp only [putAll, Act.put, List.setIfInBounds_toArray, List.set_cons_zero, List.set_cons_succ] at hK ⊢
            generalize f 3 = v3 at *
            generalize f 7 = v7 at *
            generalize f 8 = v8 at *
            generalize f 9 = v9 at *
            generalize f 10 = v10 at *
            obtain ⟨g8, a8, l8, c8, aa8, ll8, cc8, rfl, i8⟩ := h8
            go_simp
            (go_at_call 78; (with_reducible refine Calls.cQ (numOppC) ?_); intros)
            refine hK.out _ _ _ rfl ?_ ?_ ?_
            · exact (inferInstance : Kp W _).out
            · show phiQ (thC x1 y1 x2 y2) (4 * (max k1x k1y + max k2x k2y + 12) + 40) _ _
              exact phiQ.fin rfl (by omega)
            · exact fun h => absurd h (by decide)
          · refine ⟨_, by simp; rfl, fun K' hK => ?_⟩
            clear hp
            simp only [putAll, Act.put, List.setIfInBounds_toArray, List.set_cons_zero, List.set_cons_succ] at hK ⊢
            generalize f 3 = v3 at *
            generalize f 7 = v7 at *
            generalize f 8 = v8 at *
            generalize f 9 = v9 at *
            generalize f 10 = v10 at *
            go_simp
            refine hK.out _ _ _ rfl ?_ ?_ ?_
            · exact (inferInstance : Kp W _).out
            · show phiB wc 36 [.bool false, .slice none 0 0, .slice none 0 0] _ _
              exact phiB.fin
            · exact fun _ => ⟨_, rfl, Nat.le_refl _⟩
        · intro f W hSw hbw hf hne
          have kw := Kp1.mk hbw
          have hSx := Ex1.mk hSw
          clear hHeld
          have h3 : phiQ (thA y1 y2 * x1) ((max k1x k1y + max k2x k2y + 12) + k1x + 5) (f 3) W := hf 3 (by decide)
          have h7 : phiQ ((x2 - x1) * y1) ((max k1x k1y + max k2x k2y + 12) + k1y + 5) (f 7) W := hf 7 (by decide)
          have h8 : phiQ (thA y1 y2 * x1 + (x2 - x1) * y1) (2 * (max k1x k1y + max k2x k2y + 12) + k1x + k1y + 15) (f 8) W := hf 8 (by decide)
          have h9 : phiQ (thC x1 y1 x2 y2) (4 * (max k1x k1y + max k2x k2y + 12) + 40) (f 9) W := hf 9 (by decide)
          have h10 : phiB wc 36 [.bool false, .slice none 0 0, .slice none 0 0] (f 10) W := hf 10 (by decide)
          clear hf hne
          simp only [putAll, lset, List.map_cons, List.map_nil, Act.put, List.setIfInBounds_toArray, List.set_cons_zero, List.set_cons_succ]
          generalize f 3 = v3 at *
          generalize f 7 = v7 at *
          generalize f 8 = v8 at *
          generalize f 9 = v9 at *
          generalize f 10 = v10 at *
          obtain ⟨g3, a3, l3, c3, aa3, ll3, cc3, rfl, i3⟩ := h3
          obtain ⟨g7, a7, l7, c7, aa7, ll7, cc7, rfl, i7⟩ := h7
          obtain ⟨g8, a8, l8, c8, aa8, ll8, cc8, rfl, i8⟩ := h8
          obtain ⟨g9, a9, l9, c9, aa9, ll9, cc9, rfl, i9⟩ := h9
          obtain ⟨b10, rfl, i10, j10, k10⟩ := h10
          have hHeld := hSw
          refine wpAnyT_ready (rs := [11]) (by kernel_rfl) (by simp) ?_
          refine AllT.cons (by simp; rfl) (fun K hK => ?_) AllT.nil
          go_simp
          refine hK.out _ _ (fun _ => inferInstance) ?_
          clear hHeld hK K
          intro hHeld
          have hHeld := hHeld (by decide)
          try simp only [Act.put, List.setIfInBounds_toArray, List.set_cons_zero, List.set_cons_succ]
          refine wpAnyT_done (by kernel_rfl) ?_ _
          clear hHeld
          go_wp2_with fail
          go_meet
          exact ⟨_, _, _, _, _, _, _, _, rfl, inferInstance, inferInstance, inferInstance⟩
      case rest =>
        obtain ⟨b9, gC, aC, lC, cC, aaC, llC, ccC, rfl, r1, r2, ⟨r3⟩⟩ := hcut
        have r5 := Kp1.mk r3
        have r6 : Kp w wc := inferInstance
        have hfld : ∀ (x0 x1 x2 : Value) (W : World), (Instr.field 36 (.agg #[x0, x1, x2]) 0).run Tryz.prog W = .ok (.agg #[x0, x1]) W := fun _ _ _ _ => by kernel_rfl
        go_wp2_with fail
        refine region_cls (by kernel_rfl) [] (fun hHeld => ?_)
        refine wpAnyH_take (i := 0) (v := ?z634) (by simp; rfl) (by kernel_rfl) (by kernel_rfl) (by kernel_rfl) (by exact fun _ _ _ h => h) (Or.inl ⟨by rfl, ?yz634⟩) hHeld ?_
        case yz634 => (intro wx hSw; have hSx := Ex1.mk hSw; go_simp; (try with_reducible rfl))
        try simp only [Act.put, List.setIfInBounds_toArray, List.set_cons_zero, List.set_cons_succ]
        refine wpAnyH_take (i := 2) (v := ?z635) (by simp; rfl) (by kernel_rfl) (by kernel_rfl) (by kernel_rfl) (by exact fun _ _ _ h => h) (Or.inl ⟨by rfl, ?yz635⟩) hHeld ?_
        case yz635 => (intro wx hSw; have hSx := Ex1.mk hSw; go_simp; (try with_reducible rfl))
        try simp only [Act.put, List.setIfInBounds_toArray, List.set_cons_zero, List.set_cons_succ]
        refine wpAnyH_take (i := 5) (v := ?z636) (by simp; rfl) (by kernel_rfl) (by kernel_rfl) (by kernel_rfl) (by exact fun _ _ _ h => h) (Or.inl ⟨by rfl, ?yz636⟩) hHeld ?_
        case yz636 => (intro wx hSw; have hSx := Ex1.mk hSw; go_simp; (try with_reducible rfl))
        try simp only [Act.put, List.setIfInBounds_toArray, List.set_cons_zero, List.set_cons_succ]
        refine wpAnyH_ready (rs := [1]) (by kernel_rfl) (by simp) ?_
        refine AllReadyH.cons (by simp; rfl) (fun K hK => ?_) AllReadyH.nil
        go_simp
        (go_at_call 109; (with_reducible refine Calls.cN (numDenC) ?_); intros)
        refine hK.out _ _ inferInstance ?_
        clear hHeld hK K
        intro hHeld
        try simp only [Act.put, List.setIfInBounds_toArray, List.set_cons_zero, List.set_cons_succ]
        refine wpAnyH_ready (rs := [3]) (by kernel_rfl) (by simp) ?_
        refine AllReadyH.cons (by simp; rfl) (fun K hK => ?_) AllReadyH.nil
        go_simp
        (go_at_call 109; (with_reducible refine Calls.cN (numDenC) ?_); intros)
        refine hK.out _ _ inferInstance ?_
        clear hHeld hK K
        intro hHeld
        try simp only [Act.put, List.setIfInBounds_toArray, List.set_cons_zero, List.set_cons_succ]
        refine wpAnyH_ready (rs := [4]) (by kernel_rfl) (by simp) ?_
        refine AllReadyH.cons (by simp; rfl) (fun K hK => ?_) AllReadyH.nil
        go_simp
        (go_at_call 108; (with_reducible refine Calls.cN (numProductC (by omega)) ?_); intros)
        refine hK.out _ _ inferInstance ?_
        clear hHeld hK K
        intro hHeld
        try simp only [Act.put, List.setIfInBounds_toArray, List.set_cons_zero, List.set_cons_succ]
        refine wpAnyH_ready (rs := [6]) (by kernel_rfl) (by simp) ?_
        refine AllReadyH.cons (by simp; rfl) (fun K hK => ?_) AllReadyH.nil
        go_simp
        (go_at_call 109; (with_reducible refine Calls.cN (numDenC) ?_); intros)
        refine hK.out _ _ inferInstance ?_
        clear hHeld hK K
        intro hHeld
        try simp only [Act.put, List.setIfInBounds_toArray, List.set_cons_zero, List.set_cons_succ]
        refine wpAnyH_ready (rs := [7]) (by kernel_rfl) (by simp) ?_
        refine AllReadyH.cons (by simp; rfl) (fun K hK => ?_) AllReadyH.nil
        go_simp
        (go_at_call 108; (with_reducible refine Calls.cN (numProductC (by omega)) ?_); intros)
        refine hK.out _ _ inferInstance ?_
        clear hHeld hK K
        intro hHeld
        try simp only [Act.put, List.setIfInBounds_toArray, List.set_cons_zero, List.set_cons_succ]
        refine wpAnyH_take (i := 8) (v := ?z637) (by simp; rfl) (by kernel_rfl) (by kernel_rfl) (by kernel_rfl) (by exact fun _ _ _ h => h) (Or.inl ⟨by rfl, ?yz637⟩) hHeld ?_
        case yz637 => (intro wx hSw; have hSx := Ex1.mk hSw; go_simp; (try with_reducible rfl))
        try simp only [Act.put, List.setIfInBounds_toArray, List.set_cons_zero, List.set_cons_succ]
        refine wpAnyH_done (by kernel_rfl) ?_ _
        clear hHeld
        obtain ⟨hne, e1, e2, e3⟩ := thr_num (c := thC x1 y1 x2 y2) (M := sgn false ((thA y1 y2).den * (x2 - x1).den * (thC x1 y1 x2 y2).den)) h0.out rfl
        have HNE := Lib.hid hne
        have HE := Lib.hid (And.intro e1 (And.intro e2 e3))
        clear hne e1 e2 e3
        go_wp2_with (first
    | (go_at_call 102; (with_reducible refine Calls.cSg (makeC) ?_); intros))
        refine region_t (by kernel_rfl) [] (List.contains [15, 16]) (fun hHeld => ?_)
        refine wpAnyT_take (i := 0) (v := ?z638) (by simp; rfl) (by kernel_rfl) (by kernel_rfl) (by kernel_rfl) (by exact fun _ _ _ h => h) (T_waits (by kernel_rfl)) (Or.inl ⟨by rfl, ?yz638⟩) hHeld ?_
        case yz638 => (intro wx hSw; have hSx := Ex1.mk hSw; go_simp; (try with_reducible rfl))
        try simp only [Act.put, List.setIfInBounds_toArray, List.set_cons_zero, List.set_cons_succ]
        refine wpAnyT_take (i := 1) (v := ?z639) (by simp; rfl) (by kernel_rfl) (by kernel_rfl) (by kernel_rfl) (by exact fun _ _ _ h => h) (T_waits (by kernel_rfl)) (Or.inl ⟨by rfl, ?yz639⟩) hHeld ?_
        case yz639 => (intro wx hSw; have hSx := Ex1.mk hSw; go_simp; (try with_reducible rfl))
        try simp only [Act.put, List.setIfInBounds_toArray, List.set_cons_zero, List.set_cons_succ]
        refine wpAnyT_take (i := 4) (v := ?z640) (by simp; rfl) (by kernel_rfl) (by kernel_rfl) (by kernel_rfl) (by exact fun _ _ _ h => h) (T_waits (by kernel_rfl)) (Or.inl ⟨by rfl, ?yz640⟩) hHeld ?_
        case yz640 => (intro wx hSw; have hSx := Ex1.mk hSw; go_simp; (try with_reducible rfl))
        try simp only [Act.put, List.setIfInBounds_toArray, List.set_cons_zero, List.set_cons_succ]
        refine wpAnyT_take (i := 5) (v := ?z641) (by simp; rfl) (by kernel_rfl) (by kernel_rfl) (by kernel_rfl) (by exact fun _ _ _ h => h) (T_waits (by kernel_rfl)) (Or.inl ⟨by rfl, ?yz641⟩) hHeld ?_
        case yz641 => (intro wx hSw; have hSx := Ex1.mk hSw; go_simp; (try with_reducible rfl))
        try simp only [Act.put, List.setIfInBounds_toArray, List.set_cons_zero, List.set_cons_succ]
        refine wpAnyT_take (i := 8) (v := ?z642) (by simp; rfl) (by kernel_rfl) (by kernel_rfl) (by kernel_rfl) (by exact fun _ _ _ h => h) (T_waits (by kernel_rfl)) (Or.inl ⟨by rfl, ?yz642⟩) hHeld ?_
        case yz642 => (intro wx hSw; have hSx := Ex1.mk hSw; go_simp; (try with_reducible rfl))
        try simp only [Act.put, List.setIfInBounds_toArray, List.set_cons_zero, List.set_cons_succ]
        refine wpAnyT_take (i := 9) (v := ?z643) (by simp; rfl) (by kernel_rfl) (by kernel_rfl) (by kernel_rfl) (by exact fun _ _ _ h => h) (T_waits (by kernel_rfl)) (Or.inl ⟨by rfl, ?yz643⟩) hHeld ?_
        case yz643 => (intro wx hSw; have hSx := Ex1.mk hSw; go_simp; (try with_reducible rfl))
        try simp only [Act.put, List.setIfInBounds_toArray, List.set_cons_zero, List.set_cons_succ]
        refine wpAnyT_ready (rs := [2]) (by kernel_rfl) (by simp) ?_
        refine AllT.cons (by simp; rfl) (fun K hK => ?_) AllT.nil
        go_simp
        (go_at_call 107; (with_reducible refine Calls.cQz (numTimesC (by omega)) ?_); intros)
        refine hK.out _ _ (fun _ => inferInstance) ?_
        clear hHeld hK K
        intro hHeld
        have hHeld := hHeld (by decide)
        try simp only [Act.put, List.setIfInBounds_toArray, List.set_cons_zero, List.set_cons_succ]
        refine wpAnyT_take (i := 3) (v := ?z644) (by simp; rfl) (by kernel_rfl) (by kernel_rfl) (by kernel_rfl) (by exact fun _ _ _ h => h) (T_waits (by kernel_rfl)) (Or.inl ⟨by rfl, ?yz644⟩) hHeld ?_
        case yz644 => (intro wx hSw; have hSx := Ex1.mk hSw; go_simp; (try with_reducible rfl))
        try simp only [Act.put, List.setIfInBounds_toArray, List.set_cons_zero, List.set_cons_succ]
        refine wpAnyT_ready (rs := [6]) (by kernel_rfl) (by simp) ?_
        refine AllT.cons (by simp; rfl) (fun K hK => ?_) AllT.nil
        go_simp
        (go_at_call 107; (with_reducible refine Calls.cQz (numTimesC (by omega)) ?_); intros)
        refine hK.out _ _ (fun _ => inferInstance) ?_
        clear hHeld hK K
        intro hHeld
        have hHeld := hHeld (by decide)
        try simp only [Act.put, List.setIfInBounds_toArray, List.set_cons_zero, List.set_cons_succ]
        refine wpAnyT_take (i := 7) (v := ?z645) (by simp; rfl) (by kernel_rfl) (by kernel_rfl) (by kernel_rfl) (by exact fun _ _ _ h => h) (T_waits (by kernel_rfl)) (Or.inl ⟨by rfl, ?yz645⟩) hHeld ?_
        case yz645 => (intro wx hSw; have hSx := Ex1.mk hSw; go_simp; (try with_reducible rfl))
        try simp only [Act.put, List.setIfInBounds_toArray, List.set_cons_zero, List.set_cons_succ]
        refine wpAnyT_ready (rs := [10]) (by kernel_rfl) (by simp) ?_
        refine AllT.cons (by simp; rfl) (fun K hK => ?_) AllT.nil
        go_simp
        (go_at_call 107; (with_reducible refine Calls.cQz (numTimesC (by omega)) ?_); intros)
        refine hK.out _ _ (fun _ => inferInstance) ?_
        clear hHeld hK K
        intro hHeld
        have hHeld := hHeld (by decide)
        try simp only [Act.put, List.setIfInBounds_toArray, List.set_cons_zero, List.set_cons_succ]
        refine wpAnyT_take (i := 11) (v := ?z646) (by simp; rfl) (by kernel_rfl) (by kernel_rfl) (by kernel_rfl) (by exact fun _ _ _ h => h) (T_waits (by kernel_rfl)) (Or.inl ⟨by rfl, ?yz646⟩) hHeld ?_
        case yz646 => (intro wx hSw; have hSx := Ex1.mk hSw; go_simp; (try with_reducible rfl))
        try simp only [Act.put, List.setIfInBounds_toArray, List.set_cons_zero, List.set_cons_succ]
        refine wpAnyT_ready (rs := [12]) (by kernel_rfl) (by simp) ?_
        refine AllT.cons (by simp; rfl) (fun K hK => ?_) AllT.nil
        go_simp
        (go_at_call 26; (with_reducible refine Calls.cLZB (refMakeOk (by omega) HNE) ?_); intros)
        refine hK.out _ _ (fun _ => inferInstance) ?_
        clear hHeld hK K
        intro hHeld
        have hHeld := hHeld (by decide)
        try simp only [Act.put, List.setIfInBounds_toArray, List.set_cons_zero, List.set_cons_succ]
        refine wpAnyT_take (i := 13) (v := ?z647) (by simp; rfl) (by kernel_rfl) (by kernel_rfl) (by kernel_rfl) (by exact fun _ _ _ h => h) (T_waits (by kernel_rfl)) (Or.inl ⟨by rfl, ?yz647⟩) hHeld ?_
        case yz647 => (intro wx hSw; have hSx := Ex1.mk hSw; go_simp; (try with_reducible rfl))
        try simp only [Act.put, List.setIfInBounds_toArray, List.set_cons_zero, List.set_cons_succ]
        refine wpAnyT_take (i := 14) (v := ?z648) (by simp; rfl) (by kernel_rfl) (by kernel_rfl) (by kernel_rfl) (by exact fun _ _ _ h => h) (T_waits (by kernel_rfl)) (Or.inl ⟨by rfl, ?yz648⟩) hHeld ?_
        case yz648 => (intro wx hSw; have hSx := Ex1.mk hSw; go_simp; (try with_reducible rfl))
        try simp only [Act.put, List.setIfInBounds_toArray, List.set_cons_zero, List.set_cons_succ]
        refine wpAnyT_ready (rs := [15]) (by kernel_rfl) (by simp) ?_
        refine AllT.cons (by simp; rfl) (fun K hK => ?_) AllT.nil
        go_simp
        refine hK.out _ _ (fun h => absurd h (by decide)) ?_
        clear hHeld hK K
        intro hHeld
        try simp only [Act.put, List.setIfInBounds_toArray, List.set_cons_zero, List.set_cons_succ]
        refine wpAnyT_take0 (i := 16) (v := ?z649) (by simp; rfl) (by kernel_rfl) (by kernel_rfl) (by kernel_rfl) (by exact fun _ _ _ h => h) (by rfl) (Or.inl ⟨by rfl, ?yz649⟩) ?_
        case yz649 => (intro wx _; go_simp; (try with_reducible rfl))
        try simp only [Act.put, List.setIfInBounds_toArray, List.set_cons_zero, List.set_cons_succ]
        refine wpAnyT_done (by kernel_rfl) ?_ _
        clear hHeld
        go_wp2_with fail
        refine ret_bt rfl Tryz.underlying55 rfl (by kernel_rfl) rfl rfl rfl ?_
        exact LZBRet.fin HE.out.1 (by omega) HE.out.2.1 (by omega) HE.out.2.2 (by omega)

/-- A valid line is read off the tape. -/
def TLRet (w : World) (t : Nat) (k : Nat) (e : Ending) (w' : World) : Prop := ∃ (gx : Bool) (ax : Option Addr) (lx cx : Nat) (gy : Bool) (ay : Option Addr) (ly cy : Nat) (gz : Bool) (az : Option Addr) (lz cz : Nat) (la lb lc : Int), e = .returned (.agg #[.bool gx, .slice ax lx cx, .bool gy, .slice ay ly cy, .bool gz, .slice az lz cz]) ∧ CZ w' (.agg #[.bool gx, .slice ax lx cx]) la k ∧ CZ w' (.agg #[.bool gy, .slice ay ly cy]) lb k ∧ CZ w' (.agg #[.bool gz, .slice az lz cz]) lc k ∧ Hid (LnV la lb lc) ∧ Ct w' t ∧ Gb w w' t
theorem Calls.cTL {P : Program} {f : FuncId} {args : Array Value} {w : World} {t k : Nat} {K : Ending → World → Prop} [ht : Ct w t] (h : Calls P f args w (TLRet w t k))
    (hK : ∀ w' [Tp1 w w' t] [Ct w' t] (gx : Bool) (ax : Option Addr) (lx cx : Nat) (gy : Bool) (ay : Option Addr) (ly cy : Nat) (gz : Bool) (az : Option Addr) (lz cz : Nat) (la lb lc : Int) [CZ w' (.agg #[.bool gx, .slice ax lx cx]) la k] [CZ w' (.agg #[.bool gy, .slice ay ly cy]) lb k] [CZ w' (.agg #[.bool gz, .slice az lz cz]) lc k], Hid (LnV la lb lc) → K (.returned (.agg #[.bool gx, .slice ax lx cx, .bool gy, .slice ay ly cy, .bool gz, .slice az lz cz])) w') : Calls P f args w K := by
  refine h.mono ?_
  rintro e w' ⟨gx, ax, lx, cx, gy, ay, ly, cy, gz, az, lz, cz, la, lb, lc, rfl, hx, hy, hz, hv, hc, hb⟩
  exact @hK w' ⟨hb.out, ht.out⟩ hc gx ax lx cx gy ay ly cy gz az lz cz la lb lc hx hy hz hv
set_option maxRecDepth 100000 in
set_option maxHeartbeats 4000000 in
set_option synthInstance.maxSize 100000 in
set_option synthInstance.maxHeartbeats 1000000 in
theorem tapeLC {w : World} {t : Nat} [ht : Ct w t] : Calls Tryz.prog 55 #[.pointer (some ⟨t, 0, none⟩)] w (TLRet w t 4000) := by
  go_enter Tryz.func55, Tryz.ntmps55
  go_wp2_with fail
  with_reducible refine Calls.cTP tapePC ?_
  intro W1 _ _ g a l c aa ll cc g2 a2 l2 c2 aa2 ll2 cc2 x y _ _
  go_wp2_with fail
  refine region_cls (by kernel_rfl) [t] (fun hHeld => ?_)
  refine wpAnyH_take (i := 0) (v := ?z650) (by simp; rfl) (by kernel_rfl) (by kernel_rfl) (by kernel_rfl) (by exact fun _ _ _ h => h) (Or.inl ⟨by rfl, ?yz650⟩) hHeld ?_
  case yz650 => (intro wx hSw; have hSx := Ex1.mk hSw; go_simp; (try with_reducible rfl))
  try simp only [Act.put, List.setIfInBounds_toArray, List.set_cons_zero, List.set_cons_succ]
  refine wpAnyH_take (i := 1) (v := ?z651) (by simp; rfl) (by kernel_rfl) (by kernel_rfl) (by kernel_rfl) (by exact fun _ _ _ h => h) (Or.inl ⟨by rfl, ?yz651⟩) hHeld ?_
  case yz651 => (intro wx hSw; have hSx := Ex1.mk hSw; go_simp; (try with_reducible rfl))
  try simp only [Act.put, List.setIfInBounds_toArray, List.set_cons_zero, List.set_cons_succ]
  refine wpAnyH_take (i := 3) (v := ?z652) (by simp; rfl) (by kernel_rfl) (by kernel_rfl) (by kernel_rfl) (by exact fun _ _ _ h => h) (Or.inl ⟨by rfl, ?yz652⟩) hHeld ?_
  case yz652 => (intro wx hSw; have hSx := Ex1.mk hSw; go_simp; (try with_reducible rfl))
  try simp only [Act.put, List.setIfInBounds_toArray, List.set_cons_zero, List.set_cons_succ]
  refine wpAnyH_ready (rs := [2, 10]) (by kernel_rfl) (by simp) ?_
  refine AllReadyH.cons (by simp; rfl) (fun K hK => ?_) (AllReadyH.cons (by simp; rfl) (fun K hK => ?_) AllReadyH.nil)
  go_simp
  (go_at_call 95; (with_reducible refine Calls.cQ (numOfC (by omega)) ?_); intros)
  refine hK.out _ _ inferInstance ?_
  clear hHeld hK K
  intro hHeld
  try simp only [Act.put, List.setIfInBounds_toArray, List.set_cons_zero, List.set_cons_succ]
  refine wpAnyH_ready (rs := [4, 10]) (by kernel_rfl) (by simp) ?_
  refine AllReadyH.cons (by simp; rfl) (fun K hK => ?_) (AllReadyH.cons (by simp; rfl) (fun K hK => ?_) AllReadyH.nil)
  go_simp
  (go_at_call 35; (with_reducible refine Calls.cTV tapeVC ?_); intro W6 _ _ G A L C AA LL CC G2 A2 L2 C2 AA2 LL2 CC2 u v _ _ hz)
  refine hK.out _ _ inferInstance ?_
  clear hHeld hK K
  intro hHeld
  try simp only [Act.put, List.setIfInBounds_toArray, List.set_cons_zero, List.set_cons_succ]
  refine wpAnyH_ready (rs := [5, 10]) (by kernel_rfl) (by simp) ?_
  refine AllReadyH.cons (by simp; rfl) (fun K hK => ?_) (AllReadyH.cons (by simp; rfl) (fun K hK => ?_) AllReadyH.nil)
  go_simp
  (go_at_call 46; (with_reducible refine Calls.cPQ (refPAddC (by omega)) ?_); intros)
  refine hK.out _ _ inferInstance ?_
  clear hHeld hK K
  intro hHeld
  try simp only [Act.put, List.setIfInBounds_toArray, List.set_cons_zero, List.set_cons_succ]
  refine wpAnyH_ready (rs := [6, 10]) (by kernel_rfl) (by simp) ?_
  refine AllReadyH.cons (by simp; rfl) (fun K hK => ?_) (AllReadyH.cons (by simp; rfl) (fun K hK => ?_) AllReadyH.nil)
  go_simp
  (go_at_call 34; (with_reducible refine Calls.cLZB (refThroughOk (by omega) (thr_ne hz)) ?_); intros)
  refine hK.out _ _ inferInstance ?_
  clear hHeld hK K
  intro hHeld
  try simp only [Act.put, List.setIfInBounds_toArray, List.set_cons_zero, List.set_cons_succ]
  refine wpAnyH_take (i := 7) (v := ?z653) (by simp; rfl) (by kernel_rfl) (by kernel_rfl) (by kernel_rfl) (by exact fun _ _ _ h => h) (Or.inl ⟨by rfl, ?yz653⟩) hHeld ?_
  case yz653 => (intro wx hSw; have hSx := Ex1.mk hSw; go_simp; (try with_reducible rfl))
  try simp only [Act.put, List.setIfInBounds_toArray, List.set_cons_zero, List.set_cons_succ]
  refine wpAnyH_take (i := 8) (v := ?z654) (by simp; rfl) (by kernel_rfl) (by kernel_rfl) (by kernel_rfl) (by exact fun _ _ _ h => h) (Or.inl ⟨by rfl, ?yz654⟩) hHeld ?_
  case yz654 => (intro wx hSw; have hSx := Ex1.mk hSw; go_simp; (try with_reducible rfl))
  try simp only [Act.put, List.setIfInBounds_toArray, List.set_cons_zero, List.set_cons_succ]
  refine wpAnyH_take (i := 9) (v := ?z655) (by simp; rfl) (by kernel_rfl) (by kernel_rfl) (by kernel_rfl) (by exact fun _ _ _ h => h) (Or.inl ⟨by rfl, ?yz655⟩) hHeld ?_
  case yz655 => (intro wx hSw; have hSx := Ex1.mk hSw; go_simp; (try with_reducible rfl))
  try simp only [Act.put, List.setIfInBounds_toArray, List.set_cons_zero, List.set_cons_succ]
  refine wpAnyH_ready (rs := [10]) (by kernel_rfl) (by simp) ?_
  refine AllReadyH.cons (by simp; rfl) (fun K hK => ?_) AllReadyH.nil
  go_simp
  refine hK.out _ _ inferInstance ?_
  clear hHeld hK K
  intro hHeld
  try simp only [Act.put, List.setIfInBounds_toArray, List.set_cons_zero, List.set_cons_succ]
  refine wpAnyH_ready (rs := [11]) (by kernel_rfl) (by simp) ?_
  refine AllReadyH.cons (by simp; rfl) (fun K hK => ?_) AllReadyH.nil
  go_simp
  refine hK.out _ _ inferInstance ?_
  clear hHeld hK K
  intro hHeld
  try simp only [Act.put, List.setIfInBounds_toArray, List.set_cons_zero, List.set_cons_succ]
  refine wpAnyH_take (i := 12) (v := ?z656) (by simp; rfl) (by kernel_rfl) (by kernel_rfl) (by kernel_rfl) (by exact fun _ _ _ h => h) (Or.inl ⟨by rfl, ?yz656⟩) hHeld ?_
  case yz656 => (intro wx hSw; have hSx := Ex1.mk hSw; go_simp; (try with_reducible rfl))
  try simp only [Act.put, List.setIfInBounds_toArray, List.set_cons_zero, List.set_cons_succ]
  refine wpAnyH_done (by kernel_rfl) ?_ _
  clear hHeld
  go_wp2_with fail
  refine ret_bx rfl Tryz.underlying55 rfl (by kernel_rfl) rfl rfl rfl ?_
  exact ⟨_, _, _, _, _, _, _, _, _, _, _, _, _, _, _, rfl, CZ.cast inferInstance rfl (by omega), CZ.cast inferInstance rfl (by omega), CZ.cast inferInstance rfl (by omega), lnV_num _ (thr_ne hz).out, inferInstance, inferInstance⟩
  go_simp
  refine hK.out _ _ inferInstance ?_
  clear hHeld hK K
  intro hHeld
  try simp only [Act.put, List.setIfInBounds_toArray, List.set_cons_zero, List.set_cons_succ]
  refine wpAnyH_ready (rs := [6]) (by kernel_rfl) (by simp) ?_
  refine AllReadyH.cons (by simp; rfl) (fun K hK => ?_) AllReadyH.nil
  go_simp
  (go_at_call 34; (with_reducible refine Calls.cLZB (refThroughOk (by omega) (thr_ne hz)) ?_); intros)
  refine hK.out _ _ inferInstance ?_
  clear hHeld hK K
  intro hHeld
  try simp only [Act.put, List.setIfInBounds_toArray, List.set_cons_zero, List.set_cons_succ]
  refine wpAnyH_take (i := 7) (v := ?z657) (by simp; rfl) (by kernel_rfl) (by kernel_rfl) (by kernel_rfl) (by exact fun _ _ _ h => h) (Or.inl ⟨by rfl, ?yz657⟩) hHeld ?_
  case yz657 => (intro wx hSw; have hSx := Ex1.mk hSw; go_simp; (try with_reducible rfl))
  try simp only [Act.put, List.setIfInBounds_toArray, List.set_cons_zero, List.set_cons_succ]
  refine wpAnyH_take (i := 8) (v := ?z658) (by simp; rfl) (by kernel_rfl) (by kernel_rfl) (by kernel_rfl) (by exact fun _ _ _ h => h) (Or.inl ⟨by rfl, ?yz658⟩) hHeld ?_
  case yz658 => (intro wx hSw; have hSx := Ex1.mk hSw; go_simp; (try with_reducible rfl))
  try simp only [Act.put, List.setIfInBounds_toArray, List.set_cons_zero, List.set_cons_succ]
  refine wpAnyH_take (i := 9) (v := ?z659) (by simp; rfl) (by kernel_rfl) (by kernel_rfl) (by kernel_rfl) (by exact fun _ _ _ h => h) (Or.inl ⟨by rfl, ?yz659⟩) hHeld ?_
  case yz659 => (intro wx hSw; have hSx := Ex1.mk hSw; go_simp; (try with_reducible rfl))
  try simp only [Act.put, List.setIfInBounds_toArray, List.set_cons_zero, List.set_cons_succ]
  refine wpAnyH_ready (rs := [11]) (by kernel_rfl) (by simp) ?_
  refine AllReadyH.cons (by simp; rfl) (fun K hK => ?_) AllReadyH.nil
  go_simp
  refine hK.out _ _ inferInstance ?_
  clear hHeld hK K
  intro hHeld
  try simp only [Act.put, List.setIfInBounds_toArray, List.set_cons_zero, List.set_cons_succ]
  refine wpAnyH_take (i := 12) (v := ?z660) (by simp; rfl) (by kernel_rfl) (by kernel_rfl) (by kernel_rfl) (by exact fun _ _ _ h => h) (Or.inl ⟨by rfl, ?yz660⟩) hHeld ?_
  case yz660 => (intro wx hSw; have hSx := Ex1.mk hSw; go_simp; (try with_reducible rfl))
  try simp only [Act.put, List.setIfInBounds_toArray, List.set_cons_zero, List.set_cons_succ]
  refine wpAnyH_done (by kernel_rfl) ?_ _
  clear hHeld
  go_wp2_with fail
  refine ret_bx rfl Tryz.underlying55 rfl (by kernel_rfl) rfl rfl rfl ?_
  exact ⟨_, _, _, _, _, _, _, _, _, _, _, _, _, _, _, rfl, CZ.cast inferInstance rfl (by omega), CZ.cast inferInstance rfl (by omega), CZ.cast inferInstance rfl (by omega), lnV_num _ (thr_ne hz).out, inferInstance, inferInstance⟩
  go_simp
  refine hK.out _ _ inferInstance ?_
  clear hHeld hK K
  intro hHeld
  try simp only [Act.put, List.setIfInBounds_toArray, List.set_cons_zero, List.set_cons_succ]
  refine wpAnyH_ready (rs := [5]) (by kernel_rfl) (by simp) ?_
  refine AllReadyH.cons (by simp; rfl) (fun K hK => ?_) AllReadyH.nil
  go_simp
  (go_at_call 46; (with_reducible refine Calls.cPQ (refPAddC (by omega)) ?_); intros)
  refine hK.out _ _ inferInstance ?_
  clear hHeld hK K
  intro hHeld
  try simp only [Act.put, List.setIfInBounds_toArray, List.set_cons_zero, List.set_cons_succ]
  refine wpAnyH_ready (rs := [6]) (by kernel_rfl) (by simp) ?_
  refine AllReadyH.cons (by simp; rfl) (fun K hK => ?_) AllReadyH.nil
  go_simp
  (go_at_call 34; (with_reducible refine Calls.cLZB (refThroughOk (by omega) (thr_ne hz)) ?_); intros)
  refine hK.out _ _ inferInstance ?_
  clear hHeld hK K
  intro hHeld
  try simp only [Act.put, List.setIfInBounds_toArray, List.set_cons_zero, List.set_cons_succ]
  refine wpAnyH_take (i := 7) (v := ?z661) (by simp; rfl) (by kernel_rfl) (by kernel_rfl) (by kernel_rfl) (by exact fun _ _ _ h => h) (Or.inl ⟨by rfl, ?yz661⟩) hHeld ?_
  case yz661 => (intro wx hSw; have hSx := Ex1.mk hSw; go_simp; (try with_reducible rfl))
  try simp only [Act.put, List.setIfInBounds_toArray, List.set_cons_zero, List.set_cons_succ]
  refine wpAnyH_take (i := 8) (v := ?z662) (by simp; rfl) (by kernel_rfl) (by kernel_rfl) (by kernel_rfl) (by exact fun _ _ _ h => h) (Or.inl ⟨by rfl, ?yz662⟩) hHeld ?_
  case yz662 => (intro wx hSw; have hSx := Ex1.mk hSw; go_simp; (try with_reducible rfl))
  try simp only [Act.put, List.setIfInBounds_toArray, List.set_cons_zero, List.set_cons_succ]
  refine wpAnyH_take (i := 9) (v := ?z663) (by simp; rfl) (by kernel_rfl) (by kernel_rfl) (by kernel_rfl) (by exact fun _ _ _ h => h) (Or.inl ⟨by rfl, ?yz663⟩) hHeld ?_
  case yz663 => (intro wx hSw; have hSx := Ex1.mk hSw; go_simp; (try with_reducible rfl))
  try simp only [Act.put, List.setIfInBounds_toArray, List.set_cons_zero, List.set_cons_succ]
  refine wpAnyH_ready (rs := [11]) (by kernel_rfl) (by simp) ?_
  refine AllReadyH.cons (by simp; rfl) (fun K hK => ?_) AllReadyH.nil
  go_simp
  refine hK.out _ _ inferInstance ?_
  clear hHeld hK K
  intro hHeld
  try simp only [Act.put, List.setIfInBounds_toArray, List.set_cons_zero, List.set_cons_succ]
  refine wpAnyH_take (i := 12) (v := ?z664) (by simp; rfl) (by kernel_rfl) (by kernel_rfl) (by kernel_rfl) (by exact fun _ _ _ h => h) (Or.inl ⟨by rfl, ?yz664⟩) hHeld ?_
  case yz664 => (intro wx hSw; have hSx := Ex1.mk hSw; go_simp; (try with_reducible rfl))
  try simp only [Act.put, List.setIfInBounds_toArray, List.set_cons_zero, List.set_cons_succ]
  refine wpAnyH_done (by kernel_rfl) ?_ _
  clear hHeld
  go_wp2_with fail
  refine ret_bx rfl Tryz.underlying55 rfl (by kernel_rfl) rfl rfl rfl ?_
  exact ⟨_, _, _, _, _, _, _, _, _, _, _, _, _, _, _, rfl, CZ.cast inferInstance rfl (by omega), CZ.cast inferInstance rfl (by omega), CZ.cast inferInstance rfl (by omega), lnV_num _ (thr_ne hz).out, inferInstance, inferInstance⟩
  go_simp
  refine hK.out _ _ inferInstance ?_
  clear hHeld hK K
  intro hHeld
  try simp only [Act.put, List.setIfInBounds_toArray, List.set_cons_zero, List.set_cons_succ]
  refine wpAnyH_ready (rs := [4]) (by kernel_rfl) (by simp) ?_
  refine AllReadyH.cons (by simp; rfl) (fun K hK => ?_) AllReadyH.nil
  go_simp
  (go_at_call 35; (with_reducible refine Calls.cTV tapeVC ?_); intro W6 _ _ G A L C AA LL CC G2 A2 L2 C2 AA2 LL2 CC2 u v _ _ hz)
  refine hK.out _ _ inferInstance ?_
  clear hHeld hK K
  intro hHeld
  try simp only [Act.put, List.setIfInBounds_toArray, List.set_cons_zero, List.set_cons_succ]
  refine wpAnyH_ready (rs := [5]) (by kernel_rfl) (by simp) ?_
  refine AllReadyH.cons (by simp; rfl) (fun K hK => ?_) AllReadyH.nil
  go_simp
  (go_at_call 46; (with_reducible refine Calls.cPQ (refPAddC (by omega)) ?_); intros)
  refine hK.out _ _ inferInstance ?_
  clear hHeld hK K
  intro hHeld
  try simp only [Act.put, List.setIfInBounds_toArray, List.set_cons_zero, List.set_cons_succ]
  refine wpAnyH_ready (rs := [6]) (by kernel_rfl) (by simp) ?_
  refine AllReadyH.cons (by simp; rfl) (fun K hK => ?_) AllReadyH.nil
  go_simp
  (go_at_call 34; (with_reducible refine Calls.cLZB (refThroughOk (by omega) (thr_ne hz)) ?_); intros)
  refine hK.out _ _ inferInstance ?_
  clear hHeld hK K
  intro hHeld
  try simp only [Act.put, List.setIfInBounds_toArray, List.set_cons_zero, List.set_cons_succ]
  refine wpAnyH_take (i := 7) (v := ?z665) (by simp; rfl) (by kernel_rfl) (by kernel_rfl) (by kernel_rfl) (by exact fun _ _ _ h => h) (Or.inl ⟨by rfl, ?yz665⟩) hHeld ?_
  case yz665 => (intro wx hSw; have hSx := Ex1.mk hSw; go_simp; (try with_reducible rfl))
  try simp only [Act.put, List.setIfInBounds_toArray, List.set_cons_zero, List.set_cons_succ]
  refine wpAnyH_take (i := 8) (v := ?z666) (by simp; rfl) (by kernel_rfl) (by kernel_rfl) (by kernel_rfl) (by exact fun _ _ _ h => h) (Or.inl ⟨by rfl, ?yz666⟩) hHeld ?_
  case yz666 => (intro wx hSw; have hSx := Ex1.mk hSw; go_simp; (try with_reducible rfl))
  try simp only [Act.put, List.setIfInBounds_toArray, List.set_cons_zero, List.set_cons_succ]
  refine wpAnyH_take (i := 9) (v := ?z667) (by simp; rfl) (by kernel_rfl) (by kernel_rfl) (by kernel_rfl) (by exact fun _ _ _ h => h) (Or.inl ⟨by rfl, ?yz667⟩) hHeld ?_
  case yz667 => (intro wx hSw; have hSx := Ex1.mk hSw; go_simp; (try with_reducible rfl))
  try simp only [Act.put, List.setIfInBounds_toArray, List.set_cons_zero, List.set_cons_succ]
  refine wpAnyH_ready (rs := [11]) (by kernel_rfl) (by simp) ?_
  refine AllReadyH.cons (by simp; rfl) (fun K hK => ?_) AllReadyH.nil
  go_simp
  refine hK.out _ _ inferInstance ?_
  clear hHeld hK K
  intro hHeld
  try simp only [Act.put, List.setIfInBounds_toArray, List.set_cons_zero, List.set_cons_succ]
  refine wpAnyH_take (i := 12) (v := ?z668) (by simp; rfl) (by kernel_rfl) (by kernel_rfl) (by kernel_rfl) (by exact fun _ _ _ h => h) (Or.inl ⟨by rfl, ?yz668⟩) hHeld ?_
  case yz668 => (intro wx hSw; have hSx := Ex1.mk hSw; go_simp; (try with_reducible rfl))
  try simp only [Act.put, List.setIfInBounds_toArray, List.set_cons_zero, List.set_cons_succ]
  refine wpAnyH_done (by kernel_rfl) ?_ _
  clear hHeld
  go_wp2_with fail
  refine ret_bx rfl Tryz.underlying55 rfl (by kernel_rfl) rfl rfl rfl ?_
  exact ⟨_, _, _, _, _, _, _, _, _, _, _, _, _, _, _, rfl, CZ.cast inferInstance rfl (by omega), CZ.cast inferInstance rfl (by omega), CZ.cast inferInstance rfl (by omega), lnV_num _ (thr_ne hz).out, inferInstance, inferInstance⟩
  go_simp
  refine hK.out _ _ inferInstance ?_
  clear hHeld hK K
  intro hHeld
  try simp only [Act.put, List.setIfInBounds_toArray, List.set_cons_zero, List.set_cons_succ]
  refine wpAnyH_ready (rs := [2]) (by kernel_rfl) (by simp) ?_
  refine AllReadyH.cons (by simp; rfl) (fun K hK => ?_) AllReadyH.nil
  go_simp
  (go_at_call 95; (with_reducible refine Calls.cQ (numOfC (by omega)) ?_); intros)
  refine hK.out _ _ inferInstance ?_
  clear hHeld hK K
  intro hHeld
  try simp only [Act.put, List.setIfInBounds_toArray, List.set_cons_zero, List.set_cons_succ]
  refine wpAnyH_ready (rs := [4]) (by kernel_rfl) (by simp) ?_
  refine AllReadyH.cons (by simp; rfl) (fun K hK => ?_) AllReadyH.nil
  go_simp
  (go_at_call 35; (with_reducible refine Calls.cTV tapeVC ?_); intro W6 _ _ G A L C AA LL CC G2 A2 L2 C2 AA2 LL2 CC2 u v _ _ hz)
  refine hK.out _ _ inferInstance ?_
  clear hHeld hK K
  intro hHeld
  try simp only [Act.put, List.setIfInBounds_toArray, List.set_cons_zero, List.set_cons_succ]
  refine wpAnyH_ready (rs := [5]) (by kernel_rfl) (by simp) ?_
  refine AllReadyH.cons (by simp; rfl) (fun K hK => ?_) AllReadyH.nil
  go_simp
  (go_at_call 46; (with_reducible refine Calls.cPQ (refPAddC (by omega)) ?_); intros)
  refine hK.out _ _ inferInstance ?_
  clear hHeld hK K
  intro hHeld
  try simp only [Act.put, List.setIfInBounds_toArray, List.set_cons_zero, List.set_cons_succ]
  refine wpAnyH_ready (rs := [6]) (by kernel_rfl) (by simp) ?_
  refine AllReadyH.cons (by simp; rfl) (fun K hK => ?_) AllReadyH.nil
  go_simp
  (go_at_call 34; (with_reducible refine Calls.cLZB (refThroughOk (by omega) (thr_ne hz)) ?_); intros)
  refine hK.out _ _ inferInstance ?_
  clear hHeld hK K
  intro hHeld
  try simp only [Act.put, List.setIfInBounds_toArray, List.set_cons_zero, List.set_cons_succ]
  refine wpAnyH_take (i := 7) (v := ?z669) (by simp; rfl) (by kernel_rfl) (by kernel_rfl) (by kernel_rfl) (by exact fun _ _ _ h => h) (Or.inl ⟨by rfl, ?yz669⟩) hHeld ?_
  case yz669 => (intro wx hSw; have hSx := Ex1.mk hSw; go_simp; (try with_reducible rfl))
  try simp only [Act.put, List.setIfInBounds_toArray, List.set_cons_zero, List.set_cons_succ]
  refine wpAnyH_take (i := 8) (v := ?z670) (by simp; rfl) (by kernel_rfl) (by kernel_rfl) (by kernel_rfl) (by exact fun _ _ _ h => h) (Or.inl ⟨by rfl, ?yz670⟩) hHeld ?_
  case yz670 => (intro wx hSw; have hSx := Ex1.mk hSw; go_simp; (try with_reducible rfl))
  try simp only [Act.put, List.setIfInBounds_toArray, List.set_cons_zero, List.set_cons_succ]
  refine wpAnyH_take (i := 9) (v := ?z671) (by simp; rfl) (by kernel_rfl) (by kernel_rfl) (by kernel_rfl) (by exact fun _ _ _ h => h) (Or.inl ⟨by rfl, ?yz671⟩) hHeld ?_
  case yz671 => (intro wx hSw; have hSx := Ex1.mk hSw; go_simp; (try with_reducible rfl))
  try simp only [Act.put, List.setIfInBounds_toArray, List.set_cons_zero, List.set_cons_succ]
  refine wpAnyH_ready (rs := [11]) (by kernel_rfl) (by simp) ?_
  refine AllReadyH.cons (by simp; rfl) (fun K hK => ?_) AllReadyH.nil
  go_simp
  refine hK.out _ _ inferInstance ?_
  clear hHeld hK K
  intro hHeld
  try simp only [Act.put, List.setIfInBounds_toArray, List.set_cons_zero, List.set_cons_succ]
  refine wpAnyH_take (i := 12) (v := ?z672) (by simp; rfl) (by kernel_rfl) (by kernel_rfl) (by kernel_rfl) (by exact fun _ _ _ h => h) (Or.inl ⟨by rfl, ?yz672⟩) hHeld ?_
  case yz672 => (intro wx hSw; have hSx := Ex1.mk hSw; go_simp; (try with_reducible rfl))
  try simp only [Act.put, List.setIfInBounds_toArray, List.set_cons_zero, List.set_cons_succ]
  refine wpAnyH_done (by kernel_rfl) ?_ _
  clear hHeld
  go_wp2_with fail
  refine ret_bx rfl Tryz.underlying55 rfl (by kernel_rfl) rfl rfl rfl ?_
  exact ⟨_, _, _, _, _, _, _, _, _, _, _, _, _, _, _, rfl, CZ.cast inferInstance rfl (by omega), CZ.cast inferInstance rfl (by omega), CZ.cast inferInstance rfl (by omega), lnV_num _ (thr_ne hz).out, inferInstance, inferInstance⟩

end Go.Proofs.YtlameeijogdckaaGreat
