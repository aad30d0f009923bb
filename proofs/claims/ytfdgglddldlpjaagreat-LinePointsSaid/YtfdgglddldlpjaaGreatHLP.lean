/-
  Texts of this claim, joined: Ln13, LawLP.
-/
import Derived.Test.YtfdgglddldlpjaaGreatGS
import Derived.Test.YtfdgglddldlpjaaGreatGO
/- Plain laws of the points of a line. -/
namespace Go.Proofs.YtfdgglddldlpjaaGreat
open Go.RowKit
set_option linter.unusedVariables false

theorem CZ.len {W : World} {v : Value} {z : Int} {k : Nat} (h : CZ W v z k) : (nf z.natAbs).length ≤ k := by
  obtain ⟨g, a, l, c, e, h1, h2⟩ := h.out
  exact h2.2
/-- The points of a line. -/
abbrev pX (a b c : Int) (t : Rat) : Rat := (a : Rat) * (-(c : Rat) / ((a : Rat) * a + (b : Rat) * b)) + (b : Rat) * t
abbrev pY (a b c : Int) (t : Rat) : Rat := (b : Rat) * (-(c : Rat) / ((a : Rat) * a + (b : Rat) * b)) + -(a : Rat) * t
theorem sq_pos {a b : Int} (h : ¬ (a = 0 ∧ b = 0)) : 0 < (a : Rat) * a + (b : Rat) * b := by
  have h1 : (a : Rat) * a + (b : Rat) * b = ((a * a + b * b : Int) : Rat) := by simp [Rat.intCast_add, Rat.intCast_mul]
  have h2 := sq_ne h
  rw [h1] at h2 ⊢
  have p1 : 0 ≤ a * a := by rcases Int.le_total 0 a with h | h; exact Int.mul_nonneg h h; exact Int.mul_nonneg_of_nonpos_of_nonpos h h
  have p2 : 0 ≤ b * b := by rcases Int.le_total 0 b with h | h; exact Int.mul_nonneg h h; exact Int.mul_nonneg_of_nonpos_of_nonpos h h
  have h3 : a * a + b * b ≠ 0 := fun e => h2 (by rw [e]; rfl)
  exact Rat.intCast_pos.2 (by omega)
theorem left_val {a b c : Int} (h : LnV a b c) (t : Rat) : isgn ((a : Rat) * (pX a b c t + - -(a : Rat)) + (b : Rat) * (pY a b c t + (b : Rat)) + (c : Rat)).num = 1 := by
  refine isg_pos.2 ?_
  have h1 := on_line (t := t) (c := (c : Rat)) (sq_ne h.1)
  have h2 := sq_pos h.1
  have h3 : (a : Rat) * (pX a b c t + - -(a : Rat)) + (b : Rat) * (pY a b c t + (b : Rat)) + (c : Rat) = (a : Rat) * a + (b : Rat) * b := by unfold pX pY; grind
  rw [h3]; exact h2
theorem right_val {a b c : Int} (h : LnV a b c) (t : Rat) : isgn (((-a : Int) : Rat) * (pX a b c t + - -(a : Rat)) + ((-b : Int) : Rat) * (pY a b c t + (b : Rat)) + ((-c : Int) : Rat)).num = -1 := by
  refine isg_neg.2 ?_
  have h1 := on_line (t := t) (c := (c : Rat)) (sq_ne h.1)
  have h2 := sq_pos h.1
  have h3 : ((-a : Int) : Rat) * (pX a b c t + - -(a : Rat)) + ((-b : Int) : Rat) * (pY a b c t + (b : Rat)) + ((-c : Int) : Rat) = -((a : Rat) * a + (b : Rat) * b) := by
    rw [Rat.intCast_neg, Rat.intCast_neg, Rat.intCast_neg]; unfold pX pY; grind
  rw [h3]; grind
theorem th_a (a b c : Int) (s t : Rat) : thA (pY a b c s) (pY a b c t) = (a : Rat) * (t - s) := by unfold thA pY; grind
theorem th_b (a b c : Int) (s t : Rat) : pX a b c t - pX a b c s = (b : Rat) * (t - s) := by unfold pX; grind
theorem th_c {a b c : Int} (h : LnV a b c) (s t : Rat) : thC (pX a b c s) (pY a b c s) (pX a b c t) (pY a b c t) = (c : Rat) * (t - s) := by
  have h1 := on_line (t := s) (c := (c : Rat)) (sq_ne h.1)
  have ha := th_a a b c s t
  have hb := th_b a b c s t
  unfold thC
  have h2 : -(pY a b c t - pY a b c s) = (a : Rat) * (t - s) := ha
  rw [h2, hb]
  have h3 : (a : Rat) * pX a b c s + (b : Rat) * pY a b c s + (c : Rat) = 0 := h1
  grind
theorem th_ne {a b : Int} {d : Rat} (h : ¬ (a = 0 ∧ b = 0)) (hd : d ≠ 0) : ¬ ((a : Rat) * d = 0 ∧ (b : Rat) * d = 0) := fun ⟨h1, h2⟩ => h
  ⟨by rcases Rat.mul_eq_zero.1 h1 with e | e; exact_mod_cast e; exact absurd e hd, by rcases Rat.mul_eq_zero.1 h2 with e | e; exact_mod_cast e; exact absurd e hd⟩
/-- What the line through two points comes to. -/
def ThV (x1 y1 x2 y2 : Rat) (A B C : Int) : Prop := ¬ (thA y1 y2 = 0 ∧ x2 - x1 = 0) ∧ ((lnK (thA y1 y2) (thA y1 y2) (x2 - x1) (thC x1 y1 x2 y2))).num = A ∧ ((lnK (x2 - x1) (thA y1 y2) (x2 - x1) (thC x1 y1 x2 y2))).num = B ∧ ((lnK (thC x1 y1 x2 y2) (thA y1 y2) (x2 - x1) (thC x1 y1 x2 y2))).num = C
theorem th_same {a b c : Int} (h : LnV a b c) {s t : Rat} (hst : s < t) : ThV (pX a b c s) (pY a b c s) (pX a b c t) (pY a b c t) a b c := by
  have hd : 0 < t - s := by grind
  unfold ThV
  rw [th_a, th_b, th_c h, lnK_pos h hd, lnK_pos h hd, lnK_pos h hd]
  exact ⟨th_ne h.1 (by grind), rfl, rfl, rfl⟩
theorem th_opp {a b c : Int} (h : LnV a b c) {s t : Rat} (hst : t < s) : ThV (pX a b c s) (pY a b c s) (pX a b c t) (pY a b c t) (-a) (-b) (-c) := by
  have hd : 0 < s - t := by grind
  unfold ThV
  rw [th_a, th_b, th_c h]
  have e : ∀ z : Int, (z : Rat) * (t - s) = ((-z : Int) : Rat) * (s - t) := fun z => by rw [Rat.intCast_neg]; grind
  rw [e a, e b, e c, lnK_pos h.rev hd, lnK_pos h.rev hd, lnK_pos h.rev hd]
  exact ⟨th_ne h.rev.1 (by grind), rfl, rfl, rfl⟩
theorem th_zero {a b c : Int} {s t : Rat} (hst : s = t) : thA (pY a b c s) (pY a b c t) = 0 ∧ pX a b c t - pX a b c s = 0 := by
  subst hst
  rw [th_a, th_b]
  exact ⟨by grind, by grind⟩
theorem lineThroughV {w : World} {A B C : Int} {m : Nat} {g1x g1y g2x g2y : Bool} {a1x aa1x a1y aa1y a2x aa2x a2y aa2y : Option Addr} {l1x c1x ll1x cc1x l1y c1y ll1y cc1y l2x c2x ll2x cc2x l2y c2y ll2y cc2y k1x k1y k2x k2y : Nat} {x1 y1 x2 y2 : Rat} [h1x : CW w (.agg #[.bool g1x, .slice a1x l1x c1x, .slice aa1x ll1x cc1x]) x1 k1x] [h1y : CW w (.agg #[.bool g1y, .slice a1y l1y c1y, .slice aa1y ll1y cc1y]) y1 k1y] [h2x : CW w (.agg #[.bool g2x, .slice a2x l2x c2x, .slice aa2x ll2x cc2x]) x2 k2x] [h2y : CW w (.agg #[.bool g2y, .slice a2y l2y c2y, .slice aa2y ll2y cc2y]) y2 k2y] (b : k1x ≤ 500 ∧ k1y ≤ 500 ∧ k2x ≤ 500 ∧ k2y ≤ 500) (h : Hid (ThV x1 y1 x2 y2 A B C)) (hl : Hid ((nf A.natAbs).length ≤ m ∧ (nf B.natAbs).length ≤ m ∧ (nf C.natAbs).length ≤ m)) :
    Calls Tryz.prog 16 #[.agg #[.bool g1x, .slice a1x l1x c1x, .slice aa1x ll1x cc1x, .bool g1y, .slice a1y l1y c1y, .slice aa1y ll1y cc1y], .agg #[.bool g2x, .slice a2x l2x c2x, .slice aa2x ll2x cc2x, .bool g2y, .slice a2y l2y c2y, .slice aa2y ll2y cc2y]] w (LZBRet w A B C true m) := by
  obtain ⟨h0, rfl, rfl, rfl⟩ := h.out
  refine (lineThroughOk b (Lib.hid h0)).mono ?_
  rintro e w' ⟨gx, ax, lx, cx, gy, ay, ly, cy, gz, az, lz, cz, rfl, hx, hy, hz, hb⟩
  exact ⟨_, _, _, _, _, _, _, _, _, _, _, _, rfl, hx.tight hl.out.1, hy.tight hl.out.2.1, hz.tight hl.out.2.2, hb⟩
def phiPA (x y : Rat) (k : Nat) (u : Value) (W : World) : Prop := ∃ gx ax lx cx aax llx ccx gy ay ly cy aay lly ccy, u = .agg #[.bool gx, .slice ax lx cx, .slice aax llx ccx, .bool gy, .slice ay ly cy, .slice aay lly ccy] ∧ CA W (.agg #[.bool gx, .slice ax lx cx, .slice aax llx ccx]) x k ∧ CA W (.agg #[.bool gy, .slice ay ly cy, .slice aay lly ccy]) y k
instance {x y : Rat} {k : Nat} : Last (phiPA x y k) := ⟨fun _ _ _ hb ⟨gx, ax, lx, cx, aax, llx, ccx, gy, ay, ly, cy, aay, lly, ccy, e, _, _⟩ => have := Kp1.mk hb; ⟨gx, ax, lx, cx, aax, llx, ccx, gy, ay, ly, cy, aay, lly, ccy, e, inferInstance, inferInstance⟩⟩
theorem phiPA.fin {W : World} {gx : Bool} {ax : Option Addr} {lx : Nat} {cx : Nat} {aax : Option Addr} {llx : Nat} {ccx : Nat} {gy : Bool} {ay : Option Addr} {ly : Nat} {cy : Nat} {aay : Option Addr} {lly : Nat} {ccy : Nat} {x x' : Rat} {kx : Nat} {y y' : Rat} {ky : Nat} {k : Nat} [hx : CA W (.agg #[.bool gx, .slice ax lx cx, .slice aax llx ccx]) x kx] [hy : CA W (.agg #[.bool gy, .slice ay ly cy, .slice aay lly ccy]) y ky] (ex : x = x') (mx : kx ≤ k) (ey : y = y') (my : ky ≤ k) : phiPA x' y' k (.agg #[.bool gx, .slice ax lx cx, .slice aax llx ccx, .bool gy, .slice ay ly cy, .slice aay lly ccy]) W := ⟨gx, ax, lx, cx, aax, llx, ccx, gy, ay, ly, cy, aay, lly, ccy, rfl, hx.cast ex mx, hy.cast ey my⟩
def phiA (x : Rat) (k : Nat) (u : Value) (W : World) : Prop := ∃ g a l c aa ll cc, u = .agg #[.bool g, .slice a l c, .slice aa ll cc] ∧ CA W (.agg #[.bool g, .slice a l c, .slice aa ll cc]) x k
instance {x : Rat} {k : Nat} : Last (phiA x k) := ⟨fun _ _ _ hb ⟨g, a, l, c, aa, ll, cc, e, _⟩ => have := Kp1.mk hb; ⟨g, a, l, c, aa, ll, cc, e, inferInstance⟩⟩
theorem phiA.fin {W : World} {g : Bool} {a : Option Addr} {l : Nat} {c : Nat} {aa : Option Addr} {ll : Nat} {cc : Nat} {x x' : Rat} {kx : Nat} {k : Nat} [hx : CA W (.agg #[.bool g, .slice a l c, .slice aa ll cc]) x kx] (ex : x = x') (mx : kx ≤ k) : phiA x' k (.agg #[.bool g, .slice a l c, .slice aa ll cc]) W := ⟨g, a, l, c, aa, ll, cc, rfl, hx.cast ex mx⟩
theorem numSV0 {w : World} {v : Int} {g1 : Bool} {a1 aa1 : Option Addr} {l1 c1 ll1 cc1 : Nat} {x : Rat} {k1 : Nat} [h1 : CQ w (.agg #[.bool g1, .slice a1 l1 c1, .slice aa1 ll1 cc1]) x k1] (hv : Hid (isgn x.num = v)) :
    Calls Tryz.prog 29 #[.agg #[.bool g1, .slice a1 l1 c1, .slice aa1 ll1 cc1]] w (fun e w' => e = .returned (.int .i64 v) ∧ Below w.heap.size w w') := by
  rw [← hv.out]; exact numSC
end Go.Proofs.YtfdgglddldlpjaaGreat

/- The walk of the law LinePoints: it returns true and changes nothing that was there. printed by a small program (mkln13.py). -/
namespace Go.Proofs.YtfdgglddldlpjaaGreat
open Go.RowKit
set_option maxRecDepth 100000
set_option maxHeartbeats 40000000
set_option synthInstance.maxSize 100000
set_option synthInstance.maxHeartbeats 1000000

set_option linter.unusedSimpArgs false
theorem linePoints_walk (a0 : Option Addr) (len0 cap0 : Nat) (z0 : List Int) (w : World) (w0 : IsRow .i64 w a0 len0 cap0 z0) :
    Calls Tryz.prog 5 #[.slice a0 len0 cap0] w fun e w' => e = .returned (.bool true) ∧ Below w.heap.size w w' := by
  go_enter Tryz.func5, Tryz.ntmps5
  go_wp2_with fail
  with_reducible refine Calls.cNew (newW w0) ?_
  intro W0 _ _
  go_wp2_with fail
  with_reducible refine Calls.cTL tapeLC ?_
  intro W1 _ _ gx1 ax1 lx1 cx1 gy1 ay1 ly1 cy1 gz1 az1 lz1 cz1 la lb lc i1 i2 i3 hv1
  have HL : Hid ((nf la.natAbs).length ≤ 1 ∧ (nf lb.natAbs).length ≤ 1 ∧ (nf lc.natAbs).length ≤ 1) := ⟨i1.len, i2.len, i3.len⟩
  have HM : Hid ((nf (-la).natAbs).length ≤ 1 ∧ (nf (-lb).natAbs).length ≤ 1 ∧ (nf (-lc).natAbs).length ≤ 1) := by
    refine Lib.hid ?_
    rw [Int.natAbs_neg, Int.natAbs_neg, Int.natAbs_neg]; exact HL.out
  go_wp2_with fail
  with_reducible refine Calls.cLZ (toLC (by omega)) ?_
  intros
  go_wp2_with fail
  with_reducible refine Calls.cTQ tapeQC ?_
  intro W2 _ _ g2 a2 l2 c2 aa2 ll2 cc2 s _
  go_wp2_with fail
  with_reducible refine Calls.cA (toQC (by omega)) ?_
  intros
  go_wp2_with fail
  with_reducible refine Calls.cTQ tapeQC ?_
  intro W3 _ _ g3 a3 l3 c3 aa3 ll3 cc3 t _
  go_wp2_with fail
  with_reducible refine Calls.cA (toQC (by omega)) ?_
  intro W4 _ gq aq lq cq aaq llq ccq _
  go_wp2_with fail
  have hr1 := Lib.hid hv1.out.rev
  have HV : Hid (isgn ((la : Rat) * pX la lb lc s + (lb : Rat) * pY la lb lc s + (lc : Rat)).num = 0) := by show _ = _; rw [on_line (sq_ne hv1.out.1)]; rfl
  have HP : ∀ t : Rat, ((lb : Rat) * pX la lb lc t + -(la : Rat) * pY la lb lc t) / ((lb : Rat) * lb + -(la : Rat) * -(la : Rat)) = t := fun t => par_line (sq_ne hv1.out.1)
  have HP := Lib.hid HP
  have H1 := Lib.hid (left_val hv1.out s)
  have H2 := Lib.hid (right_val hv1.out s)
  refine rgnW [] [] fun w0 ew hHeld => ?_
  refine tk 0 hHeld ?_
  refine tk 1 hHeld ?_
  refine tk 3 hHeld ?_
  refine tk 4 hHeld ?_
  refine wpAnyT_inv [(2, 26), (5, 29), (6, 7), (7, 8)] (fun i => match i with | 2 => [] | 5 => [2] | 6 => [] | 7 => [] | _ => []) [phiPA (pX la lb lc s) (pY la lb lc s) 400, phiPA (pX la lb lc t) (pY la lb lc t) 400, phiB w0 54 [.bool false, .slice none 0 0, .slice none 0 0, .bool false, .slice none 0 0, .slice none 0 0], phiB w0 54 [.bool false, .slice none 0 0, .slice none 0 0, .bool false, .slice none 0 0, .slice none 0 0]] [6, 7] 2 (by rfl) (by decide +kernel) (by decide) (by decide) (by kernel_rfl) ?_ (fun _ _ => Ex.below) hHeld ?_ ?_
  · intro i hi v W h
    simp only [List.mem_cons, List.not_mem_nil, or_false] at hi
    rcases hi with rfl | rfl
    all_goals exact phiB.old h
  · intro i hi f W hSw hbw hp
    have kw := Kp1.mk hbw
    have kv := kpOf ew (W := W)
    have kz : Kz w0 W := ⟨kv.out.size⟩
    have hSx := Ex1.mk hSw
    clear hHeld
    simp only [List.map_cons, List.map_nil, List.mem_cons, List.not_mem_nil, or_false] at hi
    rcases hi with rfl | rfl | rfl | rfl
    · refine ⟨_, by simp; rfl, fun K' hK => ?_⟩
      clear hp
      simp only [putAll, Act.put, List.setIfInBounds_toArray, List.set_cons_zero, List.set_cons_succ] at hK ⊢
      generalize f 2 = v2 at *
      generalize f 5 = v5 at *
      generalize f 6 = v6 at *
      generalize f 7 = v7 at *
      go_simp
      (with_reducible refine Calls.cPA (lineAtC (by omega) hv1) ?_); intros
      refine hK.out _ _ _ rfl (inferInstance : Kp W _).out ?_ ?_
      · exact phiPA.fin rfl (by omega) rfl (by omega)
      · exact fun h => absurd h (by decide)
    · have h2 : phiPA (pX la lb lc s) (pY la lb lc s) 400 (f 2) W := hp 2 (by decide)
      refine ⟨_, by simp; rfl, fun K' hK => ?_⟩
      clear hp
      simp only [putAll, Act.put, List.setIfInBounds_toArray, List.set_cons_zero, List.set_cons_succ] at hK ⊢
      generalize f 2 = v2 at *
      generalize f 5 = v5 at *
      generalize f 6 = v6 at *
      generalize f 7 = v7 at *
      obtain ⟨gx2, ax2, lx2, cx2, aax2, llx2, ccx2, gy2, ay2, ly2, cy2, aay2, lly2, ccy2, rfl, ix2, iy2⟩ := h2
      go_simp
      (with_reducible refine Calls.cPA (lineAtC (by omega) hv1) ?_); intros
      refine hK.out _ _ _ rfl (inferInstance : Kp W _).out ?_ ?_
      · exact phiPA.fin rfl (by omega) rfl (by omega)
      · exact fun h => absurd h (by decide)
    · refine ⟨_, by simp; rfl, fun K' hK => ?_⟩
      clear hp
      simp only [putAll, Act.put, List.setIfInBounds_toArray, List.set_cons_zero, List.set_cons_succ] at hK ⊢
      generalize f 2 = v2 at *
      generalize f 5 = v5 at *
      generalize f 6 = v6 at *
      generalize f 7 = v7 at *
      go_simp
      refine hK.out _ _ _ rfl (inferInstance : Kp W _).out ?_ ?_
      · exact phiB.fin
      · exact fun _ => ⟨_, rfl, Nat.le_refl _⟩
    · refine ⟨_, by simp; rfl, fun K' hK => ?_⟩
      clear hp
      simp only [putAll, Act.put, List.setIfInBounds_toArray, List.set_cons_zero, List.set_cons_succ] at hK ⊢
      generalize f 2 = v2 at *
      generalize f 5 = v5 at *
      generalize f 6 = v6 at *
      generalize f 7 = v7 at *
      go_simp
      refine hK.out _ _ _ rfl (inferInstance : Kp W _).out ?_ ?_
      · exact phiB.fin
      · exact fun _ => ⟨_, rfl, Nat.le_refl _⟩
  intro f W hSw hbw hf hne
  have kw := Kp1.mk hbw
  have hSx := Ex1.mk hSw
  clear hHeld
  have kv := kpOf ew (W := W)
  have kz : Kz w0 W := ⟨kv.out.size⟩
  have h2 : phiPA (pX la lb lc s) (pY la lb lc s) 400 (f 2) W := hf 2 (by decide)
  have h5 : phiPA (pX la lb lc t) (pY la lb lc t) 400 (f 5) W := hf 5 (by decide)
  have h6 : phiB w0 54 [.bool false, .slice none 0 0, .slice none 0 0, .bool false, .slice none 0 0, .slice none 0 0] (f 6) W := hf 6 (by decide)
  have h7 : phiB w0 54 [.bool false, .slice none 0 0, .slice none 0 0, .bool false, .slice none 0 0, .slice none 0 0] (f 7) W := hf 7 (by decide)
  have n6_7 := hne 6 7 (by decide) (by decide) (by decide) (by decide) (by decide)
  clear hf hne
  simp only [putAll, lset, List.map_cons, List.map_nil, Act.put, List.setIfInBounds_toArray, List.set_cons_zero, List.set_cons_succ]
  generalize f 2 = v2 at *
  generalize f 5 = v5 at *
  generalize f 6 = v6 at *
  generalize f 7 = v7 at *
  obtain ⟨gx2, ax2, lx2, cx2, aax2, llx2, ccx2, gy2, ay2, ly2, cy2, aay2, lly2, ccy2, rfl, ix2, iy2⟩ := h2
  obtain ⟨gx5, ax5, lx5, cx5, aax5, llx5, ccx5, gy5, ay5, ly5, cy5, aay5, lly5, ccy5, rfl, ix5, iy5⟩ := h5
  obtain ⟨b6, rfl, i6, j6, k6⟩ := h6
  obtain ⟨b7, rfl, i7, j7, k7⟩ := h7
  have nw6 := nwOf ew j6
  have gg6 := ggOf ew k6
  have gl6 : Ge w b6 := ⟨by have h2 := j6.out; rw [ew.out] at h2; exact Nat.le_trans (inferInstance : Kp w _).out.size h2⟩
  have nw7 := nwOf ew j7
  have gg7 := ggOf ew k7
  have gl7 : Ge w b7 := ⟨by have h2 := j7.out; rw [ew.out] at h2; exact Nat.le_trans (inferInstance : Kp w _).out.size h2⟩
  have n6_7 := ptr_ne n6_7
  have n7_6 : NeN b7 b6 := ⟨fun e => n6_7.out e.symm⟩
  have hHeld := hSw
  refine st 8 fun K hK => ?_
  go_simp
  refine hd hK ?_
  clear hHeld hK K
  intro hHeld
  refine st 9 fun K hK => ?_
  go_simp
  refine hd hK ?_
  clear hHeld hK K
  intro hHeld
  refine dn ?_
  clear hHeld
  go_wp2_with fail
  refine rgn [] [] fun hHeld => ?_
  refine tk 0 hHeld ?_
  refine tk 1 hHeld ?_
  refine st 2 fun K hK => ?_
  go_simp
  (with_reducible refine Calls.cA (lineValueC (by omega) hv1) ?_); intros
  refine hd hK ?_
  clear hHeld hK K
  intro hHeld
  refine st 3 fun K hK => ?_
  go_simp
  (with_reducible refine Calls.cQ (refQC (by omega)) ?_); intros
  refine hd hK ?_
  clear hHeld hK K
  intro hHeld
  refine st 4 fun K hK => ?_
  go_simp
  (with_reducible refine Calls.cE (numSV0 HV) ?_); intros
  refine hd hK ?_
  clear hHeld hK K
  intro hHeld
  refine tk 5 hHeld ?_
  refine tk 6 hHeld ?_
  refine tk 7 hHeld ?_
  refine tk 8 hHeld ?_
  refine tk 10 hHeld ?_
  refine st 9 fun K hK => ?_
  go_simp
  (with_reducible refine Calls.cA (lineParamC (by omega) hv1) ?_); intros
  refine hd hK ?_
  clear hHeld hK K
  intro hHeld
  refine st 11 fun K hK => ?_
  go_simp
  (with_reducible refine Calls.cE (sameQC (HP.out _)) ?_); intros
  refine hd hK ?_
  clear hHeld hK K
  intro hHeld
  refine tk 12 hHeld ?_
  refine tk 13 hHeld ?_
  refine tk 14 hHeld ?_
  refine tk 15 hHeld ?_
  refine tk 16 hHeld ?_
  refine tk 18 hHeld ?_
  refine st 17 fun K hK => ?_
  go_simp
  (with_reducible refine Calls.cA (lineParamC (by omega) hv1) ?_); intros
  refine hd hK ?_
  clear hHeld hK K
  intro hHeld
  refine st 19 fun K hK => ?_
  go_simp
  (with_reducible refine Calls.cE (sameQC (HP.out _)) ?_); intros
  refine hd hK ?_
  clear hHeld hK K
  intro hHeld
  refine tk 20 hHeld ?_
  refine tk 21 hHeld ?_
  refine dn ?_
  clear hHeld
  go_wp2_with (go_at_call 34; (with_reducible refine Calls.cPA (lineDirectionC (by omega) hv1) ?_); intros)
  refine rgnW [] [] fun w0 ew hHeld => ?_
  refine tk 0 hHeld ?_
  refine tk 1 hHeld ?_
  refine tk 5 hHeld ?_
  refine tk 6 hHeld ?_
  refine wpAnyT_inv [(2, 56), (3, 57), (4, 58), (7, 61), (8, 10)] (fun i => match i with | 2 => [] | 3 => [2] | 4 => [3] | 7 => [4] | 8 => [] | _ => []) [phiQ (-(la : Rat)) 300, phiQ (-(-(la : Rat))) 300, phiA (-(-(la : Rat))) 400, phiPA (-(-(la : Rat))) (lb : Rat) 400, phiB w0 54 [.bool false, .slice none 0 0, .slice none 0 0, .bool false, .slice none 0 0, .slice none 0 0]] [8] 1 (by rfl) (by decide +kernel) (by decide) (by decide) (by kernel_rfl) ?_ (fun _ _ => Ex.below) hHeld ?_ ?_
  · intro i hi v W h
    simp only [List.mem_cons, List.not_mem_nil, or_false] at hi
    rcases hi with rfl
    all_goals exact phiB.old h
  · intro i hi f W hSw hbw hp
    have kw := Kp1.mk hbw
    have kv := kpOf ew (W := W)
    have kz : Kz w0 W := ⟨kv.out.size⟩
    have hSx := Ex1.mk hSw
    clear hHeld
    simp only [List.map_cons, List.map_nil, List.mem_cons, List.not_mem_nil, or_false] at hi
    rcases hi with rfl | rfl | rfl | rfl | rfl
    · refine ⟨_, by simp; rfl, fun K' hK => ?_⟩
      clear hp
      simp only [putAll, Act.put, List.setIfInBounds_toArray, List.set_cons_zero, List.set_cons_succ] at hK ⊢
      generalize f 2 = v2 at *
      generalize f 3 = v3 at *
      generalize f 4 = v4 at *
      generalize f 7 = v7 at *
      generalize f 8 = v8 at *
      go_simp
      (with_reducible refine Calls.cQ (refQC (by omega)) ?_); intros
      refine hK.out _ _ _ rfl (inferInstance : Kp W _).out ?_ ?_
      · exact phiQ.fin rfl (by omega)
      · exact fun h => absurd h (by decide)
    · have h2 : phiQ (-(la : Rat)) 300 (f 2) W := hp 2 (by decide)
      refine ⟨_, by simp; rfl, fun K' hK => ?_⟩
      clear hp
      simp only [putAll, Act.put, List.setIfInBounds_toArray, List.set_cons_zero, List.set_cons_succ] at hK ⊢
      generalize f 2 = v2 at *
      generalize f 3 = v3 at *
      generalize f 4 = v4 at *
      generalize f 7 = v7 at *
      generalize f 8 = v8 at *
      obtain ⟨g2, a2, l2, c2, aa2, ll2, cc2, rfl, i2⟩ := h2
      go_simp
      (with_reducible refine Calls.cQ (numOppC) ?_); intros
      refine hK.out _ _ _ rfl (inferInstance : Kp W _).out ?_ ?_
      · exact phiQ.fin rfl (by omega)
      · exact fun h => absurd h (by decide)
    · have h3 : phiQ (-(-(la : Rat))) 300 (f 3) W := hp 3 (by decide)
      refine ⟨_, by simp; rfl, fun K' hK => ?_⟩
      clear hp
      simp only [putAll, Act.put, List.setIfInBounds_toArray, List.set_cons_zero, List.set_cons_succ] at hK ⊢
      generalize f 2 = v2 at *
      generalize f 3 = v3 at *
      generalize f 4 = v4 at *
      generalize f 7 = v7 at *
      generalize f 8 = v8 at *
      obtain ⟨g3, a3, l3, c3, aa3, ll3, cc3, rfl, i3⟩ := h3
      go_simp
      (with_reducible refine Calls.cA (toQC (by omega)) ?_); intros
      refine hK.out _ _ _ rfl (inferInstance : Kp W _).out ?_ ?_
      · exact phiA.fin rfl (by omega)
      · exact fun h => absurd h (by decide)
    · have h4 : phiA (-(-(la : Rat))) 400 (f 4) W := hp 4 (by decide)
      refine ⟨_, by simp; rfl, fun K' hK => ?_⟩
      clear hp
      simp only [putAll, Act.put, List.setIfInBounds_toArray, List.set_cons_zero, List.set_cons_succ] at hK ⊢
      generalize f 2 = v2 at *
      generalize f 3 = v3 at *
      generalize f 4 = v4 at *
      generalize f 7 = v7 at *
      generalize f 8 = v8 at *
      obtain ⟨g4, a4, l4, c4, aa4, ll4, cc4, rfl, ix4⟩ := h4
      go_simp
      refine hK.out _ _ _ rfl (inferInstance : Kp W _).out ?_ ?_
      · exact phiPA.fin rfl (by omega) rfl (by omega)
      · exact fun h => absurd h (by decide)
    · refine ⟨_, by simp; rfl, fun K' hK => ?_⟩
      clear hp
      simp only [putAll, Act.put, List.setIfInBounds_toArray, List.set_cons_zero, List.set_cons_succ] at hK ⊢
      generalize f 2 = v2 at *
      generalize f 3 = v3 at *
      generalize f 4 = v4 at *
      generalize f 7 = v7 at *
      generalize f 8 = v8 at *
      go_simp
      refine hK.out _ _ _ rfl (inferInstance : Kp W _).out ?_ ?_
      · exact phiB.fin
      · exact fun _ => ⟨_, rfl, Nat.le_refl _⟩
  intro f W hSw hbw hf hne
  have kw := Kp1.mk hbw
  have hSx := Ex1.mk hSw
  clear hHeld
  have kv := kpOf ew (W := W)
  have kz : Kz w0 W := ⟨kv.out.size⟩
  have h2 : phiQ (-(la : Rat)) 300 (f 2) W := hf 2 (by decide)
  have h3 : phiQ (-(-(la : Rat))) 300 (f 3) W := hf 3 (by decide)
  have h4 : phiA (-(-(la : Rat))) 400 (f 4) W := hf 4 (by decide)
  have h7 : phiPA (-(-(la : Rat))) (lb : Rat) 400 (f 7) W := hf 7 (by decide)
  have h8 : phiB w0 54 [.bool false, .slice none 0 0, .slice none 0 0, .bool false, .slice none 0 0, .slice none 0 0] (f 8) W := hf 8 (by decide)
  clear hf hne
  simp only [putAll, lset, List.map_cons, List.map_nil, Act.put, List.setIfInBounds_toArray, List.set_cons_zero, List.set_cons_succ]
  generalize f 2 = v2 at *
  generalize f 3 = v3 at *
  generalize f 4 = v4 at *
  generalize f 7 = v7 at *
  generalize f 8 = v8 at *
  obtain ⟨g2, a2, l2, c2, aa2, ll2, cc2, rfl, i2⟩ := h2
  obtain ⟨g3, a3, l3, c3, aa3, ll3, cc3, rfl, i3⟩ := h3
  obtain ⟨g4, a4, l4, c4, aa4, ll4, cc4, rfl, ix4⟩ := h4
  obtain ⟨gx7, ax7, lx7, cx7, aax7, llx7, ccx7, gy7, ay7, ly7, cy7, aay7, lly7, ccy7, rfl, ix7, iy7⟩ := h7
  obtain ⟨b8, rfl, i8, j8, k8⟩ := h8
  have nw8 := nwOf ew j8
  have gg8 := ggOf ew k8
  have gl8 : Ge w b8 := ⟨by have h2 := j8.out; rw [ew.out] at h2; exact Nat.le_trans (inferInstance : Kp w _).out.size h2⟩
  have hHeld := hSw
  refine st 9 fun K hK => ?_
  go_simp
  refine hd hK ?_
  clear hHeld hK K
  intro hHeld
  refine dn ?_
  clear hHeld
  go_wp2_with fail
  refine rgn [] [] fun hHeld => ?_
  refine tk 0 hHeld ?_
  refine tk 1 hHeld ?_
  refine tk 2 hHeld ?_
  refine st 3 fun K hK => ?_
  go_simp
  (with_reducible refine Calls.cPA (pAddC (by omega)) ?_); intros
  refine hd hK ?_
  clear hHeld hK K
  intro hHeld
  refine st 4 fun K hK => ?_
  go_simp
  (with_reducible refine Calls.cE (lineSideV (by omega) hv1 H1) ?_); intros
  refine hd hK ?_
  clear hHeld hK K
  intro hHeld
  refine tk 5 hHeld ?_
  refine tk 6 hHeld ?_
  refine tk 7 hHeld ?_
  refine tk 9 hHeld ?_
  refine tk 10 hHeld ?_
  refine st 8 fun K hK => ?_
  go_simp
  (with_reducible refine Calls.cLZ (lineReverseC (by omega) hv1) ?_); intros
  refine hd hK ?_
  clear hHeld hK K
  intro hHeld
  refine st 11 fun K hK => ?_
  go_simp
  (with_reducible refine Calls.cPA (pAddC (by omega)) ?_); intros
  refine hd hK ?_
  clear hHeld hK K
  intro hHeld
  refine st 12 fun K hK => ?_
  go_simp
  (with_reducible refine Calls.cE (lineSideV (by omega) hr1 H2) ?_); intros
  refine hd hK ?_
  clear hHeld hK K
  intro hHeld
  refine tk 13 hHeld ?_
  refine tk 14 hHeld ?_
  refine dn ?_
  clear hHeld
  rcases isgn_cases (s - t).num with ⟨_, e⟩ | ⟨_, e⟩ | ⟨_, e⟩
  · have HT := Lib.hid (th_same hv1.out (s := s) (t := t) (by have := isg_neg.1 e; grind))
    have HC := Lib.hid e
    clear e
    go_wp2_with (go_at_call 16; (with_reducible refine Calls.cLZB (lineThroughV (by omega) HT HL) ?_); intros)
    refine rgn [] [] fun hHeld => ?_
    refine tk 0 hHeld ?_
    refine tk 2 hHeld ?_
    refine st 1 fun K hK => ?_
    go_simp
    (with_reducible refine Calls.cQ (refQC (by omega)) ?_); intros
    refine hd hK ?_
    clear hHeld hK K
    intro hHeld
    refine st 3 fun K hK => ?_
    go_simp
    (with_reducible refine Calls.cQ (refQC (by omega)) ?_); intros
    refine hd hK ?_
    clear hHeld hK K
    intro hHeld
    refine st 4 fun K hK => ?_
    go_simp
    (with_reducible refine Calls.cE (numCV (by omega) HC) ?_); intros
    refine hd hK ?_
    clear hHeld hK K
    intro hHeld
    refine dn ?_
    clear hHeld
    go_wp2_with (first
      | (go_at_call 8; (with_reducible refine Calls.cE (known05C) ?_); intros)
      | (go_at_call 38; (with_reducible refine Calls.cE (lineSameC (v := true) (by omega) hv1 hv1 (by refine Lib.hid ?_; simp)) ?_); intros))
    go_ret
    exact E.fin rfl
  · have HT := Lib.hid (th_zero (a := la) (b := lb) (c := lc) (s := s) (t := t) (by have := isg_zero.1 e; grind))
    have HC := Lib.hid e
    clear e
    go_wp2_with (go_at_call 16; (with_reducible refine Calls.cLZB (lineThroughNo (by omega) HT) ?_); intros)
    refine rgn [] [] fun hHeld => ?_
    refine tk 0 hHeld ?_
    refine tk 2 hHeld ?_
    refine st 1 fun K hK => ?_
    go_simp
    (with_reducible refine Calls.cQ (refQC (by omega)) ?_); intros
    refine hd hK ?_
    clear hHeld hK K
    intro hHeld
    refine st 3 fun K hK => ?_
    go_simp
    (with_reducible refine Calls.cQ (refQC (by omega)) ?_); intros
    refine hd hK ?_
    clear hHeld hK K
    intro hHeld
    refine st 4 fun K hK => ?_
    go_simp
    (with_reducible refine Calls.cE (numCV (by omega) HC) ?_); intros
    refine hd hK ?_
    clear hHeld hK K
    intro hHeld
    refine dn ?_
    clear hHeld
    go_wp2_with (first
      | (go_at_call 8; (with_reducible refine Calls.cE (known05C) ?_); intros))
    go_ret
    exact E.fin rfl
  · have HT := Lib.hid (th_opp hv1.out (s := s) (t := t) (by have := isg_pos.1 e; grind))
    have HC := Lib.hid e
    clear e
    go_wp2_with (go_at_call 16; (with_reducible refine Calls.cLZB (lineThroughV (by omega) HT HM) ?_); intros)
    refine rgn [] [] fun hHeld => ?_
    refine tk 0 hHeld ?_
    refine tk 2 hHeld ?_
    refine st 1 fun K hK => ?_
    go_simp
    (with_reducible refine Calls.cQ (refQC (by omega)) ?_); intros
    refine hd hK ?_
    clear hHeld hK K
    intro hHeld
    refine st 3 fun K hK => ?_
    go_simp
    (with_reducible refine Calls.cQ (refQC (by omega)) ?_); intros
    refine hd hK ?_
    clear hHeld hK K
    intro hHeld
    refine st 4 fun K hK => ?_
    go_simp
    (with_reducible refine Calls.cE (numCV (by omega) HC) ?_); intros
    refine hd hK ?_
    clear hHeld hK K
    intro hHeld
    refine dn ?_
    clear hHeld
    go_wp2_with (first
      | (go_at_call 8; (with_reducible refine Calls.cE (known05C) ?_); intros)
      | (go_at_call 39; (with_reducible refine Calls.cE (lineOppositeC (v := true) (by omega) hr1 hv1 (by refine Lib.hid ?_; simp [Rat.intCast_neg])) ?_); intros))
    go_ret
    exact E.fin rfl
end Go.Proofs.YtfdgglddldlpjaaGreat
