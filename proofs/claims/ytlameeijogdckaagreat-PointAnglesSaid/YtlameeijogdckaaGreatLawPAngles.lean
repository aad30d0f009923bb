/-
  The walk of the law PointAngles: it returns true and changes nothing that was there.
  Printed by a small program (mklaw4c.py).
-/
import Derived.Test.YtlameeijogdckaaGreatTK
import Derived.Test.YtlameeijogdckaaGreatRI
import Derived.Test.YtlameeijogdckaaGreatTv
namespace Go.Proofs.YtlameeijogdckaaGreat
open Go.RowKit

set_option linter.unusedSimpArgs false
instance CW.zz {W : World} : CW W (.agg #[.bool false, .slice none 0 0, .slice none 0 0]) 0 0 := by
  have h := (inferInstance : CW W (.agg #[.bool false, .slice none 0 0, .slice none 0 0]) (mkRat (sgn false 0) 0) (max 0 0))
  exact h.cast (by decide +kernel) (by decide)
theorem angle_bd (x1 y1 x2 y2 : Rat) : -1 ≤ angleR x1 y1 x2 y2 ∧ angleR x1 y1 x2 y2 ≤ 1 := by
  rcases angle_cases x1 y1 x2 y2 with ⟨h, _⟩ | ⟨h, _⟩ | ⟨h, _⟩ <;> omega
theorem part_pos {v : Int} (h : 0 ≤ v) : 0 < mkRat (1 + v) (4 : Int).natAbs := by
  rw [show (4 : Int).natAbs = 4 from rfl, Rat.mkRat_eq_div, Rat.div_def]
  exact Rat.mul_pos (Rat.intCast_pos.2 (by omega)) (by decide +kernel)
def A2Rel (W7 : World) (x1 y1 x2 y2 : Rat) (p q : Value) (wx : World) : Prop := ∃ (b1 b2 : Nat) (g1x : Bool) (a1x : Option Addr) (l1x c1x : Nat) (aa1x : Option Addr) (ll1x cc1x : Nat) (g1y : Bool) (a1y : Option Addr) (l1y c1y : Nat) (aa1y : Option Addr) (ll1y cc1y : Nat) (g2x : Bool) (a2x : Option Addr) (l2x c2x : Nat) (aa2x : Option Addr) (ll2x cc2x : Nat) (g2y : Bool) (a2y : Option Addr) (l2y c2y : Nat) (aa2y : Option Addr) (ll2y cc2y : Nat), p = .pointer (some ⟨b1, 0, none⟩) ∧ q = .pointer (some ⟨b2, 0, none⟩) ∧ Bx wx b1 38 [.bool g1x, .slice a1x l1x c1x, .slice aa1x ll1x cc1x, .bool g1y, .slice a1y l1y c1y, .slice aa1y ll1y cc1y] ∧ Bx wx b2 38 [.bool g2x, .slice a2x l2x c2x, .slice aa2x ll2x cc2x, .bool g2y, .slice a2y l2y c2y, .slice aa2y ll2y cc2y] ∧ CQ wx (.agg #[.bool g1x, .slice a1x l1x c1x, .slice aa1x ll1x cc1x]) x1 20 ∧ CQ wx (.agg #[.bool g1y, .slice a1y l1y c1y, .slice aa1y ll1y cc1y]) y1 20 ∧ CQ wx (.agg #[.bool g2x, .slice a2x l2x c2x, .slice aa2x ll2x cc2x]) x2 20 ∧ CQ wx (.agg #[.bool g2y, .slice a2y l2y c2y, .slice aa2y ll2y cc2y]) y2 20 ∧ Kp W7 wx
theorem A2Rel.intro {W7 wx : World} {x1 y1 x2 y2 : Rat} {b1 b2 : Nat} {k1x k1y k2x k2y : Nat} {g1x : Bool} {a1x : Option Addr} {l1x c1x : Nat} {aa1x : Option Addr} {ll1x cc1x : Nat} {g1y : Bool} {a1y : Option Addr} {l1y c1y : Nat} {aa1y : Option Addr} {ll1y cc1y : Nat} {g2x : Bool} {a2x : Option Addr} {l2x c2x : Nat} {aa2x : Option Addr} {ll2x cc2x : Nat} {g2y : Bool} {a2y : Option Addr} {l2y c2y : Nat} {aa2y : Option Addr} {ll2y cc2y : Nat} [i1 : Bx wx b1 38 [.bool g1x, .slice a1x l1x c1x, .slice aa1x ll1x cc1x, .bool g1y, .slice a1y l1y c1y, .slice aa1y ll1y cc1y]] [i2 : Bx wx b2 38 [.bool g2x, .slice a2x l2x c2x, .slice aa2x ll2x cc2x, .bool g2y, .slice a2y l2y c2y, .slice aa2y ll2y cc2y]] [j1x : CQ wx (.agg #[.bool g1x, .slice a1x l1x c1x, .slice aa1x ll1x cc1x]) x1 k1x] [j1y : CQ wx (.agg #[.bool g1y, .slice a1y l1y c1y, .slice aa1y ll1y cc1y]) y1 k1y] [j2x : CQ wx (.agg #[.bool g2x, .slice a2x l2x c2x, .slice aa2x ll2x cc2x]) x2 k2x] [j2y : CQ wx (.agg #[.bool g2y, .slice a2y l2y c2y, .slice aa2y ll2y cc2y]) y2 k2y] [k : Kp W7 wx] (m : k1x ≤ 20 ∧ k1y ≤ 20 ∧ k2x ≤ 20 ∧ k2y ≤ 20) : A2Rel W7 x1 y1 x2 y2 (.pointer (some ⟨b1, 0, none⟩)) (.pointer (some ⟨b2, 0, none⟩)) wx :=
  ⟨b1, b2, g1x, a1x, l1x, c1x, aa1x, ll1x, cc1x, g1y, a1y, l1y, c1y, aa1y, ll1y, cc1y, g2x, a2x, l2x, c2x, aa2x, ll2x, cc2x, g2y, a2y, l2y, c2y, aa2y, ll2y, cc2y, rfl, rfl, i1, i2, j1x.cast rfl (by omega), j1y.cast rfl (by omega), j2x.cast rfl (by omega), j2y.cast rfl (by omega), k⟩
theorem numSV {w : World} {v : Int} {g1 : Bool} {a1 : Option Addr} {l1 : Nat} {c1 : Nat} {aa1 : Option Addr} {ll1 : Nat} {cc1 : Nat} {x : Rat} {k1 : Nat} [h1 : CQ w (.agg #[.bool g1, .slice a1 l1 c1, .slice aa1 ll1 cc1]) x k1] (hv : Hid (isgn x.num = v)) :
    Calls Tryz.prog 42 #[.agg #[.bool g1, .slice a1 l1 c1, .slice aa1 ll1 cc1]] w (fun e w' => e = .returned (.int .i64 v) ∧ Below w.heap.size w w') := by
  rw [← hv.out]; exact numSC
set_option maxRecDepth 100000 in
set_option maxHeartbeats 40000000 in
set_option synthInstance.maxSize 100000 in
set_option synthInstance.maxHeartbeats 1000000 in
theorem pointAngles_walk (a0 : Option Addr) (len0 cap0 : Nat) (z0 : List Int) (w : World) (w0 : IsRow .i64 w a0 len0 cap0 z0) :
    Calls Tryz.prog 5 #[.slice a0 len0 cap0] w fun e w' => e = .returned (.bool true) ∧ Below w.heap.size w w' := by
  go_enter Tryz.func5, Tryz.ntmps5
  go_wp2_with fail
  with_reducible refine Calls.cNew (newW w0) ?_
  intro W1 _ _
  go_wp2_with fail
  with_reducible refine Calls.cTV tapeVC ?_
  intro W2 _ _ g1 a1 l1 c1 aa1 ll1 cc1 G1 A1 L1 C1 AA1 LL1 CC1 x1 y1 _ _ hz1
  go_wp2_with (first | (go_at_call 33; (with_reducible refine Calls.cPA (toPC (by omega)) ?_); intros))
  with_reducible refine Calls.cTV tapeVC ?_
  intro W3 _ _ g2 a2 l2 c2 aa2 ll2 cc2 G2 A2 L2 C2 AA2 LL2 CC2 x2 y2 _ _ hz2
  go_wp2_with (first | (go_at_call 33; (with_reducible refine Calls.cPA (toPC (by omega)) ?_); intros))
  with_reducible refine Calls.cTV tapeVC ?_
  intro W4 _ _ g3 a3 l3 c3 aa3 ll3 cc3 G3 A3 L3 C3 AA3 LL3 CC3 x3 y3 _ _ hz3
  go_wp2_with (first | (go_at_call 33; (with_reducible refine Calls.cPA (toPC (by omega)) ?_); intros))
  obtain ⟨a, ha⟩ : ∃ a, angleR x1 y1 x2 y2 = a := ⟨_, rfl⟩
  obtain ⟨b, hb⟩ : ∃ b, angleR x2 y2 x3 y3 = b := ⟨_, rfl⟩
  obtain ⟨c, hc⟩ : ∃ c, angleR x1 y1 x3 y3 = c := ⟨_, rfl⟩
  obtain ⟨qa1, qa2⟩ := angle_bd x1 y1 x2 y2
  obtain ⟨qb1, qb2⟩ := angle_bd x2 y2 x3 y3
  have t1 : a ≤ 0 → b ≤ 0 → c ≤ 0 := by rw [← ha, ← hb, ← hc]; exact angle_trans
  have t2 : 0 ≤ a → 0 ≤ b → 0 ≤ c := by
    intro h1 h2
    have h3 := @angle_trans x3 y3 x2 y2 x1 y1 (by rw [angle_swap, hb]; omega) (by rw [angle_swap, ha]; omega)
    rw [angle_swap, hc] at h3; omega
  have HS : Hid (angleR x2 y2 x1 y1 = -a) := by show _ = _; rw [angle_swap, ha]
  have HZ1 : Hid (angleR 0 0 x1 y1 = -1) := angle_zero hz1
  have HZ2 : Hid (angleR 0 0 0 0 = 0) := angle_zz
  obtain ⟨e, he⟩ : ∃ e, (a == 0) = e := ⟨_, rfl⟩
  have HP : Hid ((decide (x1 * (rgcd x1 y1)⁻¹ = x2 * (rgcd x2 y2)⁻¹) && decide (y1 * (rgcd x1 y1)⁻¹ = y2 * (rgcd x2 y2)⁻¹)) = e) := by
    show _ = _
    rw [← he, Bool.eq_iff_iff, Bool.and_eq_true, decide_eq_true_eq, decide_eq_true_eq, beq_iff_eq, ← ha]
    exact (prim_iff hz1 hz2).symm
  have HU : Hid (0 < y1 → 0 < y2 → a = -(isgn (x1 * y2 - y1 * x2).num)) := by
    intro h1 h2
    rw [← ha]; exact angle_up h1 h2
  rw [ha] at qa1 qa2
  rw [hb] at qb1 qb2
  have HA := Lib.hid ha
  have HB := Lib.hid hb
  have HC := Lib.hid hc
  have HE := Lib.hid he
  clear ha hb hc he hz1 hz2 hz3
  refine region_cls (by kernel_rfl) [] (fun hHeld => ?_)
  refine wpAnyH_take (i := 0) (v := ?z455) (by simp; rfl) (by kernel_rfl) (by kernel_rfl) (by kernel_rfl) (by exact fun _ _ _ h => h) (Or.inl ⟨by rfl, ?yz455⟩) hHeld ?_
  case yz455 => (intro wx hSw; have hSx := Ex1.mk hSw; go_simp; (try with_reducible rfl))
  try simp only [Act.put, List.setIfInBounds_toArray, List.set_cons_zero, List.set_cons_succ]
  refine wpAnyH_take (i := 1) (v := ?z456) (by simp; rfl) (by kernel_rfl) (by kernel_rfl) (by kernel_rfl) (by exact fun _ _ _ h => h) (Or.inl ⟨by rfl, ?yz456⟩) hHeld ?_
  case yz456 => (intro wx hSw; have hSx := Ex1.mk hSw; go_simp; (try with_reducible rfl))
  try simp only [Act.put, List.setIfInBounds_toArray, List.set_cons_zero, List.set_cons_succ]
  refine wpAnyH_take (i := 3) (v := ?z457) (by simp; rfl) (by kernel_rfl) (by kernel_rfl) (by kernel_rfl) (by exact fun _ _ _ h => h) (Or.inl ⟨by rfl, ?yz457⟩) hHeld ?_
  case yz457 => (intro wx hSw; have hSx := Ex1.mk hSw; go_simp; (try with_reducible rfl))
  try simp only [Act.put, List.setIfInBounds_toArray, List.set_cons_zero, List.set_cons_succ]
  refine wpAnyH_take (i := 4) (v := ?z458) (by simp; rfl) (by kernel_rfl) (by kernel_rfl) (by kernel_rfl) (by exact fun _ _ _ h => h) (Or.inl ⟨by rfl, ?yz458⟩) hHeld ?_
  case yz458 => (intro wx hSw; have hSx := Ex1.mk hSw; go_simp; (try with_reducible rfl))
  try simp only [Act.put, List.setIfInBounds_toArray, List.set_cons_zero, List.set_cons_succ]
  refine wpAnyH_take (i := 6) (v := ?z459) (by simp; rfl) (by kernel_rfl) (by kernel_rfl) (by kernel_rfl) (by exact fun _ _ _ h => h) (Or.inl ⟨by rfl, ?yz459⟩) hHeld ?_
  case yz459 => (intro wx hSw; have hSx := Ex1.mk hSw; go_simp; (try with_reducible rfl))
  try simp only [Act.put, List.setIfInBounds_toArray, List.set_cons_zero, List.set_cons_succ]
  refine wpAnyH_take (i := 7) (v := ?z460) (by simp; rfl) (by kernel_rfl) (by kernel_rfl) (by kernel_rfl) (by exact fun _ _ _ h => h) (Or.inl ⟨by rfl, ?yz460⟩) hHeld ?_
  case yz460 => (intro wx hSw; have hSx := Ex1.mk hSw; go_simp; (try with_reducible rfl))
  try simp only [Act.put, List.setIfInBounds_toArray, List.set_cons_zero, List.set_cons_succ]
  refine wpAnyH_ready (rs := [2]) (by kernel_rfl) (by simp) ?_
  refine AllReadyH.cons (by simp; rfl) (fun K hK => ?_) AllReadyH.nil
  go_simp
  (go_at_call 36; (with_reducible refine Calls.cE (pAngleV (by omega) HA) ?_); intros)
  refine hK.out _ _ inferInstance ?_
  clear hHeld hK K
  intro hHeld
  try simp only [Act.put, List.setIfInBounds_toArray, List.set_cons_zero, List.set_cons_succ]
  refine wpAnyH_ready (rs := [5]) (by kernel_rfl) (by simp) ?_
  refine AllReadyH.cons (by simp; rfl) (fun K hK => ?_) AllReadyH.nil
  go_simp
  (go_at_call 36; (with_reducible refine Calls.cE (pAngleV (by omega) HB) ?_); intros)
  refine hK.out _ _ inferInstance ?_
  clear hHeld hK K
  intro hHeld
  try simp only [Act.put, List.setIfInBounds_toArray, List.set_cons_zero, List.set_cons_succ]
  refine wpAnyH_ready (rs := [8]) (by kernel_rfl) (by simp) ?_
  refine AllReadyH.cons (by simp; rfl) (fun K hK => ?_) AllReadyH.nil
  go_simp
  (go_at_call 36; (with_reducible refine Calls.cE (pAngleV (by omega) HC) ?_); intro W5 _)
  refine hK.out _ _ inferInstance ?_
  clear hHeld hK K
  intro hHeld
  try simp only [Act.put, List.setIfInBounds_toArray, List.set_cons_zero, List.set_cons_succ]
  refine wpAnyH_take (i := 9) (v := ?z461) (by simp; rfl) (by kernel_rfl) (by kernel_rfl) (by kernel_rfl) (by exact fun _ _ _ h => h) (Or.inl ⟨by rfl, ?yz461⟩) hHeld ?_
  case yz461 => (intro wx hSw; have hSx := Ex1.mk hSw; go_simp; (try with_reducible rfl))
  try simp only [Act.put, List.setIfInBounds_toArray, List.set_cons_zero, List.set_cons_succ]
  refine wpAnyH_take (i := 10) (v := ?z462) (by simp; rfl) (by kernel_rfl) (by kernel_rfl) (by kernel_rfl) (by exact fun _ _ _ h => h) (Or.inl ⟨by rfl, ?yz462⟩) hHeld ?_
  case yz462 => (intro wx hSw; have hSx := Ex1.mk hSw; go_simp; (try with_reducible rfl))
  try simp only [Act.put, List.setIfInBounds_toArray, List.set_cons_zero, List.set_cons_succ]
  refine wpAnyH_take (i := 11) (v := ?z463) (by simp; rfl) (by kernel_rfl) (by kernel_rfl) (by kernel_rfl) (by exact fun _ _ _ h => h) (Or.inl ⟨by rfl, ?yz463⟩) hHeld ?_
  case yz463 => (intro wx hSw; have hSx := Ex1.mk hSw; go_simp; (try with_reducible rfl))
  try simp only [Act.put, List.setIfInBounds_toArray, List.set_cons_zero, List.set_cons_succ]
  refine wpAnyH_done (by kernel_rfl) ?_ _
  clear hHeld
  go_upto_region 4 with fail
  go_cut [73] from 32 to 72 (fun r wx => r = .bool false ∧ Gb W5 wx w.heap.size ∧ Ct wx w.heap.size)
  case first =>
    clear HZ1 HZ2 HP HU HE
    have w1 : IntKind.i64.wrap 1 = 1 := rfl
    have w2 : IntKind.i64.wrap (-1) = -1 := rfl
    have w3 : IntKind.i64.wrap 0 = 0 := rfl
    rcases (show a = -1 ∨ a = 0 ∨ a = 1 by omega) with rfl | rfl | rfl
    · rcases (show b = -1 ∨ b = 0 ∨ b = 1 by omega) with rfl | rfl | rfl
      · have d1 : decide (0 < c) = false := decide_eq_false (by have := t1 (by decide) (by decide); omega)
        clear t1 t2
        refine region_cls (by kernel_rfl) [w.heap.size] (fun hHeld => ?_)
        refine wpAnyH_take (i := 0) (v := ?z464) (by simp; rfl) (by kernel_rfl) (by kernel_rfl) (by kernel_rfl) (by exact fun _ _ _ h => h) (Or.inl ⟨by rfl, ?yz464⟩) hHeld ?_
        case yz464 => (intro wx hSw; have hSx := Ex1.mk hSw; go_simp; (try with_reducible rfl))
        try simp only [Act.put, List.setIfInBounds_toArray, List.set_cons_zero, List.set_cons_succ]
        refine wpAnyH_take (i := 1) (v := ?z465) (by simp; rfl) (by kernel_rfl) (by kernel_rfl) (by kernel_rfl) (by exact fun _ _ _ h => h) (Or.inl ⟨by rfl, ?yz465⟩) hHeld ?_
        case yz465 => (intro wx hSw; have hSx := Ex1.mk hSw; go_simp; (try with_reducible rfl))
        try simp only [Act.put, List.setIfInBounds_toArray, List.set_cons_zero, List.set_cons_succ]
        refine wpAnyH_take (i := 3) (v := ?z466) (by simp; rfl) (by kernel_rfl) (by kernel_rfl) (by kernel_rfl) (by exact fun _ _ _ h => h) (Or.inl ⟨by rfl, ?yz466⟩) hHeld ?_
        case yz466 => (intro wx hSw; have hSx := Ex1.mk hSw; go_simp; (try with_reducible rfl))
        try simp only [Act.put, List.setIfInBounds_toArray, List.set_cons_zero, List.set_cons_succ]
        refine wpAnyH_take (i := 4) (v := ?z467) (by simp; rfl) (by kernel_rfl) (by kernel_rfl) (by kernel_rfl) (by exact fun _ _ _ h => h) (Or.inl ⟨by rfl, ?yz467⟩) hHeld ?_
        case yz467 => (intro wx hSw; have hSx := Ex1.mk hSw; go_simp; (try with_reducible rfl))
        try simp only [Act.put, List.setIfInBounds_toArray, List.set_cons_zero, List.set_cons_succ]
        refine wpAnyH_ready (rs := [2]) (by kernel_rfl) (by simp) ?_
        refine AllReadyH.cons (by simp; rfl) (fun K hK => ?_) AllReadyH.nil
        go_simp
        (go_at_call 36; (with_reducible refine Calls.cE (pAngleV (by omega) HS) ?_); intros)
        refine hK.out _ _ inferInstance ?_
        clear hHeld hK K
        intro hHeld
        try simp only [Act.put, List.setIfInBounds_toArray, List.set_cons_zero, List.set_cons_succ]
        refine wpAnyH_take (i := 5) (v := ?z468) (by simp; rfl) (by kernel_rfl) (by kernel_rfl) (by kernel_rfl) (by exact fun _ _ _ h => h) (Or.inl ⟨by rfl, ?yz468⟩) hHeld ?_
        case yz468 => (intro wx hSw; have hSx := Ex1.mk hSw; go_simp; (try with_reducible rfl))
        try simp only [Act.put, List.setIfInBounds_toArray, List.set_cons_zero, List.set_cons_succ]
        refine wpAnyH_take (i := 6) (v := ?z469) (by simp; rfl) (by kernel_rfl) (by kernel_rfl) (by kernel_rfl) (by exact fun _ _ _ h => h) (Or.inl ⟨by rfl, ?yz469⟩) hHeld ?_
        case yz469 => (intro wx hSw; have hSx := Ex1.mk hSw; go_simp; (try with_reducible rfl))
        try simp only [Act.put, List.setIfInBounds_toArray, List.set_cons_zero, List.set_cons_succ]
        refine wpAnyH_take (i := 7) (v := ?z470) (by simp; rfl) (by kernel_rfl) (by kernel_rfl) (by kernel_rfl) (by exact fun _ _ _ h => h) (Or.inl ⟨by rfl, ?yz470⟩) hHeld ?_
        case yz470 => (intro wx hSw; have hSx := Ex1.mk hSw; go_simp; (try with_reducible rfl))
        try simp only [Act.put, List.setIfInBounds_toArray, List.set_cons_zero, List.set_cons_succ]
        refine wpAnyH_take (i := 8) (v := ?z471) (by simp; rfl) (by kernel_rfl) (by kernel_rfl) (by kernel_rfl) (by exact fun _ _ _ h => h) (Or.inl ⟨by rfl, ?yz471⟩) hHeld ?_
        case yz471 => (intro wx hSw; have hSx := Ex1.mk hSw; go_simp; (try with_reducible rfl))
        try simp only [Act.put, List.setIfInBounds_toArray, List.set_cons_zero, List.set_cons_succ]
        refine wpAnyH_take (i := 9) (v := ?z472) (by simp; rfl) (by kernel_rfl) (by kernel_rfl) (by kernel_rfl) (by exact fun _ _ _ h => h) (Or.inl ⟨by rfl, ?yz472⟩) hHeld ?_
        case yz472 => (intro wx hSw; have hSx := Ex1.mk hSw; go_simp; (try with_reducible rfl))
        try simp only [Act.put, List.setIfInBounds_toArray, List.set_cons_zero, List.set_cons_succ]
        refine wpAnyH_take (i := 10) (v := ?z473) (by simp; rfl) (by kernel_rfl) (by kernel_rfl) (by kernel_rfl) (by exact fun _ _ _ h => h) (Or.inl ⟨by rfl, ?yz473⟩) hHeld ?_
        case yz473 => (intro wx hSw; have hSx := Ex1.mk hSw; go_simp; (try with_reducible rfl))
        try simp only [Act.put, List.setIfInBounds_toArray, List.set_cons_zero, List.set_cons_succ]
        refine wpAnyH_take (i := 11) (v := ?z474) (by simp; rfl) (by kernel_rfl) (by kernel_rfl) (by kernel_rfl) (by exact fun _ _ _ h => h) (Or.inl ⟨by rfl, ?yz474⟩) hHeld ?_
        case yz474 => (intro wx hSw; have hSx := Ex1.mk hSw; go_simp; (try with_reducible rfl))
        try simp only [Act.put, List.setIfInBounds_toArray, List.set_cons_zero, List.set_cons_succ]
        refine wpAnyH_take (i := 12) (v := ?z475) (by simp; rfl) (by kernel_rfl) (by kernel_rfl) (by kernel_rfl) (by exact fun _ _ _ h => h) (Or.inl ⟨by rfl, ?yz475⟩) hHeld ?_
        case yz475 => (intro wx hSw; have hSx := Ex1.mk hSw; go_simp; (try with_reducible rfl))
        try simp only [Act.put, List.setIfInBounds_toArray, List.set_cons_zero, List.set_cons_succ]
        refine wpAnyH_take (i := 13) (v := ?z476) (by simp; rfl) (by kernel_rfl) (by kernel_rfl) (by kernel_rfl) (by exact fun _ _ _ h => h) (Or.inl ⟨by rfl, ?yz476⟩) hHeld ?_
        case yz476 => (intro wx hSw; have hSx := Ex1.mk hSw; go_simp; (try with_reducible rfl))
        try simp only [Act.put, List.setIfInBounds_toArray, List.set_cons_zero, List.set_cons_succ]
        refine wpAnyH_take (i := 14) (v := ?z477) (by simp; rfl) (by kernel_rfl) (by kernel_rfl) (by kernel_rfl) (by exact fun _ _ _ h => h) (Or.inl ⟨by rfl, ?yz477⟩) hHeld ?_
        case yz477 => (intro wx hSw; have hSx := Ex1.mk hSw; go_simp; (try with_reducible rfl))
        try simp only [Act.put, List.setIfInBounds_toArray, List.set_cons_zero, List.set_cons_succ]
        refine wpAnyH_take (i := 15) (v := ?z478) (by simp; rfl) (by kernel_rfl) (by kernel_rfl) (by kernel_rfl) (by exact fun _ _ _ h => h) (Or.inl ⟨by rfl, ?yz478⟩) hHeld ?_
        case yz478 => (intro wx hSw; have hSx := Ex1.mk hSw; go_simp; (try with_reducible rfl))
        try simp only [Act.put, List.setIfInBounds_toArray, List.set_cons_zero, List.set_cons_succ]
        refine wpAnyH_take (i := 16) (v := ?z479) (by simp; rfl) (by kernel_rfl) (by kernel_rfl) (by kernel_rfl) (by exact fun _ _ _ h => h) (Or.inl ⟨by rfl, ?yz479⟩) hHeld ?_
        case yz479 => (intro wx hSw; have hSx := Ex1.mk hSw; go_simp; (try with_reducible rfl))
        try simp only [Act.put, List.setIfInBounds_toArray, List.set_cons_zero, List.set_cons_succ]
        refine wpAnyH_take (i := 17) (v := ?z480) (by simp; rfl) (by kernel_rfl) (by kernel_rfl) (by kernel_rfl) (by exact fun _ _ _ h => h) (Or.inl ⟨by rfl, ?yz480⟩) hHeld ?_
        case yz480 => (intro wx hSw; have hSx := Ex1.mk hSw; go_simp; (try with_reducible rfl))
        try simp only [Act.put, List.setIfInBounds_toArray, List.set_cons_zero, List.set_cons_succ]
        refine wpAnyH_take (i := 18) (v := ?z481) (by simp; rfl) (by kernel_rfl) (by kernel_rfl) (by kernel_rfl) (by exact fun _ _ _ h => h) (Or.inl ⟨by rfl, ?yz481⟩) hHeld ?_
        case yz481 => (intro wx hSw; have hSx := Ex1.mk hSw; go_simp; (try with_reducible rfl))
        try simp only [Act.put, List.setIfInBounds_toArray, List.set_cons_zero, List.set_cons_succ]
        refine wpAnyH_take (i := 19) (v := ?z482) (by simp; rfl) (by kernel_rfl) (by kernel_rfl) (by kernel_rfl) (by exact fun _ _ _ h => h) (Or.inl ⟨by rfl, ?yz482⟩) hHeld ?_
        case yz482 => (intro wx hSw; have hSx := Ex1.mk hSw; go_simp; (try with_reducible rfl))
        try simp only [Act.put, List.setIfInBounds_toArray, List.set_cons_zero, List.set_cons_succ]
        refine wpAnyH_take (i := 20) (v := ?z483) (by simp; rfl) (by kernel_rfl) (by kernel_rfl) (by kernel_rfl) (by exact fun _ _ _ h => h) (Or.inl ⟨by rfl, ?yz483⟩) hHeld ?_
        case yz483 => (intro wx hSw; have hSx := Ex1.mk hSw; go_simp; (try with_reducible rfl))
        try simp only [Act.put, List.setIfInBounds_toArray, List.set_cons_zero, List.set_cons_succ]
        refine wpAnyH_take (i := 21) (v := ?z484) (by simp; rfl) (by kernel_rfl) (by kernel_rfl) (by kernel_rfl) (by exact fun _ _ _ h => h) (Or.inl ⟨by rfl, ?yz484⟩) hHeld ?_
        case yz484 => (intro wx hSw; have hSx := Ex1.mk hSw; go_simp; (try with_reducible rfl))
        try simp only [Act.put, List.setIfInBounds_toArray, List.set_cons_zero, List.set_cons_succ]
        refine wpAnyH_take (i := 22) (v := undef) (by simp; rfl) (by kernel_rfl) (by kernel_rfl) (by kernel_rfl) (by exact fun _ _ _ h => h) (Or.inr ⟨by rfl, rfl⟩) hHeld ?_
        try simp only [Act.put, List.setIfInBounds_toArray, List.set_cons_zero, List.set_cons_succ]
        refine wpAnyH_take (i := 23) (v := undef) (by simp; rfl) (by kernel_rfl) (by kernel_rfl) (by kernel_rfl) (by exact fun _ _ _ h => h) (Or.inr ⟨by rfl, rfl⟩) hHeld ?_
        try simp only [Act.put, List.setIfInBounds_toArray, List.set_cons_zero, List.set_cons_succ]
        refine wpAnyH_take (i := 24) (v := ?z487) (by simp; rfl) (by kernel_rfl) (by kernel_rfl) (by kernel_rfl) (by exact fun _ _ _ h => h) (Or.inl ⟨by rfl, ?yz487⟩) hHeld ?_
        case yz487 => (intro wx hSw; have hSx := Ex1.mk hSw; go_simp; (try with_reducible rfl))
        try simp only [Act.put, List.setIfInBounds_toArray, List.set_cons_zero, List.set_cons_succ]
        refine wpAnyH_take (i := 25) (v := ?z488) (by simp; rfl) (by kernel_rfl) (by kernel_rfl) (by kernel_rfl) (by exact fun _ _ _ h => h) (Or.inl ⟨by rfl, ?yz488⟩) hHeld ?_
        case yz488 => (intro wx hSw; have hSx := Ex1.mk hSw; go_simp; (try with_reducible rfl))
        try simp only [Act.put, List.setIfInBounds_toArray, List.set_cons_zero, List.set_cons_succ]
        refine wpAnyH_take (i := 26) (v := undef) (by simp; rfl) (by kernel_rfl) (by kernel_rfl) (by kernel_rfl) (by exact fun _ _ _ h => h) (Or.inr ⟨by rfl, rfl⟩) hHeld ?_
        try simp only [Act.put, List.setIfInBounds_toArray, List.set_cons_zero, List.set_cons_succ]
        refine wpAnyH_take (i := 27) (v := undef) (by simp; rfl) (by kernel_rfl) (by kernel_rfl) (by kernel_rfl) (by exact fun _ _ _ h => h) (Or.inr ⟨by rfl, rfl⟩) hHeld ?_
        try simp only [Act.put, List.setIfInBounds_toArray, List.set_cons_zero, List.set_cons_succ]
        refine wpAnyH_take (i := 28) (v := ?z491) (by simp; rfl) (by kernel_rfl) (by kernel_rfl) (by kernel_rfl) (by exact fun _ _ _ h => h) (Or.inl ⟨by rfl, ?yz491⟩) hHeld ?_
        case yz491 => (intro wx hSw; have hSx := Ex1.mk hSw; go_simp; (try with_reducible rfl))
        try simp only [Act.put, List.setIfInBounds_toArray, List.set_cons_zero, List.set_cons_succ]
        refine wpAnyH_take (i := 29) (v := ?z492) (by simp; rfl) (by kernel_rfl) (by kernel_rfl) (by kernel_rfl) (by exact fun _ _ _ h => h) (Or.inl ⟨by rfl, ?yz492⟩) hHeld ?_
        case yz492 => (intro wx hSw; have hSx := Ex1.mk hSw; go_simp; (try with_reducible rfl))
        try simp only [Act.put, List.setIfInBounds_toArray, List.set_cons_zero, List.set_cons_succ]
        refine wpAnyH_take (i := 30) (v := ?z493) (by simp; rfl) (by kernel_rfl) (by kernel_rfl) (by kernel_rfl) (by exact fun _ _ _ h => h) (Or.inl ⟨by rfl, ?yz493⟩) hHeld ?_
        case yz493 => (intro wx hSw; have hSx := Ex1.mk hSw; go_simp; (try with_reducible rfl))
        try simp only [Act.put, List.setIfInBounds_toArray, List.set_cons_zero, List.set_cons_succ]
        refine wpAnyH_take (i := 31) (v := ?z494) (by simp; rfl) (by kernel_rfl) (by kernel_rfl) (by kernel_rfl) (by exact fun _ _ _ h => h) (Or.inl ⟨by rfl, ?yz494⟩) hHeld ?_
        case yz494 => (intro wx hSw; have hSx := Ex1.mk hSw; go_simp; (try with_reducible rfl))
        try simp only [Act.put, List.setIfInBounds_toArray, List.set_cons_zero, List.set_cons_succ]
        refine wpAnyH_take (i := 32) (v := ?z495) (by simp; rfl) (by kernel_rfl) (by kernel_rfl) (by kernel_rfl) (by exact fun _ _ _ h => h) (Or.inl ⟨by rfl, ?yz495⟩) hHeld ?_
        case yz495 => (intro wx hSw; have hSx := Ex1.mk hSw; go_simp; (try with_reducible rfl))
        try simp only [Act.put, List.setIfInBounds_toArray, List.set_cons_zero, List.set_cons_succ]
        refine wpAnyH_take (i := 37) (v := ?z496) (by simp; rfl) (by kernel_rfl) (by kernel_rfl) (by kernel_rfl) (by exact fun _ _ _ h => h) (Or.inl ⟨by rfl, ?yz496⟩) hHeld ?_
        case yz496 => (intro wx hSw; have hSx := Ex1.mk hSw; go_simp; (try with_reducible rfl))
        try simp only [Act.put, List.setIfInBounds_toArray, List.set_cons_zero, List.set_cons_succ]
        refine wpAnyH_ready (rs := [33]) (by kernel_rfl) (by simp) ?_
        refine AllReadyH.cons (by simp; rfl) (fun K hK => ?_) AllReadyH.nil
        go_simp
        (go_at_call 40; (with_reducible refine Calls.cNext (nextC (by omega)) ?_); intro W6 _ _ v v0 v1; have ev : IntKind.i64.wrap (1 + v) = 1 + v := (by rw [IntKind.wrap_i64]; omega))
        refine hK.out _ _ inferInstance ?_
        clear hHeld hK K
        intro hHeld
        try simp only [Act.put, List.setIfInBounds_toArray, List.set_cons_zero, List.set_cons_succ]
        refine wpAnyH_take (i := 34) (v := ?z497) (by simp; rfl) (by kernel_rfl) (by kernel_rfl) (by kernel_rfl) (by exact fun _ _ _ h => h) (Or.inl ⟨by rfl, ?yz497⟩) hHeld ?_
        case yz497 => (intro wx hSw; have hSx := Ex1.mk hSw; go_simp; (try with_reducible rfl))
        try simp only [Act.put, List.setIfInBounds_toArray, List.set_cons_zero, List.set_cons_succ]
        refine wpAnyH_ready (rs := [35]) (by kernel_rfl) (by simp) ?_
        refine AllReadyH.cons (by simp; rfl) (fun K hK => ?_) AllReadyH.nil
        go_simp
        (go_at_call 39; (with_reducible refine Calls.cQ (numPartC (by omega)) ?_); intros)
        refine hK.out _ _ inferInstance ?_
        clear hHeld hK K
        intro hHeld
        try simp only [Act.put, List.setIfInBounds_toArray, List.set_cons_zero, List.set_cons_succ]
        refine wpAnyH_ready (rs := [36]) (by kernel_rfl) (by simp) ?_
        refine AllReadyH.cons (by simp; rfl) (fun K hK => ?_) AllReadyH.nil
        go_simp
        (go_at_call 38; (with_reducible refine Calls.cA (toQC (by omega)) ?_); intros)
        refine hK.out _ _ inferInstance ?_
        clear hHeld hK K
        intro hHeld
        try simp only [Act.put, List.setIfInBounds_toArray, List.set_cons_zero, List.set_cons_succ]
        refine wpAnyH_ready (rs := [38]) (by kernel_rfl) (by simp) ?_
        refine AllReadyH.cons (by simp; rfl) (fun K hK => ?_) AllReadyH.nil
        go_simp
        (go_at_call 37; (with_reducible refine Calls.cPA (pScaleC (by omega)) ?_); intros)
        refine hK.out _ _ inferInstance ?_
        clear hHeld hK K
        intro hHeld
        try simp only [Act.put, List.setIfInBounds_toArray, List.set_cons_zero, List.set_cons_succ]
        refine wpAnyH_ready (rs := [39]) (by kernel_rfl) (by simp) ?_
        refine AllReadyH.cons (by simp; rfl) (fun K hK => ?_) AllReadyH.nil
        go_simp
        (go_at_call 36; (with_reducible refine Calls.cE (pAngleV (by omega) (Lib.hid (angle_scale (part_pos v0)))) ?_); intros)
        refine hK.out _ _ inferInstance ?_
        clear hHeld hK K
        intro hHeld
        try simp only [Act.put, List.setIfInBounds_toArray, List.set_cons_zero, List.set_cons_succ]
        refine wpAnyH_take (i := 40) (v := ?z498) (by simp; rfl) (by kernel_rfl) (by kernel_rfl) (by kernel_rfl) (by exact fun _ _ _ h => h) (Or.inl ⟨by rfl, ?yz498⟩) hHeld ?_
        case yz498 => (intro wx hSw; have hSx := Ex1.mk hSw; go_simp; (try with_reducible rfl))
        try simp only [Act.put, List.setIfInBounds_toArray, List.set_cons_zero, List.set_cons_succ]
        refine wpAnyH_take (i := 41) (v := ?z499) (by simp; rfl) (by kernel_rfl) (by kernel_rfl) (by kernel_rfl) (by exact fun _ _ _ h => h) (Or.inl ⟨by rfl, ?yz499⟩) hHeld ?_
        case yz499 => (intro wx hSw; have hSx := Ex1.mk hSw; go_simp; (try with_reducible rfl))
        try simp only [Act.put, List.setIfInBounds_toArray, List.set_cons_zero, List.set_cons_succ]
        refine wpAnyH_done (by kernel_rfl) ?_ _
        clear hHeld
        go_wp2_with fail
        go_meet
        exact ⟨rfl, inferInstance, inferInstance⟩
      · have d1 : decide (0 < c) = false := decide_eq_false (by have := t1 (by decide) (by decide); omega)
        clear t1 t2
        refine region_cls (by kernel_rfl) [w.heap.size] (fun hHeld => ?_)
        refine wpAnyH_take (i := 0) (v := ?z500) (by simp; rfl) (by kernel_rfl) (by kernel_rfl) (by kernel_rfl) (by exact fun _ _ _ h => h) (Or.inl ⟨by rfl, ?yz500⟩) hHeld ?_
        case yz500 => (intro wx hSw; have hSx := Ex1.mk hSw; go_simp; (try with_reducible rfl))
        try simp only [Act.put, List.setIfInBounds_toArray, List.set_cons_zero, List.set_cons_succ]
        refine wpAnyH_take (i := 1) (v := ?z501) (by simp; rfl) (by kernel_rfl) (by kernel_rfl) (by kernel_rfl) (by exact fun _ _ _ h => h) (Or.inl ⟨by rfl, ?yz501⟩) hHeld ?_
        case yz501 => (intro wx hSw; have hSx := Ex1.mk hSw; go_simp; (try with_reducible rfl))
        try simp only [Act.put, List.setIfInBounds_toArray, List.set_cons_zero, List.set_cons_succ]
        refine wpAnyH_take (i := 3) (v := ?z502) (by simp; rfl) (by kernel_rfl) (by kernel_rfl) (by kernel_rfl) (by exact fun _ _ _ h => h) (Or.inl ⟨by rfl, ?yz502⟩) hHeld ?_
        case yz502 => (intro wx hSw; have hSx := Ex1.mk hSw; go_simp; (try with_reducible rfl))
        try simp only [Act.put, List.setIfInBounds_toArray, List.set_cons_zero, List.set_cons_succ]
        refine wpAnyH_take (i := 4) (v := ?z503) (by simp; rfl) (by kernel_rfl) (by kernel_rfl) (by kernel_rfl) (by exact fun _ _ _ h => h) (Or.inl ⟨by rfl, ?yz503⟩) hHeld ?_
        case yz503 => (intro wx hSw; have hSx := Ex1.mk hSw; go_simp; (try with_reducible rfl))
        try simp only [Act.put, List.setIfInBounds_toArray, List.set_cons_zero, List.set_cons_succ]
        refine wpAnyH_ready (rs := [2]) (by kernel_rfl) (by simp) ?_
        refine AllReadyH.cons (by simp; rfl) (fun K hK => ?_) AllReadyH.nil
        go_simp
        (go_at_call 36; (with_reducible refine Calls.cE (pAngleV (by omega) HS) ?_); intros)
        refine hK.out _ _ inferInstance ?_
        clear hHeld hK K
        intro hHeld
        try simp only [Act.put, List.setIfInBounds_toArray, List.set_cons_zero, List.set_cons_succ]
        refine wpAnyH_take (i := 5) (v := ?z504) (by simp; rfl) (by kernel_rfl) (by kernel_rfl) (by kernel_rfl) (by exact fun _ _ _ h => h) (Or.inl ⟨by rfl, ?yz504⟩) hHeld ?_
        case yz504 => (intro wx hSw; have hSx := Ex1.mk hSw; go_simp; (try with_reducible rfl))
        try simp only [Act.put, List.setIfInBounds_toArray, List.set_cons_zero, List.set_cons_succ]
        refine wpAnyH_take (i := 6) (v := ?z505) (by simp; rfl) (by kernel_rfl) (by kernel_rfl) (by kernel_rfl) (by exact fun _ _ _ h => h) (Or.inl ⟨by rfl, ?yz505⟩) hHeld ?_
        case yz505 => (intro wx hSw; have hSx := Ex1.mk hSw; go_simp; (try with_reducible rfl))
        try simp only [Act.put, List.setIfInBounds_toArray, List.set_cons_zero, List.set_cons_succ]
        refine wpAnyH_take (i := 7) (v := ?z506) (by simp; rfl) (by kernel_rfl) (by kernel_rfl) (by kernel_rfl) (by exact fun _ _ _ h => h) (Or.inl ⟨by rfl, ?yz506⟩) hHeld ?_
        case yz506 => (intro wx hSw; have hSx := Ex1.mk hSw; go_simp; (try with_reducible rfl))
        try simp only [Act.put, List.setIfInBounds_toArray, List.set_cons_zero, List.set_cons_succ]
        refine wpAnyH_take (i := 8) (v := ?z507) (by simp; rfl) (by kernel_rfl) (by kernel_rfl) (by kernel_rfl) (by exact fun _ _ _ h => h) (Or.inl ⟨by rfl, ?yz507⟩) hHeld ?_
        case yz507 => (intro wx hSw; have hSx := Ex1.mk hSw; go_simp; (try with_reducible rfl))
        try simp only [Act.put, List.setIfInBounds_toArray, List.set_cons_zero, List.set_cons_succ]
        refine wpAnyH_take (i := 9) (v := ?z508) (by simp; rfl) (by kernel_rfl) (by kernel_rfl) (by kernel_rfl) (by exact fun _ _ _ h => h) (Or.inl ⟨by rfl, ?yz508⟩) hHeld ?_
        case yz508 => (intro wx hSw; have hSx := Ex1.mk hSw; go_simp; (try with_reducible rfl))
        try simp only [Act.put, List.setIfInBounds_toArray, List.set_cons_zero, List.set_cons_succ]
        refine wpAnyH_take (i := 10) (v := ?z509) (by simp; rfl) (by kernel_rfl) (by kernel_rfl) (by kernel_rfl) (by exact fun _ _ _ h => h) (Or.inl ⟨by rfl, ?yz509⟩) hHeld ?_
        case yz509 => (intro wx hSw; have hSx := Ex1.mk hSw; go_simp; (try with_reducible rfl))
        try simp only [Act.put, List.setIfInBounds_toArray, List.set_cons_zero, List.set_cons_succ]
        refine wpAnyH_take (i := 11) (v := ?z510) (by simp; rfl) (by kernel_rfl) (by kernel_rfl) (by kernel_rfl) (by exact fun _ _ _ h => h) (Or.inl ⟨by rfl, ?yz510⟩) hHeld ?_
        case yz510 => (intro wx hSw; have hSx := Ex1.mk hSw; go_simp; (try with_reducible rfl))
        try simp only [Act.put, List.setIfInBounds_toArray, List.set_cons_zero, List.set_cons_succ]
        refine wpAnyH_take (i := 12) (v := ?z511) (by simp; rfl) (by kernel_rfl) (by kernel_rfl) (by kernel_rfl) (by exact fun _ _ _ h => h) (Or.inl ⟨by rfl, ?yz511⟩) hHeld ?_
        case yz511 => (intro wx hSw; have hSx := Ex1.mk hSw; go_simp; (try with_reducible rfl))
        try simp only [Act.put, List.setIfInBounds_toArray, List.set_cons_zero, List.set_cons_succ]
        refine wpAnyH_take (i := 13) (v := ?z512) (by simp; rfl) (by kernel_rfl) (by kernel_rfl) (by kernel_rfl) (by exact fun _ _ _ h => h) (Or.inl ⟨by rfl, ?yz512⟩) hHeld ?_
        case yz512 => (intro wx hSw; have hSx := Ex1.mk hSw; go_simp; (try with_reducible rfl))
        try simp only [Act.put, List.setIfInBounds_toArray, List.set_cons_zero, List.set_cons_succ]
        refine wpAnyH_take (i := 14) (v := ?z513) (by simp; rfl) (by kernel_rfl) (by kernel_rfl) (by kernel_rfl) (by exact fun _ _ _ h => h) (Or.inl ⟨by rfl, ?yz513⟩) hHeld ?_
        case yz513 => (intro wx hSw; have hSx := Ex1.mk hSw; go_simp; (try with_reducible rfl))
        try simp only [Act.put, List.setIfInBounds_toArray, List.set_cons_zero, List.set_cons_succ]
        refine wpAnyH_take (i := 15) (v := ?z514) (by simp; rfl) (by kernel_rfl) (by kernel_rfl) (by kernel_rfl) (by exact fun _ _ _ h => h) (Or.inl ⟨by rfl, ?yz514⟩) hHeld ?_
        case yz514 => (intro wx hSw; have hSx := Ex1.mk hSw; go_simp; (try with_reducible rfl))
        try simp only [Act.put, List.setIfInBounds_toArray, List.set_cons_zero, List.set_cons_succ]
        refine wpAnyH_take (i := 16) (v := ?z515) (by simp; rfl) (by kernel_rfl) (by kernel_rfl) (by kernel_rfl) (by exact fun _ _ _ h => h) (Or.inl ⟨by rfl, ?yz515⟩) hHeld ?_
        case yz515 => (intro wx hSw; have hSx := Ex1.mk hSw; go_simp; (try with_reducible rfl))
        try simp only [Act.put, List.setIfInBounds_toArray, List.set_cons_zero, List.set_cons_succ]
        refine wpAnyH_take (i := 17) (v := ?z516) (by simp; rfl) (by kernel_rfl) (by kernel_rfl) (by kernel_rfl) (by exact fun _ _ _ h => h) (Or.inl ⟨by rfl, ?yz516⟩) hHeld ?_
        case yz516 => (intro wx hSw; have hSx := Ex1.mk hSw; go_simp; (try with_reducible rfl))
        try simp only [Act.put, List.setIfInBounds_toArray, List.set_cons_zero, List.set_cons_succ]
        refine wpAnyH_take (i := 18) (v := ?z517) (by simp; rfl) (by kernel_rfl) (by kernel_rfl) (by kernel_rfl) (by exact fun _ _ _ h => h) (Or.inl ⟨by rfl, ?yz517⟩) hHeld ?_
        case yz517 => (intro wx hSw; have hSx := Ex1.mk hSw; go_simp; (try with_reducible rfl))
        try simp only [Act.put, List.setIfInBounds_toArray, List.set_cons_zero, List.set_cons_succ]
        refine wpAnyH_take (i := 19) (v := ?z518) (by simp; rfl) (by kernel_rfl) (by kernel_rfl) (by kernel_rfl) (by exact fun _ _ _ h => h) (Or.inl ⟨by rfl, ?yz518⟩) hHeld ?_
        case yz518 => (intro wx hSw; have hSx := Ex1.mk hSw; go_simp; (try with_reducible rfl))
        try simp only [Act.put, List.setIfInBounds_toArray, List.set_cons_zero, List.set_cons_succ]
        refine wpAnyH_take (i := 20) (v := ?z519) (by simp; rfl) (by kernel_rfl) (by kernel_rfl) (by kernel_rfl) (by exact fun _ _ _ h => h) (Or.inl ⟨by rfl, ?yz519⟩) hHeld ?_
        case yz519 => (intro wx hSw; have hSx := Ex1.mk hSw; go_simp; (try with_reducible rfl))
        try simp only [Act.put, List.setIfInBounds_toArray, List.set_cons_zero, List.set_cons_succ]
        refine wpAnyH_take (i := 21) (v := ?z520) (by simp; rfl) (by kernel_rfl) (by kernel_rfl) (by kernel_rfl) (by exact fun _ _ _ h => h) (Or.inl ⟨by rfl, ?yz520⟩) hHeld ?_
        case yz520 => (intro wx hSw; have hSx := Ex1.mk hSw; go_simp; (try with_reducible rfl))
        try simp only [Act.put, List.setIfInBounds_toArray, List.set_cons_zero, List.set_cons_succ]
        refine wpAnyH_take (i := 22) (v := undef) (by simp; rfl) (by kernel_rfl) (by kernel_rfl) (by kernel_rfl) (by exact fun _ _ _ h => h) (Or.inr ⟨by rfl, rfl⟩) hHeld ?_
        try simp only [Act.put, List.setIfInBounds_toArray, List.set_cons_zero, List.set_cons_succ]
        refine wpAnyH_take (i := 23) (v := undef) (by simp; rfl) (by kernel_rfl) (by kernel_rfl) (by kernel_rfl) (by exact fun _ _ _ h => h) (Or.inr ⟨by rfl, rfl⟩) hHeld ?_
        try simp only [Act.put, List.setIfInBounds_toArray, List.set_cons_zero, List.set_cons_succ]
        refine wpAnyH_take (i := 24) (v := ?z523) (by simp; rfl) (by kernel_rfl) (by kernel_rfl) (by kernel_rfl) (by exact fun _ _ _ h => h) (Or.inl ⟨by rfl, ?yz523⟩) hHeld ?_
        case yz523 => (intro wx hSw; have hSx := Ex1.mk hSw; go_simp; (try with_reducible rfl))
        try simp only [Act.put, List.setIfInBounds_toArray, List.set_cons_zero, List.set_cons_succ]
        refine wpAnyH_take (i := 25) (v := ?z524) (by simp; rfl) (by kernel_rfl) (by kernel_rfl) (by kernel_rfl) (by exact fun _ _ _ h => h) (Or.inl ⟨by rfl, ?yz524⟩) hHeld ?_
        case yz524 => (intro wx hSw; have hSx := Ex1.mk hSw; go_simp; (try with_reducible rfl))
        try simp only [Act.put, List.setIfInBounds_toArray, List.set_cons_zero, List.set_cons_succ]
        refine wpAnyH_take (i := 26) (v := undef) (by simp; rfl) (by kernel_rfl) (by kernel_rfl) (by kernel_rfl) (by exact fun _ _ _ h => h) (Or.inr ⟨by rfl, rfl⟩) hHeld ?_
        try simp only [Act.put, List.setIfInBounds_toArray, List.set_cons_zero, List.set_cons_succ]
        refine wpAnyH_take (i := 27) (v := undef) (by simp; rfl) (by kernel_rfl) (by kernel_rfl) (by kernel_rfl) (by exact fun _ _ _ h => h) (Or.inr ⟨by rfl, rfl⟩) hHeld ?_
        try simp only [Act.put, List.setIfInBounds_toArray, List.set_cons_zero, List.set_cons_succ]
        refine wpAnyH_take (i := 28) (v := ?z527) (by simp; rfl) (by kernel_rfl) (by kernel_rfl) (by kernel_rfl) (by exact fun _ _ _ h => h) (Or.inl ⟨by rfl, ?yz527⟩) hHeld ?_
        case yz527 => (intro wx hSw; have hSx := Ex1.mk hSw; go_simp; (try with_reducible rfl))
        try simp only [Act.put, List.setIfInBounds_toArray, List.set_cons_zero, List.set_cons_succ]
        refine wpAnyH_take (i := 29) (v := ?z528) (by simp; rfl) (by kernel_rfl) (by kernel_rfl) (by kernel_rfl) (by exact fun _ _ _ h => h) (Or.inl ⟨by rfl, ?yz528⟩) hHeld ?_
        case yz528 => (intro wx hSw; have hSx := Ex1.mk hSw; go_simp; (try with_reducible rfl))
        try simp only [Act.put, List.setIfInBounds_toArray, List.set_cons_zero, List.set_cons_succ]
        refine wpAnyH_take (i := 30) (v := ?z529) (by simp; rfl) (by kernel_rfl) (by kernel_rfl) (by kernel_rfl) (by exact fun _ _ _ h => h) (Or.inl ⟨by rfl, ?yz529⟩) hHeld ?_
        case yz529 => (intro wx hSw; have hSx := Ex1.mk hSw; go_simp; (try with_reducible rfl))
        try simp only [Act.put, List.setIfInBounds_toArray, List.set_cons_zero, List.set_cons_succ]
        refine wpAnyH_take (i := 31) (v := ?z530) (by simp; rfl) (by kernel_rfl) (by kernel_rfl) (by kernel_rfl) (by exact fun _ _ _ h => h) (Or.inl ⟨by rfl, ?yz530⟩) hHeld ?_
        case yz530 => (intro wx hSw; have hSx := Ex1.mk hSw; go_simp; (try with_reducible rfl))
        try simp only [Act.put, List.setIfInBounds_toArray, List.set_cons_zero, List.set_cons_succ]
        refine wpAnyH_take (i := 32) (v := ?z531) (by simp; rfl) (by kernel_rfl) (by kernel_rfl) (by kernel_rfl) (by exact fun _ _ _ h => h) (Or.inl ⟨by rfl, ?yz531⟩) hHeld ?_
        case yz531 => (intro wx hSw; have hSx := Ex1.mk hSw; go_simp; (try with_reducible rfl))
        try simp only [Act.put, List.setIfInBounds_toArray, List.set_cons_zero, List.set_cons_succ]
        refine wpAnyH_take (i := 37) (v := ?z532) (by simp; rfl) (by kernel_rfl) (by kernel_rfl) (by kernel_rfl) (by exact fun _ _ _ h => h) (Or.inl ⟨by rfl, ?yz532⟩) hHeld ?_
        case yz532 => (intro wx hSw; have hSx := Ex1.mk hSw; go_simp; (try with_reducible rfl))
        try simp only [Act.put, List.setIfInBounds_toArray, List.set_cons_zero, List.set_cons_succ]
        refine wpAnyH_ready (rs := [33]) (by kernel_rfl) (by simp) ?_
        refine AllReadyH.cons (by simp; rfl) (fun K hK => ?_) AllReadyH.nil
        go_simp
        (go_at_call 40; (with_reducible refine Calls.cNext (nextC (by omega)) ?_); intro W6 _ _ v v0 v1; have ev : IntKind.i64.wrap (1 + v) = 1 + v := (by rw [IntKind.wrap_i64]; omega))
        refine hK.out _ _ inferInstance ?_
        clear hHeld hK K
        intro hHeld
        try simp only [Act.put, List.setIfInBounds_toArray, List.set_cons_zero, List.set_cons_succ]
        refine wpAnyH_take (i := 34) (v := ?z533) (by simp; rfl) (by kernel_rfl) (by kernel_rfl) (by kernel_rfl) (by exact fun _ _ _ h => h) (Or.inl ⟨by rfl, ?yz533⟩) hHeld ?_
        case yz533 => (intro wx hSw; have hSx := Ex1.mk hSw; go_simp; (try with_reducible rfl))
        try simp only [Act.put, List.setIfInBounds_toArray, List.set_cons_zero, List.set_cons_succ]
        refine wpAnyH_ready (rs := [35]) (by kernel_rfl) (by simp) ?_
        refine AllReadyH.cons (by simp; rfl) (fun K hK => ?_) AllReadyH.nil
        go_simp
        (go_at_call 39; (with_reducible refine Calls.cQ (numPartC (by omega)) ?_); intros)
        refine hK.out _ _ inferInstance ?_
        clear hHeld hK K
        intro hHeld
        try simp only [Act.put, List.setIfInBounds_toArray, List.set_cons_zero, List.set_cons_succ]
        refine wpAnyH_ready (rs := [36]) (by kernel_rfl) (by simp) ?_
        refine AllReadyH.cons (by simp; rfl) (fun K hK => ?_) AllReadyH.nil
        go_simp
        (go_at_call 38; (with_reducible refine Calls.cA (toQC (by omega)) ?_); intros)
        refine hK.out _ _ inferInstance ?_
        clear hHeld hK K
        intro hHeld
        try simp only [Act.put, List.setIfInBounds_toArray, List.set_cons_zero, List.set_cons_succ]
        refine wpAnyH_ready (rs := [38]) (by kernel_rfl) (by simp) ?_
        refine AllReadyH.cons (by simp; rfl) (fun K hK => ?_) AllReadyH.nil
        go_simp
        (go_at_call 37; (with_reducible refine Calls.cPA (pScaleC (by omega)) ?_); intros)
        refine hK.out _ _ inferInstance ?_
        clear hHeld hK K
        intro hHeld
        try simp only [Act.put, List.setIfInBounds_toArray, List.set_cons_zero, List.set_cons_succ]
        refine wpAnyH_ready (rs := [39]) (by kernel_rfl) (by simp) ?_
        refine AllReadyH.cons (by simp; rfl) (fun K hK => ?_) AllReadyH.nil
        go_simp
        (go_at_call 36; (with_reducible refine Calls.cE (pAngleV (by omega) (Lib.hid (angle_scale (part_pos v0)))) ?_); intros)
        refine hK.out _ _ inferInstance ?_
        clear hHeld hK K
        intro hHeld
        try simp only [Act.put, List.setIfInBounds_toArray, List.set_cons_zero, List.set_cons_succ]
        refine wpAnyH_take (i := 40) (v := ?z534) (by simp; rfl) (by kernel_rfl) (by kernel_rfl) (by kernel_rfl) (by exact fun _ _ _ h => h) (Or.inl ⟨by rfl, ?yz534⟩) hHeld ?_
        case yz534 => (intro wx hSw; have hSx := Ex1.mk hSw; go_simp; (try with_reducible rfl))
        try simp only [Act.put, List.setIfInBounds_toArray, List.set_cons_zero, List.set_cons_succ]
        refine wpAnyH_take (i := 41) (v := ?z535) (by simp; rfl) (by kernel_rfl) (by kernel_rfl) (by kernel_rfl) (by exact fun _ _ _ h => h) (Or.inl ⟨by rfl, ?yz535⟩) hHeld ?_
        case yz535 => (intro wx hSw; have hSx := Ex1.mk hSw; go_simp; (try with_reducible rfl))
        try simp only [Act.put, List.setIfInBounds_toArray, List.set_cons_zero, List.set_cons_succ]
        refine wpAnyH_done (by kernel_rfl) ?_ _
        clear hHeld
        go_wp2_with fail
        go_meet
        exact ⟨rfl, inferInstance, inferInstance⟩
      · clear t1 t2
        refine region_cls (by kernel_rfl) [w.heap.size] (fun hHeld => ?_)
        refine wpAnyH_take (i := 0) (v := ?z536) (by simp; rfl) (by kernel_rfl) (by kernel_rfl) (by kernel_rfl) (by exact fun _ _ _ h => h) (Or.inl ⟨by rfl, ?yz536⟩) hHeld ?_
        case yz536 => (intro wx hSw; have hSx := Ex1.mk hSw; go_simp; (try with_reducible rfl))
        try simp only [Act.put, List.setIfInBounds_toArray, List.set_cons_zero, List.set_cons_succ]
        refine wpAnyH_take (i := 1) (v := ?z537) (by simp; rfl) (by kernel_rfl) (by kernel_rfl) (by kernel_rfl) (by exact fun _ _ _ h => h) (Or.inl ⟨by rfl, ?yz537⟩) hHeld ?_
        case yz537 => (intro wx hSw; have hSx := Ex1.mk hSw; go_simp; (try with_reducible rfl))
        try simp only [Act.put, List.setIfInBounds_toArray, List.set_cons_zero, List.set_cons_succ]
        refine wpAnyH_take (i := 3) (v := ?z538) (by simp; rfl) (by kernel_rfl) (by kernel_rfl) (by kernel_rfl) (by exact fun _ _ _ h => h) (Or.inl ⟨by rfl, ?yz538⟩) hHeld ?_
        case yz538 => (intro wx hSw; have hSx := Ex1.mk hSw; go_simp; (try with_reducible rfl))
        try simp only [Act.put, List.setIfInBounds_toArray, List.set_cons_zero, List.set_cons_succ]
        refine wpAnyH_take (i := 4) (v := ?z539) (by simp; rfl) (by kernel_rfl) (by kernel_rfl) (by kernel_rfl) (by exact fun _ _ _ h => h) (Or.inl ⟨by rfl, ?yz539⟩) hHeld ?_
        case yz539 => (intro wx hSw; have hSx := Ex1.mk hSw; go_simp; (try with_reducible rfl))
        try simp only [Act.put, List.setIfInBounds_toArray, List.set_cons_zero, List.set_cons_succ]
        refine wpAnyH_ready (rs := [2]) (by kernel_rfl) (by simp) ?_
        refine AllReadyH.cons (by simp; rfl) (fun K hK => ?_) AllReadyH.nil
        go_simp
        (go_at_call 36; (with_reducible refine Calls.cE (pAngleV (by omega) HS) ?_); intros)
        refine hK.out _ _ inferInstance ?_
        clear hHeld hK K
        intro hHeld
        try simp only [Act.put, List.setIfInBounds_toArray, List.set_cons_zero, List.set_cons_succ]
        refine wpAnyH_take (i := 5) (v := ?z540) (by simp; rfl) (by kernel_rfl) (by kernel_rfl) (by kernel_rfl) (by exact fun _ _ _ h => h) (Or.inl ⟨by rfl, ?yz540⟩) hHeld ?_
        case yz540 => (intro wx hSw; have hSx := Ex1.mk hSw; go_simp; (try with_reducible rfl))
        try simp only [Act.put, List.setIfInBounds_toArray, List.set_cons_zero, List.set_cons_succ]
        refine wpAnyH_take (i := 6) (v := ?z541) (by simp; rfl) (by kernel_rfl) (by kernel_rfl) (by kernel_rfl) (by exact fun _ _ _ h => h) (Or.inl ⟨by rfl, ?yz541⟩) hHeld ?_
        case yz541 => (intro wx hSw; have hSx := Ex1.mk hSw; go_simp; (try with_reducible rfl))
        try simp only [Act.put, List.setIfInBounds_toArray, List.set_cons_zero, List.set_cons_succ]
        refine wpAnyH_take (i := 7) (v := ?z542) (by simp; rfl) (by kernel_rfl) (by kernel_rfl) (by kernel_rfl) (by exact fun _ _ _ h => h) (Or.inl ⟨by rfl, ?yz542⟩) hHeld ?_
        case yz542 => (intro wx hSw; have hSx := Ex1.mk hSw; go_simp; (try with_reducible rfl))
        try simp only [Act.put, List.setIfInBounds_toArray, List.set_cons_zero, List.set_cons_succ]
        refine wpAnyH_take (i := 8) (v := ?z543) (by simp; rfl) (by kernel_rfl) (by kernel_rfl) (by kernel_rfl) (by exact fun _ _ _ h => h) (Or.inl ⟨by rfl, ?yz543⟩) hHeld ?_
        case yz543 => (intro wx hSw; have hSx := Ex1.mk hSw; go_simp; (try with_reducible rfl))
        try simp only [Act.put, List.setIfInBounds_toArray, List.set_cons_zero, List.set_cons_succ]
        refine wpAnyH_take (i := 9) (v := ?z544) (by simp; rfl) (by kernel_rfl) (by kernel_rfl) (by kernel_rfl) (by exact fun _ _ _ h => h) (Or.inl ⟨by rfl, ?yz544⟩) hHeld ?_
        case yz544 => (intro wx hSw; have hSx := Ex1.mk hSw; go_simp; (try with_reducible rfl))
        try simp only [Act.put, List.setIfInBounds_toArray, List.set_cons_zero, List.set_cons_succ]
        refine wpAnyH_take (i := 10) (v := ?z545) (by simp; rfl) (by kernel_rfl) (by kernel_rfl) (by kernel_rfl) (by exact fun _ _ _ h => h) (Or.inl ⟨by rfl, ?yz545⟩) hHeld ?_
        case yz545 => (intro wx hSw; have hSx := Ex1.mk hSw; go_simp; (try with_reducible rfl))
        try simp only [Act.put, List.setIfInBounds_toArray, List.set_cons_zero, List.set_cons_succ]
        refine wpAnyH_take (i := 11) (v := ?z546) (by simp; rfl) (by kernel_rfl) (by kernel_rfl) (by kernel_rfl) (by exact fun _ _ _ h => h) (Or.inl ⟨by rfl, ?yz546⟩) hHeld ?_
        case yz546 => (intro wx hSw; have hSx := Ex1.mk hSw; go_simp; (try with_reducible rfl))
        try simp only [Act.put, List.setIfInBounds_toArray, List.set_cons_zero, List.set_cons_succ]
        refine wpAnyH_take (i := 12) (v := ?z547) (by simp; rfl) (by kernel_rfl) (by kernel_rfl) (by kernel_rfl) (by exact fun _ _ _ h => h) (Or.inl ⟨by rfl, ?yz547⟩) hHeld ?_
        case yz547 => (intro wx hSw; have hSx := Ex1.mk hSw; go_simp; (try with_reducible rfl))
        try simp only [Act.put, List.setIfInBounds_toArray, List.set_cons_zero, List.set_cons_succ]
        refine wpAnyH_take (i := 13) (v := ?z548) (by simp; rfl) (by kernel_rfl) (by kernel_rfl) (by kernel_rfl) (by exact fun _ _ _ h => h) (Or.inl ⟨by rfl, ?yz548⟩) hHeld ?_
        case yz548 => (intro wx hSw; have hSx := Ex1.mk hSw; go_simp; (try with_reducible rfl))
        try simp only [Act.put, List.setIfInBounds_toArray, List.set_cons_zero, List.set_cons_succ]
        refine wpAnyH_take (i := 14) (v := undef) (by simp; rfl) (by kernel_rfl) (by kernel_rfl) (by kernel_rfl) (by exact fun _ _ _ h => h) (Or.inr ⟨by rfl, rfl⟩) hHeld ?_
        try simp only [Act.put, List.setIfInBounds_toArray, List.set_cons_zero, List.set_cons_succ]
        refine wpAnyH_take (i := 15) (v := undef) (by simp; rfl) (by kernel_rfl) (by kernel_rfl) (by kernel_rfl) (by exact fun _ _ _ h => h) (Or.inr ⟨by rfl, rfl⟩) hHeld ?_
        try simp only [Act.put, List.setIfInBounds_toArray, List.set_cons_zero, List.set_cons_succ]
        refine wpAnyH_take (i := 16) (v := ?z551) (by simp; rfl) (by kernel_rfl) (by kernel_rfl) (by kernel_rfl) (by exact fun _ _ _ h => h) (Or.inl ⟨by rfl, ?yz551⟩) hHeld ?_
        case yz551 => (intro wx hSw; have hSx := Ex1.mk hSw; go_simp; (try with_reducible rfl))
        try simp only [Act.put, List.setIfInBounds_toArray, List.set_cons_zero, List.set_cons_succ]
        refine wpAnyH_take (i := 17) (v := ?z552) (by simp; rfl) (by kernel_rfl) (by kernel_rfl) (by kernel_rfl) (by exact fun _ _ _ h => h) (Or.inl ⟨by rfl, ?yz552⟩) hHeld ?_
        case yz552 => (intro wx hSw; have hSx := Ex1.mk hSw; go_simp; (try with_reducible rfl))
        try simp only [Act.put, List.setIfInBounds_toArray, List.set_cons_zero, List.set_cons_succ]
        refine wpAnyH_take (i := 18) (v := ?z553) (by simp; rfl) (by kernel_rfl) (by kernel_rfl) (by kernel_rfl) (by exact fun _ _ _ h => h) (Or.inl ⟨by rfl, ?yz553⟩) hHeld ?_
        case yz553 => (intro wx hSw; have hSx := Ex1.mk hSw; go_simp; (try with_reducible rfl))
        try simp only [Act.put, List.setIfInBounds_toArray, List.set_cons_zero, List.set_cons_succ]
        refine wpAnyH_take (i := 19) (v := ?z554) (by simp; rfl) (by kernel_rfl) (by kernel_rfl) (by kernel_rfl) (by exact fun _ _ _ h => h) (Or.inl ⟨by rfl, ?yz554⟩) hHeld ?_
        case yz554 => (intro wx hSw; have hSx := Ex1.mk hSw; go_simp; (try with_reducible rfl))
        try simp only [Act.put, List.setIfInBounds_toArray, List.set_cons_zero, List.set_cons_succ]
        refine wpAnyH_take (i := 20) (v := ?z555) (by simp; rfl) (by kernel_rfl) (by kernel_rfl) (by kernel_rfl) (by exact fun _ _ _ h => h) (Or.inl ⟨by rfl, ?yz555⟩) hHeld ?_
        case yz555 => (intro wx hSw; have hSx := Ex1.mk hSw; go_simp; (try with_reducible rfl))
        try simp only [Act.put, List.setIfInBounds_toArray, List.set_cons_zero, List.set_cons_succ]
        refine wpAnyH_take (i := 21) (v := ?z556) (by simp; rfl) (by kernel_rfl) (by kernel_rfl) (by kernel_rfl) (by exact fun _ _ _ h => h) (Or.inl ⟨by rfl, ?yz556⟩) hHeld ?_
        case yz556 => (intro wx hSw; have hSx := Ex1.mk hSw; go_simp; (try with_reducible rfl))
        try simp only [Act.put, List.setIfInBounds_toArray, List.set_cons_zero, List.set_cons_succ]
        refine wpAnyH_take (i := 22) (v := undef) (by simp; rfl) (by kernel_rfl) (by kernel_rfl) (by kernel_rfl) (by exact fun _ _ _ h => h) (Or.inr ⟨by rfl, rfl⟩) hHeld ?_
        try simp only [Act.put, List.setIfInBounds_toArray, List.set_cons_zero, List.set_cons_succ]
        refine wpAnyH_take (i := 23) (v := undef) (by simp; rfl) (by kernel_rfl) (by kernel_rfl) (by kernel_rfl) (by exact fun _ _ _ h => h) (Or.inr ⟨by rfl, rfl⟩) hHeld ?_
        try simp only [Act.put, List.setIfInBounds_toArray, List.set_cons_zero, List.set_cons_succ]
        refine wpAnyH_take (i := 24) (v := ?z559) (by simp; rfl) (by kernel_rfl) (by kernel_rfl) (by kernel_rfl) (by exact fun _ _ _ h => h) (Or.inl ⟨by rfl, ?yz559⟩) hHeld ?_
        case yz559 => (intro wx hSw; have hSx := Ex1.mk hSw; go_simp; (try with_reducible rfl))
        try simp only [Act.put, List.setIfInBounds_toArray, List.set_cons_zero, List.set_cons_succ]
        refine wpAnyH_take (i := 25) (v := ?z560) (by simp; rfl) (by kernel_rfl) (by kernel_rfl) (by kernel_rfl) (by exact fun _ _ _ h => h) (Or.inl ⟨by rfl, ?yz560⟩) hHeld ?_
        case yz560 => (intro wx hSw; have hSx := Ex1.mk hSw; go_simp; (try with_reducible rfl))
        try simp only [Act.put, List.setIfInBounds_toArray, List.set_cons_zero, List.set_cons_succ]
        refine wpAnyH_take (i := 26) (v := undef) (by simp; rfl) (by kernel_rfl) (by kernel_rfl) (by kernel_rfl) (by exact fun _ _ _ h => h) (Or.inr ⟨by rfl, rfl⟩) hHeld ?_
        try simp only [Act.put, List.setIfInBounds_toArray, List.set_cons_zero, List.set_cons_succ]
        refine wpAnyH_take (i := 27) (v := undef) (by simp; rfl) (by kernel_rfl) (by kernel_rfl) (by kernel_rfl) (by exact fun _ _ _ h => h) (Or.inr ⟨by rfl, rfl⟩) hHeld ?_
        try simp only [Act.put, List.setIfInBounds_toArray, List.set_cons_zero, List.set_cons_succ]
        refine wpAnyH_take (i := 28) (v := ?z563) (by simp; rfl) (by kernel_rfl) (by kernel_rfl) (by kernel_rfl) (by exact fun _ _ _ h => h) (Or.inl ⟨by rfl, ?yz563⟩) hHeld ?_
        case yz563 => (intro wx hSw; have hSx := Ex1.mk hSw; go_simp; (try with_reducible rfl))
        try simp only [Act.put, List.setIfInBounds_toArray, List.set_cons_zero, List.set_cons_succ]
        refine wpAnyH_take (i := 29) (v := ?z564) (by simp; rfl) (by kernel_rfl) (by kernel_rfl) (by kernel_rfl) (by exact fun _ _ _ h => h) (Or.inl ⟨by rfl, ?yz564⟩) hHeld ?_
        case yz564 => (intro wx hSw; have hSx := Ex1.mk hSw; go_simp; (try with_reducible rfl))
        try simp only [Act.put, List.setIfInBounds_toArray, List.set_cons_zero, List.set_cons_succ]
        refine wpAnyH_take (i := 30) (v := ?z565) (by simp; rfl) (by kernel_rfl) (by kernel_rfl) (by kernel_rfl) (by exact fun _ _ _ h => h) (Or.inl ⟨by rfl, ?yz565⟩) hHeld ?_
        case yz565 => (intro wx hSw; have hSx := Ex1.mk hSw; go_simp; (try with_reducible rfl))
        try simp only [Act.put, List.setIfInBounds_toArray, List.set_cons_zero, List.set_cons_succ]
        refine wpAnyH_take (i := 31) (v := ?z566) (by simp; rfl) (by kernel_rfl) (by kernel_rfl) (by kernel_rfl) (by exact fun _ _ _ h => h) (Or.inl ⟨by rfl, ?yz566⟩) hHeld ?_
        case yz566 => (intro wx hSw; have hSx := Ex1.mk hSw; go_simp; (try with_reducible rfl))
        try simp only [Act.put, List.setIfInBounds_toArray, List.set_cons_zero, List.set_cons_succ]
        refine wpAnyH_take (i := 32) (v := ?z567) (by simp; rfl) (by kernel_rfl) (by kernel_rfl) (by kernel_rfl) (by exact fun _ _ _ h => h) (Or.inl ⟨by rfl, ?yz567⟩) hHeld ?_
        case yz567 => (intro wx hSw; have hSx := Ex1.mk hSw; go_simp; (try with_reducible rfl))
        try simp only [Act.put, List.setIfInBounds_toArray, List.set_cons_zero, List.set_cons_succ]
        refine wpAnyH_take (i := 37) (v := ?z568) (by simp; rfl) (by kernel_rfl) (by kernel_rfl) (by kernel_rfl) (by exact fun _ _ _ h => h) (Or.inl ⟨by rfl, ?yz568⟩) hHeld ?_
        case yz568 => (intro wx hSw; have hSx := Ex1.mk hSw; go_simp; (try with_reducible rfl))
        try simp only [Act.put, List.setIfInBounds_toArray, List.set_cons_zero, List.set_cons_succ]
        refine wpAnyH_ready (rs := [33]) (by kernel_rfl) (by simp) ?_
        refine AllReadyH.cons (by simp; rfl) (fun K hK => ?_) AllReadyH.nil
        go_simp
        (go_at_call 40; (with_reducible refine Calls.cNext (nextC (by omega)) ?_); intro W6 _ _ v v0 v1; have ev : IntKind.i64.wrap (1 + v) = 1 + v := (by rw [IntKind.wrap_i64]; omega))
        refine hK.out _ _ inferInstance ?_
        clear hHeld hK K
        intro hHeld
        try simp only [Act.put, List.setIfInBounds_toArray, List.set_cons_zero, List.set_cons_succ]
        refine wpAnyH_take (i := 34) (v := ?z569) (by simp; rfl) (by kernel_rfl) (by kernel_rfl) (by kernel_rfl) (by exact fun _ _ _ h => h) (Or.inl ⟨by rfl, ?yz569⟩) hHeld ?_
        case yz569 => (intro wx hSw; have hSx := Ex1.mk hSw; go_simp; (try with_reducible rfl))
        try simp only [Act.put, List.setIfInBounds_toArray, List.set_cons_zero, List.set_cons_succ]
        refine wpAnyH_ready (rs := [35]) (by kernel_rfl) (by simp) ?_
        refine AllReadyH.cons (by simp; rfl) (fun K hK => ?_) AllReadyH.nil
        go_simp
        (go_at_call 39; (with_reducible refine Calls.cQ (numPartC (by omega)) ?_); intros)
        refine hK.out _ _ inferInstance ?_
        clear hHeld hK K
        intro hHeld
        try simp only [Act.put, List.setIfInBounds_toArray, List.set_cons_zero, List.set_cons_succ]
        refine wpAnyH_ready (rs := [36]) (by kernel_rfl) (by simp) ?_
        refine AllReadyH.cons (by simp; rfl) (fun K hK => ?_) AllReadyH.nil
        go_simp
        (go_at_call 38; (with_reducible refine Calls.cA (toQC (by omega)) ?_); intros)
        refine hK.out _ _ inferInstance ?_
        clear hHeld hK K
        intro hHeld
        try simp only [Act.put, List.setIfInBounds_toArray, List.set_cons_zero, List.set_cons_succ]
        refine wpAnyH_ready (rs := [38]) (by kernel_rfl) (by simp) ?_
        refine AllReadyH.cons (by simp; rfl) (fun K hK => ?_) AllReadyH.nil
        go_simp
        (go_at_call 37; (with_reducible refine Calls.cPA (pScaleC (by omega)) ?_); intros)
        refine hK.out _ _ inferInstance ?_
        clear hHeld hK K
        intro hHeld
        try simp only [Act.put, List.setIfInBounds_toArray, List.set_cons_zero, List.set_cons_succ]
        refine wpAnyH_ready (rs := [39]) (by kernel_rfl) (by simp) ?_
        refine AllReadyH.cons (by simp; rfl) (fun K hK => ?_) AllReadyH.nil
        go_simp
        (go_at_call 36; (with_reducible refine Calls.cE (pAngleV (by omega) (Lib.hid (angle_scale (part_pos v0)))) ?_); intros)
        refine hK.out _ _ inferInstance ?_
        clear hHeld hK K
        intro hHeld
        try simp only [Act.put, List.setIfInBounds_toArray, List.set_cons_zero, List.set_cons_succ]
        refine wpAnyH_take (i := 40) (v := ?z570) (by simp; rfl) (by kernel_rfl) (by kernel_rfl) (by kernel_rfl) (by exact fun _ _ _ h => h) (Or.inl ⟨by rfl, ?yz570⟩) hHeld ?_
        case yz570 => (intro wx hSw; have hSx := Ex1.mk hSw; go_simp; (try with_reducible rfl))
        try simp only [Act.put, List.setIfInBounds_toArray, List.set_cons_zero, List.set_cons_succ]
        refine wpAnyH_take (i := 41) (v := ?z571) (by simp; rfl) (by kernel_rfl) (by kernel_rfl) (by kernel_rfl) (by exact fun _ _ _ h => h) (Or.inl ⟨by rfl, ?yz571⟩) hHeld ?_
        case yz571 => (intro wx hSw; have hSx := Ex1.mk hSw; go_simp; (try with_reducible rfl))
        try simp only [Act.put, List.setIfInBounds_toArray, List.set_cons_zero, List.set_cons_succ]
        refine wpAnyH_done (by kernel_rfl) ?_ _
        clear hHeld
        go_wp2_with fail
        go_meet
        exact ⟨rfl, inferInstance, inferInstance⟩
    · rcases (show b = -1 ∨ b = 0 ∨ b = 1 by omega) with rfl | rfl | rfl
      · have d1 : decide (0 < c) = false := decide_eq_false (by have := t1 (by decide) (by decide); omega)
        clear t1 t2
        refine region_cls (by kernel_rfl) [w.heap.size] (fun hHeld => ?_)
        refine wpAnyH_take (i := 0) (v := ?z572) (by simp; rfl) (by kernel_rfl) (by kernel_rfl) (by kernel_rfl) (by exact fun _ _ _ h => h) (Or.inl ⟨by rfl, ?yz572⟩) hHeld ?_
        case yz572 => (intro wx hSw; have hSx := Ex1.mk hSw; go_simp; (try with_reducible rfl))
        try simp only [Act.put, List.setIfInBounds_toArray, List.set_cons_zero, List.set_cons_succ]
        refine wpAnyH_take (i := 1) (v := ?z573) (by simp; rfl) (by kernel_rfl) (by kernel_rfl) (by kernel_rfl) (by exact fun _ _ _ h => h) (Or.inl ⟨by rfl, ?yz573⟩) hHeld ?_
        case yz573 => (intro wx hSw; have hSx := Ex1.mk hSw; go_simp; (try with_reducible rfl))
        try simp only [Act.put, List.setIfInBounds_toArray, List.set_cons_zero, List.set_cons_succ]
        refine wpAnyH_take (i := 3) (v := ?z574) (by simp; rfl) (by kernel_rfl) (by kernel_rfl) (by kernel_rfl) (by exact fun _ _ _ h => h) (Or.inl ⟨by rfl, ?yz574⟩) hHeld ?_
        case yz574 => (intro wx hSw; have hSx := Ex1.mk hSw; go_simp; (try with_reducible rfl))
        try simp only [Act.put, List.setIfInBounds_toArray, List.set_cons_zero, List.set_cons_succ]
        refine wpAnyH_take (i := 4) (v := ?z575) (by simp; rfl) (by kernel_rfl) (by kernel_rfl) (by kernel_rfl) (by exact fun _ _ _ h => h) (Or.inl ⟨by rfl, ?yz575⟩) hHeld ?_
        case yz575 => (intro wx hSw; have hSx := Ex1.mk hSw; go_simp; (try with_reducible rfl))
        try simp only [Act.put, List.setIfInBounds_toArray, List.set_cons_zero, List.set_cons_succ]
        refine wpAnyH_ready (rs := [2]) (by kernel_rfl) (by simp) ?_
        refine AllReadyH.cons (by simp; rfl) (fun K hK => ?_) AllReadyH.nil
        go_simp
        (go_at_call 36; (with_reducible refine Calls.cE (pAngleV (by omega) HS) ?_); intros)
        refine hK.out _ _ inferInstance ?_
        clear hHeld hK K
        intro hHeld
        try simp only [Act.put, List.setIfInBounds_toArray, List.set_cons_zero, List.set_cons_succ]
        refine wpAnyH_take (i := 5) (v := ?z576) (by simp; rfl) (by kernel_rfl) (by kernel_rfl) (by kernel_rfl) (by exact fun _ _ _ h => h) (Or.inl ⟨by rfl, ?yz576⟩) hHeld ?_
        case yz576 => (intro wx hSw; have hSx := Ex1.mk hSw; go_simp; (try with_reducible rfl))
        try simp only [Act.put, List.setIfInBounds_toArray, List.set_cons_zero, List.set_cons_succ]
        refine wpAnyH_take (i := 6) (v := ?z577) (by simp; rfl) (by kernel_rfl) (by kernel_rfl) (by kernel_rfl) (by exact fun _ _ _ h => h) (Or.inl ⟨by rfl, ?yz577⟩) hHeld ?_
        case yz577 => (intro wx hSw; have hSx := Ex1.mk hSw; go_simp; (try with_reducible rfl))
        try simp only [Act.put, List.setIfInBounds_toArray, List.set_cons_zero, List.set_cons_succ]
        refine wpAnyH_take (i := 7) (v := ?z578) (by simp; rfl) (by kernel_rfl) (by kernel_rfl) (by kernel_rfl) (by exact fun _ _ _ h => h) (Or.inl ⟨by rfl, ?yz578⟩) hHeld ?_
        case yz578 => (intro wx hSw; have hSx := Ex1.mk hSw; go_simp; (try with_reducible rfl))
        try simp only [Act.put, List.setIfInBounds_toArray, List.set_cons_zero, List.set_cons_succ]
        refine wpAnyH_take (i := 8) (v := ?z579) (by simp; rfl) (by kernel_rfl) (by kernel_rfl) (by kernel_rfl) (by exact fun _ _ _ h => h) (Or.inl ⟨by rfl, ?yz579⟩) hHeld ?_
        case yz579 => (intro wx hSw; have hSx := Ex1.mk hSw; go_simp; (try with_reducible rfl))
        try simp only [Act.put, List.setIfInBounds_toArray, List.set_cons_zero, List.set_cons_succ]
        refine wpAnyH_take (i := 9) (v := ?z580) (by simp; rfl) (by kernel_rfl) (by kernel_rfl) (by kernel_rfl) (by exact fun _ _ _ h => h) (Or.inl ⟨by rfl, ?yz580⟩) hHeld ?_
        case yz580 => (intro wx hSw; have hSx := Ex1.mk hSw; go_simp; (try with_reducible rfl))
        try simp only [Act.put, List.setIfInBounds_toArray, List.set_cons_zero, List.set_cons_succ]
        refine wpAnyH_take (i := 10) (v := ?z581) (by simp; rfl) (by kernel_rfl) (by kernel_rfl) (by kernel_rfl) (by exact fun _ _ _ h => h) (Or.inl ⟨by rfl, ?yz581⟩) hHeld ?_
        case yz581 => (intro wx hSw; have hSx := Ex1.mk hSw; go_simp; (try with_reducible rfl))
        try simp only [Act.put, List.setIfInBounds_toArray, List.set_cons_zero, List.set_cons_succ]
        refine wpAnyH_take (i := 11) (v := ?z582) (by simp; rfl) (by kernel_rfl) (by kernel_rfl) (by kernel_rfl) (by exact fun _ _ _ h => h) (Or.inl ⟨by rfl, ?yz582⟩) hHeld ?_
        case yz582 => (intro wx hSw; have hSx := Ex1.mk hSw; go_simp; (try with_reducible rfl))
        try simp only [Act.put, List.setIfInBounds_toArray, List.set_cons_zero, List.set_cons_succ]
        refine wpAnyH_take (i := 12) (v := ?z583) (by simp; rfl) (by kernel_rfl) (by kernel_rfl) (by kernel_rfl) (by exact fun _ _ _ h => h) (Or.inl ⟨by rfl, ?yz583⟩) hHeld ?_
        case yz583 => (intro wx hSw; have hSx := Ex1.mk hSw; go_simp; (try with_reducible rfl))
        try simp only [Act.put, List.setIfInBounds_toArray, List.set_cons_zero, List.set_cons_succ]
        refine wpAnyH_take (i := 13) (v := ?z584) (by simp; rfl) (by kernel_rfl) (by kernel_rfl) (by kernel_rfl) (by exact fun _ _ _ h => h) (Or.inl ⟨by rfl, ?yz584⟩) hHeld ?_
        case yz584 => (intro wx hSw; have hSx := Ex1.mk hSw; go_simp; (try with_reducible rfl))
        try simp only [Act.put, List.setIfInBounds_toArray, List.set_cons_zero, List.set_cons_succ]
        refine wpAnyH_take (i := 14) (v := ?z585) (by simp; rfl) (by kernel_rfl) (by kernel_rfl) (by kernel_rfl) (by exact fun _ _ _ h => h) (Or.inl ⟨by rfl, ?yz585⟩) hHeld ?_
        case yz585 => (intro wx hSw; have hSx := Ex1.mk hSw; go_simp; (try with_reducible rfl))
        try simp only [Act.put, List.setIfInBounds_toArray, List.set_cons_zero, List.set_cons_succ]
        refine wpAnyH_take (i := 15) (v := ?z586) (by simp; rfl) (by kernel_rfl) (by kernel_rfl) (by kernel_rfl) (by exact fun _ _ _ h => h) (Or.inl ⟨by rfl, ?yz586⟩) hHeld ?_
        case yz586 => (intro wx hSw; have hSx := Ex1.mk hSw; go_simp; (try with_reducible rfl))
        try simp only [Act.put, List.setIfInBounds_toArray, List.set_cons_zero, List.set_cons_succ]
        refine wpAnyH_take (i := 16) (v := ?z587) (by simp; rfl) (by kernel_rfl) (by kernel_rfl) (by kernel_rfl) (by exact fun _ _ _ h => h) (Or.inl ⟨by rfl, ?yz587⟩) hHeld ?_
        case yz587 => (intro wx hSw; have hSx := Ex1.mk hSw; go_simp; (try with_reducible rfl))
        try simp only [Act.put, List.setIfInBounds_toArray, List.set_cons_zero, List.set_cons_succ]
        refine wpAnyH_take (i := 17) (v := ?z588) (by simp; rfl) (by kernel_rfl) (by kernel_rfl) (by kernel_rfl) (by exact fun _ _ _ h => h) (Or.inl ⟨by rfl, ?yz588⟩) hHeld ?_
        case yz588 => (intro wx hSw; have hSx := Ex1.mk hSw; go_simp; (try with_reducible rfl))
        try simp only [Act.put, List.setIfInBounds_toArray, List.set_cons_zero, List.set_cons_succ]
        refine wpAnyH_take (i := 18) (v := ?z589) (by simp; rfl) (by kernel_rfl) (by kernel_rfl) (by kernel_rfl) (by exact fun _ _ _ h => h) (Or.inl ⟨by rfl, ?yz589⟩) hHeld ?_
        case yz589 => (intro wx hSw; have hSx := Ex1.mk hSw; go_simp; (try with_reducible rfl))
        try simp only [Act.put, List.setIfInBounds_toArray, List.set_cons_zero, List.set_cons_succ]
        refine wpAnyH_take (i := 19) (v := ?z590) (by simp; rfl) (by kernel_rfl) (by kernel_rfl) (by kernel_rfl) (by exact fun _ _ _ h => h) (Or.inl ⟨by rfl, ?yz590⟩) hHeld ?_
        case yz590 => (intro wx hSw; have hSx := Ex1.mk hSw; go_simp; (try with_reducible rfl))
        try simp only [Act.put, List.setIfInBounds_toArray, List.set_cons_zero, List.set_cons_succ]
        refine wpAnyH_take (i := 20) (v := ?z591) (by simp; rfl) (by kernel_rfl) (by kernel_rfl) (by kernel_rfl) (by exact fun _ _ _ h => h) (Or.inl ⟨by rfl, ?yz591⟩) hHeld ?_
        case yz591 => (intro wx hSw; have hSx := Ex1.mk hSw; go_simp; (try with_reducible rfl))
        try simp only [Act.put, List.setIfInBounds_toArray, List.set_cons_zero, List.set_cons_succ]
        refine wpAnyH_take (i := 21) (v := ?z592) (by simp; rfl) (by kernel_rfl) (by kernel_rfl) (by kernel_rfl) (by exact fun _ _ _ h => h) (Or.inl ⟨by rfl, ?yz592⟩) hHeld ?_
        case yz592 => (intro wx hSw; have hSx := Ex1.mk hSw; go_simp; (try with_reducible rfl))
        try simp only [Act.put, List.setIfInBounds_toArray, List.set_cons_zero, List.set_cons_succ]
        refine wpAnyH_take (i := 22) (v := ?z593) (by simp; rfl) (by kernel_rfl) (by kernel_rfl) (by kernel_rfl) (by exact fun _ _ _ h => h) (Or.inl ⟨by rfl, ?yz593⟩) hHeld ?_
        case yz593 => (intro wx hSw; have hSx := Ex1.mk hSw; go_simp; (try with_reducible rfl))
        try simp only [Act.put, List.setIfInBounds_toArray, List.set_cons_zero, List.set_cons_succ]
        refine wpAnyH_take (i := 23) (v := ?z594) (by simp; rfl) (by kernel_rfl) (by kernel_rfl) (by kernel_rfl) (by exact fun _ _ _ h => h) (Or.inl ⟨by rfl, ?yz594⟩) hHeld ?_
        case yz594 => (intro wx hSw; have hSx := Ex1.mk hSw; go_simp; (try with_reducible rfl))
        try simp only [Act.put, List.setIfInBounds_toArray, List.set_cons_zero, List.set_cons_succ]
        refine wpAnyH_take (i := 24) (v := ?z595) (by simp; rfl) (by kernel_rfl) (by kernel_rfl) (by kernel_rfl) (by exact fun _ _ _ h => h) (Or.inl ⟨by rfl, ?yz595⟩) hHeld ?_
        case yz595 => (intro wx hSw; have hSx := Ex1.mk hSw; go_simp; (try with_reducible rfl))
        try simp only [Act.put, List.setIfInBounds_toArray, List.set_cons_zero, List.set_cons_succ]
        refine wpAnyH_take (i := 25) (v := ?z596) (by simp; rfl) (by kernel_rfl) (by kernel_rfl) (by kernel_rfl) (by exact fun _ _ _ h => h) (Or.inl ⟨by rfl, ?yz596⟩) hHeld ?_
        case yz596 => (intro wx hSw; have hSx := Ex1.mk hSw; go_simp; (try with_reducible rfl))
        try simp only [Act.put, List.setIfInBounds_toArray, List.set_cons_zero, List.set_cons_succ]
        refine wpAnyH_take (i := 26) (v := undef) (by simp; rfl) (by kernel_rfl) (by kernel_rfl) (by kernel_rfl) (by exact fun _ _ _ h => h) (Or.inr ⟨by rfl, rfl⟩) hHeld ?_
        try simp only [Act.put, List.setIfInBounds_toArray, List.set_cons_zero, List.set_cons_succ]
        refine wpAnyH_take (i := 27) (v := undef) (by simp; rfl) (by kernel_rfl) (by kernel_rfl) (by kernel_rfl) (by exact fun _ _ _ h => h) (Or.inr ⟨by rfl, rfl⟩) hHeld ?_
        try simp only [Act.put, List.setIfInBounds_toArray, List.set_cons_zero, List.set_cons_succ]
        refine wpAnyH_take (i := 28) (v := ?z599) (by simp; rfl) (by kernel_rfl) (by kernel_rfl) (by kernel_rfl) (by exact fun _ _ _ h => h) (Or.inl ⟨by rfl, ?yz599⟩) hHeld ?_
        case yz599 => (intro wx hSw; have hSx := Ex1.mk hSw; go_simp; (try with_reducible rfl))
        try simp only [Act.put, List.setIfInBounds_toArray, List.set_cons_zero, List.set_cons_succ]
        refine wpAnyH_take (i := 29) (v := ?z600) (by simp; rfl) (by kernel_rfl) (by kernel_rfl) (by kernel_rfl) (by exact fun _ _ _ h => h) (Or.inl ⟨by rfl, ?yz600⟩) hHeld ?_
        case yz600 => (intro wx hSw; have hSx := Ex1.mk hSw; go_simp; (try with_reducible rfl))
        try simp only [Act.put, List.setIfInBounds_toArray, List.set_cons_zero, List.set_cons_succ]
        refine wpAnyH_take (i := 30) (v := ?z601) (by simp; rfl) (by kernel_rfl) (by kernel_rfl) (by kernel_rfl) (by exact fun _ _ _ h => h) (Or.inl ⟨by rfl, ?yz601⟩) hHeld ?_
        case yz601 => (intro wx hSw; have hSx := Ex1.mk hSw; go_simp; (try with_reducible rfl))
        try simp only [Act.put, List.setIfInBounds_toArray, List.set_cons_zero, List.set_cons_succ]
        refine wpAnyH_take (i := 31) (v := ?z602) (by simp; rfl) (by kernel_rfl) (by kernel_rfl) (by kernel_rfl) (by exact fun _ _ _ h => h) (Or.inl ⟨by rfl, ?yz602⟩) hHeld ?_
        case yz602 => (intro wx hSw; have hSx := Ex1.mk hSw; go_simp; (try with_reducible rfl))
        try simp only [Act.put, List.setIfInBounds_toArray, List.set_cons_zero, List.set_cons_succ]
        refine wpAnyH_take (i := 32) (v := ?z603) (by simp; rfl) (by kernel_rfl) (by kernel_rfl) (by kernel_rfl) (by exact fun _ _ _ h => h) (Or.inl ⟨by rfl, ?yz603⟩) hHeld ?_
        case yz603 => (intro wx hSw; have hSx := Ex1.mk hSw; go_simp; (try with_reducible rfl))
        try simp only [Act.put, List.setIfInBounds_toArray, List.set_cons_zero, List.set_cons_succ]
        refine wpAnyH_take (i := 37) (v := ?z604) (by simp; rfl) (by kernel_rfl) (by kernel_rfl) (by kernel_rfl) (by exact fun _ _ _ h => h) (Or.inl ⟨by rfl, ?yz604⟩) hHeld ?_
        case yz604 => (intro wx hSw; have hSx := Ex1.mk hSw; go_simp; (try with_reducible rfl))
        try simp only [Act.put, List.setIfInBounds_toArray, List.set_cons_zero, List.set_cons_succ]
        refine wpAnyH_ready (rs := [33]) (by kernel_rfl) (by simp) ?_
        refine AllReadyH.cons (by simp; rfl) (fun K hK => ?_) AllReadyH.nil
        go_simp
        (go_at_call 40; (with_reducible refine Calls.cNext (nextC (by omega)) ?_); intro W6 _ _ v v0 v1; have ev : IntKind.i64.wrap (1 + v) = 1 + v := (by rw [IntKind.wrap_i64]; omega))
        refine hK.out _ _ inferInstance ?_
        clear hHeld hK K
        intro hHeld
        try simp only [Act.put, List.setIfInBounds_toArray, List.set_cons_zero, List.set_cons_succ]
        refine wpAnyH_take (i := 34) (v := ?z605) (by simp; rfl) (by kernel_rfl) (by kernel_rfl) (by kernel_rfl) (by exact fun _ _ _ h => h) (Or.inl ⟨by rfl, ?yz605⟩) hHeld ?_
        case yz605 => (intro wx hSw; have hSx := Ex1.mk hSw; go_simp; (try with_reducible rfl))
        try simp only [Act.put, List.setIfInBounds_toArray, List.set_cons_zero, List.set_cons_succ]
        refine wpAnyH_ready (rs := [35]) (by kernel_rfl) (by simp) ?_
        refine AllReadyH.cons (by simp; rfl) (fun K hK => ?_) AllReadyH.nil
        go_simp
        (go_at_call 39; (with_reducible refine Calls.cQ (numPartC (by omega)) ?_); intros)
        refine hK.out _ _ inferInstance ?_
        clear hHeld hK K
        intro hHeld
        try simp only [Act.put, List.setIfInBounds_toArray, List.set_cons_zero, List.set_cons_succ]
        refine wpAnyH_ready (rs := [36]) (by kernel_rfl) (by simp) ?_
        refine AllReadyH.cons (by simp; rfl) (fun K hK => ?_) AllReadyH.nil
        go_simp
        (go_at_call 38; (with_reducible refine Calls.cA (toQC (by omega)) ?_); intros)
        refine hK.out _ _ inferInstance ?_
        clear hHeld hK K
        intro hHeld
        try simp only [Act.put, List.setIfInBounds_toArray, List.set_cons_zero, List.set_cons_succ]
        refine wpAnyH_ready (rs := [38]) (by kernel_rfl) (by simp) ?_
        refine AllReadyH.cons (by simp; rfl) (fun K hK => ?_) AllReadyH.nil
        go_simp
        (go_at_call 37; (with_reducible refine Calls.cPA (pScaleC (by omega)) ?_); intros)
        refine hK.out _ _ inferInstance ?_
        clear hHeld hK K
        intro hHeld
        try simp only [Act.put, List.setIfInBounds_toArray, List.set_cons_zero, List.set_cons_succ]
        refine wpAnyH_ready (rs := [39]) (by kernel_rfl) (by simp) ?_
        refine AllReadyH.cons (by simp; rfl) (fun K hK => ?_) AllReadyH.nil
        go_simp
        (go_at_call 36; (with_reducible refine Calls.cE (pAngleV (by omega) (Lib.hid (angle_scale (part_pos v0)))) ?_); intros)
        refine hK.out _ _ inferInstance ?_
        clear hHeld hK K
        intro hHeld
        try simp only [Act.put, List.setIfInBounds_toArray, List.set_cons_zero, List.set_cons_succ]
        refine wpAnyH_take (i := 40) (v := ?z606) (by simp; rfl) (by kernel_rfl) (by kernel_rfl) (by kernel_rfl) (by exact fun _ _ _ h => h) (Or.inl ⟨by rfl, ?yz606⟩) hHeld ?_
        case yz606 => (intro wx hSw; have hSx := Ex1.mk hSw; go_simp; (try with_reducible rfl))
        try simp only [Act.put, List.setIfInBounds_toArray, List.set_cons_zero, List.set_cons_succ]
        refine wpAnyH_take (i := 41) (v := ?z607) (by simp; rfl) (by kernel_rfl) (by kernel_rfl) (by kernel_rfl) (by exact fun _ _ _ h => h) (Or.inl ⟨by rfl, ?yz607⟩) hHeld ?_
        case yz607 => (intro wx hSw; have hSx := Ex1.mk hSw; go_simp; (try with_reducible rfl))
        try simp only [Act.put, List.setIfInBounds_toArray, List.set_cons_zero, List.set_cons_succ]
        refine wpAnyH_done (by kernel_rfl) ?_ _
        clear hHeld
        go_wp2_with fail
        go_meet
        exact ⟨rfl, inferInstance, inferInstance⟩
      · have d1 : decide (0 < c) = false := decide_eq_false (by have := t1 (by decide) (by decide); omega)
        have d2 : decide (c < 0) = false := decide_eq_false (by have := t2 (by decide) (by decide); omega)
        clear t1 t2
        refine region_cls (by kernel_rfl) [w.heap.size] (fun hHeld => ?_)
        refine wpAnyH_take (i := 0) (v := ?z608) (by simp; rfl) (by kernel_rfl) (by kernel_rfl) (by kernel_rfl) (by exact fun _ _ _ h => h) (Or.inl ⟨by rfl, ?yz608⟩) hHeld ?_
        case yz608 => (intro wx hSw; have hSx := Ex1.mk hSw; go_simp; (try with_reducible rfl))
        try simp only [Act.put, List.setIfInBounds_toArray, List.set_cons_zero, List.set_cons_succ]
        refine wpAnyH_take (i := 1) (v := ?z609) (by simp; rfl) (by kernel_rfl) (by kernel_rfl) (by kernel_rfl) (by exact fun _ _ _ h => h) (Or.inl ⟨by rfl, ?yz609⟩) hHeld ?_
        case yz609 => (intro wx hSw; have hSx := Ex1.mk hSw; go_simp; (try with_reducible rfl))
        try simp only [Act.put, List.setIfInBounds_toArray, List.set_cons_zero, List.set_cons_succ]
        refine wpAnyH_take (i := 3) (v := ?z610) (by simp; rfl) (by kernel_rfl) (by kernel_rfl) (by kernel_rfl) (by exact fun _ _ _ h => h) (Or.inl ⟨by rfl, ?yz610⟩) hHeld ?_
        case yz610 => (intro wx hSw; have hSx := Ex1.mk hSw; go_simp; (try with_reducible rfl))
        try simp only [Act.put, List.setIfInBounds_toArray, List.set_cons_zero, List.set_cons_succ]
        refine wpAnyH_take (i := 4) (v := ?z611) (by simp; rfl) (by kernel_rfl) (by kernel_rfl) (by kernel_rfl) (by exact fun _ _ _ h => h) (Or.inl ⟨by rfl, ?yz611⟩) hHeld ?_
        case yz611 => (intro wx hSw; have hSx := Ex1.mk hSw; go_simp; (try with_reducible rfl))
        try simp only [Act.put, List.setIfInBounds_toArray, List.set_cons_zero, List.set_cons_succ]
        refine wpAnyH_ready (rs := [2]) (by kernel_rfl) (by simp) ?_
        refine AllReadyH.cons (by simp; rfl) (fun K hK => ?_) AllReadyH.nil
        go_simp
        (go_at_call 36; (with_reducible refine Calls.cE (pAngleV (by omega) HS) ?_); intros)
        refine hK.out _ _ inferInstance ?_
        clear hHeld hK K
        intro hHeld
        try simp only [Act.put, List.setIfInBounds_toArray, List.set_cons_zero, List.set_cons_succ]
        refine wpAnyH_take (i := 5) (v := ?z612) (by simp; rfl) (by kernel_rfl) (by kernel_rfl) (by kernel_rfl) (by exact fun _ _ _ h => h) (Or.inl ⟨by rfl, ?yz612⟩) hHeld ?_
        case yz612 => (intro wx hSw; have hSx := Ex1.mk hSw; go_simp; (try with_reducible rfl))
        try simp only [Act.put, List.setIfInBounds_toArray, List.set_cons_zero, List.set_cons_succ]
        refine wpAnyH_take (i := 6) (v := ?z613) (by simp; rfl) (by kernel_rfl) (by kernel_rfl) (by kernel_rfl) (by exact fun _ _ _ h => h) (Or.inl ⟨by rfl, ?yz613⟩) hHeld ?_
        case yz613 => (intro wx hSw; have hSx := Ex1.mk hSw; go_simp; (try with_reducible rfl))
        try simp only [Act.put, List.setIfInBounds_toArray, List.set_cons_zero, List.set_cons_succ]
        refine wpAnyH_take (i := 7) (v := ?z614) (by simp; rfl) (by kernel_rfl) (by kernel_rfl) (by kernel_rfl) (by exact fun _ _ _ h => h) (Or.inl ⟨by rfl, ?yz614⟩) hHeld ?_
        case yz614 => (intro wx hSw; have hSx := Ex1.mk hSw; go_simp; (try with_reducible rfl))
        try simp only [Act.put, List.setIfInBounds_toArray, List.set_cons_zero, List.set_cons_succ]
        refine wpAnyH_take (i := 8) (v := ?z615) (by simp; rfl) (by kernel_rfl) (by kernel_rfl) (by kernel_rfl) (by exact fun _ _ _ h => h) (Or.inl ⟨by rfl, ?yz615⟩) hHeld ?_
        case yz615 => (intro wx hSw; have hSx := Ex1.mk hSw; go_simp; (try with_reducible rfl))
        try simp only [Act.put, List.setIfInBounds_toArray, List.set_cons_zero, List.set_cons_succ]
        refine wpAnyH_take (i := 9) (v := ?z616) (by simp; rfl) (by kernel_rfl) (by kernel_rfl) (by kernel_rfl) (by exact fun _ _ _ h => h) (Or.inl ⟨by rfl, ?yz616⟩) hHeld ?_
        case yz616 => (intro wx hSw; have hSx := Ex1.mk hSw; go_simp; (try with_reducible rfl))
        try simp only [Act.put, List.setIfInBounds_toArray, List.set_cons_zero, List.set_cons_succ]
        refine wpAnyH_take (i := 10) (v := ?z617) (by simp; rfl) (by kernel_rfl) (by kernel_rfl) (by kernel_rfl) (by exact fun _ _ _ h => h) (Or.inl ⟨by rfl, ?yz617⟩) hHeld ?_
        case yz617 => (intro wx hSw; have hSx := Ex1.mk hSw; go_simp; (try with_reducible rfl))
        try simp only [Act.put, List.setIfInBounds_toArray, List.set_cons_zero, List.set_cons_succ]
        refine wpAnyH_take (i := 11) (v := ?z618) (by simp; rfl) (by kernel_rfl) (by kernel_rfl) (by kernel_rfl) (by exact fun _ _ _ h => h) (Or.inl ⟨by rfl, ?yz618⟩) hHeld ?_
        case yz618 => (intro wx hSw; have hSx := Ex1.mk hSw; go_simp; (try with_reducible rfl))
        try simp only [Act.put, List.setIfInBounds_toArray, List.set_cons_zero, List.set_cons_succ]
        refine wpAnyH_take (i := 12) (v := ?z619) (by simp; rfl) (by kernel_rfl) (by kernel_rfl) (by kernel_rfl) (by exact fun _ _ _ h => h) (Or.inl ⟨by rfl, ?yz619⟩) hHeld ?_
        case yz619 => (intro wx hSw; have hSx := Ex1.mk hSw; go_simp; (try with_reducible rfl))
        try simp only [Act.put, List.setIfInBounds_toArray, List.set_cons_zero, List.set_cons_succ]
        refine wpAnyH_take (i := 13) (v := ?z620) (by simp; rfl) (by kernel_rfl) (by kernel_rfl) (by kernel_rfl) (by exact fun _ _ _ h => h) (Or.inl ⟨by rfl, ?yz620⟩) hHeld ?_
        case yz620 => (intro wx hSw; have hSx := Ex1.mk hSw; go_simp; (try with_reducible rfl))
        try simp only [Act.put, List.setIfInBounds_toArray, List.set_cons_zero, List.set_cons_succ]
        refine wpAnyH_take (i := 14) (v := ?z621) (by simp; rfl) (by kernel_rfl) (by kernel_rfl) (by kernel_rfl) (by exact fun _ _ _ h => h) (Or.inl ⟨by rfl, ?yz621⟩) hHeld ?_
        case yz621 => (intro wx hSw; have hSx := Ex1.mk hSw; go_simp; (try with_reducible rfl))
        try simp only [Act.put, List.setIfInBounds_toArray, List.set_cons_zero, List.set_cons_succ]
        refine wpAnyH_take (i := 15) (v := ?z622) (by simp; rfl) (by kernel_rfl) (by kernel_rfl) (by kernel_rfl) (by exact fun _ _ _ h => h) (Or.inl ⟨by rfl, ?yz622⟩) hHeld ?_
        case yz622 => (intro wx hSw; have hSx := Ex1.mk hSw; go_simp; (try with_reducible rfl))
        try simp only [Act.put, List.setIfInBounds_toArray, List.set_cons_zero, List.set_cons_succ]
        refine wpAnyH_take (i := 16) (v := ?z623) (by simp; rfl) (by kernel_rfl) (by kernel_rfl) (by kernel_rfl) (by exact fun _ _ _ h => h) (Or.inl ⟨by rfl, ?yz623⟩) hHeld ?_
        case yz623 => (intro wx hSw; have hSx := Ex1.mk hSw; go_simp; (try with_reducible rfl))
        try simp only [Act.put, List.setIfInBounds_toArray, List.set_cons_zero, List.set_cons_succ]
        refine wpAnyH_take (i := 17) (v := ?z624) (by simp; rfl) (by kernel_rfl) (by kernel_rfl) (by kernel_rfl) (by exact fun _ _ _ h => h) (Or.inl ⟨by rfl, ?yz624⟩) hHeld ?_
        case yz624 => (intro wx hSw; have hSx := Ex1.mk hSw; go_simp; (try with_reducible rfl))
        try simp only [Act.put, List.setIfInBounds_toArray, List.set_cons_zero, List.set_cons_succ]
        refine wpAnyH_take (i := 18) (v := ?z625) (by simp; rfl) (by kernel_rfl) (by kernel_rfl) (by kernel_rfl) (by exact fun _ _ _ h => h) (Or.inl ⟨by rfl, ?yz625⟩) hHeld ?_
        case yz625 => (intro wx hSw; have hSx := Ex1.mk hSw; go_simp; (try with_reducible rfl))
        try simp only [Act.put, List.setIfInBounds_toArray, List.set_cons_zero, List.set_cons_succ]
        refine wpAnyH_take (i := 19) (v := ?z626) (by simp; rfl) (by kernel_rfl) (by kernel_rfl) (by kernel_rfl) (by exact fun _ _ _ h => h) (Or.inl ⟨by rfl, ?yz626⟩) hHeld ?_
        case yz626 => (intro wx hSw; have hSx := Ex1.mk hSw; go_simp; (try with_reducible rfl))
        try simp only [Act.put, List.setIfInBounds_toArray, List.set_cons_zero, List.set_cons_succ]
        refine wpAnyH_take (i := 20) (v := ?z627) (by simp; rfl) (by kernel_rfl) (by kernel_rfl) (by kernel_rfl) (by exact fun _ _ _ h => h) (Or.inl ⟨by rfl, ?yz627⟩) hHeld ?_
        case yz627 => (intro wx hSw; have hSx := Ex1.mk hSw; go_simp; (try with_reducible rfl))
        try simp only [Act.put, List.setIfInBounds_toArray, List.set_cons_zero, List.set_cons_succ]
        refine wpAnyH_take (i := 21) (v := ?z628) (by simp; rfl) (by kernel_rfl) (by kernel_rfl) (by kernel_rfl) (by exact fun _ _ _ h => h) (Or.inl ⟨by rfl, ?yz628⟩) hHeld ?_
        case yz628 => (intro wx hSw; have hSx := Ex1.mk hSw; go_simp; (try with_reducible rfl))
        try simp only [Act.put, List.setIfInBounds_toArray, List.set_cons_zero, List.set_cons_succ]
        refine wpAnyH_take (i := 22) (v := ?z629) (by simp; rfl) (by kernel_rfl) (by kernel_rfl) (by kernel_rfl) (by exact fun _ _ _ h => h) (Or.inl ⟨by rfl, ?yz629⟩) hHeld ?_
        case yz629 => (intro wx hSw; have hSx := Ex1.mk hSw; go_simp; (try with_reducible rfl))
        try simp only [Act.put, List.setIfInBounds_toArray, List.set_cons_zero, List.set_cons_succ]
        refine wpAnyH_take (i := 23) (v := ?z630) (by simp; rfl) (by kernel_rfl) (by kernel_rfl) (by kernel_rfl) (by exact fun _ _ _ h => h) (Or.inl ⟨by rfl, ?yz630⟩) hHeld ?_
        case yz630 => (intro wx hSw; have hSx := Ex1.mk hSw; go_simp; (try with_reducible rfl))
        try simp only [Act.put, List.setIfInBounds_toArray, List.set_cons_zero, List.set_cons_succ]
        refine wpAnyH_take (i := 24) (v := ?z631) (by simp; rfl) (by kernel_rfl) (by kernel_rfl) (by kernel_rfl) (by exact fun _ _ _ h => h) (Or.inl ⟨by rfl, ?yz631⟩) hHeld ?_
        case yz631 => (intro wx hSw; have hSx := Ex1.mk hSw; go_simp; (try with_reducible rfl))
        try simp only [Act.put, List.setIfInBounds_toArray, List.set_cons_zero, List.set_cons_succ]
        refine wpAnyH_take (i := 25) (v := ?z632) (by simp; rfl) (by kernel_rfl) (by kernel_rfl) (by kernel_rfl) (by exact fun _ _ _ h => h) (Or.inl ⟨by rfl, ?yz632⟩) hHeld ?_
        case yz632 => (intro wx hSw; have hSx := Ex1.mk hSw; go_simp; (try with_reducible rfl))
        try simp only [Act.put, List.setIfInBounds_toArray, List.set_cons_zero, List.set_cons_succ]
        refine wpAnyH_take (i := 26) (v := ?z633) (by simp; rfl) (by kernel_rfl) (by kernel_rfl) (by kernel_rfl) (by exact fun _ _ _ h => h) (Or.inl ⟨by rfl, ?yz633⟩) hHeld ?_
        case yz633 => (intro wx hSw; have hSx := Ex1.mk hSw; go_simp; (try with_reducible rfl))
        try simp only [Act.put, List.setIfInBounds_toArray, List.set_cons_zero, List.set_cons_succ]
        refine wpAnyH_take (i := 27) (v := ?z634) (by simp; rfl) (by kernel_rfl) (by kernel_rfl) (by kernel_rfl) (by exact fun _ _ _ h => h) (Or.inl ⟨by rfl, ?yz634⟩) hHeld ?_
        case yz634 => (intro wx hSw; have hSx := Ex1.mk hSw; go_simp; (try with_reducible rfl))
        try simp only [Act.put, List.setIfInBounds_toArray, List.set_cons_zero, List.set_cons_succ]
        refine wpAnyH_take (i := 28) (v := ?z635) (by simp; rfl) (by kernel_rfl) (by kernel_rfl) (by kernel_rfl) (by exact fun _ _ _ h => h) (Or.inl ⟨by rfl, ?yz635⟩) hHeld ?_
        case yz635 => (intro wx hSw; have hSx := Ex1.mk hSw; go_simp; (try with_reducible rfl))
        try simp only [Act.put, List.setIfInBounds_toArray, List.set_cons_zero, List.set_cons_succ]
        refine wpAnyH_take (i := 29) (v := ?z636) (by simp; rfl) (by kernel_rfl) (by kernel_rfl) (by kernel_rfl) (by exact fun _ _ _ h => h) (Or.inl ⟨by rfl, ?yz636⟩) hHeld ?_
        case yz636 => (intro wx hSw; have hSx := Ex1.mk hSw; go_simp; (try with_reducible rfl))
        try simp only [Act.put, List.setIfInBounds_toArray, List.set_cons_zero, List.set_cons_succ]
        refine wpAnyH_take (i := 30) (v := ?z637) (by simp; rfl) (by kernel_rfl) (by kernel_rfl) (by kernel_rfl) (by exact fun _ _ _ h => h) (Or.inl ⟨by rfl, ?yz637⟩) hHeld ?_
        case yz637 => (intro wx hSw; have hSx := Ex1.mk hSw; go_simp; (try with_reducible rfl))
        try simp only [Act.put, List.setIfInBounds_toArray, List.set_cons_zero, List.set_cons_succ]
        refine wpAnyH_take (i := 31) (v := ?z638) (by simp; rfl) (by kernel_rfl) (by kernel_rfl) (by kernel_rfl) (by exact fun _ _ _ h => h) (Or.inl ⟨by rfl, ?yz638⟩) hHeld ?_
        case yz638 => (intro wx hSw; have hSx := Ex1.mk hSw; go_simp; (try with_reducible rfl))
        try simp only [Act.put, List.setIfInBounds_toArray, List.set_cons_zero, List.set_cons_succ]
        refine wpAnyH_take (i := 32) (v := ?z639) (by simp; rfl) (by kernel_rfl) (by kernel_rfl) (by kernel_rfl) (by exact fun _ _ _ h => h) (Or.inl ⟨by rfl, ?yz639⟩) hHeld ?_
        case yz639 => (intro wx hSw; have hSx := Ex1.mk hSw; go_simp; (try with_reducible rfl))
        try simp only [Act.put, List.setIfInBounds_toArray, List.set_cons_zero, List.set_cons_succ]
        refine wpAnyH_take (i := 37) (v := ?z640) (by simp; rfl) (by kernel_rfl) (by kernel_rfl) (by kernel_rfl) (by exact fun _ _ _ h => h) (Or.inl ⟨by rfl, ?yz640⟩) hHeld ?_
        case yz640 => (intro wx hSw; have hSx := Ex1.mk hSw; go_simp; (try with_reducible rfl))
        try simp only [Act.put, List.setIfInBounds_toArray, List.set_cons_zero, List.set_cons_succ]
        refine wpAnyH_ready (rs := [33]) (by kernel_rfl) (by simp) ?_
        refine AllReadyH.cons (by simp; rfl) (fun K hK => ?_) AllReadyH.nil
        go_simp
        (go_at_call 40; (with_reducible refine Calls.cNext (nextC (by omega)) ?_); intro W6 _ _ v v0 v1; have ev : IntKind.i64.wrap (1 + v) = 1 + v := (by rw [IntKind.wrap_i64]; omega))
        refine hK.out _ _ inferInstance ?_
        clear hHeld hK K
        intro hHeld
        try simp only [Act.put, List.setIfInBounds_toArray, List.set_cons_zero, List.set_cons_succ]
        refine wpAnyH_take (i := 34) (v := ?z641) (by simp; rfl) (by kernel_rfl) (by kernel_rfl) (by kernel_rfl) (by exact fun _ _ _ h => h) (Or.inl ⟨by rfl, ?yz641⟩) hHeld ?_
        case yz641 => (intro wx hSw; have hSx := Ex1.mk hSw; go_simp; (try with_reducible rfl))
        try simp only [Act.put, List.setIfInBounds_toArray, List.set_cons_zero, List.set_cons_succ]
        refine wpAnyH_ready (rs := [35]) (by kernel_rfl) (by simp) ?_
        refine AllReadyH.cons (by simp; rfl) (fun K hK => ?_) AllReadyH.nil
        go_simp
        (go_at_call 39; (with_reducible refine Calls.cQ (numPartC (by omega)) ?_); intros)
        refine hK.out _ _ inferInstance ?_
        clear hHeld hK K
        intro hHeld
        try simp only [Act.put, List.setIfInBounds_toArray, List.set_cons_zero, List.set_cons_succ]
        refine wpAnyH_ready (rs := [36]) (by kernel_rfl) (by simp) ?_
        refine AllReadyH.cons (by simp; rfl) (fun K hK => ?_) AllReadyH.nil
        go_simp
        (go_at_call 38; (with_reducible refine Calls.cA (toQC (by omega)) ?_); intros)
        refine hK.out _ _ inferInstance ?_
        clear hHeld hK K
        intro hHeld
        try simp only [Act.put, List.setIfInBounds_toArray, List.set_cons_zero, List.set_cons_succ]
        refine wpAnyH_ready (rs := [38]) (by kernel_rfl) (by simp) ?_
        refine AllReadyH.cons (by simp; rfl) (fun K hK => ?_) AllReadyH.nil
        go_simp
        (go_at_call 37; (with_reducible refine Calls.cPA (pScaleC (by omega)) ?_); intros)
        refine hK.out _ _ inferInstance ?_
        clear hHeld hK K
        intro hHeld
        try simp only [Act.put, List.setIfInBounds_toArray, List.set_cons_zero, List.set_cons_succ]
        refine wpAnyH_ready (rs := [39]) (by kernel_rfl) (by simp) ?_
        refine AllReadyH.cons (by simp; rfl) (fun K hK => ?_) AllReadyH.nil
        go_simp
        (go_at_call 36; (with_reducible refine Calls.cE (pAngleV (by omega) (Lib.hid (angle_scale (part_pos v0)))) ?_); intros)
        refine hK.out _ _ inferInstance ?_
        clear hHeld hK K
        intro hHeld
        try simp only [Act.put, List.setIfInBounds_toArray, List.set_cons_zero, List.set_cons_succ]
        refine wpAnyH_take (i := 40) (v := ?z642) (by simp; rfl) (by kernel_rfl) (by kernel_rfl) (by kernel_rfl) (by exact fun _ _ _ h => h) (Or.inl ⟨by rfl, ?yz642⟩) hHeld ?_
        case yz642 => (intro wx hSw; have hSx := Ex1.mk hSw; go_simp; (try with_reducible rfl))
        try simp only [Act.put, List.setIfInBounds_toArray, List.set_cons_zero, List.set_cons_succ]
        refine wpAnyH_take (i := 41) (v := ?z643) (by simp; rfl) (by kernel_rfl) (by kernel_rfl) (by kernel_rfl) (by exact fun _ _ _ h => h) (Or.inl ⟨by rfl, ?yz643⟩) hHeld ?_
        case yz643 => (intro wx hSw; have hSx := Ex1.mk hSw; go_simp; (try with_reducible rfl))
        try simp only [Act.put, List.setIfInBounds_toArray, List.set_cons_zero, List.set_cons_succ]
        refine wpAnyH_done (by kernel_rfl) ?_ _
        clear hHeld
        go_wp2_with fail
        go_meet
        exact ⟨rfl, inferInstance, inferInstance⟩
      · have d2 : decide (c < 0) = false := decide_eq_false (by have := t2 (by decide) (by decide); omega)
        clear t1 t2
        refine region_cls (by kernel_rfl) [w.heap.size] (fun hHeld => ?_)
        refine wpAnyH_take (i := 0) (v := ?z644) (by simp; rfl) (by kernel_rfl) (by kernel_rfl) (by kernel_rfl) (by exact fun _ _ _ h => h) (Or.inl ⟨by rfl, ?yz644⟩) hHeld ?_
        case yz644 => (intro wx hSw; have hSx := Ex1.mk hSw; go_simp; (try with_reducible rfl))
        try simp only [Act.put, List.setIfInBounds_toArray, List.set_cons_zero, List.set_cons_succ]
        refine wpAnyH_take (i := 1) (v := ?z645) (by simp; rfl) (by kernel_rfl) (by kernel_rfl) (by kernel_rfl) (by exact fun _ _ _ h => h) (Or.inl ⟨by rfl, ?yz645⟩) hHeld ?_
        case yz645 => (intro wx hSw; have hSx := Ex1.mk hSw; go_simp; (try with_reducible rfl))
        try simp only [Act.put, List.setIfInBounds_toArray, List.set_cons_zero, List.set_cons_succ]
        refine wpAnyH_take (i := 3) (v := ?z646) (by simp; rfl) (by kernel_rfl) (by kernel_rfl) (by kernel_rfl) (by exact fun _ _ _ h => h) (Or.inl ⟨by rfl, ?yz646⟩) hHeld ?_
        case yz646 => (intro wx hSw; have hSx := Ex1.mk hSw; go_simp; (try with_reducible rfl))
        try simp only [Act.put, List.setIfInBounds_toArray, List.set_cons_zero, List.set_cons_succ]
        refine wpAnyH_take (i := 4) (v := ?z647) (by simp; rfl) (by kernel_rfl) (by kernel_rfl) (by kernel_rfl) (by exact fun _ _ _ h => h) (Or.inl ⟨by rfl, ?yz647⟩) hHeld ?_
        case yz647 => (intro wx hSw; have hSx := Ex1.mk hSw; go_simp; (try with_reducible rfl))
        try simp only [Act.put, List.setIfInBounds_toArray, List.set_cons_zero, List.set_cons_succ]
        refine wpAnyH_ready (rs := [2]) (by kernel_rfl) (by simp) ?_
        refine AllReadyH.cons (by simp; rfl) (fun K hK => ?_) AllReadyH.nil
        go_simp
        (go_at_call 36; (with_reducible refine Calls.cE (pAngleV (by omega) HS) ?_); intros)
        refine hK.out _ _ inferInstance ?_
        clear hHeld hK K
        intro hHeld
        try simp only [Act.put, List.setIfInBounds_toArray, List.set_cons_zero, List.set_cons_succ]
        refine wpAnyH_take (i := 5) (v := ?z648) (by simp; rfl) (by kernel_rfl) (by kernel_rfl) (by kernel_rfl) (by exact fun _ _ _ h => h) (Or.inl ⟨by rfl, ?yz648⟩) hHeld ?_
        case yz648 => (intro wx hSw; have hSx := Ex1.mk hSw; go_simp; (try with_reducible rfl))
        try simp only [Act.put, List.setIfInBounds_toArray, List.set_cons_zero, List.set_cons_succ]
        refine wpAnyH_take (i := 6) (v := ?z649) (by simp; rfl) (by kernel_rfl) (by kernel_rfl) (by kernel_rfl) (by exact fun _ _ _ h => h) (Or.inl ⟨by rfl, ?yz649⟩) hHeld ?_
        case yz649 => (intro wx hSw; have hSx := Ex1.mk hSw; go_simp; (try with_reducible rfl))
        try simp only [Act.put, List.setIfInBounds_toArray, List.set_cons_zero, List.set_cons_succ]
        refine wpAnyH_take (i := 7) (v := ?z650) (by simp; rfl) (by kernel_rfl) (by kernel_rfl) (by kernel_rfl) (by exact fun _ _ _ h => h) (Or.inl ⟨by rfl, ?yz650⟩) hHeld ?_
        case yz650 => (intro wx hSw; have hSx := Ex1.mk hSw; go_simp; (try with_reducible rfl))
        try simp only [Act.put, List.setIfInBounds_toArray, List.set_cons_zero, List.set_cons_succ]
        refine wpAnyH_take (i := 8) (v := ?z651) (by simp; rfl) (by kernel_rfl) (by kernel_rfl) (by kernel_rfl) (by exact fun _ _ _ h => h) (Or.inl ⟨by rfl, ?yz651⟩) hHeld ?_
        case yz651 => (intro wx hSw; have hSx := Ex1.mk hSw; go_simp; (try with_reducible rfl))
        try simp only [Act.put, List.setIfInBounds_toArray, List.set_cons_zero, List.set_cons_succ]
        refine wpAnyH_take (i := 9) (v := ?z652) (by simp; rfl) (by kernel_rfl) (by kernel_rfl) (by kernel_rfl) (by exact fun _ _ _ h => h) (Or.inl ⟨by rfl, ?yz652⟩) hHeld ?_
        case yz652 => (intro wx hSw; have hSx := Ex1.mk hSw; go_simp; (try with_reducible rfl))
        try simp only [Act.put, List.setIfInBounds_toArray, List.set_cons_zero, List.set_cons_succ]
        refine wpAnyH_take (i := 10) (v := ?z653) (by simp; rfl) (by kernel_rfl) (by kernel_rfl) (by kernel_rfl) (by exact fun _ _ _ h => h) (Or.inl ⟨by rfl, ?yz653⟩) hHeld ?_
        case yz653 => (intro wx hSw; have hSx := Ex1.mk hSw; go_simp; (try with_reducible rfl))
        try simp only [Act.put, List.setIfInBounds_toArray, List.set_cons_zero, List.set_cons_succ]
        refine wpAnyH_take (i := 11) (v := ?z654) (by simp; rfl) (by kernel_rfl) (by kernel_rfl) (by kernel_rfl) (by exact fun _ _ _ h => h) (Or.inl ⟨by rfl, ?yz654⟩) hHeld ?_
        case yz654 => (intro wx hSw; have hSx := Ex1.mk hSw; go_simp; (try with_reducible rfl))
        try simp only [Act.put, List.setIfInBounds_toArray, List.set_cons_zero, List.set_cons_succ]
        refine wpAnyH_take (i := 12) (v := ?z655) (by simp; rfl) (by kernel_rfl) (by kernel_rfl) (by kernel_rfl) (by exact fun _ _ _ h => h) (Or.inl ⟨by rfl, ?yz655⟩) hHeld ?_
        case yz655 => (intro wx hSw; have hSx := Ex1.mk hSw; go_simp; (try with_reducible rfl))
        try simp only [Act.put, List.setIfInBounds_toArray, List.set_cons_zero, List.set_cons_succ]
        refine wpAnyH_take (i := 13) (v := ?z656) (by simp; rfl) (by kernel_rfl) (by kernel_rfl) (by kernel_rfl) (by exact fun _ _ _ h => h) (Or.inl ⟨by rfl, ?yz656⟩) hHeld ?_
        case yz656 => (intro wx hSw; have hSx := Ex1.mk hSw; go_simp; (try with_reducible rfl))
        try simp only [Act.put, List.setIfInBounds_toArray, List.set_cons_zero, List.set_cons_succ]
        refine wpAnyH_take (i := 14) (v := undef) (by simp; rfl) (by kernel_rfl) (by kernel_rfl) (by kernel_rfl) (by exact fun _ _ _ h => h) (Or.inr ⟨by rfl, rfl⟩) hHeld ?_
        try simp only [Act.put, List.setIfInBounds_toArray, List.set_cons_zero, List.set_cons_succ]
        refine wpAnyH_take (i := 15) (v := undef) (by simp; rfl) (by kernel_rfl) (by kernel_rfl) (by kernel_rfl) (by exact fun _ _ _ h => h) (Or.inr ⟨by rfl, rfl⟩) hHeld ?_
        try simp only [Act.put, List.setIfInBounds_toArray, List.set_cons_zero, List.set_cons_succ]
        refine wpAnyH_take (i := 16) (v := ?z659) (by simp; rfl) (by kernel_rfl) (by kernel_rfl) (by kernel_rfl) (by exact fun _ _ _ h => h) (Or.inl ⟨by rfl, ?yz659⟩) hHeld ?_
        case yz659 => (intro wx hSw; have hSx := Ex1.mk hSw; go_simp; (try with_reducible rfl))
        try simp only [Act.put, List.setIfInBounds_toArray, List.set_cons_zero, List.set_cons_succ]
        refine wpAnyH_take (i := 17) (v := ?z660) (by simp; rfl) (by kernel_rfl) (by kernel_rfl) (by kernel_rfl) (by exact fun _ _ _ h => h) (Or.inl ⟨by rfl, ?yz660⟩) hHeld ?_
        case yz660 => (intro wx hSw; have hSx := Ex1.mk hSw; go_simp; (try with_reducible rfl))
        try simp only [Act.put, List.setIfInBounds_toArray, List.set_cons_zero, List.set_cons_succ]
        refine wpAnyH_take (i := 18) (v := ?z661) (by simp; rfl) (by kernel_rfl) (by kernel_rfl) (by kernel_rfl) (by exact fun _ _ _ h => h) (Or.inl ⟨by rfl, ?yz661⟩) hHeld ?_
        case yz661 => (intro wx hSw; have hSx := Ex1.mk hSw; go_simp; (try with_reducible rfl))
        try simp only [Act.put, List.setIfInBounds_toArray, List.set_cons_zero, List.set_cons_succ]
        refine wpAnyH_take (i := 19) (v := ?z662) (by simp; rfl) (by kernel_rfl) (by kernel_rfl) (by kernel_rfl) (by exact fun _ _ _ h => h) (Or.inl ⟨by rfl, ?yz662⟩) hHeld ?_
        case yz662 => (intro wx hSw; have hSx := Ex1.mk hSw; go_simp; (try with_reducible rfl))
        try simp only [Act.put, List.setIfInBounds_toArray, List.set_cons_zero, List.set_cons_succ]
        refine wpAnyH_take (i := 20) (v := ?z663) (by simp; rfl) (by kernel_rfl) (by kernel_rfl) (by kernel_rfl) (by exact fun _ _ _ h => h) (Or.inl ⟨by rfl, ?yz663⟩) hHeld ?_
        case yz663 => (intro wx hSw; have hSx := Ex1.mk hSw; go_simp; (try with_reducible rfl))
        try simp only [Act.put, List.setIfInBounds_toArray, List.set_cons_zero, List.set_cons_succ]
        refine wpAnyH_take (i := 21) (v := ?z664) (by simp; rfl) (by kernel_rfl) (by kernel_rfl) (by kernel_rfl) (by exact fun _ _ _ h => h) (Or.inl ⟨by rfl, ?yz664⟩) hHeld ?_
        case yz664 => (intro wx hSw; have hSx := Ex1.mk hSw; go_simp; (try with_reducible rfl))
        try simp only [Act.put, List.setIfInBounds_toArray, List.set_cons_zero, List.set_cons_succ]
        refine wpAnyH_take (i := 22) (v := ?z665) (by simp; rfl) (by kernel_rfl) (by kernel_rfl) (by kernel_rfl) (by exact fun _ _ _ h => h) (Or.inl ⟨by rfl, ?yz665⟩) hHeld ?_
        case yz665 => (intro wx hSw; have hSx := Ex1.mk hSw; go_simp; (try with_reducible rfl))
        try simp only [Act.put, List.setIfInBounds_toArray, List.set_cons_zero, List.set_cons_succ]
        refine wpAnyH_take (i := 23) (v := ?z666) (by simp; rfl) (by kernel_rfl) (by kernel_rfl) (by kernel_rfl) (by exact fun _ _ _ h => h) (Or.inl ⟨by rfl, ?yz666⟩) hHeld ?_
        case yz666 => (intro wx hSw; have hSx := Ex1.mk hSw; go_simp; (try with_reducible rfl))
        try simp only [Act.put, List.setIfInBounds_toArray, List.set_cons_zero, List.set_cons_succ]
        refine wpAnyH_take (i := 24) (v := ?z667) (by simp; rfl) (by kernel_rfl) (by kernel_rfl) (by kernel_rfl) (by exact fun _ _ _ h => h) (Or.inl ⟨by rfl, ?yz667⟩) hHeld ?_
        case yz667 => (intro wx hSw; have hSx := Ex1.mk hSw; go_simp; (try with_reducible rfl))
        try simp only [Act.put, List.setIfInBounds_toArray, List.set_cons_zero, List.set_cons_succ]
        refine wpAnyH_take (i := 25) (v := ?z668) (by simp; rfl) (by kernel_rfl) (by kernel_rfl) (by kernel_rfl) (by exact fun _ _ _ h => h) (Or.inl ⟨by rfl, ?yz668⟩) hHeld ?_
        case yz668 => (intro wx hSw; have hSx := Ex1.mk hSw; go_simp; (try with_reducible rfl))
        try simp only [Act.put, List.setIfInBounds_toArray, List.set_cons_zero, List.set_cons_succ]
        refine wpAnyH_take (i := 26) (v := ?z669) (by simp; rfl) (by kernel_rfl) (by kernel_rfl) (by kernel_rfl) (by exact fun _ _ _ h => h) (Or.inl ⟨by rfl, ?yz669⟩) hHeld ?_
        case yz669 => (intro wx hSw; have hSx := Ex1.mk hSw; go_simp; (try with_reducible rfl))
        try simp only [Act.put, List.setIfInBounds_toArray, List.set_cons_zero, List.set_cons_succ]
        refine wpAnyH_take (i := 27) (v := ?z670) (by simp; rfl) (by kernel_rfl) (by kernel_rfl) (by kernel_rfl) (by exact fun _ _ _ h => h) (Or.inl ⟨by rfl, ?yz670⟩) hHeld ?_
        case yz670 => (intro wx hSw; have hSx := Ex1.mk hSw; go_simp; (try with_reducible rfl))
        try simp only [Act.put, List.setIfInBounds_toArray, List.set_cons_zero, List.set_cons_succ]
        refine wpAnyH_take (i := 28) (v := ?z671) (by simp; rfl) (by kernel_rfl) (by kernel_rfl) (by kernel_rfl) (by exact fun _ _ _ h => h) (Or.inl ⟨by rfl, ?yz671⟩) hHeld ?_
        case yz671 => (intro wx hSw; have hSx := Ex1.mk hSw; go_simp; (try with_reducible rfl))
        try simp only [Act.put, List.setIfInBounds_toArray, List.set_cons_zero, List.set_cons_succ]
        refine wpAnyH_take (i := 29) (v := ?z672) (by simp; rfl) (by kernel_rfl) (by kernel_rfl) (by kernel_rfl) (by exact fun _ _ _ h => h) (Or.inl ⟨by rfl, ?yz672⟩) hHeld ?_
        case yz672 => (intro wx hSw; have hSx := Ex1.mk hSw; go_simp; (try with_reducible rfl))
        try simp only [Act.put, List.setIfInBounds_toArray, List.set_cons_zero, List.set_cons_succ]
        refine wpAnyH_take (i := 30) (v := ?z673) (by simp; rfl) (by kernel_rfl) (by kernel_rfl) (by kernel_rfl) (by exact fun _ _ _ h => h) (Or.inl ⟨by rfl, ?yz673⟩) hHeld ?_
        case yz673 => (intro wx hSw; have hSx := Ex1.mk hSw; go_simp; (try with_reducible rfl))
        try simp only [Act.put, List.setIfInBounds_toArray, List.set_cons_zero, List.set_cons_succ]
        refine wpAnyH_take (i := 31) (v := ?z674) (by simp; rfl) (by kernel_rfl) (by kernel_rfl) (by kernel_rfl) (by exact fun _ _ _ h => h) (Or.inl ⟨by rfl, ?yz674⟩) hHeld ?_
        case yz674 => (intro wx hSw; have hSx := Ex1.mk hSw; go_simp; (try with_reducible rfl))
        try simp only [Act.put, List.setIfInBounds_toArray, List.set_cons_zero, List.set_cons_succ]
        refine wpAnyH_take (i := 32) (v := ?z675) (by simp; rfl) (by kernel_rfl) (by kernel_rfl) (by kernel_rfl) (by exact fun _ _ _ h => h) (Or.inl ⟨by rfl, ?yz675⟩) hHeld ?_
        case yz675 => (intro wx hSw; have hSx := Ex1.mk hSw; go_simp; (try with_reducible rfl))
        try simp only [Act.put, List.setIfInBounds_toArray, List.set_cons_zero, List.set_cons_succ]
        refine wpAnyH_take (i := 37) (v := ?z676) (by simp; rfl) (by kernel_rfl) (by kernel_rfl) (by kernel_rfl) (by exact fun _ _ _ h => h) (Or.inl ⟨by rfl, ?yz676⟩) hHeld ?_
        case yz676 => (intro wx hSw; have hSx := Ex1.mk hSw; go_simp; (try with_reducible rfl))
        try simp only [Act.put, List.setIfInBounds_toArray, List.set_cons_zero, List.set_cons_succ]
        refine wpAnyH_ready (rs := [33]) (by kernel_rfl) (by simp) ?_
        refine AllReadyH.cons (by simp; rfl) (fun K hK => ?_) AllReadyH.nil
        go_simp
        (go_at_call 40; (with_reducible refine Calls.cNext (nextC (by omega)) ?_); intro W6 _ _ v v0 v1; have ev : IntKind.i64.wrap (1 + v) = 1 + v := (by rw [IntKind.wrap_i64]; omega))
        refine hK.out _ _ inferInstance ?_
        clear hHeld hK K
        intro hHeld
        try simp only [Act.put, List.setIfInBounds_toArray, List.set_cons_zero, List.set_cons_succ]
        refine wpAnyH_take (i := 34) (v := ?z677) (by simp; rfl) (by kernel_rfl) (by kernel_rfl) (by kernel_rfl) (by exact fun _ _ _ h => h) (Or.inl ⟨by rfl, ?yz677⟩) hHeld ?_
        case yz677 => (intro wx hSw; have hSx := Ex1.mk hSw; go_simp; (try with_reducible rfl))
        try simp only [Act.put, List.setIfInBounds_toArray, List.set_cons_zero, List.set_cons_succ]
        refine wpAnyH_ready (rs := [35]) (by kernel_rfl) (by simp) ?_
        refine AllReadyH.cons (by simp; rfl) (fun K hK => ?_) AllReadyH.nil
        go_simp
        (go_at_call 39; (with_reducible refine Calls.cQ (numPartC (by omega)) ?_); intros)
        refine hK.out _ _ inferInstance ?_
        clear hHeld hK K
        intro hHeld
        try simp only [Act.put, List.setIfInBounds_toArray, List.set_cons_zero, List.set_cons_succ]
        refine wpAnyH_ready (rs := [36]) (by kernel_rfl) (by simp) ?_
        refine AllReadyH.cons (by simp; rfl) (fun K hK => ?_) AllReadyH.nil
        go_simp
        (go_at_call 38; (with_reducible refine Calls.cA (toQC (by omega)) ?_); intros)
        refine hK.out _ _ inferInstance ?_
        clear hHeld hK K
        intro hHeld
        try simp only [Act.put, List.setIfInBounds_toArray, List.set_cons_zero, List.set_cons_succ]
        refine wpAnyH_ready (rs := [38]) (by kernel_rfl) (by simp) ?_
        refine AllReadyH.cons (by simp; rfl) (fun K hK => ?_) AllReadyH.nil
        go_simp
        (go_at_call 37; (with_reducible refine Calls.cPA (pScaleC (by omega)) ?_); intros)
        refine hK.out _ _ inferInstance ?_
        clear hHeld hK K
        intro hHeld
        try simp only [Act.put, List.setIfInBounds_toArray, List.set_cons_zero, List.set_cons_succ]
        refine wpAnyH_ready (rs := [39]) (by kernel_rfl) (by simp) ?_
        refine AllReadyH.cons (by simp; rfl) (fun K hK => ?_) AllReadyH.nil
        go_simp
        (go_at_call 36; (with_reducible refine Calls.cE (pAngleV (by omega) (Lib.hid (angle_scale (part_pos v0)))) ?_); intros)
        refine hK.out _ _ inferInstance ?_
        clear hHeld hK K
        intro hHeld
        try simp only [Act.put, List.setIfInBounds_toArray, List.set_cons_zero, List.set_cons_succ]
        refine wpAnyH_take (i := 40) (v := ?z678) (by simp; rfl) (by kernel_rfl) (by kernel_rfl) (by kernel_rfl) (by exact fun _ _ _ h => h) (Or.inl ⟨by rfl, ?yz678⟩) hHeld ?_
        case yz678 => (intro wx hSw; have hSx := Ex1.mk hSw; go_simp; (try with_reducible rfl))
        try simp only [Act.put, List.setIfInBounds_toArray, List.set_cons_zero, List.set_cons_succ]
        refine wpAnyH_take (i := 41) (v := ?z679) (by simp; rfl) (by kernel_rfl) (by kernel_rfl) (by kernel_rfl) (by exact fun _ _ _ h => h) (Or.inl ⟨by rfl, ?yz679⟩) hHeld ?_
        case yz679 => (intro wx hSw; have hSx := Ex1.mk hSw; go_simp; (try with_reducible rfl))
        try simp only [Act.put, List.setIfInBounds_toArray, List.set_cons_zero, List.set_cons_succ]
        refine wpAnyH_done (by kernel_rfl) ?_ _
        clear hHeld
        go_wp2_with fail
        go_meet
        exact ⟨rfl, inferInstance, inferInstance⟩
    · rcases (show b = -1 ∨ b = 0 ∨ b = 1 by omega) with rfl | rfl | rfl
      · clear t1 t2
        refine region_cls (by kernel_rfl) [w.heap.size] (fun hHeld => ?_)
        refine wpAnyH_take (i := 0) (v := ?z680) (by simp; rfl) (by kernel_rfl) (by kernel_rfl) (by kernel_rfl) (by exact fun _ _ _ h => h) (Or.inl ⟨by rfl, ?yz680⟩) hHeld ?_
        case yz680 => (intro wx hSw; have hSx := Ex1.mk hSw; go_simp; (try with_reducible rfl))
        try simp only [Act.put, List.setIfInBounds_toArray, List.set_cons_zero, List.set_cons_succ]
        refine wpAnyH_take (i := 1) (v := ?z681) (by simp; rfl) (by kernel_rfl) (by kernel_rfl) (by kernel_rfl) (by exact fun _ _ _ h => h) (Or.inl ⟨by rfl, ?yz681⟩) hHeld ?_
        case yz681 => (intro wx hSw; have hSx := Ex1.mk hSw; go_simp; (try with_reducible rfl))
        try simp only [Act.put, List.setIfInBounds_toArray, List.set_cons_zero, List.set_cons_succ]
        refine wpAnyH_take (i := 3) (v := ?z682) (by simp; rfl) (by kernel_rfl) (by kernel_rfl) (by kernel_rfl) (by exact fun _ _ _ h => h) (Or.inl ⟨by rfl, ?yz682⟩) hHeld ?_
        case yz682 => (intro wx hSw; have hSx := Ex1.mk hSw; go_simp; (try with_reducible rfl))
        try simp only [Act.put, List.setIfInBounds_toArray, List.set_cons_zero, List.set_cons_succ]
        refine wpAnyH_take (i := 4) (v := ?z683) (by simp; rfl) (by kernel_rfl) (by kernel_rfl) (by kernel_rfl) (by exact fun _ _ _ h => h) (Or.inl ⟨by rfl, ?yz683⟩) hHeld ?_
        case yz683 => (intro wx hSw; have hSx := Ex1.mk hSw; go_simp; (try with_reducible rfl))
        try simp only [Act.put, List.setIfInBounds_toArray, List.set_cons_zero, List.set_cons_succ]
        refine wpAnyH_ready (rs := [2]) (by kernel_rfl) (by simp) ?_
        refine AllReadyH.cons (by simp; rfl) (fun K hK => ?_) AllReadyH.nil
        go_simp
        (go_at_call 36; (with_reducible refine Calls.cE (pAngleV (by omega) HS) ?_); intros)
        refine hK.out _ _ inferInstance ?_
        clear hHeld hK K
        intro hHeld
        try simp only [Act.put, List.setIfInBounds_toArray, List.set_cons_zero, List.set_cons_succ]
        refine wpAnyH_take (i := 5) (v := ?z684) (by simp; rfl) (by kernel_rfl) (by kernel_rfl) (by kernel_rfl) (by exact fun _ _ _ h => h) (Or.inl ⟨by rfl, ?yz684⟩) hHeld ?_
        case yz684 => (intro wx hSw; have hSx := Ex1.mk hSw; go_simp; (try with_reducible rfl))
        try simp only [Act.put, List.setIfInBounds_toArray, List.set_cons_zero, List.set_cons_succ]
        refine wpAnyH_take (i := 6) (v := ?z685) (by simp; rfl) (by kernel_rfl) (by kernel_rfl) (by kernel_rfl) (by exact fun _ _ _ h => h) (Or.inl ⟨by rfl, ?yz685⟩) hHeld ?_
        case yz685 => (intro wx hSw; have hSx := Ex1.mk hSw; go_simp; (try with_reducible rfl))
        try simp only [Act.put, List.setIfInBounds_toArray, List.set_cons_zero, List.set_cons_succ]
        refine wpAnyH_take (i := 7) (v := ?z686) (by simp; rfl) (by kernel_rfl) (by kernel_rfl) (by kernel_rfl) (by exact fun _ _ _ h => h) (Or.inl ⟨by rfl, ?yz686⟩) hHeld ?_
        case yz686 => (intro wx hSw; have hSx := Ex1.mk hSw; go_simp; (try with_reducible rfl))
        try simp only [Act.put, List.setIfInBounds_toArray, List.set_cons_zero, List.set_cons_succ]
        refine wpAnyH_take (i := 8) (v := ?z687) (by simp; rfl) (by kernel_rfl) (by kernel_rfl) (by kernel_rfl) (by exact fun _ _ _ h => h) (Or.inl ⟨by rfl, ?yz687⟩) hHeld ?_
        case yz687 => (intro wx hSw; have hSx := Ex1.mk hSw; go_simp; (try with_reducible rfl))
        try simp only [Act.put, List.setIfInBounds_toArray, List.set_cons_zero, List.set_cons_succ]
        refine wpAnyH_take (i := 9) (v := ?z688) (by simp; rfl) (by kernel_rfl) (by kernel_rfl) (by kernel_rfl) (by exact fun _ _ _ h => h) (Or.inl ⟨by rfl, ?yz688⟩) hHeld ?_
        case yz688 => (intro wx hSw; have hSx := Ex1.mk hSw; go_simp; (try with_reducible rfl))
        try simp only [Act.put, List.setIfInBounds_toArray, List.set_cons_zero, List.set_cons_succ]
        refine wpAnyH_take (i := 10) (v := undef) (by simp; rfl) (by kernel_rfl) (by kernel_rfl) (by kernel_rfl) (by exact fun _ _ _ h => h) (Or.inr ⟨by rfl, rfl⟩) hHeld ?_
        try simp only [Act.put, List.setIfInBounds_toArray, List.set_cons_zero, List.set_cons_succ]
        refine wpAnyH_take (i := 11) (v := undef) (by simp; rfl) (by kernel_rfl) (by kernel_rfl) (by kernel_rfl) (by exact fun _ _ _ h => h) (Or.inr ⟨by rfl, rfl⟩) hHeld ?_
        try simp only [Act.put, List.setIfInBounds_toArray, List.set_cons_zero, List.set_cons_succ]
        refine wpAnyH_take (i := 12) (v := ?z691) (by simp; rfl) (by kernel_rfl) (by kernel_rfl) (by kernel_rfl) (by exact fun _ _ _ h => h) (Or.inl ⟨by rfl, ?yz691⟩) hHeld ?_
        case yz691 => (intro wx hSw; have hSx := Ex1.mk hSw; go_simp; (try with_reducible rfl))
        try simp only [Act.put, List.setIfInBounds_toArray, List.set_cons_zero, List.set_cons_succ]
        refine wpAnyH_take (i := 13) (v := ?z692) (by simp; rfl) (by kernel_rfl) (by kernel_rfl) (by kernel_rfl) (by exact fun _ _ _ h => h) (Or.inl ⟨by rfl, ?yz692⟩) hHeld ?_
        case yz692 => (intro wx hSw; have hSx := Ex1.mk hSw; go_simp; (try with_reducible rfl))
        try simp only [Act.put, List.setIfInBounds_toArray, List.set_cons_zero, List.set_cons_succ]
        refine wpAnyH_take (i := 14) (v := undef) (by simp; rfl) (by kernel_rfl) (by kernel_rfl) (by kernel_rfl) (by exact fun _ _ _ h => h) (Or.inr ⟨by rfl, rfl⟩) hHeld ?_
        try simp only [Act.put, List.setIfInBounds_toArray, List.set_cons_zero, List.set_cons_succ]
        refine wpAnyH_take (i := 15) (v := undef) (by simp; rfl) (by kernel_rfl) (by kernel_rfl) (by kernel_rfl) (by exact fun _ _ _ h => h) (Or.inr ⟨by rfl, rfl⟩) hHeld ?_
        try simp only [Act.put, List.setIfInBounds_toArray, List.set_cons_zero, List.set_cons_succ]
        refine wpAnyH_take (i := 16) (v := ?z695) (by simp; rfl) (by kernel_rfl) (by kernel_rfl) (by kernel_rfl) (by exact fun _ _ _ h => h) (Or.inl ⟨by rfl, ?yz695⟩) hHeld ?_
        case yz695 => (intro wx hSw; have hSx := Ex1.mk hSw; go_simp; (try with_reducible rfl))
        try simp only [Act.put, List.setIfInBounds_toArray, List.set_cons_zero, List.set_cons_succ]
        refine wpAnyH_take (i := 17) (v := ?z696) (by simp; rfl) (by kernel_rfl) (by kernel_rfl) (by kernel_rfl) (by exact fun _ _ _ h => h) (Or.inl ⟨by rfl, ?yz696⟩) hHeld ?_
        case yz696 => (intro wx hSw; have hSx := Ex1.mk hSw; go_simp; (try with_reducible rfl))
        try simp only [Act.put, List.setIfInBounds_toArray, List.set_cons_zero, List.set_cons_succ]
        refine wpAnyH_take (i := 18) (v := ?z697) (by simp; rfl) (by kernel_rfl) (by kernel_rfl) (by kernel_rfl) (by exact fun _ _ _ h => h) (Or.inl ⟨by rfl, ?yz697⟩) hHeld ?_
        case yz697 => (intro wx hSw; have hSx := Ex1.mk hSw; go_simp; (try with_reducible rfl))
        try simp only [Act.put, List.setIfInBounds_toArray, List.set_cons_zero, List.set_cons_succ]
        refine wpAnyH_take (i := 19) (v := ?z698) (by simp; rfl) (by kernel_rfl) (by kernel_rfl) (by kernel_rfl) (by exact fun _ _ _ h => h) (Or.inl ⟨by rfl, ?yz698⟩) hHeld ?_
        case yz698 => (intro wx hSw; have hSx := Ex1.mk hSw; go_simp; (try with_reducible rfl))
        try simp only [Act.put, List.setIfInBounds_toArray, List.set_cons_zero, List.set_cons_succ]
        refine wpAnyH_take (i := 20) (v := ?z699) (by simp; rfl) (by kernel_rfl) (by kernel_rfl) (by kernel_rfl) (by exact fun _ _ _ h => h) (Or.inl ⟨by rfl, ?yz699⟩) hHeld ?_
        case yz699 => (intro wx hSw; have hSx := Ex1.mk hSw; go_simp; (try with_reducible rfl))
        try simp only [Act.put, List.setIfInBounds_toArray, List.set_cons_zero, List.set_cons_succ]
        refine wpAnyH_take (i := 21) (v := ?z700) (by simp; rfl) (by kernel_rfl) (by kernel_rfl) (by kernel_rfl) (by exact fun _ _ _ h => h) (Or.inl ⟨by rfl, ?yz700⟩) hHeld ?_
        case yz700 => (intro wx hSw; have hSx := Ex1.mk hSw; go_simp; (try with_reducible rfl))
        try simp only [Act.put, List.setIfInBounds_toArray, List.set_cons_zero, List.set_cons_succ]
        refine wpAnyH_take (i := 22) (v := ?z701) (by simp; rfl) (by kernel_rfl) (by kernel_rfl) (by kernel_rfl) (by exact fun _ _ _ h => h) (Or.inl ⟨by rfl, ?yz701⟩) hHeld ?_
        case yz701 => (intro wx hSw; have hSx := Ex1.mk hSw; go_simp; (try with_reducible rfl))
        try simp only [Act.put, List.setIfInBounds_toArray, List.set_cons_zero, List.set_cons_succ]
        refine wpAnyH_take (i := 23) (v := ?z702) (by simp; rfl) (by kernel_rfl) (by kernel_rfl) (by kernel_rfl) (by exact fun _ _ _ h => h) (Or.inl ⟨by rfl, ?yz702⟩) hHeld ?_
        case yz702 => (intro wx hSw; have hSx := Ex1.mk hSw; go_simp; (try with_reducible rfl))
        try simp only [Act.put, List.setIfInBounds_toArray, List.set_cons_zero, List.set_cons_succ]
        refine wpAnyH_take (i := 24) (v := ?z703) (by simp; rfl) (by kernel_rfl) (by kernel_rfl) (by kernel_rfl) (by exact fun _ _ _ h => h) (Or.inl ⟨by rfl, ?yz703⟩) hHeld ?_
        case yz703 => (intro wx hSw; have hSx := Ex1.mk hSw; go_simp; (try with_reducible rfl))
        try simp only [Act.put, List.setIfInBounds_toArray, List.set_cons_zero, List.set_cons_succ]
        refine wpAnyH_take (i := 25) (v := ?z704) (by simp; rfl) (by kernel_rfl) (by kernel_rfl) (by kernel_rfl) (by exact fun _ _ _ h => h) (Or.inl ⟨by rfl, ?yz704⟩) hHeld ?_
        case yz704 => (intro wx hSw; have hSx := Ex1.mk hSw; go_simp; (try with_reducible rfl))
        try simp only [Act.put, List.setIfInBounds_toArray, List.set_cons_zero, List.set_cons_succ]
        refine wpAnyH_take (i := 26) (v := undef) (by simp; rfl) (by kernel_rfl) (by kernel_rfl) (by kernel_rfl) (by exact fun _ _ _ h => h) (Or.inr ⟨by rfl, rfl⟩) hHeld ?_
        try simp only [Act.put, List.setIfInBounds_toArray, List.set_cons_zero, List.set_cons_succ]
        refine wpAnyH_take (i := 27) (v := undef) (by simp; rfl) (by kernel_rfl) (by kernel_rfl) (by kernel_rfl) (by exact fun _ _ _ h => h) (Or.inr ⟨by rfl, rfl⟩) hHeld ?_
        try simp only [Act.put, List.setIfInBounds_toArray, List.set_cons_zero, List.set_cons_succ]
        refine wpAnyH_take (i := 28) (v := ?z707) (by simp; rfl) (by kernel_rfl) (by kernel_rfl) (by kernel_rfl) (by exact fun _ _ _ h => h) (Or.inl ⟨by rfl, ?yz707⟩) hHeld ?_
        case yz707 => (intro wx hSw; have hSx := Ex1.mk hSw; go_simp; (try with_reducible rfl))
        try simp only [Act.put, List.setIfInBounds_toArray, List.set_cons_zero, List.set_cons_succ]
        refine wpAnyH_take (i := 29) (v := ?z708) (by simp; rfl) (by kernel_rfl) (by kernel_rfl) (by kernel_rfl) (by exact fun _ _ _ h => h) (Or.inl ⟨by rfl, ?yz708⟩) hHeld ?_
        case yz708 => (intro wx hSw; have hSx := Ex1.mk hSw; go_simp; (try with_reducible rfl))
        try simp only [Act.put, List.setIfInBounds_toArray, List.set_cons_zero, List.set_cons_succ]
        refine wpAnyH_take (i := 30) (v := ?z709) (by simp; rfl) (by kernel_rfl) (by kernel_rfl) (by kernel_rfl) (by exact fun _ _ _ h => h) (Or.inl ⟨by rfl, ?yz709⟩) hHeld ?_
        case yz709 => (intro wx hSw; have hSx := Ex1.mk hSw; go_simp; (try with_reducible rfl))
        try simp only [Act.put, List.setIfInBounds_toArray, List.set_cons_zero, List.set_cons_succ]
        refine wpAnyH_take (i := 31) (v := ?z710) (by simp; rfl) (by kernel_rfl) (by kernel_rfl) (by kernel_rfl) (by exact fun _ _ _ h => h) (Or.inl ⟨by rfl, ?yz710⟩) hHeld ?_
        case yz710 => (intro wx hSw; have hSx := Ex1.mk hSw; go_simp; (try with_reducible rfl))
        try simp only [Act.put, List.setIfInBounds_toArray, List.set_cons_zero, List.set_cons_succ]
        refine wpAnyH_take (i := 32) (v := ?z711) (by simp; rfl) (by kernel_rfl) (by kernel_rfl) (by kernel_rfl) (by exact fun _ _ _ h => h) (Or.inl ⟨by rfl, ?yz711⟩) hHeld ?_
        case yz711 => (intro wx hSw; have hSx := Ex1.mk hSw; go_simp; (try with_reducible rfl))
        try simp only [Act.put, List.setIfInBounds_toArray, List.set_cons_zero, List.set_cons_succ]
        refine wpAnyH_take (i := 37) (v := ?z712) (by simp; rfl) (by kernel_rfl) (by kernel_rfl) (by kernel_rfl) (by exact fun _ _ _ h => h) (Or.inl ⟨by rfl, ?yz712⟩) hHeld ?_
        case yz712 => (intro wx hSw; have hSx := Ex1.mk hSw; go_simp; (try with_reducible rfl))
        try simp only [Act.put, List.setIfInBounds_toArray, List.set_cons_zero, List.set_cons_succ]
        refine wpAnyH_ready (rs := [33]) (by kernel_rfl) (by simp) ?_
        refine AllReadyH.cons (by simp; rfl) (fun K hK => ?_) AllReadyH.nil
        go_simp
        (go_at_call 40; (with_reducible refine Calls.cNext (nextC (by omega)) ?_); intro W6 _ _ v v0 v1; have ev : IntKind.i64.wrap (1 + v) = 1 + v := (by rw [IntKind.wrap_i64]; omega))
        refine hK.out _ _ inferInstance ?_
        clear hHeld hK K
        intro hHeld
        try simp only [Act.put, List.setIfInBounds_toArray, List.set_cons_zero, List.set_cons_succ]
        refine wpAnyH_take (i := 34) (v := ?z713) (by simp; rfl) (by kernel_rfl) (by kernel_rfl) (by kernel_rfl) (by exact fun _ _ _ h => h) (Or.inl ⟨by rfl, ?yz713⟩) hHeld ?_
        case yz713 => (intro wx hSw; have hSx := Ex1.mk hSw; go_simp; (try with_reducible rfl))
        try simp only [Act.put, List.setIfInBounds_toArray, List.set_cons_zero, List.set_cons_succ]
        refine wpAnyH_ready (rs := [35]) (by kernel_rfl) (by simp) ?_
        refine AllReadyH.cons (by simp; rfl) (fun K hK => ?_) AllReadyH.nil
        go_simp
        (go_at_call 39; (with_reducible refine Calls.cQ (numPartC (by omega)) ?_); intros)
        refine hK.out _ _ inferInstance ?_
        clear hHeld hK K
        intro hHeld
        try simp only [Act.put, List.setIfInBounds_toArray, List.set_cons_zero, List.set_cons_succ]
        refine wpAnyH_ready (rs := [36]) (by kernel_rfl) (by simp) ?_
        refine AllReadyH.cons (by simp; rfl) (fun K hK => ?_) AllReadyH.nil
        go_simp
        (go_at_call 38; (with_reducible refine Calls.cA (toQC (by omega)) ?_); intros)
        refine hK.out _ _ inferInstance ?_
        clear hHeld hK K
        intro hHeld
        try simp only [Act.put, List.setIfInBounds_toArray, List.set_cons_zero, List.set_cons_succ]
        refine wpAnyH_ready (rs := [38]) (by kernel_rfl) (by simp) ?_
        refine AllReadyH.cons (by simp; rfl) (fun K hK => ?_) AllReadyH.nil
        go_simp
        (go_at_call 37; (with_reducible refine Calls.cPA (pScaleC (by omega)) ?_); intros)
        refine hK.out _ _ inferInstance ?_
        clear hHeld hK K
        intro hHeld
        try simp only [Act.put, List.setIfInBounds_toArray, List.set_cons_zero, List.set_cons_succ]
        refine wpAnyH_ready (rs := [39]) (by kernel_rfl) (by simp) ?_
        refine AllReadyH.cons (by simp; rfl) (fun K hK => ?_) AllReadyH.nil
        go_simp
        (go_at_call 36; (with_reducible refine Calls.cE (pAngleV (by omega) (Lib.hid (angle_scale (part_pos v0)))) ?_); intros)
        refine hK.out _ _ inferInstance ?_
        clear hHeld hK K
        intro hHeld
        try simp only [Act.put, List.setIfInBounds_toArray, List.set_cons_zero, List.set_cons_succ]
        refine wpAnyH_take (i := 40) (v := ?z714) (by simp; rfl) (by kernel_rfl) (by kernel_rfl) (by kernel_rfl) (by exact fun _ _ _ h => h) (Or.inl ⟨by rfl, ?yz714⟩) hHeld ?_
        case yz714 => (intro wx hSw; have hSx := Ex1.mk hSw; go_simp; (try with_reducible rfl))
        try simp only [Act.put, List.setIfInBounds_toArray, List.set_cons_zero, List.set_cons_succ]
        refine wpAnyH_take (i := 41) (v := ?z715) (by simp; rfl) (by kernel_rfl) (by kernel_rfl) (by kernel_rfl) (by exact fun _ _ _ h => h) (Or.inl ⟨by rfl, ?yz715⟩) hHeld ?_
        case yz715 => (intro wx hSw; have hSx := Ex1.mk hSw; go_simp; (try with_reducible rfl))
        try simp only [Act.put, List.setIfInBounds_toArray, List.set_cons_zero, List.set_cons_succ]
        refine wpAnyH_done (by kernel_rfl) ?_ _
        clear hHeld
        go_wp2_with fail
        go_meet
        exact ⟨rfl, inferInstance, inferInstance⟩
      · have d2 : decide (c < 0) = false := decide_eq_false (by have := t2 (by decide) (by decide); omega)
        clear t1 t2
        refine region_cls (by kernel_rfl) [w.heap.size] (fun hHeld => ?_)
        refine wpAnyH_take (i := 0) (v := ?z716) (by simp; rfl) (by kernel_rfl) (by kernel_rfl) (by kernel_rfl) (by exact fun _ _ _ h => h) (Or.inl ⟨by rfl, ?yz716⟩) hHeld ?_
        case yz716 => (intro wx hSw; have hSx := Ex1.mk hSw; go_simp; (try with_reducible rfl))
        try simp only [Act.put, List.setIfInBounds_toArray, List.set_cons_zero, List.set_cons_succ]
        refine wpAnyH_take (i := 1) (v := ?z717) (by simp; rfl) (by kernel_rfl) (by kernel_rfl) (by kernel_rfl) (by exact fun _ _ _ h => h) (Or.inl ⟨by rfl, ?yz717⟩) hHeld ?_
        case yz717 => (intro wx hSw; have hSx := Ex1.mk hSw; go_simp; (try with_reducible rfl))
        try simp only [Act.put, List.setIfInBounds_toArray, List.set_cons_zero, List.set_cons_succ]
        refine wpAnyH_take (i := 3) (v := ?z718) (by simp; rfl) (by kernel_rfl) (by kernel_rfl) (by kernel_rfl) (by exact fun _ _ _ h => h) (Or.inl ⟨by rfl, ?yz718⟩) hHeld ?_
        case yz718 => (intro wx hSw; have hSx := Ex1.mk hSw; go_simp; (try with_reducible rfl))
        try simp only [Act.put, List.setIfInBounds_toArray, List.set_cons_zero, List.set_cons_succ]
        refine wpAnyH_take (i := 4) (v := ?z719) (by simp; rfl) (by kernel_rfl) (by kernel_rfl) (by kernel_rfl) (by exact fun _ _ _ h => h) (Or.inl ⟨by rfl, ?yz719⟩) hHeld ?_
        case yz719 => (intro wx hSw; have hSx := Ex1.mk hSw; go_simp; (try with_reducible rfl))
        try simp only [Act.put, List.setIfInBounds_toArray, List.set_cons_zero, List.set_cons_succ]
        refine wpAnyH_ready (rs := [2]) (by kernel_rfl) (by simp) ?_
        refine AllReadyH.cons (by simp; rfl) (fun K hK => ?_) AllReadyH.nil
        go_simp
        (go_at_call 36; (with_reducible refine Calls.cE (pAngleV (by omega) HS) ?_); intros)
        refine hK.out _ _ inferInstance ?_
        clear hHeld hK K
        intro hHeld
        try simp only [Act.put, List.setIfInBounds_toArray, List.set_cons_zero, List.set_cons_succ]
        refine wpAnyH_take (i := 5) (v := ?z720) (by simp; rfl) (by kernel_rfl) (by kernel_rfl) (by kernel_rfl) (by exact fun _ _ _ h => h) (Or.inl ⟨by rfl, ?yz720⟩) hHeld ?_
        case yz720 => (intro wx hSw; have hSx := Ex1.mk hSw; go_simp; (try with_reducible rfl))
        try simp only [Act.put, List.setIfInBounds_toArray, List.set_cons_zero, List.set_cons_succ]
        refine wpAnyH_take (i := 6) (v := ?z721) (by simp; rfl) (by kernel_rfl) (by kernel_rfl) (by kernel_rfl) (by exact fun _ _ _ h => h) (Or.inl ⟨by rfl, ?yz721⟩) hHeld ?_
        case yz721 => (intro wx hSw; have hSx := Ex1.mk hSw; go_simp; (try with_reducible rfl))
        try simp only [Act.put, List.setIfInBounds_toArray, List.set_cons_zero, List.set_cons_succ]
        refine wpAnyH_take (i := 7) (v := ?z722) (by simp; rfl) (by kernel_rfl) (by kernel_rfl) (by kernel_rfl) (by exact fun _ _ _ h => h) (Or.inl ⟨by rfl, ?yz722⟩) hHeld ?_
        case yz722 => (intro wx hSw; have hSx := Ex1.mk hSw; go_simp; (try with_reducible rfl))
        try simp only [Act.put, List.setIfInBounds_toArray, List.set_cons_zero, List.set_cons_succ]
        refine wpAnyH_take (i := 8) (v := ?z723) (by simp; rfl) (by kernel_rfl) (by kernel_rfl) (by kernel_rfl) (by exact fun _ _ _ h => h) (Or.inl ⟨by rfl, ?yz723⟩) hHeld ?_
        case yz723 => (intro wx hSw; have hSx := Ex1.mk hSw; go_simp; (try with_reducible rfl))
        try simp only [Act.put, List.setIfInBounds_toArray, List.set_cons_zero, List.set_cons_succ]
        refine wpAnyH_take (i := 9) (v := ?z724) (by simp; rfl) (by kernel_rfl) (by kernel_rfl) (by kernel_rfl) (by exact fun _ _ _ h => h) (Or.inl ⟨by rfl, ?yz724⟩) hHeld ?_
        case yz724 => (intro wx hSw; have hSx := Ex1.mk hSw; go_simp; (try with_reducible rfl))
        try simp only [Act.put, List.setIfInBounds_toArray, List.set_cons_zero, List.set_cons_succ]
        refine wpAnyH_take (i := 10) (v := undef) (by simp; rfl) (by kernel_rfl) (by kernel_rfl) (by kernel_rfl) (by exact fun _ _ _ h => h) (Or.inr ⟨by rfl, rfl⟩) hHeld ?_
        try simp only [Act.put, List.setIfInBounds_toArray, List.set_cons_zero, List.set_cons_succ]
        refine wpAnyH_take (i := 11) (v := undef) (by simp; rfl) (by kernel_rfl) (by kernel_rfl) (by kernel_rfl) (by exact fun _ _ _ h => h) (Or.inr ⟨by rfl, rfl⟩) hHeld ?_
        try simp only [Act.put, List.setIfInBounds_toArray, List.set_cons_zero, List.set_cons_succ]
        refine wpAnyH_take (i := 12) (v := ?z727) (by simp; rfl) (by kernel_rfl) (by kernel_rfl) (by kernel_rfl) (by exact fun _ _ _ h => h) (Or.inl ⟨by rfl, ?yz727⟩) hHeld ?_
        case yz727 => (intro wx hSw; have hSx := Ex1.mk hSw; go_simp; (try with_reducible rfl))
        try simp only [Act.put, List.setIfInBounds_toArray, List.set_cons_zero, List.set_cons_succ]
        refine wpAnyH_take (i := 13) (v := ?z728) (by simp; rfl) (by kernel_rfl) (by kernel_rfl) (by kernel_rfl) (by exact fun _ _ _ h => h) (Or.inl ⟨by rfl, ?yz728⟩) hHeld ?_
        case yz728 => (intro wx hSw; have hSx := Ex1.mk hSw; go_simp; (try with_reducible rfl))
        try simp only [Act.put, List.setIfInBounds_toArray, List.set_cons_zero, List.set_cons_succ]
        refine wpAnyH_take (i := 14) (v := undef) (by simp; rfl) (by kernel_rfl) (by kernel_rfl) (by kernel_rfl) (by exact fun _ _ _ h => h) (Or.inr ⟨by rfl, rfl⟩) hHeld ?_
        try simp only [Act.put, List.setIfInBounds_toArray, List.set_cons_zero, List.set_cons_succ]
        refine wpAnyH_take (i := 15) (v := undef) (by simp; rfl) (by kernel_rfl) (by kernel_rfl) (by kernel_rfl) (by exact fun _ _ _ h => h) (Or.inr ⟨by rfl, rfl⟩) hHeld ?_
        try simp only [Act.put, List.setIfInBounds_toArray, List.set_cons_zero, List.set_cons_succ]
        refine wpAnyH_take (i := 16) (v := ?z731) (by simp; rfl) (by kernel_rfl) (by kernel_rfl) (by kernel_rfl) (by exact fun _ _ _ h => h) (Or.inl ⟨by rfl, ?yz731⟩) hHeld ?_
        case yz731 => (intro wx hSw; have hSx := Ex1.mk hSw; go_simp; (try with_reducible rfl))
        try simp only [Act.put, List.setIfInBounds_toArray, List.set_cons_zero, List.set_cons_succ]
        refine wpAnyH_take (i := 17) (v := ?z732) (by simp; rfl) (by kernel_rfl) (by kernel_rfl) (by kernel_rfl) (by exact fun _ _ _ h => h) (Or.inl ⟨by rfl, ?yz732⟩) hHeld ?_
        case yz732 => (intro wx hSw; have hSx := Ex1.mk hSw; go_simp; (try with_reducible rfl))
        try simp only [Act.put, List.setIfInBounds_toArray, List.set_cons_zero, List.set_cons_succ]
        refine wpAnyH_take (i := 18) (v := ?z733) (by simp; rfl) (by kernel_rfl) (by kernel_rfl) (by kernel_rfl) (by exact fun _ _ _ h => h) (Or.inl ⟨by rfl, ?yz733⟩) hHeld ?_
        case yz733 => (intro wx hSw; have hSx := Ex1.mk hSw; go_simp; (try with_reducible rfl))
        try simp only [Act.put, List.setIfInBounds_toArray, List.set_cons_zero, List.set_cons_succ]
        refine wpAnyH_take (i := 19) (v := ?z734) (by simp; rfl) (by kernel_rfl) (by kernel_rfl) (by kernel_rfl) (by exact fun _ _ _ h => h) (Or.inl ⟨by rfl, ?yz734⟩) hHeld ?_
        case yz734 => (intro wx hSw; have hSx := Ex1.mk hSw; go_simp; (try with_reducible rfl))
        try simp only [Act.put, List.setIfInBounds_toArray, List.set_cons_zero, List.set_cons_succ]
        refine wpAnyH_take (i := 20) (v := ?z735) (by simp; rfl) (by kernel_rfl) (by kernel_rfl) (by kernel_rfl) (by exact fun _ _ _ h => h) (Or.inl ⟨by rfl, ?yz735⟩) hHeld ?_
        case yz735 => (intro wx hSw; have hSx := Ex1.mk hSw; go_simp; (try with_reducible rfl))
        try simp only [Act.put, List.setIfInBounds_toArray, List.set_cons_zero, List.set_cons_succ]
        refine wpAnyH_take (i := 21) (v := ?z736) (by simp; rfl) (by kernel_rfl) (by kernel_rfl) (by kernel_rfl) (by exact fun _ _ _ h => h) (Or.inl ⟨by rfl, ?yz736⟩) hHeld ?_
        case yz736 => (intro wx hSw; have hSx := Ex1.mk hSw; go_simp; (try with_reducible rfl))
        try simp only [Act.put, List.setIfInBounds_toArray, List.set_cons_zero, List.set_cons_succ]
        refine wpAnyH_take (i := 22) (v := ?z737) (by simp; rfl) (by kernel_rfl) (by kernel_rfl) (by kernel_rfl) (by exact fun _ _ _ h => h) (Or.inl ⟨by rfl, ?yz737⟩) hHeld ?_
        case yz737 => (intro wx hSw; have hSx := Ex1.mk hSw; go_simp; (try with_reducible rfl))
        try simp only [Act.put, List.setIfInBounds_toArray, List.set_cons_zero, List.set_cons_succ]
        refine wpAnyH_take (i := 23) (v := ?z738) (by simp; rfl) (by kernel_rfl) (by kernel_rfl) (by kernel_rfl) (by exact fun _ _ _ h => h) (Or.inl ⟨by rfl, ?yz738⟩) hHeld ?_
        case yz738 => (intro wx hSw; have hSx := Ex1.mk hSw; go_simp; (try with_reducible rfl))
        try simp only [Act.put, List.setIfInBounds_toArray, List.set_cons_zero, List.set_cons_succ]
        refine wpAnyH_take (i := 24) (v := ?z739) (by simp; rfl) (by kernel_rfl) (by kernel_rfl) (by kernel_rfl) (by exact fun _ _ _ h => h) (Or.inl ⟨by rfl, ?yz739⟩) hHeld ?_
        case yz739 => (intro wx hSw; have hSx := Ex1.mk hSw; go_simp; (try with_reducible rfl))
        try simp only [Act.put, List.setIfInBounds_toArray, List.set_cons_zero, List.set_cons_succ]
        refine wpAnyH_take (i := 25) (v := ?z740) (by simp; rfl) (by kernel_rfl) (by kernel_rfl) (by kernel_rfl) (by exact fun _ _ _ h => h) (Or.inl ⟨by rfl, ?yz740⟩) hHeld ?_
        case yz740 => (intro wx hSw; have hSx := Ex1.mk hSw; go_simp; (try with_reducible rfl))
        try simp only [Act.put, List.setIfInBounds_toArray, List.set_cons_zero, List.set_cons_succ]
        refine wpAnyH_take (i := 26) (v := ?z741) (by simp; rfl) (by kernel_rfl) (by kernel_rfl) (by kernel_rfl) (by exact fun _ _ _ h => h) (Or.inl ⟨by rfl, ?yz741⟩) hHeld ?_
        case yz741 => (intro wx hSw; have hSx := Ex1.mk hSw; go_simp; (try with_reducible rfl))
        try simp only [Act.put, List.setIfInBounds_toArray, List.set_cons_zero, List.set_cons_succ]
        refine wpAnyH_take (i := 27) (v := ?z742) (by simp; rfl) (by kernel_rfl) (by kernel_rfl) (by kernel_rfl) (by exact fun _ _ _ h => h) (Or.inl ⟨by rfl, ?yz742⟩) hHeld ?_
        case yz742 => (intro wx hSw; have hSx := Ex1.mk hSw; go_simp; (try with_reducible rfl))
        try simp only [Act.put, List.setIfInBounds_toArray, List.set_cons_zero, List.set_cons_succ]
        refine wpAnyH_take (i := 28) (v := ?z743) (by simp; rfl) (by kernel_rfl) (by kernel_rfl) (by kernel_rfl) (by exact fun _ _ _ h => h) (Or.inl ⟨by rfl, ?yz743⟩) hHeld ?_
        case yz743 => (intro wx hSw; have hSx := Ex1.mk hSw; go_simp; (try with_reducible rfl))
        try simp only [Act.put, List.setIfInBounds_toArray, List.set_cons_zero, List.set_cons_succ]
        refine wpAnyH_take (i := 29) (v := ?z744) (by simp; rfl) (by kernel_rfl) (by kernel_rfl) (by kernel_rfl) (by exact fun _ _ _ h => h) (Or.inl ⟨by rfl, ?yz744⟩) hHeld ?_
        case yz744 => (intro wx hSw; have hSx := Ex1.mk hSw; go_simp; (try with_reducible rfl))
        try simp only [Act.put, List.setIfInBounds_toArray, List.set_cons_zero, List.set_cons_succ]
        refine wpAnyH_take (i := 30) (v := ?z745) (by simp; rfl) (by kernel_rfl) (by kernel_rfl) (by kernel_rfl) (by exact fun _ _ _ h => h) (Or.inl ⟨by rfl, ?yz745⟩) hHeld ?_
        case yz745 => (intro wx hSw; have hSx := Ex1.mk hSw; go_simp; (try with_reducible rfl))
        try simp only [Act.put, List.setIfInBounds_toArray, List.set_cons_zero, List.set_cons_succ]
        refine wpAnyH_take (i := 31) (v := ?z746) (by simp; rfl) (by kernel_rfl) (by kernel_rfl) (by kernel_rfl) (by exact fun _ _ _ h => h) (Or.inl ⟨by rfl, ?yz746⟩) hHeld ?_
        case yz746 => (intro wx hSw; have hSx := Ex1.mk hSw; go_simp; (try with_reducible rfl))
        try simp only [Act.put, List.setIfInBounds_toArray, List.set_cons_zero, List.set_cons_succ]
        refine wpAnyH_take (i := 32) (v := ?z747) (by simp; rfl) (by kernel_rfl) (by kernel_rfl) (by kernel_rfl) (by exact fun _ _ _ h => h) (Or.inl ⟨by rfl, ?yz747⟩) hHeld ?_
        case yz747 => (intro wx hSw; have hSx := Ex1.mk hSw; go_simp; (try with_reducible rfl))
        try simp only [Act.put, List.setIfInBounds_toArray, List.set_cons_zero, List.set_cons_succ]
        refine wpAnyH_take (i := 37) (v := ?z748) (by simp; rfl) (by kernel_rfl) (by kernel_rfl) (by kernel_rfl) (by exact fun _ _ _ h => h) (Or.inl ⟨by rfl, ?yz748⟩) hHeld ?_
        case yz748 => (intro wx hSw; have hSx := Ex1.mk hSw; go_simp; (try with_reducible rfl))
        try simp only [Act.put, List.setIfInBounds_toArray, List.set_cons_zero, List.set_cons_succ]
        refine wpAnyH_ready (rs := [33]) (by kernel_rfl) (by simp) ?_
        refine AllReadyH.cons (by simp; rfl) (fun K hK => ?_) AllReadyH.nil
        go_simp
        (go_at_call 40; (with_reducible refine Calls.cNext (nextC (by omega)) ?_); intro W6 _ _ v v0 v1; have ev : IntKind.i64.wrap (1 + v) = 1 + v := (by rw [IntKind.wrap_i64]; omega))
        refine hK.out _ _ inferInstance ?_
        clear hHeld hK K
        intro hHeld
        try simp only [Act.put, List.setIfInBounds_toArray, List.set_cons_zero, List.set_cons_succ]
        refine wpAnyH_take (i := 34) (v := ?z749) (by simp; rfl) (by kernel_rfl) (by kernel_rfl) (by kernel_rfl) (by exact fun _ _ _ h => h) (Or.inl ⟨by rfl, ?yz749⟩) hHeld ?_
        case yz749 => (intro wx hSw; have hSx := Ex1.mk hSw; go_simp; (try with_reducible rfl))
        try simp only [Act.put, List.setIfInBounds_toArray, List.set_cons_zero, List.set_cons_succ]
        refine wpAnyH_ready (rs := [35]) (by kernel_rfl) (by simp) ?_
        refine AllReadyH.cons (by simp; rfl) (fun K hK => ?_) AllReadyH.nil
        go_simp
        (go_at_call 39; (with_reducible refine Calls.cQ (numPartC (by omega)) ?_); intros)
        refine hK.out _ _ inferInstance ?_
        clear hHeld hK K
        intro hHeld
        try simp only [Act.put, List.setIfInBounds_toArray, List.set_cons_zero, List.set_cons_succ]
        refine wpAnyH_ready (rs := [36]) (by kernel_rfl) (by simp) ?_
        refine AllReadyH.cons (by simp; rfl) (fun K hK => ?_) AllReadyH.nil
        go_simp
        (go_at_call 38; (with_reducible refine Calls.cA (toQC (by omega)) ?_); intros)
        refine hK.out _ _ inferInstance ?_
        clear hHeld hK K
        intro hHeld
        try simp only [Act.put, List.setIfInBounds_toArray, List.set_cons_zero, List.set_cons_succ]
        refine wpAnyH_ready (rs := [38]) (by kernel_rfl) (by simp) ?_
        refine AllReadyH.cons (by simp; rfl) (fun K hK => ?_) AllReadyH.nil
        go_simp
        (go_at_call 37; (with_reducible refine Calls.cPA (pScaleC (by omega)) ?_); intros)
        refine hK.out _ _ inferInstance ?_
        clear hHeld hK K
        intro hHeld
        try simp only [Act.put, List.setIfInBounds_toArray, List.set_cons_zero, List.set_cons_succ]
        refine wpAnyH_ready (rs := [39]) (by kernel_rfl) (by simp) ?_
        refine AllReadyH.cons (by simp; rfl) (fun K hK => ?_) AllReadyH.nil
        go_simp
        (go_at_call 36; (with_reducible refine Calls.cE (pAngleV (by omega) (Lib.hid (angle_scale (part_pos v0)))) ?_); intros)
        refine hK.out _ _ inferInstance ?_
        clear hHeld hK K
        intro hHeld
        try simp only [Act.put, List.setIfInBounds_toArray, List.set_cons_zero, List.set_cons_succ]
        refine wpAnyH_take (i := 40) (v := ?z750) (by simp; rfl) (by kernel_rfl) (by kernel_rfl) (by kernel_rfl) (by exact fun _ _ _ h => h) (Or.inl ⟨by rfl, ?yz750⟩) hHeld ?_
        case yz750 => (intro wx hSw; have hSx := Ex1.mk hSw; go_simp; (try with_reducible rfl))
        try simp only [Act.put, List.setIfInBounds_toArray, List.set_cons_zero, List.set_cons_succ]
        refine wpAnyH_take (i := 41) (v := ?z751) (by simp; rfl) (by kernel_rfl) (by kernel_rfl) (by kernel_rfl) (by exact fun _ _ _ h => h) (Or.inl ⟨by rfl, ?yz751⟩) hHeld ?_
        case yz751 => (intro wx hSw; have hSx := Ex1.mk hSw; go_simp; (try with_reducible rfl))
        try simp only [Act.put, List.setIfInBounds_toArray, List.set_cons_zero, List.set_cons_succ]
        refine wpAnyH_done (by kernel_rfl) ?_ _
        clear hHeld
        go_wp2_with fail
        go_meet
        exact ⟨rfl, inferInstance, inferInstance⟩
      · have d2 : decide (c < 0) = false := decide_eq_false (by have := t2 (by decide) (by decide); omega)
        clear t1 t2
        refine region_cls (by kernel_rfl) [w.heap.size] (fun hHeld => ?_)
        refine wpAnyH_take (i := 0) (v := ?z752) (by simp; rfl) (by kernel_rfl) (by kernel_rfl) (by kernel_rfl) (by exact fun _ _ _ h => h) (Or.inl ⟨by rfl, ?yz752⟩) hHeld ?_
        case yz752 => (intro wx hSw; have hSx := Ex1.mk hSw; go_simp; (try with_reducible rfl))
        try simp only [Act.put, List.setIfInBounds_toArray, List.set_cons_zero, List.set_cons_succ]
        refine wpAnyH_take (i := 1) (v := ?z753) (by simp; rfl) (by kernel_rfl) (by kernel_rfl) (by kernel_rfl) (by exact fun _ _ _ h => h) (Or.inl ⟨by rfl, ?yz753⟩) hHeld ?_
        case yz753 => (intro wx hSw; have hSx := Ex1.mk hSw; go_simp; (try with_reducible rfl))
        try simp only [Act.put, List.setIfInBounds_toArray, List.set_cons_zero, List.set_cons_succ]
        refine wpAnyH_take (i := 3) (v := ?z754) (by simp; rfl) (by kernel_rfl) (by kernel_rfl) (by kernel_rfl) (by exact fun _ _ _ h => h) (Or.inl ⟨by rfl, ?yz754⟩) hHeld ?_
        case yz754 => (intro wx hSw; have hSx := Ex1.mk hSw; go_simp; (try with_reducible rfl))
        try simp only [Act.put, List.setIfInBounds_toArray, List.set_cons_zero, List.set_cons_succ]
        refine wpAnyH_take (i := 4) (v := ?z755) (by simp; rfl) (by kernel_rfl) (by kernel_rfl) (by kernel_rfl) (by exact fun _ _ _ h => h) (Or.inl ⟨by rfl, ?yz755⟩) hHeld ?_
        case yz755 => (intro wx hSw; have hSx := Ex1.mk hSw; go_simp; (try with_reducible rfl))
        try simp only [Act.put, List.setIfInBounds_toArray, List.set_cons_zero, List.set_cons_succ]
        refine wpAnyH_ready (rs := [2]) (by kernel_rfl) (by simp) ?_
        refine AllReadyH.cons (by simp; rfl) (fun K hK => ?_) AllReadyH.nil
        go_simp
        (go_at_call 36; (with_reducible refine Calls.cE (pAngleV (by omega) HS) ?_); intros)
        refine hK.out _ _ inferInstance ?_
        clear hHeld hK K
        intro hHeld
        try simp only [Act.put, List.setIfInBounds_toArray, List.set_cons_zero, List.set_cons_succ]
        refine wpAnyH_take (i := 5) (v := ?z756) (by simp; rfl) (by kernel_rfl) (by kernel_rfl) (by kernel_rfl) (by exact fun _ _ _ h => h) (Or.inl ⟨by rfl, ?yz756⟩) hHeld ?_
        case yz756 => (intro wx hSw; have hSx := Ex1.mk hSw; go_simp; (try with_reducible rfl))
        try simp only [Act.put, List.setIfInBounds_toArray, List.set_cons_zero, List.set_cons_succ]
        refine wpAnyH_take (i := 6) (v := ?z757) (by simp; rfl) (by kernel_rfl) (by kernel_rfl) (by kernel_rfl) (by exact fun _ _ _ h => h) (Or.inl ⟨by rfl, ?yz757⟩) hHeld ?_
        case yz757 => (intro wx hSw; have hSx := Ex1.mk hSw; go_simp; (try with_reducible rfl))
        try simp only [Act.put, List.setIfInBounds_toArray, List.set_cons_zero, List.set_cons_succ]
        refine wpAnyH_take (i := 7) (v := ?z758) (by simp; rfl) (by kernel_rfl) (by kernel_rfl) (by kernel_rfl) (by exact fun _ _ _ h => h) (Or.inl ⟨by rfl, ?yz758⟩) hHeld ?_
        case yz758 => (intro wx hSw; have hSx := Ex1.mk hSw; go_simp; (try with_reducible rfl))
        try simp only [Act.put, List.setIfInBounds_toArray, List.set_cons_zero, List.set_cons_succ]
        refine wpAnyH_take (i := 8) (v := ?z759) (by simp; rfl) (by kernel_rfl) (by kernel_rfl) (by kernel_rfl) (by exact fun _ _ _ h => h) (Or.inl ⟨by rfl, ?yz759⟩) hHeld ?_
        case yz759 => (intro wx hSw; have hSx := Ex1.mk hSw; go_simp; (try with_reducible rfl))
        try simp only [Act.put, List.setIfInBounds_toArray, List.set_cons_zero, List.set_cons_succ]
        refine wpAnyH_take (i := 9) (v := ?z760) (by simp; rfl) (by kernel_rfl) (by kernel_rfl) (by kernel_rfl) (by exact fun _ _ _ h => h) (Or.inl ⟨by rfl, ?yz760⟩) hHeld ?_
        case yz760 => (intro wx hSw; have hSx := Ex1.mk hSw; go_simp; (try with_reducible rfl))
        try simp only [Act.put, List.setIfInBounds_toArray, List.set_cons_zero, List.set_cons_succ]
        refine wpAnyH_take (i := 10) (v := undef) (by simp; rfl) (by kernel_rfl) (by kernel_rfl) (by kernel_rfl) (by exact fun _ _ _ h => h) (Or.inr ⟨by rfl, rfl⟩) hHeld ?_
        try simp only [Act.put, List.setIfInBounds_toArray, List.set_cons_zero, List.set_cons_succ]
        refine wpAnyH_take (i := 11) (v := undef) (by simp; rfl) (by kernel_rfl) (by kernel_rfl) (by kernel_rfl) (by exact fun _ _ _ h => h) (Or.inr ⟨by rfl, rfl⟩) hHeld ?_
        try simp only [Act.put, List.setIfInBounds_toArray, List.set_cons_zero, List.set_cons_succ]
        refine wpAnyH_take (i := 12) (v := ?z763) (by simp; rfl) (by kernel_rfl) (by kernel_rfl) (by kernel_rfl) (by exact fun _ _ _ h => h) (Or.inl ⟨by rfl, ?yz763⟩) hHeld ?_
        case yz763 => (intro wx hSw; have hSx := Ex1.mk hSw; go_simp; (try with_reducible rfl))
        try simp only [Act.put, List.setIfInBounds_toArray, List.set_cons_zero, List.set_cons_succ]
        refine wpAnyH_take (i := 13) (v := ?z764) (by simp; rfl) (by kernel_rfl) (by kernel_rfl) (by kernel_rfl) (by exact fun _ _ _ h => h) (Or.inl ⟨by rfl, ?yz764⟩) hHeld ?_
        case yz764 => (intro wx hSw; have hSx := Ex1.mk hSw; go_simp; (try with_reducible rfl))
        try simp only [Act.put, List.setIfInBounds_toArray, List.set_cons_zero, List.set_cons_succ]
        refine wpAnyH_take (i := 14) (v := undef) (by simp; rfl) (by kernel_rfl) (by kernel_rfl) (by kernel_rfl) (by exact fun _ _ _ h => h) (Or.inr ⟨by rfl, rfl⟩) hHeld ?_
        try simp only [Act.put, List.setIfInBounds_toArray, List.set_cons_zero, List.set_cons_succ]
        refine wpAnyH_take (i := 15) (v := undef) (by simp; rfl) (by kernel_rfl) (by kernel_rfl) (by kernel_rfl) (by exact fun _ _ _ h => h) (Or.inr ⟨by rfl, rfl⟩) hHeld ?_
        try simp only [Act.put, List.setIfInBounds_toArray, List.set_cons_zero, List.set_cons_succ]
        refine wpAnyH_take (i := 16) (v := ?z767) (by simp; rfl) (by kernel_rfl) (by kernel_rfl) (by kernel_rfl) (by exact fun _ _ _ h => h) (Or.inl ⟨by rfl, ?yz767⟩) hHeld ?_
        case yz767 => (intro wx hSw; have hSx := Ex1.mk hSw; go_simp; (try with_reducible rfl))
        try simp only [Act.put, List.setIfInBounds_toArray, List.set_cons_zero, List.set_cons_succ]
        refine wpAnyH_take (i := 17) (v := ?z768) (by simp; rfl) (by kernel_rfl) (by kernel_rfl) (by kernel_rfl) (by exact fun _ _ _ h => h) (Or.inl ⟨by rfl, ?yz768⟩) hHeld ?_
        case yz768 => (intro wx hSw; have hSx := Ex1.mk hSw; go_simp; (try with_reducible rfl))
        try simp only [Act.put, List.setIfInBounds_toArray, List.set_cons_zero, List.set_cons_succ]
        refine wpAnyH_take (i := 18) (v := ?z769) (by simp; rfl) (by kernel_rfl) (by kernel_rfl) (by kernel_rfl) (by exact fun _ _ _ h => h) (Or.inl ⟨by rfl, ?yz769⟩) hHeld ?_
        case yz769 => (intro wx hSw; have hSx := Ex1.mk hSw; go_simp; (try with_reducible rfl))
        try simp only [Act.put, List.setIfInBounds_toArray, List.set_cons_zero, List.set_cons_succ]
        refine wpAnyH_take (i := 19) (v := ?z770) (by simp; rfl) (by kernel_rfl) (by kernel_rfl) (by kernel_rfl) (by exact fun _ _ _ h => h) (Or.inl ⟨by rfl, ?yz770⟩) hHeld ?_
        case yz770 => (intro wx hSw; have hSx := Ex1.mk hSw; go_simp; (try with_reducible rfl))
        try simp only [Act.put, List.setIfInBounds_toArray, List.set_cons_zero, List.set_cons_succ]
        refine wpAnyH_take (i := 20) (v := ?z771) (by simp; rfl) (by kernel_rfl) (by kernel_rfl) (by kernel_rfl) (by exact fun _ _ _ h => h) (Or.inl ⟨by rfl, ?yz771⟩) hHeld ?_
        case yz771 => (intro wx hSw; have hSx := Ex1.mk hSw; go_simp; (try with_reducible rfl))
        try simp only [Act.put, List.setIfInBounds_toArray, List.set_cons_zero, List.set_cons_succ]
        refine wpAnyH_take (i := 21) (v := ?z772) (by simp; rfl) (by kernel_rfl) (by kernel_rfl) (by kernel_rfl) (by exact fun _ _ _ h => h) (Or.inl ⟨by rfl, ?yz772⟩) hHeld ?_
        case yz772 => (intro wx hSw; have hSx := Ex1.mk hSw; go_simp; (try with_reducible rfl))
        try simp only [Act.put, List.setIfInBounds_toArray, List.set_cons_zero, List.set_cons_succ]
        refine wpAnyH_take (i := 22) (v := ?z773) (by simp; rfl) (by kernel_rfl) (by kernel_rfl) (by kernel_rfl) (by exact fun _ _ _ h => h) (Or.inl ⟨by rfl, ?yz773⟩) hHeld ?_
        case yz773 => (intro wx hSw; have hSx := Ex1.mk hSw; go_simp; (try with_reducible rfl))
        try simp only [Act.put, List.setIfInBounds_toArray, List.set_cons_zero, List.set_cons_succ]
        refine wpAnyH_take (i := 23) (v := ?z774) (by simp; rfl) (by kernel_rfl) (by kernel_rfl) (by kernel_rfl) (by exact fun _ _ _ h => h) (Or.inl ⟨by rfl, ?yz774⟩) hHeld ?_
        case yz774 => (intro wx hSw; have hSx := Ex1.mk hSw; go_simp; (try with_reducible rfl))
        try simp only [Act.put, List.setIfInBounds_toArray, List.set_cons_zero, List.set_cons_succ]
        refine wpAnyH_take (i := 24) (v := ?z775) (by simp; rfl) (by kernel_rfl) (by kernel_rfl) (by kernel_rfl) (by exact fun _ _ _ h => h) (Or.inl ⟨by rfl, ?yz775⟩) hHeld ?_
        case yz775 => (intro wx hSw; have hSx := Ex1.mk hSw; go_simp; (try with_reducible rfl))
        try simp only [Act.put, List.setIfInBounds_toArray, List.set_cons_zero, List.set_cons_succ]
        refine wpAnyH_take (i := 25) (v := ?z776) (by simp; rfl) (by kernel_rfl) (by kernel_rfl) (by kernel_rfl) (by exact fun _ _ _ h => h) (Or.inl ⟨by rfl, ?yz776⟩) hHeld ?_
        case yz776 => (intro wx hSw; have hSx := Ex1.mk hSw; go_simp; (try with_reducible rfl))
        try simp only [Act.put, List.setIfInBounds_toArray, List.set_cons_zero, List.set_cons_succ]
        refine wpAnyH_take (i := 26) (v := ?z777) (by simp; rfl) (by kernel_rfl) (by kernel_rfl) (by kernel_rfl) (by exact fun _ _ _ h => h) (Or.inl ⟨by rfl, ?yz777⟩) hHeld ?_
        case yz777 => (intro wx hSw; have hSx := Ex1.mk hSw; go_simp; (try with_reducible rfl))
        try simp only [Act.put, List.setIfInBounds_toArray, List.set_cons_zero, List.set_cons_succ]
        refine wpAnyH_take (i := 27) (v := ?z778) (by simp; rfl) (by kernel_rfl) (by kernel_rfl) (by kernel_rfl) (by exact fun _ _ _ h => h) (Or.inl ⟨by rfl, ?yz778⟩) hHeld ?_
        case yz778 => (intro wx hSw; have hSx := Ex1.mk hSw; go_simp; (try with_reducible rfl))
        try simp only [Act.put, List.setIfInBounds_toArray, List.set_cons_zero, List.set_cons_succ]
        refine wpAnyH_take (i := 28) (v := ?z779) (by simp; rfl) (by kernel_rfl) (by kernel_rfl) (by kernel_rfl) (by exact fun _ _ _ h => h) (Or.inl ⟨by rfl, ?yz779⟩) hHeld ?_
        case yz779 => (intro wx hSw; have hSx := Ex1.mk hSw; go_simp; (try with_reducible rfl))
        try simp only [Act.put, List.setIfInBounds_toArray, List.set_cons_zero, List.set_cons_succ]
        refine wpAnyH_take (i := 29) (v := ?z780) (by simp; rfl) (by kernel_rfl) (by kernel_rfl) (by kernel_rfl) (by exact fun _ _ _ h => h) (Or.inl ⟨by rfl, ?yz780⟩) hHeld ?_
        case yz780 => (intro wx hSw; have hSx := Ex1.mk hSw; go_simp; (try with_reducible rfl))
        try simp only [Act.put, List.setIfInBounds_toArray, List.set_cons_zero, List.set_cons_succ]
        refine wpAnyH_take (i := 30) (v := ?z781) (by simp; rfl) (by kernel_rfl) (by kernel_rfl) (by kernel_rfl) (by exact fun _ _ _ h => h) (Or.inl ⟨by rfl, ?yz781⟩) hHeld ?_
        case yz781 => (intro wx hSw; have hSx := Ex1.mk hSw; go_simp; (try with_reducible rfl))
        try simp only [Act.put, List.setIfInBounds_toArray, List.set_cons_zero, List.set_cons_succ]
        refine wpAnyH_take (i := 31) (v := ?z782) (by simp; rfl) (by kernel_rfl) (by kernel_rfl) (by kernel_rfl) (by exact fun _ _ _ h => h) (Or.inl ⟨by rfl, ?yz782⟩) hHeld ?_
        case yz782 => (intro wx hSw; have hSx := Ex1.mk hSw; go_simp; (try with_reducible rfl))
        try simp only [Act.put, List.setIfInBounds_toArray, List.set_cons_zero, List.set_cons_succ]
        refine wpAnyH_take (i := 32) (v := ?z783) (by simp; rfl) (by kernel_rfl) (by kernel_rfl) (by kernel_rfl) (by exact fun _ _ _ h => h) (Or.inl ⟨by rfl, ?yz783⟩) hHeld ?_
        case yz783 => (intro wx hSw; have hSx := Ex1.mk hSw; go_simp; (try with_reducible rfl))
        try simp only [Act.put, List.setIfInBounds_toArray, List.set_cons_zero, List.set_cons_succ]
        refine wpAnyH_take (i := 37) (v := ?z784) (by simp; rfl) (by kernel_rfl) (by kernel_rfl) (by kernel_rfl) (by exact fun _ _ _ h => h) (Or.inl ⟨by rfl, ?yz784⟩) hHeld ?_
        case yz784 => (intro wx hSw; have hSx := Ex1.mk hSw; go_simp; (try with_reducible rfl))
        try simp only [Act.put, List.setIfInBounds_toArray, List.set_cons_zero, List.set_cons_succ]
        refine wpAnyH_ready (rs := [33]) (by kernel_rfl) (by simp) ?_
        refine AllReadyH.cons (by simp; rfl) (fun K hK => ?_) AllReadyH.nil
        go_simp
        (go_at_call 40; (with_reducible refine Calls.cNext (nextC (by omega)) ?_); intro W6 _ _ v v0 v1; have ev : IntKind.i64.wrap (1 + v) = 1 + v := (by rw [IntKind.wrap_i64]; omega))
        refine hK.out _ _ inferInstance ?_
        clear hHeld hK K
        intro hHeld
        try simp only [Act.put, List.setIfInBounds_toArray, List.set_cons_zero, List.set_cons_succ]
        refine wpAnyH_take (i := 34) (v := ?z785) (by simp; rfl) (by kernel_rfl) (by kernel_rfl) (by kernel_rfl) (by exact fun _ _ _ h => h) (Or.inl ⟨by rfl, ?yz785⟩) hHeld ?_
        case yz785 => (intro wx hSw; have hSx := Ex1.mk hSw; go_simp; (try with_reducible rfl))
        try simp only [Act.put, List.setIfInBounds_toArray, List.set_cons_zero, List.set_cons_succ]
        refine wpAnyH_ready (rs := [35]) (by kernel_rfl) (by simp) ?_
        refine AllReadyH.cons (by simp; rfl) (fun K hK => ?_) AllReadyH.nil
        go_simp
        (go_at_call 39; (with_reducible refine Calls.cQ (numPartC (by omega)) ?_); intros)
        refine hK.out _ _ inferInstance ?_
        clear hHeld hK K
        intro hHeld
        try simp only [Act.put, List.setIfInBounds_toArray, List.set_cons_zero, List.set_cons_succ]
        refine wpAnyH_ready (rs := [36]) (by kernel_rfl) (by simp) ?_
        refine AllReadyH.cons (by simp; rfl) (fun K hK => ?_) AllReadyH.nil
        go_simp
        (go_at_call 38; (with_reducible refine Calls.cA (toQC (by omega)) ?_); intros)
        refine hK.out _ _ inferInstance ?_
        clear hHeld hK K
        intro hHeld
        try simp only [Act.put, List.setIfInBounds_toArray, List.set_cons_zero, List.set_cons_succ]
        refine wpAnyH_ready (rs := [38]) (by kernel_rfl) (by simp) ?_
        refine AllReadyH.cons (by simp; rfl) (fun K hK => ?_) AllReadyH.nil
        go_simp
        (go_at_call 37; (with_reducible refine Calls.cPA (pScaleC (by omega)) ?_); intros)
        refine hK.out _ _ inferInstance ?_
        clear hHeld hK K
        intro hHeld
        try simp only [Act.put, List.setIfInBounds_toArray, List.set_cons_zero, List.set_cons_succ]
        refine wpAnyH_ready (rs := [39]) (by kernel_rfl) (by simp) ?_
        refine AllReadyH.cons (by simp; rfl) (fun K hK => ?_) AllReadyH.nil
        go_simp
        (go_at_call 36; (with_reducible refine Calls.cE (pAngleV (by omega) (Lib.hid (angle_scale (part_pos v0)))) ?_); intros)
        refine hK.out _ _ inferInstance ?_
        clear hHeld hK K
        intro hHeld
        try simp only [Act.put, List.setIfInBounds_toArray, List.set_cons_zero, List.set_cons_succ]
        refine wpAnyH_take (i := 40) (v := ?z786) (by simp; rfl) (by kernel_rfl) (by kernel_rfl) (by kernel_rfl) (by exact fun _ _ _ h => h) (Or.inl ⟨by rfl, ?yz786⟩) hHeld ?_
        case yz786 => (intro wx hSw; have hSx := Ex1.mk hSw; go_simp; (try with_reducible rfl))
        try simp only [Act.put, List.setIfInBounds_toArray, List.set_cons_zero, List.set_cons_succ]
        refine wpAnyH_take (i := 41) (v := ?z787) (by simp; rfl) (by kernel_rfl) (by kernel_rfl) (by kernel_rfl) (by exact fun _ _ _ h => h) (Or.inl ⟨by rfl, ?yz787⟩) hHeld ?_
        case yz787 => (intro wx hSw; have hSx := Ex1.mk hSw; go_simp; (try with_reducible rfl))
        try simp only [Act.put, List.setIfInBounds_toArray, List.set_cons_zero, List.set_cons_succ]
        refine wpAnyH_done (by kernel_rfl) ?_ _
        clear hHeld
        go_wp2_with fail
        go_meet
        exact ⟨rfl, inferInstance, inferInstance⟩
  case rest =>
    obtain ⟨rfl, ⟨i4⟩, i5⟩ := hcut
    have i6 : Ct W5 w.heap.size := inferInstance
    have i7 := Tp1.mk i4 i6.out
    have he := HE.out
    clear HE t1 t2 HS
    go_wp2_with fail
    refine region_cls (by kernel_rfl) [] (fun hHeld => ?_)
    refine wpAnyH_take (i := 0) (v := ?z788) (by simp; rfl) (by kernel_rfl) (by kernel_rfl) (by kernel_rfl) (by exact fun _ _ _ h => h) (Or.inl ⟨by rfl, ?yz788⟩) hHeld ?_
    case yz788 => (intro wx hSw; have hSx := Ex1.mk hSw; go_simp; (try with_reducible rfl))
    try simp only [Act.put, List.setIfInBounds_toArray, List.set_cons_zero, List.set_cons_succ]
    refine wpAnyH_take (i := 1) (v := ?z789) (by simp; rfl) (by kernel_rfl) (by kernel_rfl) (by kernel_rfl) (by exact fun _ _ _ h => h) (Or.inl ⟨by rfl, ?yz789⟩) hHeld ?_
    case yz789 => (intro wx hSw; have hSx := Ex1.mk hSw; go_simp; (try with_reducible rfl))
    try simp only [Act.put, List.setIfInBounds_toArray, List.set_cons_zero, List.set_cons_succ]
    refine wpAnyH_take (i := 2) (v := ?z790) (by simp; rfl) (by kernel_rfl) (by kernel_rfl) (by kernel_rfl) (by exact fun _ _ _ h => h) (Or.inl ⟨by rfl, ?yz790⟩) hHeld ?_
    case yz790 => (intro wx hSw; have hSx := Ex1.mk hSw; go_simp; (try with_reducible rfl))
    try simp only [Act.put, List.setIfInBounds_toArray, List.set_cons_zero, List.set_cons_succ]
    refine wpAnyH_take (i := 4) (v := ?z791) (by simp; rfl) (by kernel_rfl) (by kernel_rfl) (by kernel_rfl) (by exact fun _ _ _ h => h) (Or.inl ⟨by rfl, ?yz791⟩) hHeld ?_
    case yz791 => (intro wx hSw; have hSx := Ex1.mk hSw; go_simp; (try with_reducible rfl))
    try simp only [Act.put, List.setIfInBounds_toArray, List.set_cons_zero, List.set_cons_succ]
    refine wpAnyH_ready (rs := [3]) (by kernel_rfl) (by simp) ?_
    refine AllReadyH.cons (by simp; rfl) (fun K hK => ?_) AllReadyH.nil
    go_simp
    (go_at_call 41; (with_reducible refine Calls.cPA (pPrimC (by omega)) ?_); intros)
    refine hK.out _ _ inferInstance ?_
    clear hHeld hK K
    intro hHeld
    try simp only [Act.put, List.setIfInBounds_toArray, List.set_cons_zero, List.set_cons_succ]
    refine wpAnyH_ready (rs := [5]) (by kernel_rfl) (by simp) ?_
    refine AllReadyH.cons (by simp; rfl) (fun K hK => ?_) AllReadyH.nil
    go_simp
    (go_at_call 41; (with_reducible refine Calls.cPA (pPrimC (by omega)) ?_); intros)
    refine hK.out _ _ inferInstance ?_
    clear hHeld hK K
    intro hHeld
    try simp only [Act.put, List.setIfInBounds_toArray, List.set_cons_zero, List.set_cons_succ]
    refine wpAnyH_ready (rs := [6]) (by kernel_rfl) (by simp) ?_
    refine AllReadyH.cons (by simp; rfl) (fun K hK => ?_) AllReadyH.nil
    go_simp
    (go_at_call 19; (with_reducible refine Calls.cE (pSameV (by omega) HP) ?_); intro W7 _)
    refine hK.out _ _ inferInstance ?_
    clear hHeld hK K
    intro hHeld
    try simp only [Act.put, List.setIfInBounds_toArray, List.set_cons_zero, List.set_cons_succ]
    refine wpAnyH_take (i := 7) (v := ?z792) (by simp; rfl) (by kernel_rfl) (by kernel_rfl) (by kernel_rfl) (by exact fun _ _ _ h => h) (Or.inl ⟨by rfl, ?yz792⟩) hHeld ?_
    case yz792 => (intro wx hSw; have hSx := Ex1.mk hSw; go_simp; (try with_reducible rfl))
    try simp only [Act.put, List.setIfInBounds_toArray, List.set_cons_zero, List.set_cons_succ]
    refine wpAnyH_done (by kernel_rfl) ?_ _
    clear hHeld
    clear he
    go_upto_region 8 with fail
    go_cut [10, 11] from 82 to 85 (fun p q wx => A2Rel W7 x1 y1 x2 y2 p q wx)
    case first =>
      refine region_t (by kernel_rfl) [] (List.contains []) (fun hHeld => ?_)
      refine wpAnyT_take (i := 0) (v := ?z793) (by simp; rfl) (by kernel_rfl) (by kernel_rfl) (by kernel_rfl) (by exact fun _ _ _ h => h) (T_waits (by kernel_rfl)) (Or.inl ⟨by rfl, ?yz793⟩) hHeld ?_
      case yz793 => (intro wx hSw; have hSx := Ex1.mk hSw; go_simp; (try with_reducible rfl))
      try simp only [Act.put, List.setIfInBounds_toArray, List.set_cons_zero, List.set_cons_succ]
      refine wpAnyT_take (i := 2) (v := ?z794) (by simp; rfl) (by kernel_rfl) (by kernel_rfl) (by kernel_rfl) (by exact fun _ _ _ h => h) (T_waits (by kernel_rfl)) (Or.inl ⟨by rfl, ?yz794⟩) hHeld ?_
      case yz794 => (intro wx hSw; have hSx := Ex1.mk hSw; go_simp; (try with_reducible rfl))
      try simp only [Act.put, List.setIfInBounds_toArray, List.set_cons_zero, List.set_cons_succ]
      refine wpAnyT_inv [(1, 83), (3, 85), (4, 10), (5, 11)] (fun i => match i with | 1 => [] | 3 => [1] | 4 => [] | 5 => [] | _ => []) [phiPQ x1 y1 20, phiPQ x2 y2 20, phiB W7 38 [.bool false, .slice none 0 0, .slice none 0 0, .bool false, .slice none 0 0, .slice none 0 0], phiB W7 38 [.bool false, .slice none 0 0, .slice none 0 0, .bool false, .slice none 0 0, .slice none 0 0]] [4, 5] 2 (by rfl) (by decide +kernel) (by decide) (by decide) (by kernel_rfl) ?_ (fun _ _ => Ex.below) hHeld ?_ ?_
      · intro i hi v W h
        simp only [List.mem_cons, List.not_mem_nil, or_false] at hi
        rcases hi with rfl | rfl
        all_goals exact phiB.old h
      · intro i hi f W hSw hbw hp
        have kw := Kp1.mk hbw
        have hSx := Ex1.mk hSw
        clear hHeld
        simp only [List.map_cons, List.map_nil, List.mem_cons, List.not_mem_nil, or_false] at hi
        rcases hi with rfl | rfl | rfl | rfl
        · refine ⟨_, by simp; rfl, fun K' hK => ?_⟩
          clear hp
          simp only [putAll, Act.put, List.setIfInBounds_toArray, List.set_cons_zero, List.set_cons_succ] at hK ⊢
          generalize f 1 = v1 at *
          generalize f 3 = v3 at *
          generalize f 4 = v4 at *
          generalize f 5 = v5 at *
          go_simp
          (go_at_call 14; (with_reducible refine Calls.cPQ (refPtC (by omega)) ?_); intros)
          refine hK.out _ _ _ rfl ?_ ?_ ?_
          · exact (inferInstance : Kp W _).out
          · show phiPQ x1 y1 20 _ _
            exact phiPQ.fin (by omega) (by omega)
          · exact fun h => absurd h (by decide)
        · have h1 : phiPQ x1 y1 20 (f 1) W := hp 1 (by decide)
          refine ⟨_, by simp; rfl, fun K' hK => ?_⟩
          clear hp
          simp only [putAll, Act.put, List.setIfInBounds_toArray, List.set_cons_zero, List.set_cons_succ] at hK ⊢
          generalize f 1 = v1 at *
          generalize f 3 = v3 at *
          generalize f 4 = v4 at *
          generalize f 5 = v5 at *
          obtain ⟨gq1, aq1, lq1, cq1, aaq1, llq1, ccq1, Gq1, Aq1, Lq1, Cq1, AAq1, LLq1, CCq1, rfl, iq1, jq1⟩ := h1
          go_simp
          (go_at_call 14; (with_reducible refine Calls.cPQ (refPtC (by omega)) ?_); intros)
          refine hK.out _ _ _ rfl ?_ ?_ ?_
          · exact (inferInstance : Kp W _).out
          · show phiPQ x2 y2 20 _ _
            exact phiPQ.fin (by omega) (by omega)
          · exact fun h => absurd h (by decide)
        · refine ⟨_, by simp; rfl, fun K' hK => ?_⟩
          clear hp
          simp only [putAll, Act.put, List.setIfInBounds_toArray, List.set_cons_zero, List.set_cons_succ] at hK ⊢
          generalize f 1 = v1 at *
          generalize f 3 = v3 at *
          generalize f 4 = v4 at *
          generalize f 5 = v5 at *
          go_simp
          refine hK.out _ _ _ rfl ?_ ?_ ?_
          · exact (inferInstance : Kp W _).out
          · show phiB W7 38 [.bool false, .slice none 0 0, .slice none 0 0, .bool false, .slice none 0 0, .slice none 0 0] _ _
            exact phiB.fin
          · exact fun _ => ⟨_, rfl, Nat.le_refl _⟩
        · refine ⟨_, by simp; rfl, fun K' hK => ?_⟩
          clear hp
          simp only [putAll, Act.put, List.setIfInBounds_toArray, List.set_cons_zero, List.set_cons_succ] at hK ⊢
          generalize f 1 = v1 at *
          generalize f 3 = v3 at *
          generalize f 4 = v4 at *
          generalize f 5 = v5 at *
          go_simp
          refine hK.out _ _ _ rfl ?_ ?_ ?_
          · exact (inferInstance : Kp W _).out
          · show phiB W7 38 [.bool false, .slice none 0 0, .slice none 0 0, .bool false, .slice none 0 0, .slice none 0 0] _ _
            exact phiB.fin
          · exact fun _ => ⟨_, rfl, Nat.le_refl _⟩
      · intro f W hSw hbw hf hne
        have kw := Kp1.mk hbw
        have hSx := Ex1.mk hSw
        clear hHeld
        have h1 : phiPQ x1 y1 20 (f 1) W := hf 1 (by decide)
        have h3 : phiPQ x2 y2 20 (f 3) W := hf 3 (by decide)
        have h4 : phiB W7 38 [.bool false, .slice none 0 0, .slice none 0 0, .bool false, .slice none 0 0, .slice none 0 0] (f 4) W := hf 4 (by decide)
        have h5 : phiB W7 38 [.bool false, .slice none 0 0, .slice none 0 0, .bool false, .slice none 0 0, .slice none 0 0] (f 5) W := hf 5 (by decide)
        have n4_5 := hne 4 5 (by decide) (by decide) (by decide) (by decide) (by decide)
        clear hf hne
        simp only [putAll, lset, List.map_cons, List.map_nil, Act.put, List.setIfInBounds_toArray, List.set_cons_zero, List.set_cons_succ]
        generalize f 1 = v1 at *
        generalize f 3 = v3 at *
        generalize f 4 = v4 at *
        generalize f 5 = v5 at *
        obtain ⟨gq1, aq1, lq1, cq1, aaq1, llq1, ccq1, Gq1, Aq1, Lq1, Cq1, AAq1, LLq1, CCq1, rfl, iq1, jq1⟩ := h1
        obtain ⟨gq3, aq3, lq3, cq3, aaq3, llq3, ccq3, Gq3, Aq3, Lq3, Cq3, AAq3, LLq3, CCq3, rfl, iq3, jq3⟩ := h3
        obtain ⟨b4, rfl, i4, j4, k4⟩ := h4
        obtain ⟨b5, rfl, i5, j5, k5⟩ := h5
        have n4_5 := ptr_ne n4_5
        have n5_4 : NeN b5 b4 := ⟨fun e => n4_5.out e.symm⟩
        have hHeld := hSw
        refine wpAnyT_ready (rs := [6]) (by kernel_rfl) (by simp) ?_
        refine AllT.cons (by simp; rfl) (fun K hK => ?_) AllT.nil
        go_simp
        refine hK.out _ _ (fun _ => inferInstance) ?_
        clear hHeld hK K
        intro hHeld
        have hHeld := hHeld (by decide)
        try simp only [Act.put, List.setIfInBounds_toArray, List.set_cons_zero, List.set_cons_succ]
        refine wpAnyT_ready (rs := [7]) (by kernel_rfl) (by simp) ?_
        refine AllT.cons (by simp; rfl) (fun K hK => ?_) AllT.nil
        go_simp
        refine hK.out _ _ (fun _ => inferInstance) ?_
        clear hHeld hK K
        intro hHeld
        have hHeld := hHeld (by decide)
        try simp only [Act.put, List.setIfInBounds_toArray, List.set_cons_zero, List.set_cons_succ]
        refine wpAnyT_done (by kernel_rfl) ?_ _
        clear hHeld
        go_wp2_with fail
        go_meet
        exact A2Rel.intro (by omega)
    case rest =>
      obtain ⟨b1, b2, g1x, a1x, l1x, c1x, aa1x, ll1x, cc1x, g1y, a1y, l1y, c1y, aa1y, ll1y, cc1y, g2x, a2x, l2x, c2x, aa2x, ll2x, cc2x, g2y, a2y, l2y, c2y, aa2y, ll2y, cc2y, rfl, rfl, k1, k2, j1, j2, j3, j4, ⟨k⟩⟩ := hcut
      have k := Kp1.mk k
      obtain ⟨s1, hs1⟩ : ∃ s, isgn y1.num = s := ⟨_, rfl⟩
      obtain ⟨s2, hs2⟩ : ∃ s, isgn y2.num = s := ⟨_, rfl⟩
      have H1 := Lib.hid hs1
      have H2 := Lib.hid hs2
      by_cases p1 : 0 < s1
      · by_cases p2 : 0 < s2
        · have hu := HU.out (isg_pos.1 (by have := (isgn_bd y1.num).2; omega)) (isg_pos.1 (by have := (isgn_bd y2.num).2; omega))
          obtain ⟨n, hn⟩ : ∃ n, isgn (x1 * y2 - y1 * x2).num = n := ⟨_, rfl⟩
          obtain ⟨q1, q2⟩ := isgn_bd (x1 * y2 - y1 * x2).num
          rw [hn] at hu q1 q2
          have HN := Lib.hid hn
          subst hu
          clear hs1 hs2 hn qa1 qa2 HU
          go_wp2_with (first
            | (go_at_call 42; (with_reducible refine Calls.cE (numSV H1) ?_); intros)
            | (go_at_call 42; (with_reducible refine Calls.cE (numSV H2) ?_); intros)
            | (go_at_call 42; (with_reducible refine Calls.cE (numSV HN) ?_); intros)
            | (go_at_call 44; (with_reducible refine Calls.cA (pCrossC (by omega)) ?_); intros)
            | (go_at_call 43; (with_reducible refine Calls.cQ (refQC (by omega)) ?_); intros)
            | (go_at_call 13; (with_reducible refine Calls.cE (known04C) ?_); intros)
            | (go_at_call 36; (with_reducible refine Calls.cE (pAngleV (by omega) HZ1) ?_); intros)
            | (go_at_call 36; (with_reducible refine Calls.cE (pAngleV (by omega) HZ2) ?_); intros))
          go_ret
          exact E.fin rfl
        · have p2' : s2 ≤ 0 := by omega
          clear hs1 hs2 p2 HU
          go_wp2_with (first
            | (go_at_call 42; (with_reducible refine Calls.cE (numSV H1) ?_); intros)
            | (go_at_call 42; (with_reducible refine Calls.cE (numSV H2) ?_); intros)
            | (go_at_call 44; (with_reducible refine Calls.cA (pCrossC (by omega)) ?_); intros)
            | (go_at_call 43; (with_reducible refine Calls.cQ (refQC (by omega)) ?_); intros)
            | (go_at_call 13; (with_reducible refine Calls.cE (known04C) ?_); intros)
            | (go_at_call 36; (with_reducible refine Calls.cE (pAngleV (by omega) HZ1) ?_); intros)
            | (go_at_call 36; (with_reducible refine Calls.cE (pAngleV (by omega) HZ2) ?_); intros))
          go_ret
          exact E.fin rfl
      · have p1' : s1 ≤ 0 := by omega
        clear hs1 hs2 p1 HU
        go_wp2_with (first
            | (go_at_call 42; (with_reducible refine Calls.cE (numSV H1) ?_); intros)
            | (go_at_call 42; (with_reducible refine Calls.cE (numSV H2) ?_); intros)
            | (go_at_call 44; (with_reducible refine Calls.cA (pCrossC (by omega)) ?_); intros)
            | (go_at_call 43; (with_reducible refine Calls.cQ (refQC (by omega)) ?_); intros)
            | (go_at_call 13; (with_reducible refine Calls.cE (known04C) ?_); intros)
            | (go_at_call 36; (with_reducible refine Calls.cE (pAngleV (by omega) HZ1) ?_); intros)
            | (go_at_call 36; (with_reducible refine Calls.cE (pAngleV (by omega) HZ2) ?_); intros))
        go_ret
        exact E.fin rfl
end Go.Proofs.YtlameeijogdckaaGreat
