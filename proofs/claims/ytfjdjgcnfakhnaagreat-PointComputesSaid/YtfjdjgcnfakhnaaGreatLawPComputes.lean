/-
  The walk of the law PointComputes: it returns true and changes nothing that was there.
  Printed by a small program (mklaw4b.py).
-/
import Derived.Test.YtfjdjgcnfakhnaaGreatTxt
import Derived.Test.YtfjdjgcnfakhnaaGreatRough
namespace Go.Proofs.YtfjdjgcnfakhnaaGreat
open Go.RowKit

set_option linter.unusedSimpArgs false
set_option maxRecDepth 100000 in
set_option maxHeartbeats 4000000 in
set_option synthInstance.maxSize 100000 in
set_option synthInstance.maxHeartbeats 1000000 in
theorem known04C {w : World} : Calls Tryz.prog 10 #[] w fun e w' => e = .returned (.bool true) ∧ Below w.heap.size w w' := by
  have H1 : Hid (orientR ((0 : Int) : Rat) ((0 : Int) : Rat) ((1 : Int) : Rat) ((0 : Int) : Rat) ((0 : Int) : Rat) ((1 : Int) : Rat) = 1) := by show _ = _; decide +kernel
  have H2 : Hid (angleR ((0 : Int) : Rat) ((1 : Int) : Rat) ((-1 : Int) : Rat) ((0 : Int) : Rat) = -1) := by show _ = _; decide +kernel
  have e0 : Hid (((0 : Int) : Rat).den = 1) := rfl
  have e1 : Hid (((1 : Int) : Rat).den = 1) := rfl
  have f0 : (dl ((0 : Int) : Rat).num.natAbs).length ≤ 100000000 := by rw [show ((0 : Int) : Rat).num.natAbs = 0 from rfl, dl_zero]; decide
  have f1 : (dl ((1 : Int) : Rat).num.natAbs).length ≤ 100000000 := by rw [show ((1 : Int) : Rat).num.natAbs = 1 from rfl, show dl 1 = [1] by simp [dl_pos, dl_zero]]; decide
  have h0 : Hid (decI ((0 : Int) : Rat).num = ⟨#[48]⟩) := by
    show decI 0 = _
    unfold decI decStr decBytes
    rw [show (0 : Int).natAbs = 0 from rfl, dl_zero]; rfl
  have h1 : Hid (decI ((1 : Int) : Rat).num = ⟨#[49]⟩) := by
    show decI 1 = _
    unfold decI decStr decBytes
    rw [show (1 : Int).natAbs = 1 from rfl, show dl 1 = [1] by simp [dl_pos, dl_zero]]; rfl
  go_enter Tryz.func10, Tryz.ntmps10
  go_wp2_with (first
    | (go_at_call 32; (with_reducible refine Calls.cPA (fromIntsC (by omega)) ?_); intros))
  go_wp2_with fail
  refine region_cls (by kernel_rfl) [] (fun hHeld => ?_)
  refine wpAnyH_take (i := 2) (v := ?z191) (by simp; rfl) (by kernel_rfl) (by kernel_rfl) (by kernel_rfl) (by exact fun _ _ _ h => h) (Or.inl ⟨by rfl, ?yz191⟩) hHeld ?_
  case yz191 => (intro wx hSw; have hSx := Ex1.mk hSw; go_simp; (try with_reducible rfl))
  try simp only [Act.put, List.setIfInBounds_toArray, List.set_cons_zero, List.set_cons_succ]
  refine wpAnyH_ready (rs := [0]) (by kernel_rfl) (by simp) ?_
  refine AllReadyH.cons (by simp; rfl) (fun K hK => ?_) AllReadyH.nil
  go_simp
  (go_at_call 32; (with_reducible refine Calls.cPA (fromIntsC (by omega)) ?_); intros)
  refine hK.out _ _ inferInstance ?_
  clear hHeld hK K
  intro hHeld
  try simp only [Act.put, List.setIfInBounds_toArray, List.set_cons_zero, List.set_cons_succ]
  refine wpAnyH_ready (rs := [1]) (by kernel_rfl) (by simp) ?_
  refine AllReadyH.cons (by simp; rfl) (fun K hK => ?_) AllReadyH.nil
  go_simp
  (go_at_call 32; (with_reducible refine Calls.cPA (fromIntsC (by omega)) ?_); intros)
  refine hK.out _ _ inferInstance ?_
  clear hHeld hK K
  intro hHeld
  try simp only [Act.put, List.setIfInBounds_toArray, List.set_cons_zero, List.set_cons_succ]
  refine wpAnyH_ready (rs := [3]) (by kernel_rfl) (by simp) ?_
  refine AllReadyH.cons (by simp; rfl) (fun K hK => ?_) AllReadyH.nil
  go_simp
  (go_at_call 24; (with_reducible refine Calls.cE (pOrientV (by omega) H1) ?_); intros)
  refine hK.out _ _ inferInstance ?_
  clear hHeld hK K
  intro hHeld
  try simp only [Act.put, List.setIfInBounds_toArray, List.set_cons_zero, List.set_cons_succ]
  refine wpAnyH_take (i := 4) (v := ?z192) (by simp; rfl) (by kernel_rfl) (by kernel_rfl) (by kernel_rfl) (by exact fun _ _ _ h => h) (Or.inl ⟨by rfl, ?yz192⟩) hHeld ?_
  case yz192 => (intro wx hSw; have hSx := Ex1.mk hSw; go_simp; (try with_reducible rfl))
  try simp only [Act.put, List.setIfInBounds_toArray, List.set_cons_zero, List.set_cons_succ]
  refine wpAnyH_take (i := 5) (v := ?z193) (by simp; rfl) (by kernel_rfl) (by kernel_rfl) (by kernel_rfl) (by exact fun _ _ _ h => h) (Or.inl ⟨by rfl, ?yz193⟩) hHeld ?_
  case yz193 => (intro wx hSw; have hSx := Ex1.mk hSw; go_simp; (try with_reducible rfl))
  try simp only [Act.put, List.setIfInBounds_toArray, List.set_cons_zero, List.set_cons_succ]
  refine wpAnyH_take (i := 6) (v := ?z194) (by simp; rfl) (by kernel_rfl) (by kernel_rfl) (by kernel_rfl) (by exact fun _ _ _ h => h) (Or.inl ⟨by rfl, ?yz194⟩) hHeld ?_
  case yz194 => (intro wx hSw; have hSx := Ex1.mk hSw; go_simp; (try with_reducible rfl))
  try simp only [Act.put, List.setIfInBounds_toArray, List.set_cons_zero, List.set_cons_succ]
  refine wpAnyH_ready (rs := [7]) (by kernel_rfl) (by simp) ?_
  refine AllReadyH.cons (by simp; rfl) (fun K hK => ?_) AllReadyH.nil
  go_simp
  (go_at_call 32; (with_reducible refine Calls.cPA (fromIntsC (by omega)) ?_); intros)
  refine hK.out _ _ inferInstance ?_
  clear hHeld hK K
  intro hHeld
  try simp only [Act.put, List.setIfInBounds_toArray, List.set_cons_zero, List.set_cons_succ]
  refine wpAnyH_ready (rs := [8]) (by kernel_rfl) (by simp) ?_
  refine AllReadyH.cons (by simp; rfl) (fun K hK => ?_) AllReadyH.nil
  go_simp
  (go_at_call 36; (with_reducible refine Calls.cE (pAngleV (by omega) H2) ?_); intros)
  refine hK.out _ _ inferInstance ?_
  clear hHeld hK K
  intro hHeld
  try simp only [Act.put, List.setIfInBounds_toArray, List.set_cons_zero, List.set_cons_succ]
  refine wpAnyH_take (i := 9) (v := ?z195) (by simp; rfl) (by kernel_rfl) (by kernel_rfl) (by kernel_rfl) (by exact fun _ _ _ h => h) (Or.inl ⟨by rfl, ?yz195⟩) hHeld ?_
  case yz195 => (intro wx hSw; have hSx := Ex1.mk hSw; go_simp; (try with_reducible rfl))
  try simp only [Act.put, List.setIfInBounds_toArray, List.set_cons_zero, List.set_cons_succ]
  refine wpAnyH_take (i := 10) (v := ?z196) (by simp; rfl) (by kernel_rfl) (by kernel_rfl) (by kernel_rfl) (by exact fun _ _ _ h => h) (Or.inl ⟨by rfl, ?yz196⟩) hHeld ?_
  case yz196 => (intro wx hSw; have hSx := Ex1.mk hSw; go_simp; (try with_reducible rfl))
  try simp only [Act.put, List.setIfInBounds_toArray, List.set_cons_zero, List.set_cons_succ]
  refine wpAnyH_take (i := 11) (v := ?z197) (by simp; rfl) (by kernel_rfl) (by kernel_rfl) (by kernel_rfl) (by exact fun _ _ _ h => h) (Or.inl ⟨by rfl, ?yz197⟩) hHeld ?_
  case yz197 => (intro wx hSw; have hSx := Ex1.mk hSw; go_simp; (try with_reducible rfl))
  try simp only [Act.put, List.setIfInBounds_toArray, List.set_cons_zero, List.set_cons_succ]
  refine wpAnyH_take (i := 12) (v := ?z198) (by simp; rfl) (by kernel_rfl) (by kernel_rfl) (by kernel_rfl) (by exact fun _ _ _ h => h) (Or.inl ⟨by rfl, ?yz198⟩) hHeld ?_
  case yz198 => (intro wx hSw; have hSx := Ex1.mk hSw; go_simp; (try with_reducible rfl))
  try simp only [Act.put, List.setIfInBounds_toArray, List.set_cons_zero, List.set_cons_succ]
  refine wpAnyH_ready (rs := [13]) (by kernel_rfl) (by simp) ?_
  refine AllReadyH.cons (by simp; rfl) (fun K hK => ?_) AllReadyH.nil
  go_simp
  (go_at_call 53; (with_reducible refine Calls.cE (pFormat1C (by omega) e0.out f0 h0.out e1.out f1 h1.out (by decide) (by decide)) ?_); intros)
  refine hK.out _ _ inferInstance ?_
  clear hHeld hK K
  intro hHeld
  try simp only [Act.put, List.setIfInBounds_toArray, List.set_cons_zero, List.set_cons_succ]
  refine wpAnyH_take (i := 14) (v := ?z199) (by simp; rfl) (by kernel_rfl) (by kernel_rfl) (by kernel_rfl) (by exact fun _ _ _ h => h) (Or.inl ⟨by rfl, ?yz199⟩) hHeld ?_
  case yz199 => (intro wx hSw; have hSx := Ex1.mk hSw; go_simp; (try with_reducible rfl))
  try simp only [Act.put, List.setIfInBounds_toArray, List.set_cons_zero, List.set_cons_succ]
  refine wpAnyH_take (i := 15) (v := ?z200) (by simp; rfl) (by kernel_rfl) (by kernel_rfl) (by kernel_rfl) (by exact fun _ _ _ h => h) (Or.inl ⟨by rfl, ?yz200⟩) hHeld ?_
  case yz200 => (intro wx hSw; have hSx := Ex1.mk hSw; go_simp; (try with_reducible rfl))
  try simp only [Act.put, List.setIfInBounds_toArray, List.set_cons_zero, List.set_cons_succ]
  refine wpAnyH_take (i := 16) (v := ?z201) (by simp; rfl) (by kernel_rfl) (by kernel_rfl) (by kernel_rfl) (by exact fun _ _ _ h => h) (Or.inl ⟨by rfl, ?yz201⟩) hHeld ?_
  case yz201 => (intro wx hSw; have hSx := Ex1.mk hSw; go_simp; (try with_reducible rfl))
  try simp only [Act.put, List.setIfInBounds_toArray, List.set_cons_zero, List.set_cons_succ]
  refine wpAnyH_done (by kernel_rfl) ?_ _
  clear hHeld
  go_wp2
  go_ret
  exact E.fin (congrArg Value.bool (by decide +kernel))

def P3Rel (W5 : World) (x1 y1 x2 y2 x3 y3 : Rat) (p q r : Value) (wx : World) : Prop := ∃ (b1 b2 b3 : Nat) (g1x : Bool) (a1x : Option Addr) (l1x c1x : Nat) (aa1x : Option Addr) (ll1x cc1x : Nat) (g1y : Bool) (a1y : Option Addr) (l1y c1y : Nat) (aa1y : Option Addr) (ll1y cc1y : Nat) (g2x : Bool) (a2x : Option Addr) (l2x c2x : Nat) (aa2x : Option Addr) (ll2x cc2x : Nat) (g2y : Bool) (a2y : Option Addr) (l2y c2y : Nat) (aa2y : Option Addr) (ll2y cc2y : Nat) (g3x : Bool) (a3x : Option Addr) (l3x c3x : Nat) (aa3x : Option Addr) (ll3x cc3x : Nat) (g3y : Bool) (a3y : Option Addr) (l3y c3y : Nat) (aa3y : Option Addr) (ll3y cc3y : Nat), p = .pointer (some ⟨b1, 0, none⟩) ∧ q = .pointer (some ⟨b2, 0, none⟩) ∧ r = .pointer (some ⟨b3, 0, none⟩) ∧ Bx wx b1 40 [.bool g1x, .slice a1x l1x c1x, .slice aa1x ll1x cc1x, .bool g1y, .slice a1y l1y c1y, .slice aa1y ll1y cc1y] ∧ Bx wx b2 40 [.bool g2x, .slice a2x l2x c2x, .slice aa2x ll2x cc2x, .bool g2y, .slice a2y l2y c2y, .slice aa2y ll2y cc2y] ∧ Bx wx b3 40 [.bool g3x, .slice a3x l3x c3x, .slice aa3x ll3x cc3x, .bool g3y, .slice a3y l3y c3y, .slice aa3y ll3y cc3y] ∧ CQ wx (.agg #[.bool g1x, .slice a1x l1x c1x, .slice aa1x ll1x cc1x]) x1 (max 12 12 + 2) ∧ CQ wx (.agg #[.bool g1y, .slice a1y l1y c1y, .slice aa1y ll1y cc1y]) y1 (max 12 12 + 2) ∧ CQ wx (.agg #[.bool g2x, .slice a2x l2x c2x, .slice aa2x ll2x cc2x]) x2 (max 12 12 + 2) ∧ CQ wx (.agg #[.bool g2y, .slice a2y l2y c2y, .slice aa2y ll2y cc2y]) y2 (max 12 12 + 2) ∧ CQ wx (.agg #[.bool g3x, .slice a3x l3x c3x, .slice aa3x ll3x cc3x]) x3 (max 12 12 + 2) ∧ CQ wx (.agg #[.bool g3y, .slice a3y l3y c3y, .slice aa3y ll3y cc3y]) y3 (max 12 12 + 2) ∧ Kp W5 wx
theorem P3Rel.intro {W5 wx : World} {x1 y1 x2 y2 x3 y3 : Rat} {b1 b2 b3 : Nat} {g1x : Bool} {a1x : Option Addr} {l1x c1x : Nat} {aa1x : Option Addr} {ll1x cc1x : Nat} {g1y : Bool} {a1y : Option Addr} {l1y c1y : Nat} {aa1y : Option Addr} {ll1y cc1y : Nat} {g2x : Bool} {a2x : Option Addr} {l2x c2x : Nat} {aa2x : Option Addr} {ll2x cc2x : Nat} {g2y : Bool} {a2y : Option Addr} {l2y c2y : Nat} {aa2y : Option Addr} {ll2y cc2y : Nat} {g3x : Bool} {a3x : Option Addr} {l3x c3x : Nat} {aa3x : Option Addr} {ll3x cc3x : Nat} {g3y : Bool} {a3y : Option Addr} {l3y c3y : Nat} {aa3y : Option Addr} {ll3y cc3y : Nat} [i1 : Bx wx b1 40 [.bool g1x, .slice a1x l1x c1x, .slice aa1x ll1x cc1x, .bool g1y, .slice a1y l1y c1y, .slice aa1y ll1y cc1y]] [i2 : Bx wx b2 40 [.bool g2x, .slice a2x l2x c2x, .slice aa2x ll2x cc2x, .bool g2y, .slice a2y l2y c2y, .slice aa2y ll2y cc2y]] [i3 : Bx wx b3 40 [.bool g3x, .slice a3x l3x c3x, .slice aa3x ll3x cc3x, .bool g3y, .slice a3y l3y c3y, .slice aa3y ll3y cc3y]] [j1x : CQ wx (.agg #[.bool g1x, .slice a1x l1x c1x, .slice aa1x ll1x cc1x]) x1 (max 12 12 + 2)] [j1y : CQ wx (.agg #[.bool g1y, .slice a1y l1y c1y, .slice aa1y ll1y cc1y]) y1 (max 12 12 + 2)] [j2x : CQ wx (.agg #[.bool g2x, .slice a2x l2x c2x, .slice aa2x ll2x cc2x]) x2 (max 12 12 + 2)] [j2y : CQ wx (.agg #[.bool g2y, .slice a2y l2y c2y, .slice aa2y ll2y cc2y]) y2 (max 12 12 + 2)] [j3x : CQ wx (.agg #[.bool g3x, .slice a3x l3x c3x, .slice aa3x ll3x cc3x]) x3 (max 12 12 + 2)] [j3y : CQ wx (.agg #[.bool g3y, .slice a3y l3y c3y, .slice aa3y ll3y cc3y]) y3 (max 12 12 + 2)] [k : Kp W5 wx] : P3Rel W5 x1 y1 x2 y2 x3 y3 (.pointer (some ⟨b1, 0, none⟩)) (.pointer (some ⟨b2, 0, none⟩)) (.pointer (some ⟨b3, 0, none⟩)) wx :=
  ⟨b1, b2, b3, g1x, a1x, l1x, c1x, aa1x, ll1x, cc1x, g1y, a1y, l1y, c1y, aa1y, ll1y, cc1y, g2x, a2x, l2x, c2x, aa2x, ll2x, cc2x, g2y, a2y, l2y, c2y, aa2y, ll2y, cc2y, g3x, a3x, l3x, c3x, aa3x, ll3x, cc3x, g3y, a3y, l3y, c3y, aa3y, ll3y, cc3y, rfl, rfl, rfl, i1, i2, i3, j1x, j1y, j2x, j2y, j3x, j3y, k⟩
theorem eq_add1 (x y : Rat) : x + y = x + ((1 : Int) : Rat) * y := by
  rw [show ((1 : Int) : Rat) = 1 from rfl]; grind
theorem eq_scale (x z : Rat) : x * z = ((0 : Int) : Rat) + z * x := by
  rw [show ((0 : Int) : Rat) = 0 from rfl]; grind
set_option maxRecDepth 100000 in
set_option maxHeartbeats 40000000 in
set_option synthInstance.maxSize 100000 in
set_option synthInstance.maxHeartbeats 1000000 in
theorem pointComputes_walk (a0 : Option Addr) (len0 cap0 : Nat) (z0 : List Int) (w : World) (w0 : IsRow .i64 w a0 len0 cap0 z0) :
    Calls Tryz.prog 3 #[.slice a0 len0 cap0] w fun e w' => e = .returned (.bool true) ∧ Below w.heap.size w w' := by
  go_enter Tryz.func3, Tryz.ntmps3
  go_wp2_with fail
  with_reducible refine Calls.cNew (newW w0) ?_
  intro W1 _ _
  go_wp2_with fail
  with_reducible refine Calls.cTR roughC ?_
  intro W2 _ _ g1 a1 l1 c1 aa1 ll1 cc1 G1 A1 L1 C1 AA1 LL1 CC1 x1 y1 _ _
  go_wp2_with fail
  with_reducible refine Calls.cTR roughC ?_
  intro W3 _ _ g2 a2 l2 c2 aa2 ll2 cc2 G2 A2 L2 C2 AA2 LL2 CC2 x2 y2 _ _
  go_wp2_with fail
  with_reducible refine Calls.cTR roughC ?_
  intro W4 _ _ g3 a3 l3 c3 aa3 ll3 cc3 G3 A3 L3 C3 AA3 LL3 CC3 x3 y3 _ _
  go_upto_region 3 with fail
  go_cut [7, 8, 9] from 18 to 23 (fun p q r wx => P3Rel (((W4.alloc (.cells #[.bool g1, .slice a1 l1 c1, .slice aa1 ll1 cc1, .bool G1, .slice A1 L1 C1, .slice AA1 LL1 CC1] 32)).alloc (.cells #[.bool g2, .slice a2 l2 c2, .slice aa2 ll2 cc2, .bool G2, .slice A2 L2 C2, .slice AA2 LL2 CC2] 32)).alloc (.cells #[.bool g3, .slice a3 l3 c3, .slice aa3 ll3 cc3, .bool G3, .slice A3 L3 C3, .slice AA3 LL3 CC3] 32)) x1 y1 x2 y2 x3 y3 p q r wx)
  case first =>
    refine region_t (by kernel_rfl) [] (List.contains []) (fun hHeld => ?_)
    refine wpAnyT_take (i := 0) (v := ?z202) (by simp; rfl) (by kernel_rfl) (by kernel_rfl) (by kernel_rfl) (by exact fun _ _ _ h => h) (T_waits (by kernel_rfl)) (Or.inl ⟨by rfl, ?yz202⟩) hHeld ?_
    case yz202 => (intro wx hSw; have hSx := Ex1.mk hSw; go_simp; (try with_reducible rfl))
    try simp only [Act.put, List.setIfInBounds_toArray, List.set_cons_zero, List.set_cons_succ]
    refine wpAnyT_take (i := 2) (v := ?z203) (by simp; rfl) (by kernel_rfl) (by kernel_rfl) (by kernel_rfl) (by exact fun _ _ _ h => h) (T_waits (by kernel_rfl)) (Or.inl ⟨by rfl, ?yz203⟩) hHeld ?_
    case yz203 => (intro wx hSw; have hSx := Ex1.mk hSw; go_simp; (try with_reducible rfl))
    try simp only [Act.put, List.setIfInBounds_toArray, List.set_cons_zero, List.set_cons_succ]
    refine wpAnyT_take (i := 4) (v := ?z204) (by simp; rfl) (by kernel_rfl) (by kernel_rfl) (by kernel_rfl) (by exact fun _ _ _ h => h) (T_waits (by kernel_rfl)) (Or.inl ⟨by rfl, ?yz204⟩) hHeld ?_
    case yz204 => (intro wx hSw; have hSx := Ex1.mk hSw; go_simp; (try with_reducible rfl))
    try simp only [Act.put, List.setIfInBounds_toArray, List.set_cons_zero, List.set_cons_succ]
    refine wpAnyT_inv [(1, 19), (3, 21), (5, 23), (6, 7), (7, 8), (8, 9)] (fun i => match i with | 1 => [] | 3 => [1] | 5 => [3] | 6 => [] | 7 => [] | 8 => [] | _ => []) [phiPQ x1 y1 (max 12 12 + 2), phiPQ x2 y2 (max 12 12 + 2), phiPQ x3 y3 (max 12 12 + 2), phiB (((W4.alloc (.cells #[.bool g1, .slice a1 l1 c1, .slice aa1 ll1 cc1, .bool G1, .slice A1 L1 C1, .slice AA1 LL1 CC1] 32)).alloc (.cells #[.bool g2, .slice a2 l2 c2, .slice aa2 ll2 cc2, .bool G2, .slice A2 L2 C2, .slice AA2 LL2 CC2] 32)).alloc (.cells #[.bool g3, .slice a3 l3 c3, .slice aa3 ll3 cc3, .bool G3, .slice A3 L3 C3, .slice AA3 LL3 CC3] 32)) 40 [.bool false, .slice none 0 0, .slice none 0 0, .bool false, .slice none 0 0, .slice none 0 0], phiB (((W4.alloc (.cells #[.bool g1, .slice a1 l1 c1, .slice aa1 ll1 cc1, .bool G1, .slice A1 L1 C1, .slice AA1 LL1 CC1] 32)).alloc (.cells #[.bool g2, .slice a2 l2 c2, .slice aa2 ll2 cc2, .bool G2, .slice A2 L2 C2, .slice AA2 LL2 CC2] 32)).alloc (.cells #[.bool g3, .slice a3 l3 c3, .slice aa3 ll3 cc3, .bool G3, .slice A3 L3 C3, .slice AA3 LL3 CC3] 32)) 40 [.bool false, .slice none 0 0, .slice none 0 0, .bool false, .slice none 0 0, .slice none 0 0], phiB (((W4.alloc (.cells #[.bool g1, .slice a1 l1 c1, .slice aa1 ll1 cc1, .bool G1, .slice A1 L1 C1, .slice AA1 LL1 CC1] 32)).alloc (.cells #[.bool g2, .slice a2 l2 c2, .slice aa2 ll2 cc2, .bool G2, .slice A2 L2 C2, .slice AA2 LL2 CC2] 32)).alloc (.cells #[.bool g3, .slice a3 l3 c3, .slice aa3 ll3 cc3, .bool G3, .slice A3 L3 C3, .slice AA3 LL3 CC3] 32)) 40 [.bool false, .slice none 0 0, .slice none 0 0, .bool false, .slice none 0 0, .slice none 0 0]] [6, 7, 8] 3 (by rfl) (by decide +kernel) (by decide) (by decide) (by kernel_rfl) ?_ (fun _ _ => Ex.below) hHeld ?_ ?_
    · intro i hi v W h
      simp only [List.mem_cons, List.not_mem_nil, or_false] at hi
      rcases hi with rfl | rfl | rfl
      all_goals exact phiB.old h
    · intro i hi f W hSw hbw hp
      have kw := Kp1.mk hbw
      have hSx := Ex1.mk hSw
      clear hHeld
      simp only [List.map_cons, List.map_nil, List.mem_cons, List.not_mem_nil, or_false] at hi
      rcases hi with rfl | rfl | rfl | rfl | rfl | rfl
      · refine ⟨_, by simp; rfl, fun K' hK => ?_⟩
        clear hp
        simp only [putAll, Act.put, List.setIfInBounds_toArray, List.set_cons_zero, List.set_cons_succ] at hK ⊢
        generalize f 1 = v1 at *
        generalize f 3 = v3 at *
        generalize f 5 = v5 at *
        generalize f 6 = v6 at *
        generalize f 7 = v7 at *
        generalize f 8 = v8 at *
        go_simp
        (go_at_call 9; (with_reducible refine Calls.cPQ (refPtC (by omega)) ?_); intros)
        refine hK.out _ _ _ rfl ?_ ?_ ?_
        · exact (inferInstance : Kp W _).out
        · show phiPQ x1 y1 (max 12 12 + 2) _ _
          exact phiPQ.fin (by omega) (by omega)
        · exact fun h => absurd h (by decide)
      · have h1 : phiPQ x1 y1 (max 12 12 + 2) (f 1) W := hp 1 (by decide)
        refine ⟨_, by simp; rfl, fun K' hK => ?_⟩
        clear hp
        simp only [putAll, Act.put, List.setIfInBounds_toArray, List.set_cons_zero, List.set_cons_succ] at hK ⊢
        generalize f 1 = v1 at *
        generalize f 3 = v3 at *
        generalize f 5 = v5 at *
        generalize f 6 = v6 at *
        generalize f 7 = v7 at *
        generalize f 8 = v8 at *
        obtain ⟨gq1, aq1, lq1, cq1, aaq1, llq1, ccq1, Gq1, Aq1, Lq1, Cq1, AAq1, LLq1, CCq1, rfl, iq1, jq1⟩ := h1
        go_simp
        (go_at_call 9; (with_reducible refine Calls.cPQ (refPtC (by omega)) ?_); intros)
        refine hK.out _ _ _ rfl ?_ ?_ ?_
        · exact (inferInstance : Kp W _).out
        · show phiPQ x2 y2 (max 12 12 + 2) _ _
          exact phiPQ.fin (by omega) (by omega)
        · exact fun h => absurd h (by decide)
      · have h3 : phiPQ x2 y2 (max 12 12 + 2) (f 3) W := hp 3 (by decide)
        refine ⟨_, by simp; rfl, fun K' hK => ?_⟩
        clear hp
        simp only [putAll, Act.put, List.setIfInBounds_toArray, List.set_cons_zero, List.set_cons_succ] at hK ⊢
        generalize f 1 = v1 at *
        generalize f 3 = v3 at *
        generalize f 5 = v5 at *
        generalize f 6 = v6 at *
        generalize f 7 = v7 at *
        generalize f 8 = v8 at *
        obtain ⟨gq3, aq3, lq3, cq3, aaq3, llq3, ccq3, Gq3, Aq3, Lq3, Cq3, AAq3, LLq3, CCq3, rfl, iq3, jq3⟩ := h3
        go_simp
        (go_at_call 9; (with_reducible refine Calls.cPQ (refPtC (by omega)) ?_); intros)
        refine hK.out _ _ _ rfl ?_ ?_ ?_
        · exact (inferInstance : Kp W _).out
        · show phiPQ x3 y3 (max 12 12 + 2) _ _
          exact phiPQ.fin (by omega) (by omega)
        · exact fun h => absurd h (by decide)
      · refine ⟨_, by simp; rfl, fun K' hK => ?_⟩
        clear hp
        simp only [putAll, Act.put, List.setIfInBounds_toArray, List.set_cons_zero, List.set_cons_succ] at hK ⊢
        generalize f 1 = v1 at *
        generalize f 3 = v3 at *
        generalize f 5 = v5 at *
        generalize f 6 = v6 at *
        generalize f 7 = v7 at *
        generalize f 8 = v8 at *
        go_simp
        refine hK.out _ _ _ rfl ?_ ?_ ?_
        · exact (inferInstance : Kp W _).out
        · show phiB (((W4.alloc (.cells #[.bool g1, .slice a1 l1 c1, .slice aa1 ll1 cc1, .bool G1, .slice A1 L1 C1, .slice AA1 LL1 CC1] 32)).alloc (.cells #[.bool g2, .slice a2 l2 c2, .slice aa2 ll2 cc2, .bool G2, .slice A2 L2 C2, .slice AA2 LL2 CC2] 32)).alloc (.cells #[.bool g3, .slice a3 l3 c3, .slice aa3 ll3 cc3, .bool G3, .slice A3 L3 C3, .slice AA3 LL3 CC3] 32)) 40 [.bool false, .slice none 0 0, .slice none 0 0, .bool false, .slice none 0 0, .slice none 0 0] _ _
          exact phiB.fin
        · exact fun _ => ⟨_, rfl, Nat.le_refl _⟩
      · refine ⟨_, by simp; rfl, fun K' hK => ?_⟩
        clear hp
        simp only [putAll, Act.put, List.setIfInBounds_toArray, List.set_cons_zero, List.set_cons_succ] at hK ⊢
        generalize f 1 = v1 at *
        generalize f 3 = v3 at *
        generalize f 5 = v5 at *
        generalize f 6 = v6 at *
        generalize f 7 = v7 at *
        generalize f 8 = v8 at *
        go_simp
        refine hK.out _ _ _ rfl ?_ ?_ ?_
        · exact (inferInstance : Kp W _).out
        · show phiB (((W4.alloc (.cells #[.bool g1, .slice a1 l1 c1, .slice aa1 ll1 cc1, .bool G1, .slice A1 L1 C1, .slice AA1 LL1 CC1] 32)).alloc (.cells #[.bool g2, .slice a2 l2 c2, .slice aa2 ll2 cc2, .bool G2, .slice A2 L2 C2, .slice AA2 LL2 CC2] 32)).alloc (.cells #[.bool g3, .slice a3 l3 c3, .slice aa3 ll3 cc3, .bool G3, .slice A3 L3 C3, .slice AA3 LL3 CC3] 32)) 40 [.bool false, .slice none 0 0, .slice none 0 0, .bool false, .slice none 0 0, .slice none 0 0] _ _
          exact phiB.fin
        · exact fun _ => ⟨_, rfl, Nat.le_refl _⟩
      · refine ⟨_, by simp; rfl, fun K' hK => ?_⟩
        clear hp
        simp only [putAll, Act.put, List.setIfInBounds_toArray, List.set_cons_zero, List.set_cons_succ] at hK ⊢
        generalize f 1 = v1 at *
        generalize f 3 = v3 at *
        generalize f 5 = v5 at *
        generalize f 6 = v6 at *
        generalize f 7 = v7 at *
        generalize f 8 = v8 at *
        go_simp
        refine hK.out _ _ _ rfl ?_ ?_ ?_
        · exact (inferInstance : Kp W _).out
        · show phiB (((W4.alloc (.cells #[.bool g1, .slice a1 l1 c1, .slice aa1 ll1 cc1, .bool G1, .slice A1 L1 C1, .slice AA1 LL1 CC1] 32)).alloc (.cells #[.bool g2, .slice a2 l2 c2, .slice aa2 ll2 cc2, .bool G2, .slice A2 L2 C2, .slice AA2 LL2 CC2] 32)).alloc (.cells #[.bool g3, .slice a3 l3 c3, .slice aa3 ll3 cc3, .bool G3, .slice A3 L3 C3, .slice AA3 LL3 CC3] 32)) 40 [.bool false, .slice none 0 0, .slice none 0 0, .bool false, .slice none 0 0, .slice none 0 0] _ _
          exact phiB.fin
        · exact fun _ => ⟨_, rfl, Nat.le_refl _⟩
    · intro f W hSw hbw hf hne
      have kw := Kp1.mk hbw
      have hSx := Ex1.mk hSw
      clear hHeld
      have h1 : phiPQ x1 y1 (max 12 12 + 2) (f 1) W := hf 1 (by decide)
      have h3 : phiPQ x2 y2 (max 12 12 + 2) (f 3) W := hf 3 (by decide)
      have h5 : phiPQ x3 y3 (max 12 12 + 2) (f 5) W := hf 5 (by decide)
      have h6 : phiB (((W4.alloc (.cells #[.bool g1, .slice a1 l1 c1, .slice aa1 ll1 cc1, .bool G1, .slice A1 L1 C1, .slice AA1 LL1 CC1] 32)).alloc (.cells #[.bool g2, .slice a2 l2 c2, .slice aa2 ll2 cc2, .bool G2, .slice A2 L2 C2, .slice AA2 LL2 CC2] 32)).alloc (.cells #[.bool g3, .slice a3 l3 c3, .slice aa3 ll3 cc3, .bool G3, .slice A3 L3 C3, .slice AA3 LL3 CC3] 32)) 40 [.bool false, .slice none 0 0, .slice none 0 0, .bool false, .slice none 0 0, .slice none 0 0] (f 6) W := hf 6 (by decide)
      have h7 : phiB (((W4.alloc (.cells #[.bool g1, .slice a1 l1 c1, .slice aa1 ll1 cc1, .bool G1, .slice A1 L1 C1, .slice AA1 LL1 CC1] 32)).alloc (.cells #[.bool g2, .slice a2 l2 c2, .slice aa2 ll2 cc2, .bool G2, .slice A2 L2 C2, .slice AA2 LL2 CC2] 32)).alloc (.cells #[.bool g3, .slice a3 l3 c3, .slice aa3 ll3 cc3, .bool G3, .slice A3 L3 C3, .slice AA3 LL3 CC3] 32)) 40 [.bool false, .slice none 0 0, .slice none 0 0, .bool false, .slice none 0 0, .slice none 0 0] (f 7) W := hf 7 (by decide)
      have h8 : phiB (((W4.alloc (.cells #[.bool g1, .slice a1 l1 c1, .slice aa1 ll1 cc1, .bool G1, .slice A1 L1 C1, .slice AA1 LL1 CC1] 32)).alloc (.cells #[.bool g2, .slice a2 l2 c2, .slice aa2 ll2 cc2, .bool G2, .slice A2 L2 C2, .slice AA2 LL2 CC2] 32)).alloc (.cells #[.bool g3, .slice a3 l3 c3, .slice aa3 ll3 cc3, .bool G3, .slice A3 L3 C3, .slice AA3 LL3 CC3] 32)) 40 [.bool false, .slice none 0 0, .slice none 0 0, .bool false, .slice none 0 0, .slice none 0 0] (f 8) W := hf 8 (by decide)
      have n6_7 := hne 6 7 (by decide) (by decide) (by decide) (by decide) (by decide)
      have n6_8 := hne 6 8 (by decide) (by decide) (by decide) (by decide) (by decide)
      have n7_8 := hne 7 8 (by decide) (by decide) (by decide) (by decide) (by decide)
      clear hf hne
      simp only [putAll, lset, List.map_cons, List.map_nil, Act.put, List.setIfInBounds_toArray, List.set_cons_zero, List.set_cons_succ]
      generalize f 1 = v1 at *
      generalize f 3 = v3 at *
      generalize f 5 = v5 at *
      generalize f 6 = v6 at *
      generalize f 7 = v7 at *
      generalize f 8 = v8 at *
      obtain ⟨gq1, aq1, lq1, cq1, aaq1, llq1, ccq1, Gq1, Aq1, Lq1, Cq1, AAq1, LLq1, CCq1, rfl, iq1, jq1⟩ := h1
      obtain ⟨gq3, aq3, lq3, cq3, aaq3, llq3, ccq3, Gq3, Aq3, Lq3, Cq3, AAq3, LLq3, CCq3, rfl, iq3, jq3⟩ := h3
      obtain ⟨gq5, aq5, lq5, cq5, aaq5, llq5, ccq5, Gq5, Aq5, Lq5, Cq5, AAq5, LLq5, CCq5, rfl, iq5, jq5⟩ := h5
      obtain ⟨b6, rfl, i6, j6, k6⟩ := h6
      obtain ⟨b7, rfl, i7, j7, k7⟩ := h7
      obtain ⟨b8, rfl, i8, j8, k8⟩ := h8
      have n6_7 := ptr_ne n6_7
      have n7_6 : NeN b7 b6 := ⟨fun e => n6_7.out e.symm⟩
      have n6_8 := ptr_ne n6_8
      have n8_6 : NeN b8 b6 := ⟨fun e => n6_8.out e.symm⟩
      have n7_8 := ptr_ne n7_8
      have n8_7 : NeN b8 b7 := ⟨fun e => n7_8.out e.symm⟩
      have hHeld := hSw
      refine wpAnyT_ready (rs := [9]) (by kernel_rfl) (by simp) ?_
      refine AllT.cons (by simp; rfl) (fun K hK => ?_) AllT.nil
      go_simp
      refine hK.out _ _ (fun _ => inferInstance) ?_
      clear hHeld hK K
      intro hHeld
      have hHeld := hHeld (by decide)
      try simp only [Act.put, List.setIfInBounds_toArray, List.set_cons_zero, List.set_cons_succ]
      refine wpAnyT_ready (rs := [10]) (by kernel_rfl) (by simp) ?_
      refine AllT.cons (by simp; rfl) (fun K hK => ?_) AllT.nil
      go_simp
      refine hK.out _ _ (fun _ => inferInstance) ?_
      clear hHeld hK K
      intro hHeld
      have hHeld := hHeld (by decide)
      try simp only [Act.put, List.setIfInBounds_toArray, List.set_cons_zero, List.set_cons_succ]
      refine wpAnyT_ready (rs := [11]) (by kernel_rfl) (by simp) ?_
      refine AllT.cons (by simp; rfl) (fun K hK => ?_) AllT.nil
      go_simp
      refine hK.out _ _ (fun _ => inferInstance) ?_
      clear hHeld hK K
      intro hHeld
      have hHeld := hHeld (by decide)
      try simp only [Act.put, List.setIfInBounds_toArray, List.set_cons_zero, List.set_cons_succ]
      refine wpAnyT_done (by kernel_rfl) ?_ _
      clear hHeld
      go_wp2_with fail
      go_meet
      exact P3Rel.intro
  case rest =>
    obtain ⟨b1, b2, b3, g1x, a1x, l1x, c1x, aa1x, ll1x, cc1x, g1y, a1y, l1y, c1y, aa1y, ll1y, cc1y, g2x, a2x, l2x, c2x, aa2x, ll2x, cc2x, g2y, a2y, l2y, c2y, aa2y, ll2y, cc2y, g3x, a3x, l3x, c3x, aa3x, ll3x, cc3x, g3y, a3y, l3y, c3y, aa3y, ll3y, cc3y, rfl, rfl, rfl, i1, i2, i3, j1x, j1y, j2x, j2y, j3x, j3y, ⟨k⟩⟩ := hcut
    have k := Kp1.mk k
    go_wp2_with fail
    refine region_cls (by kernel_rfl) [] (fun hHeld => ?_)
    refine wpAnyH_ready (rs := [0]) (by kernel_rfl) (by simp) ?_
    refine AllReadyH.cons (by simp; rfl) (fun K hK => ?_) AllReadyH.nil
    go_simp
    (go_at_call 10; (with_reducible refine Calls.cE (known04C) ?_); intros)
    refine hK.out _ _ inferInstance ?_
    clear hHeld hK K
    intro hHeld
    try simp only [Act.put, List.setIfInBounds_toArray, List.set_cons_zero, List.set_cons_succ]
    refine wpAnyH_take (i := 1) (v := ?z205) (by simp; rfl) (by kernel_rfl) (by kernel_rfl) (by kernel_rfl) (by exact fun _ _ _ h => h) (Or.inl ⟨by rfl, ?yz205⟩) hHeld ?_
    case yz205 => (intro wx hSw; have hSx := Ex1.mk hSw; go_simp; (try with_reducible rfl))
    try simp only [Act.put, List.setIfInBounds_toArray, List.set_cons_zero, List.set_cons_succ]
    refine wpAnyH_take (i := 2) (v := ?z206) (by simp; rfl) (by kernel_rfl) (by kernel_rfl) (by kernel_rfl) (by exact fun _ _ _ h => h) (Or.inl ⟨by rfl, ?yz206⟩) hHeld ?_
    case yz206 => (intro wx hSw; have hSx := Ex1.mk hSw; go_simp; (try with_reducible rfl))
    try simp only [Act.put, List.setIfInBounds_toArray, List.set_cons_zero, List.set_cons_succ]
    refine wpAnyH_take (i := 3) (v := ?z207) (by simp; rfl) (by kernel_rfl) (by kernel_rfl) (by kernel_rfl) (by exact fun _ _ _ h => h) (Or.inl ⟨by rfl, ?yz207⟩) hHeld ?_
    case yz207 => (intro wx hSw; have hSx := Ex1.mk hSw; go_simp; (try with_reducible rfl))
    try simp only [Act.put, List.setIfInBounds_toArray, List.set_cons_zero, List.set_cons_succ]
    refine wpAnyH_take (i := 5) (v := ?z208) (by simp; rfl) (by kernel_rfl) (by kernel_rfl) (by kernel_rfl) (by exact fun _ _ _ h => h) (Or.inl ⟨by rfl, ?yz208⟩) hHeld ?_
    case yz208 => (intro wx hSw; have hSx := Ex1.mk hSw; go_simp; (try with_reducible rfl))
    try simp only [Act.put, List.setIfInBounds_toArray, List.set_cons_zero, List.set_cons_succ]
    refine wpAnyH_take (i := 7) (v := ?z209) (by simp; rfl) (by kernel_rfl) (by kernel_rfl) (by kernel_rfl) (by exact fun _ _ _ h => h) (Or.inl ⟨by rfl, ?yz209⟩) hHeld ?_
    case yz209 => (intro wx hSw; have hSx := Ex1.mk hSw; go_simp; (try with_reducible rfl))
    try simp only [Act.put, List.setIfInBounds_toArray, List.set_cons_zero, List.set_cons_succ]
    refine wpAnyH_ready (rs := [4]) (by kernel_rfl) (by simp) ?_
    refine AllReadyH.cons (by simp; rfl) (fun K hK => ?_) AllReadyH.nil
    go_simp
    (go_at_call 12; (with_reducible refine Calls.cPA (pAddC (by omega)) ?_); intros)
    refine hK.out _ _ inferInstance ?_
    clear hHeld hK K
    intro hHeld
    try simp only [Act.put, List.setIfInBounds_toArray, List.set_cons_zero, List.set_cons_succ]
    refine wpAnyH_ready (rs := [6]) (by kernel_rfl) (by simp) ?_
    refine AllReadyH.cons (by simp; rfl) (fun K hK => ?_) AllReadyH.nil
    go_simp
    (go_at_call 14; (with_reducible refine Calls.cQ (numOfC (by omega)) ?_); intros)
    refine hK.out _ _ inferInstance ?_
    clear hHeld hK K
    intro hHeld
    try simp only [Act.put, List.setIfInBounds_toArray, List.set_cons_zero, List.set_cons_succ]
    refine wpAnyH_ready (rs := [8]) (by kernel_rfl) (by simp) ?_
    refine AllReadyH.cons (by simp; rfl) (fun K hK => ?_) AllReadyH.nil
    go_simp
    (go_at_call 13; (with_reducible refine Calls.cPQ (refPAddC (by omega)) ?_); intros)
    refine hK.out _ _ inferInstance ?_
    clear hHeld hK K
    intro hHeld
    try simp only [Act.put, List.setIfInBounds_toArray, List.set_cons_zero, List.set_cons_succ]
    refine wpAnyH_ready (rs := [9]) (by kernel_rfl) (by simp) ?_
    refine AllReadyH.cons (by simp; rfl) (fun K hK => ?_) AllReadyH.nil
    go_simp
    (go_at_call 11; (with_reducible refine Calls.cE (same04C (by omega) (by first | rfl | exact eq_add1 _ _ | exact eq_scale _ _) (by first | rfl | exact eq_add1 _ _ | exact eq_scale _ _)) ?_); intros)
    refine hK.out _ _ inferInstance ?_
    clear hHeld hK K
    intro hHeld
    try simp only [Act.put, List.setIfInBounds_toArray, List.set_cons_zero, List.set_cons_succ]
    refine wpAnyH_take (i := 10) (v := ?z210) (by simp; rfl) (by kernel_rfl) (by kernel_rfl) (by kernel_rfl) (by exact fun _ _ _ h => h) (Or.inl ⟨by rfl, ?yz210⟩) hHeld ?_
    case yz210 => (intro wx hSw; have hSx := Ex1.mk hSw; go_simp; (try with_reducible rfl))
    try simp only [Act.put, List.setIfInBounds_toArray, List.set_cons_zero, List.set_cons_succ]
    refine wpAnyH_take (i := 11) (v := ?z211) (by simp; rfl) (by kernel_rfl) (by kernel_rfl) (by kernel_rfl) (by exact fun _ _ _ h => h) (Or.inl ⟨by rfl, ?yz211⟩) hHeld ?_
    case yz211 => (intro wx hSw; have hSx := Ex1.mk hSw; go_simp; (try with_reducible rfl))
    try simp only [Act.put, List.setIfInBounds_toArray, List.set_cons_zero, List.set_cons_succ]
    refine wpAnyH_take (i := 12) (v := ?z212) (by simp; rfl) (by kernel_rfl) (by kernel_rfl) (by kernel_rfl) (by exact fun _ _ _ h => h) (Or.inl ⟨by rfl, ?yz212⟩) hHeld ?_
    case yz212 => (intro wx hSw; have hSx := Ex1.mk hSw; go_simp; (try with_reducible rfl))
    try simp only [Act.put, List.setIfInBounds_toArray, List.set_cons_zero, List.set_cons_succ]
    refine wpAnyH_take (i := 13) (v := ?z213) (by simp; rfl) (by kernel_rfl) (by kernel_rfl) (by kernel_rfl) (by exact fun _ _ _ h => h) (Or.inl ⟨by rfl, ?yz213⟩) hHeld ?_
    case yz213 => (intro wx hSw; have hSx := Ex1.mk hSw; go_simp; (try with_reducible rfl))
    try simp only [Act.put, List.setIfInBounds_toArray, List.set_cons_zero, List.set_cons_succ]
    refine wpAnyH_take (i := 15) (v := ?z214) (by simp; rfl) (by kernel_rfl) (by kernel_rfl) (by kernel_rfl) (by exact fun _ _ _ h => h) (Or.inl ⟨by rfl, ?yz214⟩) hHeld ?_
    case yz214 => (intro wx hSw; have hSx := Ex1.mk hSw; go_simp; (try with_reducible rfl))
    try simp only [Act.put, List.setIfInBounds_toArray, List.set_cons_zero, List.set_cons_succ]
    refine wpAnyH_take (i := 16) (v := ?z215) (by simp; rfl) (by kernel_rfl) (by kernel_rfl) (by kernel_rfl) (by exact fun _ _ _ h => h) (Or.inl ⟨by rfl, ?yz215⟩) hHeld ?_
    case yz215 => (intro wx hSw; have hSx := Ex1.mk hSw; go_simp; (try with_reducible rfl))
    try simp only [Act.put, List.setIfInBounds_toArray, List.set_cons_zero, List.set_cons_succ]
    refine wpAnyH_ready (rs := [14]) (by kernel_rfl) (by simp) ?_
    refine AllReadyH.cons (by simp; rfl) (fun K hK => ?_) AllReadyH.nil
    go_simp
    (go_at_call 15; (with_reducible refine Calls.cPA (pSubC (by omega)) ?_); intros)
    refine hK.out _ _ inferInstance ?_
    clear hHeld hK K
    intro hHeld
    try simp only [Act.put, List.setIfInBounds_toArray, List.set_cons_zero, List.set_cons_succ]
    refine wpAnyH_ready (rs := [17]) (by kernel_rfl) (by simp) ?_
    refine AllReadyH.cons (by simp; rfl) (fun K hK => ?_) AllReadyH.nil
    go_simp
    (go_at_call 16; (with_reducible refine Calls.cPQ (refPSubC (by omega)) ?_); intros)
    refine hK.out _ _ inferInstance ?_
    clear hHeld hK K
    intro hHeld
    try simp only [Act.put, List.setIfInBounds_toArray, List.set_cons_zero, List.set_cons_succ]
    refine wpAnyH_ready (rs := [18]) (by kernel_rfl) (by simp) ?_
    refine AllReadyH.cons (by simp; rfl) (fun K hK => ?_) AllReadyH.nil
    go_simp
    (go_at_call 11; (with_reducible refine Calls.cE (same04C (by omega) (by first | rfl | exact eq_add1 _ _ | exact eq_scale _ _) (by first | rfl | exact eq_add1 _ _ | exact eq_scale _ _)) ?_); intros)
    refine hK.out _ _ inferInstance ?_
    clear hHeld hK K
    intro hHeld
    try simp only [Act.put, List.setIfInBounds_toArray, List.set_cons_zero, List.set_cons_succ]
    refine wpAnyH_take (i := 19) (v := ?z216) (by simp; rfl) (by kernel_rfl) (by kernel_rfl) (by kernel_rfl) (by exact fun _ _ _ h => h) (Or.inl ⟨by rfl, ?yz216⟩) hHeld ?_
    case yz216 => (intro wx hSw; have hSx := Ex1.mk hSw; go_simp; (try with_reducible rfl))
    try simp only [Act.put, List.setIfInBounds_toArray, List.set_cons_zero, List.set_cons_succ]
    refine wpAnyH_take (i := 20) (v := ?z217) (by simp; rfl) (by kernel_rfl) (by kernel_rfl) (by kernel_rfl) (by exact fun _ _ _ h => h) (Or.inl ⟨by rfl, ?yz217⟩) hHeld ?_
    case yz217 => (intro wx hSw; have hSx := Ex1.mk hSw; go_simp; (try with_reducible rfl))
    try simp only [Act.put, List.setIfInBounds_toArray, List.set_cons_zero, List.set_cons_succ]
    refine wpAnyH_take (i := 21) (v := ?z218) (by simp; rfl) (by kernel_rfl) (by kernel_rfl) (by kernel_rfl) (by exact fun _ _ _ h => h) (Or.inl ⟨by rfl, ?yz218⟩) hHeld ?_
    case yz218 => (intro wx hSw; have hSx := Ex1.mk hSw; go_simp; (try with_reducible rfl))
    try simp only [Act.put, List.setIfInBounds_toArray, List.set_cons_zero, List.set_cons_succ]
    refine wpAnyH_take (i := 22) (v := ?z219) (by simp; rfl) (by kernel_rfl) (by kernel_rfl) (by kernel_rfl) (by exact fun _ _ _ h => h) (Or.inl ⟨by rfl, ?yz219⟩) hHeld ?_
    case yz219 => (intro wx hSw; have hSx := Ex1.mk hSw; go_simp; (try with_reducible rfl))
    try simp only [Act.put, List.setIfInBounds_toArray, List.set_cons_zero, List.set_cons_succ]
    refine wpAnyH_take (i := 23) (v := ?z220) (by simp; rfl) (by kernel_rfl) (by kernel_rfl) (by kernel_rfl) (by exact fun _ _ _ h => h) (Or.inl ⟨by rfl, ?yz220⟩) hHeld ?_
    case yz220 => (intro wx hSw; have hSx := Ex1.mk hSw; go_simp; (try with_reducible rfl))
    try simp only [Act.put, List.setIfInBounds_toArray, List.set_cons_zero, List.set_cons_succ]
    refine wpAnyH_take (i := 25) (v := ?z221) (by simp; rfl) (by kernel_rfl) (by kernel_rfl) (by kernel_rfl) (by exact fun _ _ _ h => h) (Or.inl ⟨by rfl, ?yz221⟩) hHeld ?_
    case yz221 => (intro wx hSw; have hSx := Ex1.mk hSw; go_simp; (try with_reducible rfl))
    try simp only [Act.put, List.setIfInBounds_toArray, List.set_cons_zero, List.set_cons_succ]
    refine wpAnyH_take (i := 26) (v := ?z222) (by simp; rfl) (by kernel_rfl) (by kernel_rfl) (by kernel_rfl) (by exact fun _ _ _ h => h) (Or.inl ⟨by rfl, ?yz222⟩) hHeld ?_
    case yz222 => (intro wx hSw; have hSx := Ex1.mk hSw; go_simp; (try with_reducible rfl))
    try simp only [Act.put, List.setIfInBounds_toArray, List.set_cons_zero, List.set_cons_succ]
    refine wpAnyH_take (i := 27) (v := ?z223) (by simp; rfl) (by kernel_rfl) (by kernel_rfl) (by kernel_rfl) (by exact fun _ _ _ h => h) (Or.inl ⟨by rfl, ?yz223⟩) hHeld ?_
    case yz223 => (intro wx hSw; have hSx := Ex1.mk hSw; go_simp; (try with_reducible rfl))
    try simp only [Act.put, List.setIfInBounds_toArray, List.set_cons_zero, List.set_cons_succ]
    refine wpAnyH_take (i := 28) (v := ?z224) (by simp; rfl) (by kernel_rfl) (by kernel_rfl) (by kernel_rfl) (by exact fun _ _ _ h => h) (Or.inl ⟨by rfl, ?yz224⟩) hHeld ?_
    case yz224 => (intro wx hSw; have hSx := Ex1.mk hSw; go_simp; (try with_reducible rfl))
    try simp only [Act.put, List.setIfInBounds_toArray, List.set_cons_zero, List.set_cons_succ]
    refine wpAnyH_ready (rs := [24]) (by kernel_rfl) (by simp) ?_
    refine AllReadyH.cons (by simp; rfl) (fun K hK => ?_) AllReadyH.nil
    go_simp
    (go_at_call 17; (with_reducible refine Calls.cPA (pScaleC (by omega)) ?_); intros)
    refine hK.out _ _ inferInstance ?_
    clear hHeld hK K
    intro hHeld
    try simp only [Act.put, List.setIfInBounds_toArray, List.set_cons_zero, List.set_cons_succ]
    refine wpAnyH_ready (rs := [29]) (by kernel_rfl) (by simp) ?_
    refine AllReadyH.cons (by simp; rfl) (fun K hK => ?_) AllReadyH.nil
    go_simp
    (go_at_call 13; (with_reducible refine Calls.cPQ (refPAddC (by omega)) ?_); intros)
    refine hK.out _ _ inferInstance ?_
    clear hHeld hK K
    intro hHeld
    try simp only [Act.put, List.setIfInBounds_toArray, List.set_cons_zero, List.set_cons_succ]
    refine wpAnyH_ready (rs := [30]) (by kernel_rfl) (by simp) ?_
    refine AllReadyH.cons (by simp; rfl) (fun K hK => ?_) AllReadyH.nil
    go_simp
    (go_at_call 11; (with_reducible refine Calls.cE (same04C (by omega) (by first | rfl | exact eq_add1 _ _ | exact eq_scale _ _) (by first | rfl | exact eq_add1 _ _ | exact eq_scale _ _)) ?_); intros)
    refine hK.out _ _ inferInstance ?_
    clear hHeld hK K
    intro hHeld
    try simp only [Act.put, List.setIfInBounds_toArray, List.set_cons_zero, List.set_cons_succ]
    refine wpAnyH_take (i := 31) (v := ?z225) (by simp; rfl) (by kernel_rfl) (by kernel_rfl) (by kernel_rfl) (by exact fun _ _ _ h => h) (Or.inl ⟨by rfl, ?yz225⟩) hHeld ?_
    case yz225 => (intro wx hSw; have hSx := Ex1.mk hSw; go_simp; (try with_reducible rfl))
    try simp only [Act.put, List.setIfInBounds_toArray, List.set_cons_zero, List.set_cons_succ]
    refine wpAnyH_take (i := 32) (v := ?z226) (by simp; rfl) (by kernel_rfl) (by kernel_rfl) (by kernel_rfl) (by exact fun _ _ _ h => h) (Or.inl ⟨by rfl, ?yz226⟩) hHeld ?_
    case yz226 => (intro wx hSw; have hSx := Ex1.mk hSw; go_simp; (try with_reducible rfl))
    try simp only [Act.put, List.setIfInBounds_toArray, List.set_cons_zero, List.set_cons_succ]
    refine wpAnyH_take (i := 33) (v := ?z227) (by simp; rfl) (by kernel_rfl) (by kernel_rfl) (by kernel_rfl) (by exact fun _ _ _ h => h) (Or.inl ⟨by rfl, ?yz227⟩) hHeld ?_
    case yz227 => (intro wx hSw; have hSx := Ex1.mk hSw; go_simp; (try with_reducible rfl))
    try simp only [Act.put, List.setIfInBounds_toArray, List.set_cons_zero, List.set_cons_succ]
    refine wpAnyH_take (i := 34) (v := ?z228) (by simp; rfl) (by kernel_rfl) (by kernel_rfl) (by kernel_rfl) (by exact fun _ _ _ h => h) (Or.inl ⟨by rfl, ?yz228⟩) hHeld ?_
    case yz228 => (intro wx hSw; have hSx := Ex1.mk hSw; go_simp; (try with_reducible rfl))
    try simp only [Act.put, List.setIfInBounds_toArray, List.set_cons_zero, List.set_cons_succ]
    refine wpAnyH_take (i := 36) (v := ?z229) (by simp; rfl) (by kernel_rfl) (by kernel_rfl) (by kernel_rfl) (by exact fun _ _ _ h => h) (Or.inl ⟨by rfl, ?yz229⟩) hHeld ?_
    case yz229 => (intro wx hSw; have hSx := Ex1.mk hSw; go_simp; (try with_reducible rfl))
    try simp only [Act.put, List.setIfInBounds_toArray, List.set_cons_zero, List.set_cons_succ]
    refine wpAnyH_take (i := 37) (v := ?z230) (by simp; rfl) (by kernel_rfl) (by kernel_rfl) (by kernel_rfl) (by exact fun _ _ _ h => h) (Or.inl ⟨by rfl, ?yz230⟩) hHeld ?_
    case yz230 => (intro wx hSw; have hSx := Ex1.mk hSw; go_simp; (try with_reducible rfl))
    try simp only [Act.put, List.setIfInBounds_toArray, List.set_cons_zero, List.set_cons_succ]
    refine wpAnyH_ready (rs := [35]) (by kernel_rfl) (by simp) ?_
    refine AllReadyH.cons (by simp; rfl) (fun K hK => ?_) AllReadyH.nil
    go_simp
    (go_at_call 19; (with_reducible refine Calls.cA (pDotC (by omega)) ?_); intros)
    refine hK.out _ _ inferInstance ?_
    clear hHeld hK K
    intro hHeld
    try simp only [Act.put, List.setIfInBounds_toArray, List.set_cons_zero, List.set_cons_succ]
    refine wpAnyH_ready (rs := [38]) (by kernel_rfl) (by simp) ?_
    refine AllReadyH.cons (by simp; rfl) (fun K hK => ?_) AllReadyH.nil
    go_simp
    (go_at_call 21; (with_reducible refine Calls.cQ (refDotC (by omega)) ?_); intros)
    refine hK.out _ _ inferInstance ?_
    clear hHeld hK K
    intro hHeld
    try simp only [Act.put, List.setIfInBounds_toArray, List.set_cons_zero, List.set_cons_succ]
    refine wpAnyH_ready (rs := [39]) (by kernel_rfl) (by simp) ?_
    refine AllReadyH.cons (by simp; rfl) (fun K hK => ?_) AllReadyH.nil
    go_simp
    (go_at_call 20; (with_reducible refine Calls.cA (toQC (by omega)) ?_); intros)
    refine hK.out _ _ inferInstance ?_
    clear hHeld hK K
    intro hHeld
    try simp only [Act.put, List.setIfInBounds_toArray, List.set_cons_zero, List.set_cons_succ]
    refine wpAnyH_ready (rs := [40]) (by kernel_rfl) (by simp) ?_
    refine AllReadyH.cons (by simp; rfl) (fun K hK => ?_) AllReadyH.nil
    go_simp
    (go_at_call 18; (with_reducible refine Calls.cE (sameQC rfl) ?_); intros)
    refine hK.out _ _ inferInstance ?_
    clear hHeld hK K
    intro hHeld
    try simp only [Act.put, List.setIfInBounds_toArray, List.set_cons_zero, List.set_cons_succ]
    refine wpAnyH_take (i := 41) (v := ?z231) (by simp; rfl) (by kernel_rfl) (by kernel_rfl) (by kernel_rfl) (by exact fun _ _ _ h => h) (Or.inl ⟨by rfl, ?yz231⟩) hHeld ?_
    case yz231 => (intro wx hSw; have hSx := Ex1.mk hSw; go_simp; (try with_reducible rfl))
    try simp only [Act.put, List.setIfInBounds_toArray, List.set_cons_zero, List.set_cons_succ]
    refine wpAnyH_take (i := 42) (v := ?z232) (by simp; rfl) (by kernel_rfl) (by kernel_rfl) (by kernel_rfl) (by exact fun _ _ _ h => h) (Or.inl ⟨by rfl, ?yz232⟩) hHeld ?_
    case yz232 => (intro wx hSw; have hSx := Ex1.mk hSw; go_simp; (try with_reducible rfl))
    try simp only [Act.put, List.setIfInBounds_toArray, List.set_cons_zero, List.set_cons_succ]
    refine wpAnyH_take (i := 43) (v := ?z233) (by simp; rfl) (by kernel_rfl) (by kernel_rfl) (by kernel_rfl) (by exact fun _ _ _ h => h) (Or.inl ⟨by rfl, ?yz233⟩) hHeld ?_
    case yz233 => (intro wx hSw; have hSx := Ex1.mk hSw; go_simp; (try with_reducible rfl))
    try simp only [Act.put, List.setIfInBounds_toArray, List.set_cons_zero, List.set_cons_succ]
    refine wpAnyH_take (i := 44) (v := ?z234) (by simp; rfl) (by kernel_rfl) (by kernel_rfl) (by kernel_rfl) (by exact fun _ _ _ h => h) (Or.inl ⟨by rfl, ?yz234⟩) hHeld ?_
    case yz234 => (intro wx hSw; have hSx := Ex1.mk hSw; go_simp; (try with_reducible rfl))
    try simp only [Act.put, List.setIfInBounds_toArray, List.set_cons_zero, List.set_cons_succ]
    refine wpAnyH_take (i := 46) (v := ?z235) (by simp; rfl) (by kernel_rfl) (by kernel_rfl) (by kernel_rfl) (by exact fun _ _ _ h => h) (Or.inl ⟨by rfl, ?yz235⟩) hHeld ?_
    case yz235 => (intro wx hSw; have hSx := Ex1.mk hSw; go_simp; (try with_reducible rfl))
    try simp only [Act.put, List.setIfInBounds_toArray, List.set_cons_zero, List.set_cons_succ]
    refine wpAnyH_take (i := 47) (v := ?z236) (by simp; rfl) (by kernel_rfl) (by kernel_rfl) (by kernel_rfl) (by exact fun _ _ _ h => h) (Or.inl ⟨by rfl, ?yz236⟩) hHeld ?_
    case yz236 => (intro wx hSw; have hSx := Ex1.mk hSw; go_simp; (try with_reducible rfl))
    try simp only [Act.put, List.setIfInBounds_toArray, List.set_cons_zero, List.set_cons_succ]
    refine wpAnyH_ready (rs := [45]) (by kernel_rfl) (by simp) ?_
    refine AllReadyH.cons (by simp; rfl) (fun K hK => ?_) AllReadyH.nil
    go_simp
    (go_at_call 22; (with_reducible refine Calls.cA (pCrossC (by omega)) ?_); intros)
    refine hK.out _ _ inferInstance ?_
    clear hHeld hK K
    intro hHeld
    try simp only [Act.put, List.setIfInBounds_toArray, List.set_cons_zero, List.set_cons_succ]
    refine wpAnyH_ready (rs := [48]) (by kernel_rfl) (by simp) ?_
    refine AllReadyH.cons (by simp; rfl) (fun K hK => ?_) AllReadyH.nil
    go_simp
    (go_at_call 23; (with_reducible refine Calls.cQ (refCrossC (by omega)) ?_); intros)
    refine hK.out _ _ inferInstance ?_
    clear hHeld hK K
    intro hHeld
    try simp only [Act.put, List.setIfInBounds_toArray, List.set_cons_zero, List.set_cons_succ]
    refine wpAnyH_ready (rs := [49]) (by kernel_rfl) (by simp) ?_
    refine AllReadyH.cons (by simp; rfl) (fun K hK => ?_) AllReadyH.nil
    go_simp
    (go_at_call 20; (with_reducible refine Calls.cA (toQC (by omega)) ?_); intros)
    refine hK.out _ _ inferInstance ?_
    clear hHeld hK K
    intro hHeld
    try simp only [Act.put, List.setIfInBounds_toArray, List.set_cons_zero, List.set_cons_succ]
    refine wpAnyH_ready (rs := [50]) (by kernel_rfl) (by simp) ?_
    refine AllReadyH.cons (by simp; rfl) (fun K hK => ?_) AllReadyH.nil
    go_simp
    (go_at_call 18; (with_reducible refine Calls.cE (sameQC rfl) ?_); intros)
    refine hK.out _ _ inferInstance ?_
    clear hHeld hK K
    intro hHeld
    try simp only [Act.put, List.setIfInBounds_toArray, List.set_cons_zero, List.set_cons_succ]
    refine wpAnyH_take (i := 51) (v := ?z237) (by simp; rfl) (by kernel_rfl) (by kernel_rfl) (by kernel_rfl) (by exact fun _ _ _ h => h) (Or.inl ⟨by rfl, ?yz237⟩) hHeld ?_
    case yz237 => (intro wx hSw; have hSx := Ex1.mk hSw; go_simp; (try with_reducible rfl))
    try simp only [Act.put, List.setIfInBounds_toArray, List.set_cons_zero, List.set_cons_succ]
    refine wpAnyH_take (i := 52) (v := ?z238) (by simp; rfl) (by kernel_rfl) (by kernel_rfl) (by kernel_rfl) (by exact fun _ _ _ h => h) (Or.inl ⟨by rfl, ?yz238⟩) hHeld ?_
    case yz238 => (intro wx hSw; have hSx := Ex1.mk hSw; go_simp; (try with_reducible rfl))
    try simp only [Act.put, List.setIfInBounds_toArray, List.set_cons_zero, List.set_cons_succ]
    refine wpAnyH_take (i := 53) (v := ?z239) (by simp; rfl) (by kernel_rfl) (by kernel_rfl) (by kernel_rfl) (by exact fun _ _ _ h => h) (Or.inl ⟨by rfl, ?yz239⟩) hHeld ?_
    case yz239 => (intro wx hSw; have hSx := Ex1.mk hSw; go_simp; (try with_reducible rfl))
    try simp only [Act.put, List.setIfInBounds_toArray, List.set_cons_zero, List.set_cons_succ]
    refine wpAnyH_take (i := 54) (v := ?z240) (by simp; rfl) (by kernel_rfl) (by kernel_rfl) (by kernel_rfl) (by exact fun _ _ _ h => h) (Or.inl ⟨by rfl, ?yz240⟩) hHeld ?_
    case yz240 => (intro wx hSw; have hSx := Ex1.mk hSw; go_simp; (try with_reducible rfl))
    try simp only [Act.put, List.setIfInBounds_toArray, List.set_cons_zero, List.set_cons_succ]
    refine wpAnyH_take (i := 55) (v := ?z241) (by simp; rfl) (by kernel_rfl) (by kernel_rfl) (by kernel_rfl) (by exact fun _ _ _ h => h) (Or.inl ⟨by rfl, ?yz241⟩) hHeld ?_
    case yz241 => (intro wx hSw; have hSx := Ex1.mk hSw; go_simp; (try with_reducible rfl))
    try simp only [Act.put, List.setIfInBounds_toArray, List.set_cons_zero, List.set_cons_succ]
    refine wpAnyH_take (i := 57) (v := ?z242) (by simp; rfl) (by kernel_rfl) (by kernel_rfl) (by kernel_rfl) (by exact fun _ _ _ h => h) (Or.inl ⟨by rfl, ?yz242⟩) hHeld ?_
    case yz242 => (intro wx hSw; have hSx := Ex1.mk hSw; go_simp; (try with_reducible rfl))
    try simp only [Act.put, List.setIfInBounds_toArray, List.set_cons_zero, List.set_cons_succ]
    refine wpAnyH_take (i := 58) (v := ?z243) (by simp; rfl) (by kernel_rfl) (by kernel_rfl) (by kernel_rfl) (by exact fun _ _ _ h => h) (Or.inl ⟨by rfl, ?yz243⟩) hHeld ?_
    case yz243 => (intro wx hSw; have hSx := Ex1.mk hSw; go_simp; (try with_reducible rfl))
    try simp only [Act.put, List.setIfInBounds_toArray, List.set_cons_zero, List.set_cons_succ]
    refine wpAnyH_take (i := 59) (v := ?z244) (by simp; rfl) (by kernel_rfl) (by kernel_rfl) (by kernel_rfl) (by exact fun _ _ _ h => h) (Or.inl ⟨by rfl, ?yz244⟩) hHeld ?_
    case yz244 => (intro wx hSw; have hSx := Ex1.mk hSw; go_simp; (try with_reducible rfl))
    try simp only [Act.put, List.setIfInBounds_toArray, List.set_cons_zero, List.set_cons_succ]
    refine wpAnyH_ready (rs := [56]) (by kernel_rfl) (by simp) ?_
    refine AllReadyH.cons (by simp; rfl) (fun K hK => ?_) AllReadyH.nil
    go_simp
    (go_at_call 24; (with_reducible refine Calls.cE (pOrientC (by omega)) ?_); intros)
    refine hK.out _ _ inferInstance ?_
    clear hHeld hK K
    intro hHeld
    try simp only [Act.put, List.setIfInBounds_toArray, List.set_cons_zero, List.set_cons_succ]
    refine wpAnyH_ready (rs := [60]) (by kernel_rfl) (by simp) ?_
    refine AllReadyH.cons (by simp; rfl) (fun K hK => ?_) AllReadyH.nil
    go_simp
    (go_at_call 25; (with_reducible refine Calls.cE (refOrientC (by omega)) ?_); intros)
    refine hK.out _ _ inferInstance ?_
    clear hHeld hK K
    intro hHeld
    try simp only [Act.put, List.setIfInBounds_toArray, List.set_cons_zero, List.set_cons_succ]
    refine wpAnyH_take (i := 61) (v := ?z245) (by simp; rfl) (by kernel_rfl) (by kernel_rfl) (by kernel_rfl) (by exact fun _ _ _ h => h) (Or.inl ⟨by rfl, ?yz245⟩) hHeld ?_
    case yz245 => (intro wx hSw; have hSx := Ex1.mk hSw; go_simp; (try with_reducible rfl))
    try simp only [Act.put, List.setIfInBounds_toArray, List.set_cons_zero, List.set_cons_succ]
    refine wpAnyH_take (i := 62) (v := ?z246) (by simp; rfl) (by kernel_rfl) (by kernel_rfl) (by kernel_rfl) (by exact fun _ _ _ h => h) (Or.inl ⟨by rfl, ?yz246⟩) hHeld ?_
    case yz246 => (intro wx hSw; have hSx := Ex1.mk hSw; go_simp; (try with_reducible rfl))
    try simp only [Act.put, List.setIfInBounds_toArray, List.set_cons_zero, List.set_cons_succ]
    refine wpAnyH_take (i := 63) (v := ?z247) (by simp; rfl) (by kernel_rfl) (by kernel_rfl) (by kernel_rfl) (by exact fun _ _ _ h => h) (Or.inl ⟨by rfl, ?yz247⟩) hHeld ?_
    case yz247 => (intro wx hSw; have hSx := Ex1.mk hSw; go_simp; (try with_reducible rfl))
    try simp only [Act.put, List.setIfInBounds_toArray, List.set_cons_zero, List.set_cons_succ]
    refine wpAnyH_done (by kernel_rfl) ?_ _
    clear hHeld
    go_wp2
    go_ret
    exact E.fin rfl
end Go.Proofs.YtfjdjgcnfakhnaaGreat
