/-
  Texts of this claim, joined: QRef4, QAng.
-/
import Derived.Test.YtlameeijogdckaaGreatGeo
import Derived.Test.YtlameeijogdckaaGreatNumQ
import Derived.Test.YtlameeijogdckaaGreatFrac3
/- The reference's points, the products of package point, and what the laws of layer 4 compare. printed by a small program (mkref4.py). -/
namespace Go.Proofs.YtlameeijogdckaaGreat
open Go.RowKit

set_option maxRecDepth 100000 in
set_option maxHeartbeats 4000000 in
set_option synthInstance.maxSize 100000 in
set_option synthInstance.maxHeartbeats 1000000 in
theorem refPAddC {w : World} {g1x : Bool} {a1x : Option Addr} {l1x : Nat} {c1x : Nat} {aa1x : Option Addr} {ll1x : Nat} {cc1x : Nat} {g1y : Bool} {a1y : Option Addr} {l1y : Nat} {c1y : Nat} {aa1y : Option Addr} {ll1y : Nat} {cc1y : Nat} {x1 y1 : Rat} {g2 : Bool} {a2 : Option Addr} {l2 : Nat} {c2 : Nat} {aa2 : Option Addr} {ll2 : Nat} {cc2 : Nat} {z : Rat} {g3x : Bool} {a3x : Option Addr} {l3x : Nat} {c3x : Nat} {aa3x : Option Addr} {ll3x : Nat} {cc3x : Nat} {g3y : Bool} {a3y : Option Addr} {l3y : Nat} {c3y : Nat} {aa3y : Option Addr} {ll3y : Nat} {cc3y : Nat} {x2 y2 : Rat} {k1x k1y k2 k3x k3y : Nat} [h1x : CQ w (.agg #[.bool g1x, .slice a1x l1x c1x, .slice aa1x ll1x cc1x]) x1 k1x] [h1y : CQ w (.agg #[.bool g1y, .slice a1y l1y c1y, .slice aa1y ll1y cc1y]) y1 k1y] [h2 : CQ w (.agg #[.bool g2, .slice a2 l2 c2, .slice aa2 ll2 cc2]) z k2] [h3x : CQ w (.agg #[.bool g3x, .slice a3x l3x c3x, .slice aa3x ll3x cc3x]) x2 k3x] [h3y : CQ w (.agg #[.bool g3y, .slice a3y l3y c3y, .slice aa3y ll3y cc3y]) y2 k3y] (b : k1x ≤ 10000 ∧ k1y ≤ 10000 ∧ k2 ≤ 10000 ∧ k3x ≤ 10000 ∧ k3y ≤ 10000) :
    Calls Tryz.prog 46 #[.agg #[.bool g1x, .slice a1x l1x c1x, .slice aa1x ll1x cc1x, .bool g1y, .slice a1y l1y c1y, .slice aa1y ll1y cc1y], .agg #[.bool g2, .slice a2 l2 c2, .slice aa2 ll2 cc2], .agg #[.bool g3x, .slice a3x l3x c3x, .slice aa3x ll3x cc3x, .bool g3y, .slice a3y l3y c3y, .slice aa3y ll3y cc3y]] w (CPQRet w (x1 + z * x2) (y1 + z * y2) (max k1x k1y + k2 + max k3x k3y + 8)) := by
  go_enter Tryz.func46, Tryz.ntmps46
  go_wp2_with fail
  refine region_cls (by kernel_rfl) [w.heap.size + 1 + 1 + 1] (fun hHeld => ?_)
  refine wpAnyH_take (i := 0) (v := ?z123) (by simp; rfl) (by kernel_rfl) (by kernel_rfl) (by kernel_rfl) (by exact fun _ _ _ h => h) (Or.inl ⟨by rfl, ?yz123⟩) hHeld ?_
  case yz123 => (intro wx hSw; have hSx := Ex1.mk hSw; go_simp; (try with_reducible rfl))
  try simp only [Act.put, List.setIfInBounds_toArray, List.set_cons_zero, List.set_cons_succ]
  refine wpAnyH_take (i := 1) (v := ?z124) (by simp; rfl) (by kernel_rfl) (by kernel_rfl) (by kernel_rfl) (by exact fun _ _ _ h => h) (Or.inl ⟨by rfl, ?yz124⟩) hHeld ?_
  case yz124 => (intro wx hSw; have hSx := Ex1.mk hSw; go_simp; (try with_reducible rfl))
  try simp only [Act.put, List.setIfInBounds_toArray, List.set_cons_zero, List.set_cons_succ]
  refine wpAnyH_take (i := 2) (v := ?z125) (by simp; rfl) (by kernel_rfl) (by kernel_rfl) (by kernel_rfl) (by exact fun _ _ _ h => h) (Or.inl ⟨by rfl, ?yz125⟩) hHeld ?_
  case yz125 => (intro wx hSw; have hSx := Ex1.mk hSw; go_simp; (try with_reducible rfl))
  try simp only [Act.put, List.setIfInBounds_toArray, List.set_cons_zero, List.set_cons_succ]
  refine wpAnyH_take (i := 3) (v := ?z126) (by simp; rfl) (by kernel_rfl) (by kernel_rfl) (by kernel_rfl) (by exact fun _ _ _ h => h) (Or.inl ⟨by rfl, ?yz126⟩) hHeld ?_
  case yz126 => (intro wx hSw; have hSx := Ex1.mk hSw; go_simp; (try with_reducible rfl))
  try simp only [Act.put, List.setIfInBounds_toArray, List.set_cons_zero, List.set_cons_succ]
  refine wpAnyH_take (i := 4) (v := ?z127) (by simp; rfl) (by kernel_rfl) (by kernel_rfl) (by kernel_rfl) (by exact fun _ _ _ h => h) (Or.inl ⟨by rfl, ?yz127⟩) hHeld ?_
  case yz127 => (intro wx hSw; have hSx := Ex1.mk hSw; go_simp; (try with_reducible rfl))
  try simp only [Act.put, List.setIfInBounds_toArray, List.set_cons_zero, List.set_cons_succ]
  refine wpAnyH_take (i := 7) (v := ?z128) (by simp; rfl) (by kernel_rfl) (by kernel_rfl) (by kernel_rfl) (by exact fun _ _ _ h => h) (Or.inl ⟨by rfl, ?yz128⟩) hHeld ?_
  case yz128 => (intro wx hSw; have hSx := Ex1.mk hSw; go_simp; (try with_reducible rfl))
  try simp only [Act.put, List.setIfInBounds_toArray, List.set_cons_zero, List.set_cons_succ]
  refine wpAnyH_take (i := 8) (v := ?z129) (by simp; rfl) (by kernel_rfl) (by kernel_rfl) (by kernel_rfl) (by exact fun _ _ _ h => h) (Or.inl ⟨by rfl, ?yz129⟩) hHeld ?_
  case yz129 => (intro wx hSw; have hSx := Ex1.mk hSw; go_simp; (try with_reducible rfl))
  try simp only [Act.put, List.setIfInBounds_toArray, List.set_cons_zero, List.set_cons_succ]
  refine wpAnyH_take (i := 9) (v := ?z130) (by simp; rfl) (by kernel_rfl) (by kernel_rfl) (by kernel_rfl) (by exact fun _ _ _ h => h) (Or.inl ⟨by rfl, ?yz130⟩) hHeld ?_
  case yz130 => (intro wx hSw; have hSx := Ex1.mk hSw; go_simp; (try with_reducible rfl))
  try simp only [Act.put, List.setIfInBounds_toArray, List.set_cons_zero, List.set_cons_succ]
  refine wpAnyH_take (i := 10) (v := ?z131) (by simp; rfl) (by kernel_rfl) (by kernel_rfl) (by kernel_rfl) (by exact fun _ _ _ h => h) (Or.inl ⟨by rfl, ?yz131⟩) hHeld ?_
  case yz131 => (intro wx hSw; have hSx := Ex1.mk hSw; go_simp; (try with_reducible rfl))
  try simp only [Act.put, List.setIfInBounds_toArray, List.set_cons_zero, List.set_cons_succ]
  refine wpAnyH_take (i := 11) (v := ?z132) (by simp; rfl) (by kernel_rfl) (by kernel_rfl) (by kernel_rfl) (by exact fun _ _ _ h => h) (Or.inl ⟨by rfl, ?yz132⟩) hHeld ?_
  case yz132 => (intro wx hSw; have hSx := Ex1.mk hSw; go_simp; (try with_reducible rfl))
  try simp only [Act.put, List.setIfInBounds_toArray, List.set_cons_zero, List.set_cons_succ]
  refine wpAnyH_ready (rs := [5]) (by kernel_rfl) (by simp) ?_
  refine AllReadyH.cons (by simp; rfl) (fun K hK => ?_) AllReadyH.nil
  go_simp
  (go_at_call 107; (with_reducible refine Calls.cQ (numTimesC (by omega)) ?_); intros)
  refine hK.out _ _ inferInstance ?_
  clear hHeld hK K
  intro hHeld
  try simp only [Act.put, List.setIfInBounds_toArray, List.set_cons_zero, List.set_cons_succ]
  refine wpAnyH_ready (rs := [6]) (by kernel_rfl) (by simp) ?_
  refine AllReadyH.cons (by simp; rfl) (fun K hK => ?_) AllReadyH.nil
  go_simp
  (go_at_call 106; (with_reducible refine Calls.cQ (numPlusC (by omega)) ?_); intros)
  refine hK.out _ _ inferInstance ?_
  clear hHeld hK K
  intro hHeld
  try simp only [Act.put, List.setIfInBounds_toArray, List.set_cons_zero, List.set_cons_succ]
  refine wpAnyH_ready (rs := [12]) (by kernel_rfl) (by simp) ?_
  refine AllReadyH.cons (by simp; rfl) (fun K hK => ?_) AllReadyH.nil
  go_simp
  (go_at_call 107; (with_reducible refine Calls.cQ (numTimesC (by omega)) ?_); intros)
  refine hK.out _ _ inferInstance ?_
  clear hHeld hK K
  intro hHeld
  try simp only [Act.put, List.setIfInBounds_toArray, List.set_cons_zero, List.set_cons_succ]
  refine wpAnyH_ready (rs := [13]) (by kernel_rfl) (by simp) ?_
  refine AllReadyH.cons (by simp; rfl) (fun K hK => ?_) AllReadyH.nil
  go_simp
  (go_at_call 106; (with_reducible refine Calls.cQ (numPlusC (by omega)) ?_); intros)
  refine hK.out _ _ inferInstance ?_
  clear hHeld hK K
  intro hHeld
  try simp only [Act.put, List.setIfInBounds_toArray, List.set_cons_zero, List.set_cons_succ]
  refine wpAnyH_take (i := 14) (v := ?z133) (by simp; rfl) (by kernel_rfl) (by kernel_rfl) (by kernel_rfl) (by exact fun _ _ _ h => h) (Or.inl ⟨by rfl, ?yz133⟩) hHeld ?_
  case yz133 => (intro wx hSw; have hSx := Ex1.mk hSw; go_simp; (try with_reducible rfl))
  try simp only [Act.put, List.setIfInBounds_toArray, List.set_cons_zero, List.set_cons_succ]
  refine wpAnyH_ready (rs := [15]) (by kernel_rfl) (by simp) ?_
  refine AllReadyH.cons (by simp; rfl) (fun K hK => ?_) AllReadyH.nil
  go_simp
  refine hK.out _ _ inferInstance ?_
  clear hHeld hK K
  intro hHeld
  try simp only [Act.put, List.setIfInBounds_toArray, List.set_cons_zero, List.set_cons_succ]
  refine wpAnyH_done (by kernel_rfl) ?_ _
  clear hHeld
  go_wp2
  refine ret_bx rfl Tryz.underlying38 rfl (by kernel_rfl) rfl rfl rfl ?_
  exact CPQRet.fin rfl (by omega) rfl (by omega)

set_option maxRecDepth 100000 in
set_option maxHeartbeats 4000000 in
set_option synthInstance.maxSize 100000 in
set_option synthInstance.maxHeartbeats 1000000 in
theorem refPSubC {w : World} {g1x : Bool} {a1x : Option Addr} {l1x : Nat} {c1x : Nat} {aa1x : Option Addr} {ll1x : Nat} {cc1x : Nat} {g1y : Bool} {a1y : Option Addr} {l1y : Nat} {c1y : Nat} {aa1y : Option Addr} {ll1y : Nat} {cc1y : Nat} {x1 y1 : Rat} {g2x : Bool} {a2x : Option Addr} {l2x : Nat} {c2x : Nat} {aa2x : Option Addr} {ll2x : Nat} {cc2x : Nat} {g2y : Bool} {a2y : Option Addr} {l2y : Nat} {c2y : Nat} {aa2y : Option Addr} {ll2y : Nat} {cc2y : Nat} {x2 y2 : Rat} {k1x k1y k2x k2y : Nat} [h1x : CQ w (.agg #[.bool g1x, .slice a1x l1x c1x, .slice aa1x ll1x cc1x]) x1 k1x] [h1y : CQ w (.agg #[.bool g1y, .slice a1y l1y c1y, .slice aa1y ll1y cc1y]) y1 k1y] [h2x : CQ w (.agg #[.bool g2x, .slice a2x l2x c2x, .slice aa2x ll2x cc2x]) x2 k2x] [h2y : CQ w (.agg #[.bool g2y, .slice a2y l2y c2y, .slice aa2y ll2y cc2y]) y2 k2y] (b : k1x ≤ 9000 ∧ k1y ≤ 9000 ∧ k2x ≤ 9000 ∧ k2y ≤ 9000) :
    Calls Tryz.prog 48 #[.agg #[.bool g1x, .slice a1x l1x c1x, .slice aa1x ll1x cc1x, .bool g1y, .slice a1y l1y c1y, .slice aa1y ll1y cc1y], .agg #[.bool g2x, .slice a2x l2x c2x, .slice aa2x ll2x cc2x, .bool g2y, .slice a2y l2y c2y, .slice aa2y ll2y cc2y]] w (CPQRet w (x1 - x2) (y1 - y2) (max k1x k1y + max k2x k2y + 10)) := by
  have EX := Lib.hid (show x1 + ((-1 : Int) : Rat) * x2 = x1 - x2 by rw [show ((-1 : Int) : Rat) = -1 from rfl]; grind)
  have EY := Lib.hid (show y1 + ((-1 : Int) : Rat) * y2 = y1 - y2 by rw [show ((-1 : Int) : Rat) = -1 from rfl]; grind)
  go_enter Tryz.func48, Tryz.ntmps48
  go_wp2_with fail
  refine region_cls (by kernel_rfl) [w.heap.size + 1 + 1] (fun hHeld => ?_)
  refine wpAnyH_take (i := 0) (v := ?z134) (by simp; rfl) (by kernel_rfl) (by kernel_rfl) (by kernel_rfl) (by exact fun _ _ _ h => h) (Or.inl ⟨by rfl, ?yz134⟩) hHeld ?_
  case yz134 => (intro wx hSw; have hSx := Ex1.mk hSw; go_simp; (try with_reducible rfl))
  try simp only [Act.put, List.setIfInBounds_toArray, List.set_cons_zero, List.set_cons_succ]
  refine wpAnyH_take (i := 2) (v := ?z135) (by simp; rfl) (by kernel_rfl) (by kernel_rfl) (by kernel_rfl) (by exact fun _ _ _ h => h) (Or.inl ⟨by rfl, ?yz135⟩) hHeld ?_
  case yz135 => (intro wx hSw; have hSx := Ex1.mk hSw; go_simp; (try with_reducible rfl))
  try simp only [Act.put, List.setIfInBounds_toArray, List.set_cons_zero, List.set_cons_succ]
  refine wpAnyH_ready (rs := [1]) (by kernel_rfl) (by simp) ?_
  refine AllReadyH.cons (by simp; rfl) (fun K hK => ?_) AllReadyH.nil
  go_simp
  (go_at_call 95; (with_reducible refine Calls.cQ (numOfC (by omega)) ?_); intros)
  refine hK.out _ _ inferInstance ?_
  clear hHeld hK K
  intro hHeld
  try simp only [Act.put, List.setIfInBounds_toArray, List.set_cons_zero, List.set_cons_succ]
  refine wpAnyH_ready (rs := [3]) (by kernel_rfl) (by simp) ?_
  refine AllReadyH.cons (by simp; rfl) (fun K hK => ?_) AllReadyH.nil
  go_simp
  (go_at_call 46; (with_reducible refine Calls.cPQ (refPAddC (by omega)) ?_); intros)
  refine hK.out _ _ inferInstance ?_
  clear hHeld hK K
  intro hHeld
  try simp only [Act.put, List.setIfInBounds_toArray, List.set_cons_zero, List.set_cons_succ]
  refine wpAnyH_ready (rs := [4]) (by kernel_rfl) (by simp) ?_
  refine AllReadyH.cons (by simp; rfl) (fun K hK => ?_) AllReadyH.nil
  go_simp
  refine hK.out _ _ inferInstance ?_
  clear hHeld hK K
  intro hHeld
  try simp only [Act.put, List.setIfInBounds_toArray, List.set_cons_zero, List.set_cons_succ]
  refine wpAnyH_done (by kernel_rfl) ?_ _
  clear hHeld
  go_wp2
  refine ret_bx rfl Tryz.underlying38 rfl (by kernel_rfl) rfl rfl rfl ?_
  exact CPQRet.fin EX.out (by omega) EY.out (by omega)

set_option maxRecDepth 100000 in
set_option maxHeartbeats 4000000 in
set_option synthInstance.maxSize 100000 in
set_option synthInstance.maxHeartbeats 1000000 in
theorem refDotC {w : World} {g1x : Bool} {a1x : Option Addr} {l1x : Nat} {c1x : Nat} {aa1x : Option Addr} {ll1x : Nat} {cc1x : Nat} {g1y : Bool} {a1y : Option Addr} {l1y : Nat} {c1y : Nat} {aa1y : Option Addr} {ll1y : Nat} {cc1y : Nat} {x1 y1 : Rat} {g2x : Bool} {a2x : Option Addr} {l2x : Nat} {c2x : Nat} {aa2x : Option Addr} {ll2x : Nat} {cc2x : Nat} {g2y : Bool} {a2y : Option Addr} {l2y : Nat} {c2y : Nat} {aa2y : Option Addr} {ll2y : Nat} {cc2y : Nat} {x2 y2 : Rat} {k1x k1y k2x k2y : Nat} [h1x : CQ w (.agg #[.bool g1x, .slice a1x l1x c1x, .slice aa1x ll1x cc1x]) x1 k1x] [h1y : CQ w (.agg #[.bool g1y, .slice a1y l1y c1y, .slice aa1y ll1y cc1y]) y1 k1y] [h2x : CQ w (.agg #[.bool g2x, .slice a2x l2x c2x, .slice aa2x ll2x cc2x]) x2 k2x] [h2y : CQ w (.agg #[.bool g2y, .slice a2y l2y c2y, .slice aa2y ll2y cc2y]) y2 k2y] (b : k1x ≤ 9000 ∧ k1y ≤ 9000 ∧ k2x ≤ 9000 ∧ k2y ≤ 9000) :
    Calls Tryz.prog 129 #[.agg #[.bool g1x, .slice a1x l1x c1x, .slice aa1x ll1x cc1x, .bool g1y, .slice a1y l1y c1y, .slice aa1y ll1y cc1y], .agg #[.bool g2x, .slice a2x l2x c2x, .slice aa2x ll2x cc2x, .bool g2y, .slice a2y l2y c2y, .slice aa2y ll2y cc2y]] w (CQRet w (x1 * x2 + y1 * y2) (k1x + k1y + k2x + k2y + 12)) := by
  go_enter Tryz.func129, Tryz.ntmps129
  go_wp2_with fail
  refine region_cls (by kernel_rfl) [w.heap.size + 1 + 1] (fun hHeld => ?_)
  refine wpAnyH_take (i := 0) (v := ?z136) (by simp; rfl) (by kernel_rfl) (by kernel_rfl) (by kernel_rfl) (by exact fun _ _ _ h => h) (Or.inl ⟨by rfl, ?yz136⟩) hHeld ?_
  case yz136 => (intro wx hSw; have hSx := Ex1.mk hSw; go_simp; (try with_reducible rfl))
  try simp only [Act.put, List.setIfInBounds_toArray, List.set_cons_zero, List.set_cons_succ]
  refine wpAnyH_take (i := 1) (v := ?z137) (by simp; rfl) (by kernel_rfl) (by kernel_rfl) (by kernel_rfl) (by exact fun _ _ _ h => h) (Or.inl ⟨by rfl, ?yz137⟩) hHeld ?_
  case yz137 => (intro wx hSw; have hSx := Ex1.mk hSw; go_simp; (try with_reducible rfl))
  try simp only [Act.put, List.setIfInBounds_toArray, List.set_cons_zero, List.set_cons_succ]
  refine wpAnyH_take (i := 2) (v := ?z138) (by simp; rfl) (by kernel_rfl) (by kernel_rfl) (by kernel_rfl) (by exact fun _ _ _ h => h) (Or.inl ⟨by rfl, ?yz138⟩) hHeld ?_
  case yz138 => (intro wx hSw; have hSx := Ex1.mk hSw; go_simp; (try with_reducible rfl))
  try simp only [Act.put, List.setIfInBounds_toArray, List.set_cons_zero, List.set_cons_succ]
  refine wpAnyH_take (i := 3) (v := ?z139) (by simp; rfl) (by kernel_rfl) (by kernel_rfl) (by kernel_rfl) (by exact fun _ _ _ h => h) (Or.inl ⟨by rfl, ?yz139⟩) hHeld ?_
  case yz139 => (intro wx hSw; have hSx := Ex1.mk hSw; go_simp; (try with_reducible rfl))
  try simp only [Act.put, List.setIfInBounds_toArray, List.set_cons_zero, List.set_cons_succ]
  refine wpAnyH_take (i := 5) (v := ?z140) (by simp; rfl) (by kernel_rfl) (by kernel_rfl) (by kernel_rfl) (by exact fun _ _ _ h => h) (Or.inl ⟨by rfl, ?yz140⟩) hHeld ?_
  case yz140 => (intro wx hSw; have hSx := Ex1.mk hSw; go_simp; (try with_reducible rfl))
  try simp only [Act.put, List.setIfInBounds_toArray, List.set_cons_zero, List.set_cons_succ]
  refine wpAnyH_take (i := 6) (v := ?z141) (by simp; rfl) (by kernel_rfl) (by kernel_rfl) (by kernel_rfl) (by exact fun _ _ _ h => h) (Or.inl ⟨by rfl, ?yz141⟩) hHeld ?_
  case yz141 => (intro wx hSw; have hSx := Ex1.mk hSw; go_simp; (try with_reducible rfl))
  try simp only [Act.put, List.setIfInBounds_toArray, List.set_cons_zero, List.set_cons_succ]
  refine wpAnyH_take (i := 7) (v := ?z142) (by simp; rfl) (by kernel_rfl) (by kernel_rfl) (by kernel_rfl) (by exact fun _ _ _ h => h) (Or.inl ⟨by rfl, ?yz142⟩) hHeld ?_
  case yz142 => (intro wx hSw; have hSx := Ex1.mk hSw; go_simp; (try with_reducible rfl))
  try simp only [Act.put, List.setIfInBounds_toArray, List.set_cons_zero, List.set_cons_succ]
  refine wpAnyH_take (i := 8) (v := ?z143) (by simp; rfl) (by kernel_rfl) (by kernel_rfl) (by kernel_rfl) (by exact fun _ _ _ h => h) (Or.inl ⟨by rfl, ?yz143⟩) hHeld ?_
  case yz143 => (intro wx hSw; have hSx := Ex1.mk hSw; go_simp; (try with_reducible rfl))
  try simp only [Act.put, List.setIfInBounds_toArray, List.set_cons_zero, List.set_cons_succ]
  refine wpAnyH_ready (rs := [4]) (by kernel_rfl) (by simp) ?_
  refine AllReadyH.cons (by simp; rfl) (fun K hK => ?_) AllReadyH.nil
  go_simp
  (go_at_call 107; (with_reducible refine Calls.cQ (numTimesC (by omega)) ?_); intros)
  refine hK.out _ _ inferInstance ?_
  clear hHeld hK K
  intro hHeld
  try simp only [Act.put, List.setIfInBounds_toArray, List.set_cons_zero, List.set_cons_succ]
  refine wpAnyH_ready (rs := [9]) (by kernel_rfl) (by simp) ?_
  refine AllReadyH.cons (by simp; rfl) (fun K hK => ?_) AllReadyH.nil
  go_simp
  (go_at_call 107; (with_reducible refine Calls.cQ (numTimesC (by omega)) ?_); intros)
  refine hK.out _ _ inferInstance ?_
  clear hHeld hK K
  intro hHeld
  try simp only [Act.put, List.setIfInBounds_toArray, List.set_cons_zero, List.set_cons_succ]
  refine wpAnyH_ready (rs := [10]) (by kernel_rfl) (by simp) ?_
  refine AllReadyH.cons (by simp; rfl) (fun K hK => ?_) AllReadyH.nil
  go_simp
  (go_at_call 106; (with_reducible refine Calls.cQ (numPlusC (by omega)) ?_); intros)
  refine hK.out _ _ inferInstance ?_
  clear hHeld hK K
  intro hHeld
  try simp only [Act.put, List.setIfInBounds_toArray, List.set_cons_zero, List.set_cons_succ]
  refine wpAnyH_ready (rs := [11]) (by kernel_rfl) (by simp) ?_
  refine AllReadyH.cons (by simp; rfl) (fun K hK => ?_) AllReadyH.nil
  go_simp
  refine hK.out _ _ inferInstance ?_
  clear hHeld hK K
  intro hHeld
  try simp only [Act.put, List.setIfInBounds_toArray, List.set_cons_zero, List.set_cons_succ]
  refine wpAnyH_done (by kernel_rfl) ?_ _
  clear hHeld
  go_wp2
  refine ret_bx rfl Tryz.underlying36 rfl (by kernel_rfl) rfl rfl rfl ?_
  exact CQRet.fin rfl (by omega)

set_option maxRecDepth 100000 in
set_option maxHeartbeats 4000000 in
set_option synthInstance.maxSize 100000 in
set_option synthInstance.maxHeartbeats 1000000 in
theorem gDotC {w : World} {n1x : Int} {d1x : Int} {p1x : Option Addr} {n1y : Int} {d1y : Int} {p1y : Option Addr} {x1 y1 : Rat} {n2x : Int} {d2x : Int} {p2x : Option Addr} {n2y : Int} {d2y : Int} {p2y : Option Addr} {x2 y2 : Rat} {k1x k1y k2x k2y : Nat} [h1x : CF w (.agg #[.int .i64 n1x, .int .i64 d1x, .pointer p1x]) x1 k1x] [h1y : CF w (.agg #[.int .i64 n1y, .int .i64 d1y, .pointer p1y]) y1 k1y] [h2x : CF w (.agg #[.int .i64 n2x, .int .i64 d2x, .pointer p2x]) x2 k2x] [h2y : CF w (.agg #[.int .i64 n2y, .int .i64 d2y, .pointer p2y]) y2 k2y] (b : k1x ≤ 50000 ∧ k1y ≤ 50000 ∧ k2x ≤ 50000 ∧ k2y ≤ 50000) :
    Calls Tryz.prog 184 #[.agg #[.int .i64 n1x, .int .i64 d1x, .pointer p1x, .int .i64 n1y, .int .i64 d1y, .pointer p1y], .agg #[.int .i64 n2x, .int .i64 d2x, .pointer p2x, .int .i64 n2y, .int .i64 d2y, .pointer p2y]] w (CFRet w (x1 * x2 + y1 * y2) (k1x + k1y + k2x + k2y + 7)) := by
  go_enter Tryz.func184, Tryz.ntmps184
  go_wp2_with fail
  refine region_cls (by kernel_rfl) [w.heap.size + 1 + 1] (fun hHeld => ?_)
  refine wpAnyH_take (i := 0) (v := ?z157) (by simp; rfl) (by kernel_rfl) (by kernel_rfl) (by kernel_rfl) (by exact fun _ _ _ h => h) (Or.inl ⟨by rfl, ?yz157⟩) hHeld ?_
  case yz157 => (intro wx hSw; have hSx := Ex1.mk hSw; go_simp; (try with_reducible rfl))
  try simp only [Act.put, List.setIfInBounds_toArray, List.set_cons_zero, List.set_cons_succ]
  refine wpAnyH_take (i := 1) (v := ?z158) (by simp; rfl) (by kernel_rfl) (by kernel_rfl) (by kernel_rfl) (by exact fun _ _ _ h => h) (Or.inl ⟨by rfl, ?yz158⟩) hHeld ?_
  case yz158 => (intro wx hSw; have hSx := Ex1.mk hSw; go_simp; (try with_reducible rfl))
  try simp only [Act.put, List.setIfInBounds_toArray, List.set_cons_zero, List.set_cons_succ]
  refine wpAnyH_take (i := 2) (v := ?z159) (by simp; rfl) (by kernel_rfl) (by kernel_rfl) (by kernel_rfl) (by exact fun _ _ _ h => h) (Or.inl ⟨by rfl, ?yz159⟩) hHeld ?_
  case yz159 => (intro wx hSw; have hSx := Ex1.mk hSw; go_simp; (try with_reducible rfl))
  try simp only [Act.put, List.setIfInBounds_toArray, List.set_cons_zero, List.set_cons_succ]
  refine wpAnyH_take (i := 3) (v := ?z160) (by simp; rfl) (by kernel_rfl) (by kernel_rfl) (by kernel_rfl) (by exact fun _ _ _ h => h) (Or.inl ⟨by rfl, ?yz160⟩) hHeld ?_
  case yz160 => (intro wx hSw; have hSx := Ex1.mk hSw; go_simp; (try with_reducible rfl))
  try simp only [Act.put, List.setIfInBounds_toArray, List.set_cons_zero, List.set_cons_succ]
  refine wpAnyH_take (i := 5) (v := ?z161) (by simp; rfl) (by kernel_rfl) (by kernel_rfl) (by kernel_rfl) (by exact fun _ _ _ h => h) (Or.inl ⟨by rfl, ?yz161⟩) hHeld ?_
  case yz161 => (intro wx hSw; have hSx := Ex1.mk hSw; go_simp; (try with_reducible rfl))
  try simp only [Act.put, List.setIfInBounds_toArray, List.set_cons_zero, List.set_cons_succ]
  refine wpAnyH_take (i := 6) (v := ?z162) (by simp; rfl) (by kernel_rfl) (by kernel_rfl) (by kernel_rfl) (by exact fun _ _ _ h => h) (Or.inl ⟨by rfl, ?yz162⟩) hHeld ?_
  case yz162 => (intro wx hSw; have hSx := Ex1.mk hSw; go_simp; (try with_reducible rfl))
  try simp only [Act.put, List.setIfInBounds_toArray, List.set_cons_zero, List.set_cons_succ]
  refine wpAnyH_take (i := 7) (v := ?z163) (by simp; rfl) (by kernel_rfl) (by kernel_rfl) (by kernel_rfl) (by exact fun _ _ _ h => h) (Or.inl ⟨by rfl, ?yz163⟩) hHeld ?_
  case yz163 => (intro wx hSw; have hSx := Ex1.mk hSw; go_simp; (try with_reducible rfl))
  try simp only [Act.put, List.setIfInBounds_toArray, List.set_cons_zero, List.set_cons_succ]
  refine wpAnyH_take (i := 8) (v := ?z164) (by simp; rfl) (by kernel_rfl) (by kernel_rfl) (by kernel_rfl) (by exact fun _ _ _ h => h) (Or.inl ⟨by rfl, ?yz164⟩) hHeld ?_
  case yz164 => (intro wx hSw; have hSx := Ex1.mk hSw; go_simp; (try with_reducible rfl))
  try simp only [Act.put, List.setIfInBounds_toArray, List.set_cons_zero, List.set_cons_succ]
  refine wpAnyH_ready (rs := [4]) (by kernel_rfl) (by simp) ?_
  refine AllReadyH.cons (by simp; rfl) (fun K hK => ?_) AllReadyH.nil
  go_simp
  (go_at_call 190; (with_reducible refine Calls.cF (rMulC (by omega)) ?_); intros)
  refine hK.out _ _ inferInstance ?_
  clear hHeld hK K
  intro hHeld
  try simp only [Act.put, List.setIfInBounds_toArray, List.set_cons_zero, List.set_cons_succ]
  refine wpAnyH_ready (rs := [9]) (by kernel_rfl) (by simp) ?_
  refine AllReadyH.cons (by simp; rfl) (fun K hK => ?_) AllReadyH.nil
  go_simp
  (go_at_call 190; (with_reducible refine Calls.cF (rMulC (by omega)) ?_); intros)
  refine hK.out _ _ inferInstance ?_
  clear hHeld hK K
  intro hHeld
  try simp only [Act.put, List.setIfInBounds_toArray, List.set_cons_zero, List.set_cons_succ]
  refine wpAnyH_ready (rs := [10]) (by kernel_rfl) (by simp) ?_
  refine AllReadyH.cons (by simp; rfl) (fun K hK => ?_) AllReadyH.nil
  go_simp
  (go_at_call 195; (with_reducible refine Calls.cF (rAddC (by omega)) ?_); intros)
  refine hK.out _ _ inferInstance ?_
  clear hHeld hK K
  intro hHeld
  try simp only [Act.put, List.setIfInBounds_toArray, List.set_cons_zero, List.set_cons_succ]
  refine wpAnyH_ready (rs := [11]) (by kernel_rfl) (by simp) ?_
  refine AllReadyH.cons (by simp; rfl) (fun K hK => ?_) AllReadyH.nil
  go_simp
  refine hK.out _ _ inferInstance ?_
  clear hHeld hK K
  intro hHeld
  try simp only [Act.put, List.setIfInBounds_toArray, List.set_cons_zero, List.set_cons_succ]
  refine wpAnyH_done (by kernel_rfl) ?_ _
  clear hHeld
  go_wp2
  refine ret_bx rfl Tryz.underlying115 rfl (by kernel_rfl) rfl rfl rfl ?_
  exact CFRet.fin rfl (by omega)

set_option maxRecDepth 100000 in
set_option maxHeartbeats 4000000 in
set_option synthInstance.maxSize 100000 in
set_option synthInstance.maxHeartbeats 1000000 in
theorem samePC {w : World} {g1x : Bool} {a1x : Option Addr} {l1x : Nat} {c1x : Nat} {aa1x : Option Addr} {ll1x : Nat} {cc1x : Nat} {g1y : Bool} {a1y : Option Addr} {l1y : Nat} {c1y : Nat} {aa1y : Option Addr} {ll1y : Nat} {cc1y : Nat} {x1 y1 : Rat} {g2x : Bool} {a2x : Option Addr} {l2x : Nat} {c2x : Nat} {aa2x : Option Addr} {ll2x : Nat} {cc2x : Nat} {g2y : Bool} {a2y : Option Addr} {l2y : Nat} {c2y : Nat} {aa2y : Option Addr} {ll2y : Nat} {cc2y : Nat} {x2 y2 : Rat} {k1x k1y k2x k2y : Nat} [h1x : CA w (.agg #[.bool g1x, .slice a1x l1x c1x, .slice aa1x ll1x cc1x]) x1 k1x] [h1y : CA w (.agg #[.bool g1y, .slice a1y l1y c1y, .slice aa1y ll1y cc1y]) y1 k1y] [h2x : CA w (.agg #[.bool g2x, .slice a2x l2x c2x, .slice aa2x ll2x cc2x]) x2 k2x] [h2y : CA w (.agg #[.bool g2y, .slice a2y l2y c2y, .slice aa2y ll2y cc2y]) y2 k2y] (hx : x1 = x2) (hy : y1 = y2) :
    Calls Tryz.prog 74 #[.agg #[.bool g1x, .slice a1x l1x c1x, .slice aa1x ll1x cc1x, .bool g1y, .slice a1y l1y c1y, .slice aa1y ll1y cc1y], .agg #[.bool g2x, .slice a2x l2x c2x, .slice aa2x ll2x cc2x, .bool g2y, .slice a2y l2y c2y, .slice aa2y ll2y cc2y]] w (fun e w' => e = .returned (.bool true) ∧ Below w.heap.size w w') := by
  subst hx hy
  go_enter Tryz.func74, Tryz.ntmps74
  go_wp2_with (first
    | (go_at_call 57; (with_reducible refine Calls.cE (sameQC rfl) ?_); intros))
  go_ret
  exact E.fin rfl

end Go.Proofs.YtlameeijogdckaaGreat

/- Plain laws: the order of directions, and primitive vectors. No program is in sight here. -/
namespace Go.Proofs.YtlameeijogdckaaGreat
theorem isg_zero {x : Rat} : isgn x.num = 0 ↔ x = 0 := by
  rw [← rsgn_isgn, rsgn_zero]
theorem mul_ps {a b : Rat} (h1 : 0 < a) (h2 : 0 < b) : 0 < a * b := Rat.mul_pos h1 h2
/-- The primitive vector of a direction. -/
def primX (x y : Rat) : Int := (x.num * (y.den : Int)) / ((Nat.gcd (x.num.natAbs * y.den) (y.num.natAbs * x.den) : Nat) : Int)
theorem primX_mul (x y : Rat) : ((primX x y : Int) : Rat) = x * (rgcd x y)⁻¹ := by
  have hd : x.den * y.den ≠ 0 := Nat.mul_ne_zero x.den_nz y.den_nz
  by_cases h : Nat.gcd (x.num.natAbs * y.den) (y.num.natAbs * x.den) = 0
  · have hx : x = 0 := by
      have := Nat.eq_zero_of_gcd_eq_zero_left h
      rcases Nat.mul_eq_zero.1 this with h' | h'
      · exact Rat.num_eq_zero.1 (by omega)
      · exact absurd h' y.den_nz
    subst hx
    unfold primX
    rw [h]
    simp
  · unfold primX rgcd
    generalize hG : Nat.gcd (x.num.natAbs * y.den) (y.num.natAbs * x.den) = G at *
    have hdv : (G : Int) ∣ x.num * (y.den : Int) := by
      rw [← Int.natAbs_dvd_natAbs, Int.natAbs_mul]
      simp only [Int.natAbs_natCast]
      rw [← hG]; exact Nat.gcd_dvd_left _ _
    obtain ⟨c, hc⟩ := hdv
    have hG0 : (G : Int) ≠ 0 := by omega
    rw [hc, Int.mul_ediv_cancel_left _ hG0]
    have hGr : ((G : Int) : Rat) ≠ 0 := by exact_mod_cast hG0
    have hxd : ((x.den : Int) : Rat) ≠ 0 := by have := x.den_nz; exact_mod_cast this
    have hyd : ((y.den : Int) : Rat) ≠ 0 := by have := y.den_nz; exact_mod_cast this
    have e1 : mkRat (G : Int) (x.den * y.den) = ((G : Int) : Rat) / (((x.den : Int) : Rat) * ((y.den : Int) : Rat)) := by
      rw [Rat.mkRat_eq_div]; push_cast; rfl
    have e2 : x = (x.num : Rat) / ((x.den : Int) : Rat) := by
      have := Rat.mkRat_self x
      rw [Rat.mkRat_eq_div] at this
      exact this.symm
    have e3 : (x.num : Rat) * ((y.den : Int) : Rat) = ((G : Int) : Rat) * (c : Rat) := by exact_mod_cast congrArg (fun z : Int => (z : Rat)) hc
    rw [e1]
    refine Eq.trans ?_ (congrArg (fun z : Rat => z * (((G : Int) : Rat) / (((x.den : Int) : Rat) * ((y.den : Int) : Rat)))⁻¹) e2.symm)
    show (c : Rat) = _ * _
    rw [Rat.div_def, Rat.div_def]
    generalize (x.num : Rat) = a at *
    generalize ((x.den : Int) : Rat) = b at *
    generalize ((y.den : Int) : Rat) = d at *
    generalize ((G : Int) : Rat) = g at *
    have i1 := Rat.mul_inv_cancel b hxd
    have i2 := Rat.mul_inv_cancel g hGr
    have i3 : (g * (b * d)⁻¹)⁻¹ = g⁻¹ * (b * d) := by rw [Rat.inv_mul_rev, Rat.inv_inv]; grind
    rw [i3]
    grind
theorem rgcd_comm (x y : Rat) : rgcd y x = rgcd x y := by
  unfold rgcd; rw [Nat.gcd_comm, Nat.mul_comm y.den x.den]
theorem prim_gcd (x y : Rat) (h : ¬ (x = 0 ∧ y = 0)) : Nat.gcd (primX x y).natAbs (primX y x).natAbs = 1 := by
  unfold primX
  rw [Nat.gcd_comm (y.num.natAbs * x.den)]
  rw [int_div_abs, int_div_abs]
  · simp only [Int.natAbs_mul, Int.natAbs_natCast]
    have h0 : 0 < Nat.gcd (x.num.natAbs * y.den) (y.num.natAbs * x.den) := by
      rcases Nat.eq_zero_or_pos (Nat.gcd (x.num.natAbs * y.den) (y.num.natAbs * x.den)) with h0 | h0
      · exfalso
        refine h ⟨?_, ?_⟩
        · have := Nat.eq_zero_of_gcd_eq_zero_left h0
          rcases Nat.mul_eq_zero.1 this with h' | h'
          · exact Rat.num_eq_zero.1 (by omega)
          · exact absurd h' y.den_nz
        · have := Nat.eq_zero_of_gcd_eq_zero_right h0
          rcases Nat.mul_eq_zero.1 this with h' | h'
          · exact Rat.num_eq_zero.1 (by omega)
          · exact absurd h' x.den_nz
      · exact h0
    rw [Nat.gcd_div (Nat.gcd_dvd_left _ _) (Nat.gcd_dvd_right _ _), Nat.div_self h0]
  · simp only [Int.natAbs_mul, Int.natAbs_natCast]; exact Nat.gcd_dvd_right _ _
  · simp only [Int.natAbs_mul, Int.natAbs_natCast]; exact Nat.gcd_dvd_left _ _
theorem rgcd_pos (x y : Rat) (h : ¬ (x = 0 ∧ y = 0)) : 0 < rgcd x y := by
  unfold rgcd
  have h0 : 0 < Nat.gcd (x.num.natAbs * y.den) (y.num.natAbs * x.den) := by
    rcases Nat.eq_zero_or_pos (Nat.gcd (x.num.natAbs * y.den) (y.num.natAbs * x.den)) with h0 | h0
    · exfalso
      refine h ⟨?_, ?_⟩
      · have := Nat.eq_zero_of_gcd_eq_zero_left h0
        rcases Nat.mul_eq_zero.1 this with h' | h'
        · exact Rat.num_eq_zero.1 (by omega)
        · exact absurd h' y.den_nz
      · have := Nat.eq_zero_of_gcd_eq_zero_right h0
        rcases Nat.mul_eq_zero.1 this with h' | h'
        · exact Rat.num_eq_zero.1 (by omega)
        · exact absurd h' x.den_nz
    · exact h0
  generalize Nat.gcd (x.num.natAbs * y.den) (y.num.natAbs * x.den) = G at *
  rw [Rat.mkRat_eq_div, Rat.div_def]
  refine mul_ps (by exact_mod_cast h0) (Rat.inv_pos.2 ?_)
  have := Nat.mul_pos (den_pos' x) (den_pos' y)
  exact_mod_cast this
/-- Coprime integer vectors that are positive multiples of each other are equal. -/
theorem coprime_uniq {a b c d : Int} (h1 : Nat.gcd a.natAbs b.natAbs = 1) (h2 : Nat.gcd c.natAbs d.natAbs = 1) {t : Rat} (ht : 0 < t) (e1 : (a : Rat) = c * t) (e2 : (b : Rat) = d * t) : a = c ∧ b = d := by
  have hd : ((t.den : Int) : Rat) ≠ 0 := by have := t.den_nz; exact_mod_cast this
  have et : t * ((t.den : Int) : Rat) = (t.num : Rat) := by
    have := Rat.mkRat_self t
    rw [Rat.mkRat_eq_div, Rat.div_def] at this
    have i := Rat.mul_inv_cancel _ hd
    have e : ((t.den : Int) : Rat) = ((t.den : Nat) : Rat) := by push_cast; rfl
    rw [e] at *
    grind
  have f1 : a * (t.den : Int) = c * t.num := by
    have : (a : Rat) * ((t.den : Int) : Rat) = c * (t.num : Rat) := by rw [e1, ← et]; grind
    exact_mod_cast this
  have f2 : b * (t.den : Int) = d * t.num := by
    have : (b : Rat) * ((t.den : Int) : Rat) = d * (t.num : Rat) := by rw [e2, ← et]; grind
    exact_mod_cast this
  have hn : 0 < t.num := by
    have := (rsgn_pos (x := t)).2 ht
    rw [rsgn_isgn] at this
    rcases isgn_cases t.num with ⟨_, h⟩ | ⟨_, h⟩ | ⟨h, _⟩ <;> omega
  have g1 : t.den = t.num.natAbs := by
    have k1 : Nat.gcd (a * (t.den : Int)).natAbs (b * (t.den : Int)).natAbs = t.den := by
      rw [Int.natAbs_mul, Int.natAbs_mul, Int.natAbs_natCast, Nat.gcd_mul_right, h1, Nat.one_mul]
    have k2 : Nat.gcd (c * t.num).natAbs (d * t.num).natAbs = t.num.natAbs := by
      rw [Int.natAbs_mul, Int.natAbs_mul, Nat.gcd_mul_right, h2, Nat.one_mul]
    rw [← k1, ← k2, f1, f2]
  have g2 : (t.den : Int) = t.num := by omega
  rw [g2] at f1 f2
  exact ⟨Int.eq_of_mul_eq_mul_right (by omega) f1, Int.eq_of_mul_eq_mul_right (by omega) f2⟩
end Go.Proofs.YtlameeijogdckaaGreat
