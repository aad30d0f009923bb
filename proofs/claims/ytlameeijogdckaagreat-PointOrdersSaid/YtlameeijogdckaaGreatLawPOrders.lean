/-
  The walk of the law PointOrders: it returns true and changes nothing that was there.
  Printed by a small program (mklaw4c.py).
-/
import Derived.Test.YtlameeijogdckaaGreatTK
import Derived.Test.YtlameeijogdckaaGreatRI
import Derived.Test.YtlameeijogdckaaGreatTv
namespace Go.Proofs.YtlameeijogdckaaGreat
open Go.RowKit

set_option linter.unusedSimpArgs false
theorem Bx.re2 {W : World} {b : Nat} {t : TypeId} {l l' : List Value} [h : Bx W b t l] (e : l = l') : Bx W b t l' := by subst e; exact h
def O3Rel (W5 : World) (x1 y1 x2 y2 x3 y3 : Rat) (p q r : Value) (wx : World) : Prop := ∃ (b1 b2 b3 : Nat) (g1x : Bool) (a1x : Option Addr) (l1x c1x : Nat) (aa1x : Option Addr) (ll1x cc1x : Nat) (g1y : Bool) (a1y : Option Addr) (l1y c1y : Nat) (aa1y : Option Addr) (ll1y cc1y : Nat) (g2x : Bool) (a2x : Option Addr) (l2x c2x : Nat) (aa2x : Option Addr) (ll2x cc2x : Nat) (g2y : Bool) (a2y : Option Addr) (l2y c2y : Nat) (aa2y : Option Addr) (ll2y cc2y : Nat) (g3x : Bool) (a3x : Option Addr) (l3x c3x : Nat) (aa3x : Option Addr) (ll3x cc3x : Nat) (g3y : Bool) (a3y : Option Addr) (l3y c3y : Nat) (aa3y : Option Addr) (ll3y cc3y : Nat), p = .pointer (some ⟨b1, 0, none⟩) ∧ q = .pointer (some ⟨b2, 0, none⟩) ∧ r = .pointer (some ⟨b3, 0, none⟩) ∧ Bx wx b1 38 [.bool g1x, .slice a1x l1x c1x, .slice aa1x ll1x cc1x, .bool g1y, .slice a1y l1y c1y, .slice aa1y ll1y cc1y] ∧ Bx wx b2 38 [.bool g2x, .slice a2x l2x c2x, .slice aa2x ll2x cc2x, .bool g2y, .slice a2y l2y c2y, .slice aa2y ll2y cc2y] ∧ Bx wx b3 38 [.bool g3x, .slice a3x l3x c3x, .slice aa3x ll3x cc3x, .bool g3y, .slice a3y l3y c3y, .slice aa3y ll3y cc3y] ∧ CQ wx (.agg #[.bool g1x, .slice a1x l1x c1x, .slice aa1x ll1x cc1x]) x1 14 ∧ CQ wx (.agg #[.bool g1y, .slice a1y l1y c1y, .slice aa1y ll1y cc1y]) y1 14 ∧ CQ wx (.agg #[.bool g2x, .slice a2x l2x c2x, .slice aa2x ll2x cc2x]) x2 14 ∧ CQ wx (.agg #[.bool g2y, .slice a2y l2y c2y, .slice aa2y ll2y cc2y]) y2 14 ∧ CQ wx (.agg #[.bool g3x, .slice a3x l3x c3x, .slice aa3x ll3x cc3x]) x3 102 ∧ CQ wx (.agg #[.bool g3y, .slice a3y l3y c3y, .slice aa3y ll3y cc3y]) y3 102 ∧ Kp W5 wx
theorem O3Rel.intro {W5 wx : World} {x1 y1 x2 y2 x3 y3 : Rat} {b1 b2 b3 : Nat} {k1x k1y k2x k2y k3x k3y : Nat} {g1x : Bool} {a1x : Option Addr} {l1x c1x : Nat} {aa1x : Option Addr} {ll1x cc1x : Nat} {g1y : Bool} {a1y : Option Addr} {l1y c1y : Nat} {aa1y : Option Addr} {ll1y cc1y : Nat} {g2x : Bool} {a2x : Option Addr} {l2x c2x : Nat} {aa2x : Option Addr} {ll2x cc2x : Nat} {g2y : Bool} {a2y : Option Addr} {l2y c2y : Nat} {aa2y : Option Addr} {ll2y cc2y : Nat} {g3x : Bool} {a3x : Option Addr} {l3x c3x : Nat} {aa3x : Option Addr} {ll3x cc3x : Nat} {g3y : Bool} {a3y : Option Addr} {l3y c3y : Nat} {aa3y : Option Addr} {ll3y cc3y : Nat} [i1 : Bx wx b1 38 [.bool g1x, .slice a1x l1x c1x, .slice aa1x ll1x cc1x, .bool g1y, .slice a1y l1y c1y, .slice aa1y ll1y cc1y]] [i2 : Bx wx b2 38 [.bool g2x, .slice a2x l2x c2x, .slice aa2x ll2x cc2x, .bool g2y, .slice a2y l2y c2y, .slice aa2y ll2y cc2y]] [i3 : Bx wx b3 38 [.bool g3x, .slice a3x l3x c3x, .slice aa3x ll3x cc3x, .bool g3y, .slice a3y l3y c3y, .slice aa3y ll3y cc3y]] [j1x : CQ wx (.agg #[.bool g1x, .slice a1x l1x c1x, .slice aa1x ll1x cc1x]) x1 k1x] [j1y : CQ wx (.agg #[.bool g1y, .slice a1y l1y c1y, .slice aa1y ll1y cc1y]) y1 k1y] [j2x : CQ wx (.agg #[.bool g2x, .slice a2x l2x c2x, .slice aa2x ll2x cc2x]) x2 k2x] [j2y : CQ wx (.agg #[.bool g2y, .slice a2y l2y c2y, .slice aa2y ll2y cc2y]) y2 k2y] [j3x : CQ wx (.agg #[.bool g3x, .slice a3x l3x c3x, .slice aa3x ll3x cc3x]) x3 k3x] [j3y : CQ wx (.agg #[.bool g3y, .slice a3y l3y c3y, .slice aa3y ll3y cc3y]) y3 k3y] [k : Kp W5 wx] (m : k1x ≤ 14 ∧ k1y ≤ 14 ∧ k2x ≤ 14 ∧ k2y ≤ 14 ∧ k3x ≤ 102 ∧ k3y ≤ 102) : O3Rel W5 x1 y1 x2 y2 x3 y3 (.pointer (some ⟨b1, 0, none⟩)) (.pointer (some ⟨b2, 0, none⟩)) (.pointer (some ⟨b3, 0, none⟩)) wx :=
  ⟨b1, b2, b3, g1x, a1x, l1x, c1x, aa1x, ll1x, cc1x, g1y, a1y, l1y, c1y, aa1y, ll1y, cc1y, g2x, a2x, l2x, c2x, aa2x, ll2x, cc2x, g2y, a2y, l2y, c2y, aa2y, ll2y, cc2y, g3x, a3x, l3x, c3x, aa3x, ll3x, cc3x, g3y, a3y, l3y, c3y, aa3y, ll3y, cc3y, rfl, rfl, rfl, i1, i2, i3, j1x.cast rfl (by omega), j1y.cast rfl (by omega), j2x.cast rfl (by omega), j2y.cast rfl (by omega), j3x.cast rfl (by omega), j3y.cast rfl (by omega), k⟩
def P3Box (w : World) (q1 q2 q3 : Nat) (x1 y1 x2 y2 : Rat) (g1 : Bool) (a1 : Option Addr) (l1 c1 : Nat) (aa1 : Option Addr) (ll1 cc1 : Nat) (G1 : Bool) (A1 : Option Addr) (L1 C1 : Nat) (AA1 : Option Addr) (LL1 CC1 : Nat) (g2 : Bool) (a2 : Option Addr) (l2 c2 : Nat) (aa2 : Option Addr) (ll2 cc2 : Nat) (G2 : Bool) (A2 : Option Addr) (L2 C2 : Nat) (AA2 : Option Addr) (LL2 CC2 : Nat) (wx : World) : Prop := ∃ (g3 : Bool) (a3 : Option Addr) (l3 c3 : Nat) (aa3 : Option Addr) (ll3 cc3 : Nat) (G3 : Bool) (A3 : Option Addr) (L3 C3 : Nat) (AA3 : Option Addr) (LL3 CC3 : Nat) (x3 y3 : Rat), Bx wx q1 29 [.bool g1, .slice a1 l1 c1, .slice aa1 ll1 cc1, .bool G1, .slice A1 L1 C1, .slice AA1 LL1 CC1] ∧ Bx wx q2 29 [.bool g2, .slice a2 l2 c2, .slice aa2 ll2 cc2, .bool G2, .slice A2 L2 C2, .slice AA2 LL2 CC2] ∧ Bx wx q3 29 [.bool g3, .slice a3 l3 c3, .slice aa3 ll3 cc3, .bool G3, .slice A3 L3 C3, .slice AA3 LL3 CC3] ∧ CW wx (.agg #[.bool g1, .slice a1 l1 c1, .slice aa1 ll1 cc1]) x1 12 ∧ CW wx (.agg #[.bool G1, .slice A1 L1 C1, .slice AA1 LL1 CC1]) y1 12 ∧ CW wx (.agg #[.bool g2, .slice a2 l2 c2, .slice aa2 ll2 cc2]) x2 12 ∧ CW wx (.agg #[.bool G2, .slice A2 L2 C2, .slice AA2 LL2 CC2]) y2 12 ∧ CW wx (.agg #[.bool g3, .slice a3 l3 c3, .slice aa3 ll3 cc3]) x3 100 ∧ CW wx (.agg #[.bool G3, .slice A3 L3 C3, .slice AA3 LL3 CC3]) y3 100 ∧ Kp w wx
set_option maxRecDepth 100000 in
set_option maxHeartbeats 40000000 in
set_option synthInstance.maxSize 100000 in
set_option synthInstance.maxHeartbeats 1000000 in
theorem pointOrders_walk (a0 : Option Addr) (len0 cap0 : Nat) (z0 : List Int) (w : World) (w0 : IsRow .i64 w a0 len0 cap0 z0) :
    Calls Tryz.prog 6 #[.slice a0 len0 cap0] w fun e w' => e = .returned (.bool true) ∧ Below w.heap.size w w' := by
  go_enter Tryz.func6, Tryz.ntmps6
  go_wp2_with fail
  with_reducible refine Calls.cNew (newW w0) ?_
  intro W1 _ _
  go_wp2_with fail
  with_reducible refine Calls.cTR roughC ?_
  intro W2 _ _ g1 a1 l1 c1 aa1 ll1 cc1 G1 A1 L1 C1 AA1 LL1 CC1 x1 y1 _ _
  go_wp2_with fail
  with_reducible refine Calls.cTR roughC ?_
  intro W3 _ _ g2 a2 l2 c2 aa2 ll2 cc2 G2 A2 L2 C2 AA2 LL2 CC2 x2 y2 _ _
  go_wp2_with fail
  with_reducible refine Calls.cTR roughC ?_
  intro W4 _ _ g3 a3 l3 c3 aa3 ll3 cc3 G3 A3 L3 C3 AA3 LL3 CC3 x3 y3 _ _
  go_wp2_with fail
  with_reducible refine Calls.cNext (nextC (by omega)) ?_
  intro W5 _ _ v hv0 hv1
  go_upto_if 20 with fail
  go_cut [] from 21 to 31 (fun wx => P3Box w W4.heap.size (W4.heap.size + 1) (W4.heap.size + 1 + 1) x1 y1 x2 y2 g1 a1 l1 c1 aa1 ll1 cc1 G1 A1 L1 C1 AA1 LL1 CC1 g2 a2 l2 c2 aa2 ll2 cc2 G2 A2 L2 C2 AA2 LL2 CC2 wx)
  case first =>
    by_cases hv : v = 0
    · subst hv
      go_wp2_with fail
      refine region_cls (by kernel_rfl) [W4.heap.size + 1 + 1, w.heap.size] (fun hHeld => ?_)
      refine wpAnyH_take (i := 0) (v := ?z420) (by simp; rfl) (by kernel_rfl) (by kernel_rfl) (by kernel_rfl) (by exact fun _ _ _ h => h) (Or.inl ⟨by rfl, ?yz420⟩) hHeld ?_
      case yz420 => (intro wx hSw; have hSx := Ex1.mk hSw; go_simp; (try with_reducible rfl))
      try simp only [Act.put, List.setIfInBounds_toArray, List.set_cons_zero, List.set_cons_succ]
      refine wpAnyH_take (i := 2) (v := ?z421) (by simp; rfl) (by kernel_rfl) (by kernel_rfl) (by kernel_rfl) (by exact fun _ _ _ h => h) (Or.inl ⟨by rfl, ?yz421⟩) hHeld ?_
      case yz421 => (intro wx hSw; have hSx := Ex1.mk hSw; go_simp; (try with_reducible rfl))
      try simp only [Act.put, List.setIfInBounds_toArray, List.set_cons_zero, List.set_cons_succ]
      refine wpAnyH_take (i := 4) (v := ?z422) (by simp; rfl) (by kernel_rfl) (by kernel_rfl) (by kernel_rfl) (by exact fun _ _ _ h => h) (Or.inl ⟨by rfl, ?yz422⟩) hHeld ?_
      case yz422 => (intro wx hSw; have hSx := Ex1.mk hSw; go_simp; (try with_reducible rfl))
      try simp only [Act.put, List.setIfInBounds_toArray, List.set_cons_zero, List.set_cons_succ]
      refine wpAnyH_take (i := 6) (v := ?z423) (by simp; rfl) (by kernel_rfl) (by kernel_rfl) (by kernel_rfl) (by exact fun _ _ _ h => h) (Or.inl ⟨by rfl, ?yz423⟩) hHeld ?_
      case yz423 => (intro wx hSw; have hSx := Ex1.mk hSw; go_simp; (try with_reducible rfl))
      try simp only [Act.put, List.setIfInBounds_toArray, List.set_cons_zero, List.set_cons_succ]
      refine wpAnyH_ready (rs := [1]) (by kernel_rfl) (by simp) ?_
      refine AllReadyH.cons (by simp; rfl) (fun K hK => ?_) AllReadyH.nil
      go_simp
      (go_at_call 14; (with_reducible refine Calls.cPQ (refPtC (by omega)) ?_); intros)
      refine hK.out _ _ inferInstance ?_
      clear hHeld hK K
      intro hHeld
      try simp only [Act.put, List.setIfInBounds_toArray, List.set_cons_zero, List.set_cons_succ]
      refine wpAnyH_ready (rs := [3]) (by kernel_rfl) (by simp) ?_
      refine AllReadyH.cons (by simp; rfl) (fun K hK => ?_) AllReadyH.nil
      go_simp
      (go_at_call 47; (with_reducible refine Calls.cTQ (tapeQC) ?_); intros)
      refine hK.out _ _ inferInstance ?_
      clear hHeld hK K
      intro hHeld
      try simp only [Act.put, List.setIfInBounds_toArray, List.set_cons_zero, List.set_cons_succ]
      refine wpAnyH_ready (rs := [5]) (by kernel_rfl) (by simp) ?_
      refine AllReadyH.cons (by simp; rfl) (fun K hK => ?_) AllReadyH.nil
      go_simp
      (go_at_call 14; (with_reducible refine Calls.cPQ (refPtC (by omega)) ?_); intros)
      refine hK.out _ _ inferInstance ?_
      clear hHeld hK K
      intro hHeld
      try simp only [Act.put, List.setIfInBounds_toArray, List.set_cons_zero, List.set_cons_succ]
      refine wpAnyH_ready (rs := [7]) (by kernel_rfl) (by simp) ?_
      refine AllReadyH.cons (by simp; rfl) (fun K hK => ?_) AllReadyH.nil
      go_simp
      (go_at_call 14; (with_reducible refine Calls.cPQ (refPtC (by omega)) ?_); intros)
      refine hK.out _ _ inferInstance ?_
      clear hHeld hK K
      intro hHeld
      try simp only [Act.put, List.setIfInBounds_toArray, List.set_cons_zero, List.set_cons_succ]
      refine wpAnyH_ready (rs := [8]) (by kernel_rfl) (by simp) ?_
      refine AllReadyH.cons (by simp; rfl) (fun K hK => ?_) AllReadyH.nil
      go_simp
      (go_at_call 48; (with_reducible refine Calls.cPQ (refPSubC (by omega)) ?_); intros)
      refine hK.out _ _ inferInstance ?_
      clear hHeld hK K
      intro hHeld
      try simp only [Act.put, List.setIfInBounds_toArray, List.set_cons_zero, List.set_cons_succ]
      refine wpAnyH_ready (rs := [9]) (by kernel_rfl) (by simp) ?_
      refine AllReadyH.cons (by simp; rfl) (fun K hK => ?_) AllReadyH.nil
      go_simp
      (go_at_call 46; (with_reducible refine Calls.cPQ (refPAddC (by omega)) ?_); intros)
      refine hK.out _ _ inferInstance ?_
      clear hHeld hK K
      intro hHeld
      try simp only [Act.put, List.setIfInBounds_toArray, List.set_cons_zero, List.set_cons_succ]
      refine wpAnyH_ready (rs := [10]) (by kernel_rfl) (by simp) ?_
      refine AllReadyH.cons (by simp; rfl) (fun K hK => ?_) AllReadyH.nil
      go_simp
      (go_at_call 33; (with_reducible refine Calls.cPA (toPC (by omega)) ?_); intros)
      refine hK.out _ _ inferInstance ?_
      clear hHeld hK K
      intro hHeld
      try simp only [Act.put, List.setIfInBounds_toArray, List.set_cons_zero, List.set_cons_succ]
      refine wpAnyH_ready (rs := [11]) (by kernel_rfl) (by simp) ?_
      refine AllReadyH.cons (by simp; rfl) (fun K hK => ?_) AllReadyH.nil
      go_simp
      refine hK.out _ _ inferInstance ?_
      clear hHeld hK K
      intro hHeld
      try simp only [Act.put, List.setIfInBounds_toArray, List.set_cons_zero, List.set_cons_succ]
      refine wpAnyH_done (by kernel_rfl) ?_ _
      clear hHeld
      go_wp2_with fail
      go_meet
      exact ⟨_, _, _, _, _, _, _, _, _, _, _, _, _, _, _, _, Bx.re2 rfl, Bx.re2 rfl, Bx.re2 rfl, inferInstance, inferInstance, inferInstance, inferInstance, CW.cast (CW.of inferInstance) rfl (by omega), CW.cast (CW.of inferInstance) rfl (by omega), inferInstance⟩
    · have hv2 : (v == 0) = false := by rw [beq_eq_false_iff_ne]; exact hv
      clear hv
      go_wp2_with fail
      go_meet
      exact ⟨g3, a3, l3, c3, aa3, ll3, cc3, G3, A3, L3, C3, AA3, LL3, CC3, x3, y3, inferInstance, inferInstance, inferInstance, inferInstance, inferInstance, inferInstance, inferInstance, CW.cast inferInstance rfl (by omega), CW.cast inferInstance rfl (by omega), inferInstance⟩
  case rest =>
    obtain ⟨g3, a3, l3, c3, aa3, ll3, cc3, G3, A3, L3, C3, AA3, LL3, CC3, x3, y3, m1, m2, m3, n1, n2, n3, n4, n5, n6, n7⟩ := hcut
    go_upto_region 5 with fail
    go_cut [7, 8, 9] from 32 to 37 (fun p q r wx => O3Rel wc x1 y1 x2 y2 x3 y3 p q r wx)
    case first =>
      refine region_t (by kernel_rfl) [] (List.contains []) (fun hHeld => ?_)
      refine wpAnyT_take (i := 0) (v := ?z424) (by simp; rfl) (by kernel_rfl) (by kernel_rfl) (by kernel_rfl) (by exact fun _ _ _ h => h) (T_waits (by kernel_rfl)) (Or.inl ⟨by rfl, ?yz424⟩) hHeld ?_
      case yz424 => (intro wx hSw; have hSx := Ex1.mk hSw; go_simp; (try with_reducible rfl))
      try simp only [Act.put, List.setIfInBounds_toArray, List.set_cons_zero, List.set_cons_succ]
      refine wpAnyT_take (i := 2) (v := ?z425) (by simp; rfl) (by kernel_rfl) (by kernel_rfl) (by kernel_rfl) (by exact fun _ _ _ h => h) (T_waits (by kernel_rfl)) (Or.inl ⟨by rfl, ?yz425⟩) hHeld ?_
      case yz425 => (intro wx hSw; have hSx := Ex1.mk hSw; go_simp; (try with_reducible rfl))
      try simp only [Act.put, List.setIfInBounds_toArray, List.set_cons_zero, List.set_cons_succ]
      refine wpAnyT_take (i := 4) (v := ?z426) (by simp; rfl) (by kernel_rfl) (by kernel_rfl) (by kernel_rfl) (by exact fun _ _ _ h => h) (T_waits (by kernel_rfl)) (Or.inl ⟨by rfl, ?yz426⟩) hHeld ?_
      case yz426 => (intro wx hSw; have hSx := Ex1.mk hSw; go_simp; (try with_reducible rfl))
      try simp only [Act.put, List.setIfInBounds_toArray, List.set_cons_zero, List.set_cons_succ]
      refine wpAnyT_inv [(1, 33), (3, 35), (5, 37), (6, 7), (7, 8), (8, 9)] (fun i => match i with | 1 => [] | 3 => [1] | 5 => [3] | 6 => [] | 7 => [] | 8 => [] | _ => []) [phiPQ x1 y1 14, phiPQ x2 y2 14, phiPQ x3 y3 102, phiB wc 38 [.bool false, .slice none 0 0, .slice none 0 0, .bool false, .slice none 0 0, .slice none 0 0], phiB wc 38 [.bool false, .slice none 0 0, .slice none 0 0, .bool false, .slice none 0 0, .slice none 0 0], phiB wc 38 [.bool false, .slice none 0 0, .slice none 0 0, .bool false, .slice none 0 0, .slice none 0 0]] [6, 7, 8] 3 (by rfl) (by decide +kernel) (by decide) (by decide) (by kernel_rfl) ?_ (fun _ _ => Ex.below) hHeld ?_ ?_
      · intro i hi v W h
        simp only [List.mem_cons, List.not_mem_nil, or_false] at hi
        rcases hi with rfl | rfl | rfl
        all_goals exact phiB.old h
      · intro i hi f W hSw hbw hp
        have kw := Kp1.mk hbw
        have hSx := Ex1.mk hSw
        clear hHeld
        simp only [List.map_cons, List.map_nil, List.mem_cons, List.not_mem_nil, or_false] at hi
        rcases hi with rfl | rfl | rfl | rfl | rfl | rfl
        · refine ⟨_, by simp; rfl, fun K' hK => ?_⟩
          clear hp
          simp only [putAll, Act.put, List.setIfInBounds_toArray, List.set_cons_zero, List.set_cons_succ] at hK ⊢
          generalize f 1 = v1 at *
          generalize f 3 = v3 at *
          generalize f 5 = v5 at *
          generalize f 6 = v6 at *
          generalize f 7 = v7 at *
          generalize f 8 = v8 at *
          go_simp
          (go_at_call 14; (with_reducible refine Calls.cPQ (refPtC (by omega)) ?_); intros)
          refine hK.out _ _ _ rfl ?_ ?_ ?_
          · exact (inferInstance : Kp W _).out
          · show phiPQ x1 y1 14 _ _
            exact phiPQ.fin (by omega) (by omega)
          · exact fun h => absurd h (by decide)
        · have h1 : phiPQ x1 y1 14 (f 1) W := hp 1 (by decide)
          refine ⟨_, by simp; rfl, fun K' hK => ?_⟩
          clear hp
          simp only [putAll, Act.put, List.setIfInBounds_toArray, List.set_cons_zero, List.set_cons_succ] at hK ⊢
          generalize f 1 = v1 at *
          generalize f 3 = v3 at *
          generalize f 5 = v5 at *
          generalize f 6 = v6 at *
          generalize f 7 = v7 at *
          generalize f 8 = v8 at *
          obtain ⟨gq1, aq1, lq1, cq1, aaq1, llq1, ccq1, Gq1, Aq1, Lq1, Cq1, AAq1, LLq1, CCq1, rfl, iq1, jq1⟩ := h1
          go_simp
          (go_at_call 14; (with_reducible refine Calls.cPQ (refPtC (by omega)) ?_); intros)
          refine hK.out _ _ _ rfl ?_ ?_ ?_
          · exact (inferInstance : Kp W _).out
          · show phiPQ x2 y2 14 _ _
            exact phiPQ.fin (by omega) (by omega)
          · exact fun h => absurd h (by decide)
        · have h3 : phiPQ x2 y2 14 (f 3) W := hp 3 (by decide)
          refine ⟨_, by simp; rfl, fun K' hK => ?_⟩
          clear hp
          simp only [putAll, Act.put, List.setIfInBounds_toArray, List.set_cons_zero, List.set_cons_succ] at hK ⊢
          generalize f 1 = v1 at *
          generalize f 3 = v3 at *
          generalize f 5 = v5 at *
          generalize f 6 = v6 at *
          generalize f 7 = v7 at *
          generalize f 8 = v8 at *
          obtain ⟨gq3, aq3, lq3, cq3, aaq3, llq3, ccq3, Gq3, Aq3, Lq3, Cq3, AAq3, LLq3, CCq3, rfl, iq3, jq3⟩ := h3
          go_simp
          (go_at_call 14; (with_reducible refine Calls.cPQ (refPtC (by omega)) ?_); intros)
          refine hK.out _ _ _ rfl ?_ ?_ ?_
          · exact (inferInstance : Kp W _).out
          · show phiPQ x3 y3 102 _ _
            exact phiPQ.fin (by omega) (by omega)
          · exact fun h => absurd h (by decide)
        · refine ⟨_, by simp; rfl, fun K' hK => ?_⟩
          clear hp
          simp only [putAll, Act.put, List.setIfInBounds_toArray, List.set_cons_zero, List.set_cons_succ] at hK ⊢
          generalize f 1 = v1 at *
          generalize f 3 = v3 at *
          generalize f 5 = v5 at *
          generalize f 6 = v6 at *
          generalize f 7 = v7 at *
          generalize f 8 = v8 at *
          go_simp
          refine hK.out _ _ _ rfl ?_ ?_ ?_
          · exact (inferInstance : Kp W _).out
          · show phiB wc 38 [.bool false, .slice none 0 0, .slice none 0 0, .bool false, .slice none 0 0, .slice none 0 0] _ _
            exact phiB.fin
          · exact fun _ => ⟨_, rfl, Nat.le_refl _⟩
        · refine ⟨_, by simp; rfl, fun K' hK => ?_⟩
          clear hp
          simp only [putAll, Act.put, List.setIfInBounds_toArray, List.set_cons_zero, List.set_cons_succ] at hK ⊢
          generalize f 1 = v1 at *
          generalize f 3 = v3 at *
          generalize f 5 = v5 at *
          generalize f 6 = v6 at *
          generalize f 7 = v7 at *
          generalize f 8 = v8 at *
          go_simp
          refine hK.out _ _ _ rfl ?_ ?_ ?_
          · exact (inferInstance : Kp W _).out
          · show phiB wc 38 [.bool false, .slice none 0 0, .slice none 0 0, .bool false, .slice none 0 0, .slice none 0 0] _ _
            exact phiB.fin
          · exact fun _ => ⟨_, rfl, Nat.le_refl _⟩
        · refine ⟨_, by simp; rfl, fun K' hK => ?_⟩
          clear hp
          simp only [putAll, Act.put, List.setIfInBounds_toArray, List.set_cons_zero, List.set_cons_succ] at hK ⊢
          generalize f 1 = v1 at *
          generalize f 3 = v3 at *
          generalize f 5 = v5 at *
          generalize f 6 = v6 at *
          generalize f 7 = v7 at *
          generalize f 8 = v8 at *
          go_simp
          refine hK.out _ _ _ rfl ?_ ?_ ?_
          · exact (inferInstance : Kp W _).out
          · show phiB wc 38 [.bool false, .slice none 0 0, .slice none 0 0, .bool false, .slice none 0 0, .slice none 0 0] _ _
            exact phiB.fin
          · exact fun _ => ⟨_, rfl, Nat.le_refl _⟩
      · intro f W hSw hbw hf hne
        have kw := Kp1.mk hbw
        have hSx := Ex1.mk hSw
        clear hHeld
        have h1 : phiPQ x1 y1 14 (f 1) W := hf 1 (by decide)
        have h3 : phiPQ x2 y2 14 (f 3) W := hf 3 (by decide)
        have h5 : phiPQ x3 y3 102 (f 5) W := hf 5 (by decide)
        have h6 : phiB wc 38 [.bool false, .slice none 0 0, .slice none 0 0, .bool false, .slice none 0 0, .slice none 0 0] (f 6) W := hf 6 (by decide)
        have h7 : phiB wc 38 [.bool false, .slice none 0 0, .slice none 0 0, .bool false, .slice none 0 0, .slice none 0 0] (f 7) W := hf 7 (by decide)
        have h8 : phiB wc 38 [.bool false, .slice none 0 0, .slice none 0 0, .bool false, .slice none 0 0, .slice none 0 0] (f 8) W := hf 8 (by decide)
        have n6_7 := hne 6 7 (by decide) (by decide) (by decide) (by decide) (by decide)
        have n6_8 := hne 6 8 (by decide) (by decide) (by decide) (by decide) (by decide)
        have n7_8 := hne 7 8 (by decide) (by decide) (by decide) (by decide) (by decide)
        clear hf hne
        simp only [putAll, lset, List.map_cons, List.map_nil, Act.put, List.setIfInBounds_toArray, List.set_cons_zero, List.set_cons_succ]
        generalize f 1 = v1 at *
        generalize f 3 = v3 at *
        generalize f 5 = v5 at *
        generalize f 6 = v6 at *
        generalize f 7 = v7 at *
        generalize f 8 = v8 at *
        obtain ⟨gq1, aq1, lq1, cq1, aaq1, llq1, ccq1, Gq1, Aq1, Lq1, Cq1, AAq1, LLq1, CCq1, rfl, iq1, jq1⟩ := h1
        obtain ⟨gq3, aq3, lq3, cq3, aaq3, llq3, ccq3, Gq3, Aq3, Lq3, Cq3, AAq3, LLq3, CCq3, rfl, iq3, jq3⟩ := h3
        obtain ⟨gq5, aq5, lq5, cq5, aaq5, llq5, ccq5, Gq5, Aq5, Lq5, Cq5, AAq5, LLq5, CCq5, rfl, iq5, jq5⟩ := h5
        obtain ⟨b6, rfl, i6, j6, k6⟩ := h6
        obtain ⟨b7, rfl, i7, j7, k7⟩ := h7
        obtain ⟨b8, rfl, i8, j8, k8⟩ := h8
        have n6_7 := ptr_ne n6_7
        have n7_6 : NeN b7 b6 := ⟨fun e => n6_7.out e.symm⟩
        have n6_8 := ptr_ne n6_8
        have n8_6 : NeN b8 b6 := ⟨fun e => n6_8.out e.symm⟩
        have n7_8 := ptr_ne n7_8
        have n8_7 : NeN b8 b7 := ⟨fun e => n7_8.out e.symm⟩
        have hHeld := hSw
        refine wpAnyT_ready (rs := [9]) (by kernel_rfl) (by simp) ?_
        refine AllT.cons (by simp; rfl) (fun K hK => ?_) AllT.nil
        go_simp
        refine hK.out _ _ (fun _ => inferInstance) ?_
        clear hHeld hK K
        intro hHeld
        have hHeld := hHeld (by decide)
        try simp only [Act.put, List.setIfInBounds_toArray, List.set_cons_zero, List.set_cons_succ]
        refine wpAnyT_ready (rs := [10]) (by kernel_rfl) (by simp) ?_
        refine AllT.cons (by simp; rfl) (fun K hK => ?_) AllT.nil
        go_simp
        refine hK.out _ _ (fun _ => inferInstance) ?_
        clear hHeld hK K
        intro hHeld
        have hHeld := hHeld (by decide)
        try simp only [Act.put, List.setIfInBounds_toArray, List.set_cons_zero, List.set_cons_succ]
        refine wpAnyT_ready (rs := [11]) (by kernel_rfl) (by simp) ?_
        refine AllT.cons (by simp; rfl) (fun K hK => ?_) AllT.nil
        go_simp
        refine hK.out _ _ (fun _ => inferInstance) ?_
        clear hHeld hK K
        intro hHeld
        have hHeld := hHeld (by decide)
        try simp only [Act.put, List.setIfInBounds_toArray, List.set_cons_zero, List.set_cons_succ]
        refine wpAnyT_done (by kernel_rfl) ?_ _
        clear hHeld
        go_wp2_with fail
        go_meet
        exact O3Rel.intro (by omega)
    case rest =>
      obtain ⟨b1, b2, b3, g1x, a1x, l1x, c1x, aa1x, ll1x, cc1x, g1y, a1y, l1y, c1y, aa1y, ll1y, cc1y, g2x, a2x, l2x, c2x, aa2x, ll2x, cc2x, g2y, a2y, l2y, c2y, aa2y, ll2y, cc2y, g3x, a3x, l3x, c3x, aa3x, ll3x, cc3x, g3y, a3y, l3y, c3y, aa3y, ll3y, cc3y, rfl, rfl, rfl, i1, i2, i3, j1x, j1y, j2x, j2y, j3x, j3y, ⟨k⟩⟩ := hcut
      have k := Kp1.mk k
      go_wp2_with fail
      refine region_cls (by kernel_rfl) [] (fun hHeld => ?_)
      refine wpAnyH_ready (rs := [0]) (by kernel_rfl) (by simp) ?_
      refine AllReadyH.cons (by simp; rfl) (fun K hK => ?_) AllReadyH.nil
      go_simp
      (go_at_call 13; (with_reducible refine Calls.cE (known04C) ?_); intros)
      refine hK.out _ _ inferInstance ?_
      clear hHeld hK K
      intro hHeld
      try simp only [Act.put, List.setIfInBounds_toArray, List.set_cons_zero, List.set_cons_succ]
      refine wpAnyH_take (i := 1) (v := ?z427) (by simp; rfl) (by kernel_rfl) (by kernel_rfl) (by kernel_rfl) (by exact fun _ _ _ h => h) (Or.inl ⟨by rfl, ?yz427⟩) hHeld ?_
      case yz427 => (intro wx hSw; have hSx := Ex1.mk hSw; go_simp; (try with_reducible rfl))
      try simp only [Act.put, List.setIfInBounds_toArray, List.set_cons_zero, List.set_cons_succ]
      refine wpAnyH_take (i := 2) (v := ?z428) (by simp; rfl) (by kernel_rfl) (by kernel_rfl) (by kernel_rfl) (by exact fun _ _ _ h => h) (Or.inl ⟨by rfl, ?yz428⟩) hHeld ?_
      case yz428 => (intro wx hSw; have hSx := Ex1.mk hSw; go_simp; (try with_reducible rfl))
      try simp only [Act.put, List.setIfInBounds_toArray, List.set_cons_zero, List.set_cons_succ]
      refine wpAnyH_take (i := 3) (v := ?z429) (by simp; rfl) (by kernel_rfl) (by kernel_rfl) (by kernel_rfl) (by exact fun _ _ _ h => h) (Or.inl ⟨by rfl, ?yz429⟩) hHeld ?_
      case yz429 => (intro wx hSw; have hSx := Ex1.mk hSw; go_simp; (try with_reducible rfl))
      try simp only [Act.put, List.setIfInBounds_toArray, List.set_cons_zero, List.set_cons_succ]
      refine wpAnyH_take (i := 5) (v := ?z430) (by simp; rfl) (by kernel_rfl) (by kernel_rfl) (by kernel_rfl) (by exact fun _ _ _ h => h) (Or.inl ⟨by rfl, ?yz430⟩) hHeld ?_
      case yz430 => (intro wx hSw; have hSx := Ex1.mk hSw; go_simp; (try with_reducible rfl))
      try simp only [Act.put, List.setIfInBounds_toArray, List.set_cons_zero, List.set_cons_succ]
      refine wpAnyH_take (i := 6) (v := ?z431) (by simp; rfl) (by kernel_rfl) (by kernel_rfl) (by kernel_rfl) (by exact fun _ _ _ h => h) (Or.inl ⟨by rfl, ?yz431⟩) hHeld ?_
      case yz431 => (intro wx hSw; have hSx := Ex1.mk hSw; go_simp; (try with_reducible rfl))
      try simp only [Act.put, List.setIfInBounds_toArray, List.set_cons_zero, List.set_cons_succ]
      refine wpAnyH_ready (rs := [4]) (by kernel_rfl) (by simp) ?_
      refine AllReadyH.cons (by simp; rfl) (fun K hK => ?_) AllReadyH.nil
      go_simp
      (go_at_call 49; (with_reducible refine Calls.cE (pCompareC (by omega)) ?_); intros)
      refine hK.out _ _ inferInstance ?_
      clear hHeld hK K
      intro hHeld
      try simp only [Act.put, List.setIfInBounds_toArray, List.set_cons_zero, List.set_cons_succ]
      refine wpAnyH_ready (rs := [7]) (by kernel_rfl) (by simp) ?_
      refine AllReadyH.cons (by simp; rfl) (fun K hK => ?_) AllReadyH.nil
      go_simp
      (go_at_call 50; (with_reducible refine Calls.cE (refCompareC (by omega)) ?_); intros)
      refine hK.out _ _ inferInstance ?_
      clear hHeld hK K
      intro hHeld
      try simp only [Act.put, List.setIfInBounds_toArray, List.set_cons_zero, List.set_cons_succ]
      refine wpAnyH_take (i := 8) (v := ?z432) (by simp; rfl) (by kernel_rfl) (by kernel_rfl) (by kernel_rfl) (by exact fun _ _ _ h => h) (Or.inl ⟨by rfl, ?yz432⟩) hHeld ?_
      case yz432 => (intro wx hSw; have hSx := Ex1.mk hSw; go_simp; (try with_reducible rfl))
      try simp only [Act.put, List.setIfInBounds_toArray, List.set_cons_zero, List.set_cons_succ]
      refine wpAnyH_take (i := 9) (v := ?z433) (by simp; rfl) (by kernel_rfl) (by kernel_rfl) (by kernel_rfl) (by exact fun _ _ _ h => h) (Or.inl ⟨by rfl, ?yz433⟩) hHeld ?_
      case yz433 => (intro wx hSw; have hSx := Ex1.mk hSw; go_simp; (try with_reducible rfl))
      try simp only [Act.put, List.setIfInBounds_toArray, List.set_cons_zero, List.set_cons_succ]
      refine wpAnyH_take (i := 10) (v := ?z434) (by simp; rfl) (by kernel_rfl) (by kernel_rfl) (by kernel_rfl) (by exact fun _ _ _ h => h) (Or.inl ⟨by rfl, ?yz434⟩) hHeld ?_
      case yz434 => (intro wx hSw; have hSx := Ex1.mk hSw; go_simp; (try with_reducible rfl))
      try simp only [Act.put, List.setIfInBounds_toArray, List.set_cons_zero, List.set_cons_succ]
      refine wpAnyH_take (i := 11) (v := ?z435) (by simp; rfl) (by kernel_rfl) (by kernel_rfl) (by kernel_rfl) (by exact fun _ _ _ h => h) (Or.inl ⟨by rfl, ?yz435⟩) hHeld ?_
      case yz435 => (intro wx hSw; have hSx := Ex1.mk hSw; go_simp; (try with_reducible rfl))
      try simp only [Act.put, List.setIfInBounds_toArray, List.set_cons_zero, List.set_cons_succ]
      refine wpAnyH_take (i := 12) (v := ?z436) (by simp; rfl) (by kernel_rfl) (by kernel_rfl) (by kernel_rfl) (by exact fun _ _ _ h => h) (Or.inl ⟨by rfl, ?yz436⟩) hHeld ?_
      case yz436 => (intro wx hSw; have hSx := Ex1.mk hSw; go_simp; (try with_reducible rfl))
      try simp only [Act.put, List.setIfInBounds_toArray, List.set_cons_zero, List.set_cons_succ]
      refine wpAnyH_take (i := 14) (v := ?z437) (by simp; rfl) (by kernel_rfl) (by kernel_rfl) (by kernel_rfl) (by exact fun _ _ _ h => h) (Or.inl ⟨by rfl, ?yz437⟩) hHeld ?_
      case yz437 => (intro wx hSw; have hSx := Ex1.mk hSw; go_simp; (try with_reducible rfl))
      try simp only [Act.put, List.setIfInBounds_toArray, List.set_cons_zero, List.set_cons_succ]
      refine wpAnyH_take (i := 15) (v := ?z438) (by simp; rfl) (by kernel_rfl) (by kernel_rfl) (by kernel_rfl) (by exact fun _ _ _ h => h) (Or.inl ⟨by rfl, ?yz438⟩) hHeld ?_
      case yz438 => (intro wx hSw; have hSx := Ex1.mk hSw; go_simp; (try with_reducible rfl))
      try simp only [Act.put, List.setIfInBounds_toArray, List.set_cons_zero, List.set_cons_succ]
      refine wpAnyH_ready (rs := [13]) (by kernel_rfl) (by simp) ?_
      refine AllReadyH.cons (by simp; rfl) (fun K hK => ?_) AllReadyH.nil
      go_simp
      (go_at_call 36; (with_reducible refine Calls.cE (pAngleC (by omega)) ?_); intros)
      refine hK.out _ _ inferInstance ?_
      clear hHeld hK K
      intro hHeld
      try simp only [Act.put, List.setIfInBounds_toArray, List.set_cons_zero, List.set_cons_succ]
      refine wpAnyH_ready (rs := [16]) (by kernel_rfl) (by simp) ?_
      refine AllReadyH.cons (by simp; rfl) (fun K hK => ?_) AllReadyH.nil
      go_simp
      (go_at_call 51; (with_reducible refine Calls.cE (refAngleC (by omega)) ?_); intros)
      refine hK.out _ _ inferInstance ?_
      clear hHeld hK K
      intro hHeld
      try simp only [Act.put, List.setIfInBounds_toArray, List.set_cons_zero, List.set_cons_succ]
      refine wpAnyH_take (i := 17) (v := ?z439) (by simp; rfl) (by kernel_rfl) (by kernel_rfl) (by kernel_rfl) (by exact fun _ _ _ h => h) (Or.inl ⟨by rfl, ?yz439⟩) hHeld ?_
      case yz439 => (intro wx hSw; have hSx := Ex1.mk hSw; go_simp; (try with_reducible rfl))
      try simp only [Act.put, List.setIfInBounds_toArray, List.set_cons_zero, List.set_cons_succ]
      refine wpAnyH_take (i := 18) (v := ?z440) (by simp; rfl) (by kernel_rfl) (by kernel_rfl) (by kernel_rfl) (by exact fun _ _ _ h => h) (Or.inl ⟨by rfl, ?yz440⟩) hHeld ?_
      case yz440 => (intro wx hSw; have hSx := Ex1.mk hSw; go_simp; (try with_reducible rfl))
      try simp only [Act.put, List.setIfInBounds_toArray, List.set_cons_zero, List.set_cons_succ]
      refine wpAnyH_take (i := 19) (v := ?z441) (by simp; rfl) (by kernel_rfl) (by kernel_rfl) (by kernel_rfl) (by exact fun _ _ _ h => h) (Or.inl ⟨by rfl, ?yz441⟩) hHeld ?_
      case yz441 => (intro wx hSw; have hSx := Ex1.mk hSw; go_simp; (try with_reducible rfl))
      try simp only [Act.put, List.setIfInBounds_toArray, List.set_cons_zero, List.set_cons_succ]
      refine wpAnyH_take (i := 20) (v := ?z442) (by simp; rfl) (by kernel_rfl) (by kernel_rfl) (by kernel_rfl) (by exact fun _ _ _ h => h) (Or.inl ⟨by rfl, ?yz442⟩) hHeld ?_
      case yz442 => (intro wx hSw; have hSx := Ex1.mk hSw; go_simp; (try with_reducible rfl))
      try simp only [Act.put, List.setIfInBounds_toArray, List.set_cons_zero, List.set_cons_succ]
      refine wpAnyH_take (i := 21) (v := ?z443) (by simp; rfl) (by kernel_rfl) (by kernel_rfl) (by kernel_rfl) (by exact fun _ _ _ h => h) (Or.inl ⟨by rfl, ?yz443⟩) hHeld ?_
      case yz443 => (intro wx hSw; have hSx := Ex1.mk hSw; go_simp; (try with_reducible rfl))
      try simp only [Act.put, List.setIfInBounds_toArray, List.set_cons_zero, List.set_cons_succ]
      refine wpAnyH_take (i := 22) (v := ?z444) (by simp; rfl) (by kernel_rfl) (by kernel_rfl) (by kernel_rfl) (by exact fun _ _ _ h => h) (Or.inl ⟨by rfl, ?yz444⟩) hHeld ?_
      case yz444 => (intro wx hSw; have hSx := Ex1.mk hSw; go_simp; (try with_reducible rfl))
      try simp only [Act.put, List.setIfInBounds_toArray, List.set_cons_zero, List.set_cons_succ]
      refine wpAnyH_take (i := 24) (v := ?z445) (by simp; rfl) (by kernel_rfl) (by kernel_rfl) (by kernel_rfl) (by exact fun _ _ _ h => h) (Or.inl ⟨by rfl, ?yz445⟩) hHeld ?_
      case yz445 => (intro wx hSw; have hSx := Ex1.mk hSw; go_simp; (try with_reducible rfl))
      try simp only [Act.put, List.setIfInBounds_toArray, List.set_cons_zero, List.set_cons_succ]
      refine wpAnyH_take (i := 25) (v := ?z446) (by simp; rfl) (by kernel_rfl) (by kernel_rfl) (by kernel_rfl) (by exact fun _ _ _ h => h) (Or.inl ⟨by rfl, ?yz446⟩) hHeld ?_
      case yz446 => (intro wx hSw; have hSx := Ex1.mk hSw; go_simp; (try with_reducible rfl))
      try simp only [Act.put, List.setIfInBounds_toArray, List.set_cons_zero, List.set_cons_succ]
      refine wpAnyH_take (i := 26) (v := ?z447) (by simp; rfl) (by kernel_rfl) (by kernel_rfl) (by kernel_rfl) (by exact fun _ _ _ h => h) (Or.inl ⟨by rfl, ?yz447⟩) hHeld ?_
      case yz447 => (intro wx hSw; have hSx := Ex1.mk hSw; go_simp; (try with_reducible rfl))
      try simp only [Act.put, List.setIfInBounds_toArray, List.set_cons_zero, List.set_cons_succ]
      refine wpAnyH_ready (rs := [23]) (by kernel_rfl) (by simp) ?_
      refine AllReadyH.cons (by simp; rfl) (fun K hK => ?_) AllReadyH.nil
      go_simp
      (go_at_call 52; (with_reducible refine Calls.cE (pBetweenC (by omega)) ?_); intros)
      refine hK.out _ _ inferInstance ?_
      clear hHeld hK K
      intro hHeld
      try simp only [Act.put, List.setIfInBounds_toArray, List.set_cons_zero, List.set_cons_succ]
      refine wpAnyH_ready (rs := [27]) (by kernel_rfl) (by simp) ?_
      refine AllReadyH.cons (by simp; rfl) (fun K hK => ?_) AllReadyH.nil
      go_simp
      (go_at_call 53; (with_reducible refine Calls.cE (refBetweenC (by omega)) ?_); intros)
      refine hK.out _ _ inferInstance ?_
      clear hHeld hK K
      intro hHeld
      try simp only [Act.put, List.setIfInBounds_toArray, List.set_cons_zero, List.set_cons_succ]
      refine wpAnyH_take (i := 28) (v := ?z448) (by simp; rfl) (by kernel_rfl) (by kernel_rfl) (by kernel_rfl) (by exact fun _ _ _ h => h) (Or.inl ⟨by rfl, ?yz448⟩) hHeld ?_
      case yz448 => (intro wx hSw; have hSx := Ex1.mk hSw; go_simp; (try with_reducible rfl))
      try simp only [Act.put, List.setIfInBounds_toArray, List.set_cons_zero, List.set_cons_succ]
      refine wpAnyH_take (i := 29) (v := ?z449) (by simp; rfl) (by kernel_rfl) (by kernel_rfl) (by kernel_rfl) (by exact fun _ _ _ h => h) (Or.inl ⟨by rfl, ?yz449⟩) hHeld ?_
      case yz449 => (intro wx hSw; have hSx := Ex1.mk hSw; go_simp; (try with_reducible rfl))
      try simp only [Act.put, List.setIfInBounds_toArray, List.set_cons_zero, List.set_cons_succ]
      refine wpAnyH_take (i := 30) (v := ?z450) (by simp; rfl) (by kernel_rfl) (by kernel_rfl) (by kernel_rfl) (by exact fun _ _ _ h => h) (Or.inl ⟨by rfl, ?yz450⟩) hHeld ?_
      case yz450 => (intro wx hSw; have hSx := Ex1.mk hSw; go_simp; (try with_reducible rfl))
      try simp only [Act.put, List.setIfInBounds_toArray, List.set_cons_zero, List.set_cons_succ]
      refine wpAnyH_take (i := 31) (v := ?z451) (by simp; rfl) (by kernel_rfl) (by kernel_rfl) (by kernel_rfl) (by exact fun _ _ _ h => h) (Or.inl ⟨by rfl, ?yz451⟩) hHeld ?_
      case yz451 => (intro wx hSw; have hSx := Ex1.mk hSw; go_simp; (try with_reducible rfl))
      try simp only [Act.put, List.setIfInBounds_toArray, List.set_cons_zero, List.set_cons_succ]
      refine wpAnyH_take (i := 33) (v := ?z452) (by simp; rfl) (by kernel_rfl) (by kernel_rfl) (by kernel_rfl) (by exact fun _ _ _ h => h) (Or.inl ⟨by rfl, ?yz452⟩) hHeld ?_
      case yz452 => (intro wx hSw; have hSx := Ex1.mk hSw; go_simp; (try with_reducible rfl))
      try simp only [Act.put, List.setIfInBounds_toArray, List.set_cons_zero, List.set_cons_succ]
      refine wpAnyH_ready (rs := [32]) (by kernel_rfl) (by simp) ?_
      refine AllReadyH.cons (by simp; rfl) (fun K hK => ?_) AllReadyH.nil
      go_simp
      (go_at_call 41; (with_reducible refine Calls.cPA (pPrimC (by omega)) ?_); intros)
      refine hK.out _ _ inferInstance ?_
      clear hHeld hK K
      intro hHeld
      try simp only [Act.put, List.setIfInBounds_toArray, List.set_cons_zero, List.set_cons_succ]
      refine wpAnyH_ready (rs := [34]) (by kernel_rfl) (by simp) ?_
      refine AllReadyH.cons (by simp; rfl) (fun K hK => ?_) AllReadyH.nil
      go_simp
      (go_at_call 54; (with_reducible refine Calls.cPQ (refPrimC (by omega)) ?_); intros)
      refine hK.out _ _ inferInstance ?_
      clear hHeld hK K
      intro hHeld
      try simp only [Act.put, List.setIfInBounds_toArray, List.set_cons_zero, List.set_cons_succ]
      refine wpAnyH_ready (rs := [35]) (by kernel_rfl) (by simp) ?_
      refine AllReadyH.cons (by simp; rfl) (fun K hK => ?_) AllReadyH.nil
      go_simp
      (go_at_call 15; (with_reducible refine Calls.cE (same04C (by omega) (primX_mul _ _).symm (by rw [primX_mul, rgcd_comm])) ?_); intros)
      refine hK.out _ _ inferInstance ?_
      clear hHeld hK K
      intro hHeld
      try simp only [Act.put, List.setIfInBounds_toArray, List.set_cons_zero, List.set_cons_succ]
      refine wpAnyH_take (i := 36) (v := ?z453) (by simp; rfl) (by kernel_rfl) (by kernel_rfl) (by kernel_rfl) (by exact fun _ _ _ h => h) (Or.inl ⟨by rfl, ?yz453⟩) hHeld ?_
      case yz453 => (intro wx hSw; have hSx := Ex1.mk hSw; go_simp; (try with_reducible rfl))
      try simp only [Act.put, List.setIfInBounds_toArray, List.set_cons_zero, List.set_cons_succ]
      refine wpAnyH_take (i := 37) (v := ?z454) (by simp; rfl) (by kernel_rfl) (by kernel_rfl) (by kernel_rfl) (by exact fun _ _ _ h => h) (Or.inl ⟨by rfl, ?yz454⟩) hHeld ?_
      case yz454 => (intro wx hSw; have hSx := Ex1.mk hSw; go_simp; (try with_reducible rfl))
      try simp only [Act.put, List.setIfInBounds_toArray, List.set_cons_zero, List.set_cons_succ]
      refine wpAnyH_done (by kernel_rfl) ?_ _
      clear hHeld
      go_wp2
      go_ret
      exact E.fin rfl
end Go.Proofs.YtlameeijogdckaaGreat
