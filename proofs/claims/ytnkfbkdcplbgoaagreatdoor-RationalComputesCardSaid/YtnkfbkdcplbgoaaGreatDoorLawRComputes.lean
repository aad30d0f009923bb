/-
  The walk of the law RationalComputes: it returns true and changes nothing that was there.
  Printed by a small program (mkrat2.py).
-/
import Derived.Test.YtnkfbkdcplbgoaaGreatDoorRY
namespace Go.Proofs.YtnkfbkdcplbgoaaGreatDoor
open Go.RowKit

set_option linter.unusedSimpArgs false
set_option linter.unusedVariables false
set_option maxRecDepth 100000 in
set_option maxHeartbeats 40000000 in
set_option synthInstance.maxSize 100000 in
set_option synthInstance.maxHeartbeats 1000000 in
theorem rationalComputes_walk (a0 : Option Addr) (len0 cap0 : Nat) (z0 : List Int) (w : World) (w0 : IsRow .i64 w a0 len0 cap0 z0) (hL : laidMetH Tryz.prog laid3 w) :
    Calls Tryz.prog 9 #[.slice a0 len0 cap0] w fun e w' => e = .returned (.bool true) ∧ Below w.heap.size w w' := by
  obtain ⟨s0, s1, s2, i0, i1, i2, hne⟩ := sents3 hL
  clear hL
  go_enter Tryz.func9, Tryz.ntmps9
  go_wp2_with fail
  with_reducible refine Calls.cNew (newW w0) ?_
  intro W1 _ _
  go_wp2_with fail
  with_reducible refine Calls.cTW (rmadeC) ?_
  intro W2 _ _ g1 a1 l1 c1 aa1 ll1 cc1 x1 _
  go_wp2_with fail
  with_reducible refine Calls.cTW (rmadeC) ?_
  intro W3 _ _ g2 a2 l2 c2 aa2 ll2 cc2 x2 _
  have hfld : ∀ (x0 x1 x2 : Value) (w : World), (Instr.field 45 (.agg #[x0, x1, x2]) 0).run Tryz.prog w = .ok (.agg #[x0, x1]) w := fun _ _ _ _ => by kernel_rfl
  have HM := Lib.hid (half_two (z := x1 + x2))
  have HF1 := Lib.hid (Rat.floor_def x1)
  have HF2 : Hid ((-x1).floor = (-x1).num / (x1.den : Int)) := by show _ = _; rw [Rat.floor_def, Rat.neg_den]
  go_upto_region 3 with fail
  go_cut [6, 7] from 20 to 23 (fun t6 t7 wx => ∃ (b6 b7 : Nat) (G : Bool) (A : Option Addr) (L C : Nat) (AA : Option Addr) (LL CC : Nat) (G' : Bool) (A' : Option Addr) (L' C' : Nat) (AA' : Option Addr) (LL' CC' : Nat), t6 = .pointer (some ⟨b6, 0, none⟩) ∧ t7 = .pointer (some ⟨b7, 0, none⟩) ∧
      Bx wx b6 45 [.bool G, .slice A L C, .slice AA LL CC] ∧ Bx wx b7 45 [.bool G', .slice A' L' C', .slice AA' LL' CC'] ∧ CQ wx (.agg #[.bool G, .slice A L C, .slice AA LL CC]) x1 400 ∧ CQ wx (.agg #[.bool G', .slice A' L' C', .slice AA' LL' CC']) x2 400 ∧ Kp1 ((W3.alloc (.cells #[.bool g1, .slice a1 l1 c1, .slice aa1 ll1 cc1] 29)).alloc (.cells #[.bool g2, .slice a2 l2 c2, .slice aa2 ll2 cc2] 29)) wx)
  case first =>
    refine region_cls (by kernel_rfl) [] (fun hHeld => ?_)
    refine wpAnyH_take (i := 0) (v := ?z366) (by simp; rfl) (by kernel_rfl) (by kernel_rfl) (by kernel_rfl) (by exact fun _ _ _ h => h) (Or.inl ⟨by rfl, ?yz366⟩) hHeld ?_
    case yz366 => (intro wx hSw; have hSx := Ex1.mk hSw; go_simp; (try with_reducible rfl))
    try simp only [Act.put, List.setIfInBounds_toArray, List.set_cons_zero, List.set_cons_succ]
    refine wpAnyH_take (i := 2) (v := ?z367) (by simp; rfl) (by kernel_rfl) (by kernel_rfl) (by kernel_rfl) (by exact fun _ _ _ h => h) (Or.inl ⟨by rfl, ?yz367⟩) hHeld ?_
    case yz367 => (intro wx hSw; have hSx := Ex1.mk hSw; go_simp; (try with_reducible rfl))
    try simp only [Act.put, List.setIfInBounds_toArray, List.set_cons_zero, List.set_cons_succ]
    refine wpAnyH_ready (rs := [1, 4, 5]) (by kernel_rfl) (by simp) ?_
    refine AllReadyH.cons (by simp; rfl) (fun K hK => ?_) (AllReadyH.cons (by simp; rfl) (fun K hK => ?_) (AllReadyH.cons (by simp; rfl) (fun K hK => ?_) AllReadyH.nil))
    go_simp
    (go_at_call 27; (with_reducible refine Calls.cQ (refQC (by omega)) ?_); intros)
    refine hK.out _ _ inferInstance ?_
    clear hHeld hK K
    intro hHeld
    try simp only [Act.put, List.setIfInBounds_toArray, List.set_cons_zero, List.set_cons_succ]
    refine wpAnyH_ready (rs := [3, 4, 5]) (by kernel_rfl) (by simp) ?_
    refine AllReadyH.cons (by simp; rfl) (fun K hK => ?_) (AllReadyH.cons (by simp; rfl) (fun K hK => ?_) (AllReadyH.cons (by simp; rfl) (fun K hK => ?_) AllReadyH.nil))
    go_simp
    (go_at_call 27; (with_reducible refine Calls.cQ (refQC (by omega)) ?_); intros)
    refine hK.out _ _ inferInstance ?_
    clear hHeld hK K
    intro hHeld
    try simp only [Act.put, List.setIfInBounds_toArray, List.set_cons_zero, List.set_cons_succ]
    refine wpAnyH_ready (rs := [4, 5]) (by kernel_rfl) (by simp) ?_
    refine AllReadyH.cons (by simp; rfl) (fun K hK => ?_) (AllReadyH.cons (by simp; rfl) (fun K hK => ?_) AllReadyH.nil)
    go_simp
    refine hK.out _ _ inferInstance ?_
    clear hHeld hK K
    intro hHeld
    try simp only [Act.put, List.setIfInBounds_toArray, List.set_cons_zero, List.set_cons_succ]
    refine wpAnyH_ready (rs := [5]) (by kernel_rfl) (by simp) ?_
    refine AllReadyH.cons (by simp; rfl) (fun K hK => ?_) AllReadyH.nil
    go_simp
    refine hK.out _ _ inferInstance ?_
    clear hHeld hK K
    intro hHeld
    try simp only [Act.put, List.setIfInBounds_toArray, List.set_cons_zero, List.set_cons_succ]
    refine wpAnyH_ready (rs := [6]) (by kernel_rfl) (by simp) ?_
    refine AllReadyH.cons (by simp; rfl) (fun K hK => ?_) AllReadyH.nil
    go_simp
    refine hK.out _ _ inferInstance ?_
    clear hHeld hK K
    intro hHeld
    try simp only [Act.put, List.setIfInBounds_toArray, List.set_cons_zero, List.set_cons_succ]
    refine wpAnyH_ready (rs := [7]) (by kernel_rfl) (by simp) ?_
    refine AllReadyH.cons (by simp; rfl) (fun K hK => ?_) AllReadyH.nil
    go_simp
    refine hK.out _ _ inferInstance ?_
    clear hHeld hK K
    intro hHeld
    try simp only [Act.put, List.setIfInBounds_toArray, List.set_cons_zero, List.set_cons_succ]
    refine wpAnyH_done (by kernel_rfl) ?_ _
    clear hHeld
    go_wp2_with fail
    go_meet
    exact ⟨_, _, _, _, _, _, _, _, _, _, _, _, _, _, _, _, rfl, rfl, inferInstance, inferInstance, CQ.cast inferInstance rfl (by omega), CQ.cast inferInstance rfl (by omega), ⟨(inferInstance : Kp ((W3.alloc (.cells #[.bool g1, .slice a1 l1 c1, .slice aa1 ll1 cc1] 29)).alloc (.cells #[.bool g2, .slice a2 l2 c2, .slice aa2 ll2 cc2] 29)) _).out⟩⟩
    go_simp
    refine hK.out _ _ inferInstance ?_
    clear hHeld hK K
    intro hHeld
    try simp only [Act.put, List.setIfInBounds_toArray, List.set_cons_zero, List.set_cons_succ]
    refine wpAnyH_ready (rs := [4]) (by kernel_rfl) (by simp) ?_
    refine AllReadyH.cons (by simp; rfl) (fun K hK => ?_) AllReadyH.nil
    go_simp
    refine hK.out _ _ inferInstance ?_
    clear hHeld hK K
    intro hHeld
    try simp only [Act.put, List.setIfInBounds_toArray, List.set_cons_zero, List.set_cons_succ]
    refine wpAnyH_ready (rs := [6]) (by kernel_rfl) (by simp) ?_
    refine AllReadyH.cons (by simp; rfl) (fun K hK => ?_) AllReadyH.nil
    go_simp
    refine hK.out _ _ inferInstance ?_
    clear hHeld hK K
    intro hHeld
    try simp only [Act.put, List.setIfInBounds_toArray, List.set_cons_zero, List.set_cons_succ]
    refine wpAnyH_ready (rs := [7]) (by kernel_rfl) (by simp) ?_
    refine AllReadyH.cons (by simp; rfl) (fun K hK => ?_) AllReadyH.nil
    go_simp
    refine hK.out _ _ inferInstance ?_
    clear hHeld hK K
    intro hHeld
    try simp only [Act.put, List.setIfInBounds_toArray, List.set_cons_zero, List.set_cons_succ]
    refine wpAnyH_done (by kernel_rfl) ?_ _
    clear hHeld
    go_wp2_with fail
    go_meet
    exact ⟨_, _, _, _, _, _, _, _, _, _, _, _, _, _, _, _, rfl, rfl, inferInstance, inferInstance, CQ.cast inferInstance rfl (by omega), CQ.cast inferInstance rfl (by omega), ⟨(inferInstance : Kp ((W3.alloc (.cells #[.bool g1, .slice a1 l1 c1, .slice aa1 ll1 cc1] 29)).alloc (.cells #[.bool g2, .slice a2 l2 c2, .slice aa2 ll2 cc2] 29)) _).out⟩⟩
    go_simp
    refine hK.out _ _ inferInstance ?_
    clear hHeld hK K
    intro hHeld
    try simp only [Act.put, List.setIfInBounds_toArray, List.set_cons_zero, List.set_cons_succ]
    refine wpAnyH_ready (rs := [3, 5]) (by kernel_rfl) (by simp) ?_
    refine AllReadyH.cons (by simp; rfl) (fun K hK => ?_) (AllReadyH.cons (by simp; rfl) (fun K hK => ?_) AllReadyH.nil)
    go_simp
    (go_at_call 27; (with_reducible refine Calls.cQ (refQC (by omega)) ?_); intros)
    refine hK.out _ _ inferInstance ?_
    clear hHeld hK K
    intro hHeld
    try simp only [Act.put, List.setIfInBounds_toArray, List.set_cons_zero, List.set_cons_succ]
    refine wpAnyH_ready (rs := [5]) (by kernel_rfl) (by simp) ?_
    refine AllReadyH.cons (by simp; rfl) (fun K hK => ?_) AllReadyH.nil
    go_simp
    refine hK.out _ _ inferInstance ?_
    clear hHeld hK K
    intro hHeld
    try simp only [Act.put, List.setIfInBounds_toArray, List.set_cons_zero, List.set_cons_succ]
    refine wpAnyH_ready (rs := [6]) (by kernel_rfl) (by simp) ?_
    refine AllReadyH.cons (by simp; rfl) (fun K hK => ?_) AllReadyH.nil
    go_simp
    refine hK.out _ _ inferInstance ?_
    clear hHeld hK K
    intro hHeld
    try simp only [Act.put, List.setIfInBounds_toArray, List.set_cons_zero, List.set_cons_succ]
    refine wpAnyH_ready (rs := [7]) (by kernel_rfl) (by simp) ?_
    refine AllReadyH.cons (by simp; rfl) (fun K hK => ?_) AllReadyH.nil
    go_simp
    refine hK.out _ _ inferInstance ?_
    clear hHeld hK K
    intro hHeld
    try simp only [Act.put, List.setIfInBounds_toArray, List.set_cons_zero, List.set_cons_succ]
    refine wpAnyH_done (by kernel_rfl) ?_ _
    clear hHeld
    go_wp2_with fail
    go_meet
    exact ⟨_, _, _, _, _, _, _, _, _, _, _, _, _, _, _, _, rfl, rfl, inferInstance, inferInstance, CQ.cast inferInstance rfl (by omega), CQ.cast inferInstance rfl (by omega), ⟨(inferInstance : Kp ((W3.alloc (.cells #[.bool g1, .slice a1 l1 c1, .slice aa1 ll1 cc1] 29)).alloc (.cells #[.bool g2, .slice a2 l2 c2, .slice aa2 ll2 cc2] 29)) _).out⟩⟩
    go_simp
    refine hK.out _ _ inferInstance ?_
    clear hHeld hK K
    intro hHeld
    try simp only [Act.put, List.setIfInBounds_toArray, List.set_cons_zero, List.set_cons_succ]
    refine wpAnyH_ready (rs := [3]) (by kernel_rfl) (by simp) ?_
    refine AllReadyH.cons (by simp; rfl) (fun K hK => ?_) AllReadyH.nil
    go_simp
    (go_at_call 27; (with_reducible refine Calls.cQ (refQC (by omega)) ?_); intros)
    refine hK.out _ _ inferInstance ?_
    clear hHeld hK K
    intro hHeld
    try simp only [Act.put, List.setIfInBounds_toArray, List.set_cons_zero, List.set_cons_succ]
    refine wpAnyH_ready (rs := [6]) (by kernel_rfl) (by simp) ?_
    refine AllReadyH.cons (by simp; rfl) (fun K hK => ?_) AllReadyH.nil
    go_simp
    refine hK.out _ _ inferInstance ?_
    clear hHeld hK K
    intro hHeld
    try simp only [Act.put, List.setIfInBounds_toArray, List.set_cons_zero, List.set_cons_succ]
    refine wpAnyH_ready (rs := [7]) (by kernel_rfl) (by simp) ?_
    refine AllReadyH.cons (by simp; rfl) (fun K hK => ?_) AllReadyH.nil
    go_simp
    refine hK.out _ _ inferInstance ?_
    clear hHeld hK K
    intro hHeld
    try simp only [Act.put, List.setIfInBounds_toArray, List.set_cons_zero, List.set_cons_succ]
    refine wpAnyH_done (by kernel_rfl) ?_ _
    clear hHeld
    go_wp2_with fail
    go_meet
    exact ⟨_, _, _, _, _, _, _, _, _, _, _, _, _, _, _, _, rfl, rfl, inferInstance, inferInstance, CQ.cast inferInstance rfl (by omega), CQ.cast inferInstance rfl (by omega), ⟨(inferInstance : Kp ((W3.alloc (.cells #[.bool g1, .slice a1 l1 c1, .slice aa1 ll1 cc1] 29)).alloc (.cells #[.bool g2, .slice a2 l2 c2, .slice aa2 ll2 cc2] 29)) _).out⟩⟩
    go_simp
    refine hK.out _ _ inferInstance ?_
    clear hHeld hK K
    intro hHeld
    try simp only [Act.put, List.setIfInBounds_toArray, List.set_cons_zero, List.set_cons_succ]
    refine wpAnyH_ready (rs := [3, 4]) (by kernel_rfl) (by simp) ?_
    refine AllReadyH.cons (by simp; rfl) (fun K hK => ?_) (AllReadyH.cons (by simp; rfl) (fun K hK => ?_) AllReadyH.nil)
    go_simp
    (go_at_call 27; (with_reducible refine Calls.cQ (refQC (by omega)) ?_); intros)
    refine hK.out _ _ inferInstance ?_
    clear hHeld hK K
    intro hHeld
    try simp only [Act.put, List.setIfInBounds_toArray, List.set_cons_zero, List.set_cons_succ]
    refine wpAnyH_ready (rs := [4]) (by kernel_rfl) (by simp) ?_
    refine AllReadyH.cons (by simp; rfl) (fun K hK => ?_) AllReadyH.nil
    go_simp
    refine hK.out _ _ inferInstance ?_
    clear hHeld hK K
    intro hHeld
    try simp only [Act.put, List.setIfInBounds_toArray, List.set_cons_zero, List.set_cons_succ]
    refine wpAnyH_ready (rs := [6]) (by kernel_rfl) (by simp) ?_
    refine AllReadyH.cons (by simp; rfl) (fun K hK => ?_) AllReadyH.nil
    go_simp
    refine hK.out _ _ inferInstance ?_
    clear hHeld hK K
    intro hHeld
    try simp only [Act.put, List.setIfInBounds_toArray, List.set_cons_zero, List.set_cons_succ]
    refine wpAnyH_ready (rs := [7]) (by kernel_rfl) (by simp) ?_
    refine AllReadyH.cons (by simp; rfl) (fun K hK => ?_) AllReadyH.nil
    go_simp
    refine hK.out _ _ inferInstance ?_
    clear hHeld hK K
    intro hHeld
    try simp only [Act.put, List.setIfInBounds_toArray, List.set_cons_zero, List.set_cons_succ]
    refine wpAnyH_done (by kernel_rfl) ?_ _
    clear hHeld
    go_wp2_with fail
    go_meet
    exact ⟨_, _, _, _, _, _, _, _, _, _, _, _, _, _, _, _, rfl, rfl, inferInstance, inferInstance, CQ.cast inferInstance rfl (by omega), CQ.cast inferInstance rfl (by omega), ⟨(inferInstance : Kp ((W3.alloc (.cells #[.bool g1, .slice a1 l1 c1, .slice aa1 ll1 cc1] 29)).alloc (.cells #[.bool g2, .slice a2 l2 c2, .slice aa2 ll2 cc2] 29)) _).out⟩⟩
    go_simp
    refine hK.out _ _ inferInstance ?_
    clear hHeld hK K
    intro hHeld
    try simp only [Act.put, List.setIfInBounds_toArray, List.set_cons_zero, List.set_cons_succ]
    refine wpAnyH_ready (rs := [3]) (by kernel_rfl) (by simp) ?_
    refine AllReadyH.cons (by simp; rfl) (fun K hK => ?_) AllReadyH.nil
    go_simp
    (go_at_call 27; (with_reducible refine Calls.cQ (refQC (by omega)) ?_); intros)
    refine hK.out _ _ inferInstance ?_
    clear hHeld hK K
    intro hHeld
    try simp only [Act.put, List.setIfInBounds_toArray, List.set_cons_zero, List.set_cons_succ]
    refine wpAnyH_ready (rs := [6]) (by kernel_rfl) (by simp) ?_
    refine AllReadyH.cons (by simp; rfl) (fun K hK => ?_) AllReadyH.nil
    go_simp
    refine hK.out _ _ inferInstance ?_
    clear hHeld hK K
    intro hHeld
    try simp only [Act.put, List.setIfInBounds_toArray, List.set_cons_zero, List.set_cons_succ]
    refine wpAnyH_ready (rs := [7]) (by kernel_rfl) (by simp) ?_
    refine AllReadyH.cons (by simp; rfl) (fun K hK => ?_) AllReadyH.nil
    go_simp
    refine hK.out _ _ inferInstance ?_
    clear hHeld hK K
    intro hHeld
    try simp only [Act.put, List.setIfInBounds_toArray, List.set_cons_zero, List.set_cons_succ]
    refine wpAnyH_done (by kernel_rfl) ?_ _
    clear hHeld
    go_wp2_with fail
    go_meet
    exact ⟨_, _, _, _, _, _, _, _, _, _, _, _, _, _, _, _, rfl, rfl, inferInstance, inferInstance, CQ.cast inferInstance rfl (by omega), CQ.cast inferInstance rfl (by omega), ⟨(inferInstance : Kp ((W3.alloc (.cells #[.bool g1, .slice a1 l1 c1, .slice aa1 ll1 cc1] 29)).alloc (.cells #[.bool g2, .slice a2 l2 c2, .slice aa2 ll2 cc2] 29)) _).out⟩⟩
    go_simp
    refine hK.out _ _ inferInstance ?_
    clear hHeld hK K
    intro hHeld
    try simp only [Act.put, List.setIfInBounds_toArray, List.set_cons_zero, List.set_cons_succ]
    refine wpAnyH_ready (rs := [1, 5]) (by kernel_rfl) (by simp) ?_
    refine AllReadyH.cons (by simp; rfl) (fun K hK => ?_) (AllReadyH.cons (by simp; rfl) (fun K hK => ?_) AllReadyH.nil)
    go_simp
    (go_at_call 27; (with_reducible refine Calls.cQ (refQC (by omega)) ?_); intros)
    refine hK.out _ _ inferInstance ?_
    clear hHeld hK K
    intro hHeld
    try simp only [Act.put, List.setIfInBounds_toArray, List.set_cons_zero, List.set_cons_succ]
    refine wpAnyH_ready (rs := [3, 5]) (by kernel_rfl) (by simp) ?_
    refine AllReadyH.cons (by simp; rfl) (fun K hK => ?_) (AllReadyH.cons (by simp; rfl) (fun K hK => ?_) AllReadyH.nil)
    go_simp
    (go_at_call 27; (with_reducible refine Calls.cQ (refQC (by omega)) ?_); intros)
    refine hK.out _ _ inferInstance ?_
    clear hHeld hK K
    intro hHeld
    try simp only [Act.put, List.setIfInBounds_toArray, List.set_cons_zero, List.set_cons_succ]
    refine wpAnyH_ready (rs := [5]) (by kernel_rfl) (by simp) ?_
    refine AllReadyH.cons (by simp; rfl) (fun K hK => ?_) AllReadyH.nil
    go_simp
    refine hK.out _ _ inferInstance ?_
    clear hHeld hK K
    intro hHeld
    try simp only [Act.put, List.setIfInBounds_toArray, List.set_cons_zero, List.set_cons_succ]
    refine wpAnyH_ready (rs := [6]) (by kernel_rfl) (by simp) ?_
    refine AllReadyH.cons (by simp; rfl) (fun K hK => ?_) AllReadyH.nil
    go_simp
    refine hK.out _ _ inferInstance ?_
    clear hHeld hK K
    intro hHeld
    try simp only [Act.put, List.setIfInBounds_toArray, List.set_cons_zero, List.set_cons_succ]
    refine wpAnyH_ready (rs := [7]) (by kernel_rfl) (by simp) ?_
    refine AllReadyH.cons (by simp; rfl) (fun K hK => ?_) AllReadyH.nil
    go_simp
    refine hK.out _ _ inferInstance ?_
    clear hHeld hK K
    intro hHeld
    try simp only [Act.put, List.setIfInBounds_toArray, List.set_cons_zero, List.set_cons_succ]
    refine wpAnyH_done (by kernel_rfl) ?_ _
    clear hHeld
    go_wp2_with fail
    go_meet
    exact ⟨_, _, _, _, _, _, _, _, _, _, _, _, _, _, _, _, rfl, rfl, inferInstance, inferInstance, CQ.cast inferInstance rfl (by omega), CQ.cast inferInstance rfl (by omega), ⟨(inferInstance : Kp ((W3.alloc (.cells #[.bool g1, .slice a1 l1 c1, .slice aa1 ll1 cc1] 29)).alloc (.cells #[.bool g2, .slice a2 l2 c2, .slice aa2 ll2 cc2] 29)) _).out⟩⟩
    go_simp
    refine hK.out _ _ inferInstance ?_
    clear hHeld hK K
    intro hHeld
    try simp only [Act.put, List.setIfInBounds_toArray, List.set_cons_zero, List.set_cons_succ]
    refine wpAnyH_ready (rs := [3]) (by kernel_rfl) (by simp) ?_
    refine AllReadyH.cons (by simp; rfl) (fun K hK => ?_) AllReadyH.nil
    go_simp
    (go_at_call 27; (with_reducible refine Calls.cQ (refQC (by omega)) ?_); intros)
    refine hK.out _ _ inferInstance ?_
    clear hHeld hK K
    intro hHeld
    try simp only [Act.put, List.setIfInBounds_toArray, List.set_cons_zero, List.set_cons_succ]
    refine wpAnyH_ready (rs := [6]) (by kernel_rfl) (by simp) ?_
    refine AllReadyH.cons (by simp; rfl) (fun K hK => ?_) AllReadyH.nil
    go_simp
    refine hK.out _ _ inferInstance ?_
    clear hHeld hK K
    intro hHeld
    try simp only [Act.put, List.setIfInBounds_toArray, List.set_cons_zero, List.set_cons_succ]
    refine wpAnyH_ready (rs := [7]) (by kernel_rfl) (by simp) ?_
    refine AllReadyH.cons (by simp; rfl) (fun K hK => ?_) AllReadyH.nil
    go_simp
    refine hK.out _ _ inferInstance ?_
    clear hHeld hK K
    intro hHeld
    try simp only [Act.put, List.setIfInBounds_toArray, List.set_cons_zero, List.set_cons_succ]
    refine wpAnyH_done (by kernel_rfl) ?_ _
    clear hHeld
    go_wp2_with fail
    go_meet
    exact ⟨_, _, _, _, _, _, _, _, _, _, _, _, _, _, _, _, rfl, rfl, inferInstance, inferInstance, CQ.cast inferInstance rfl (by omega), CQ.cast inferInstance rfl (by omega), ⟨(inferInstance : Kp ((W3.alloc (.cells #[.bool g1, .slice a1 l1 c1, .slice aa1 ll1 cc1] 29)).alloc (.cells #[.bool g2, .slice a2 l2 c2, .slice aa2 ll2 cc2] 29)) _).out⟩⟩
    go_simp
    refine hK.out _ _ inferInstance ?_
    clear hHeld hK K
    intro hHeld
    try simp only [Act.put, List.setIfInBounds_toArray, List.set_cons_zero, List.set_cons_succ]
    refine wpAnyH_ready (rs := [1]) (by kernel_rfl) (by simp) ?_
    refine AllReadyH.cons (by simp; rfl) (fun K hK => ?_) AllReadyH.nil
    go_simp
    (go_at_call 27; (with_reducible refine Calls.cQ (refQC (by omega)) ?_); intros)
    refine hK.out _ _ inferInstance ?_
    clear hHeld hK K
    intro hHeld
    try simp only [Act.put, List.setIfInBounds_toArray, List.set_cons_zero, List.set_cons_succ]
    refine wpAnyH_ready (rs := [3]) (by kernel_rfl) (by simp) ?_
    refine AllReadyH.cons (by simp; rfl) (fun K hK => ?_) AllReadyH.nil
    go_simp
    (go_at_call 27; (with_reducible refine Calls.cQ (refQC (by omega)) ?_); intros)
    refine hK.out _ _ inferInstance ?_
    clear hHeld hK K
    intro hHeld
    try simp only [Act.put, List.setIfInBounds_toArray, List.set_cons_zero, List.set_cons_succ]
    refine wpAnyH_ready (rs := [6]) (by kernel_rfl) (by simp) ?_
    refine AllReadyH.cons (by simp; rfl) (fun K hK => ?_) AllReadyH.nil
    go_simp
    refine hK.out _ _ inferInstance ?_
    clear hHeld hK K
    intro hHeld
    try simp only [Act.put, List.setIfInBounds_toArray, List.set_cons_zero, List.set_cons_succ]
    refine wpAnyH_ready (rs := [7]) (by kernel_rfl) (by simp) ?_
    refine AllReadyH.cons (by simp; rfl) (fun K hK => ?_) AllReadyH.nil
    go_simp
    refine hK.out _ _ inferInstance ?_
    clear hHeld hK K
    intro hHeld
    try simp only [Act.put, List.setIfInBounds_toArray, List.set_cons_zero, List.set_cons_succ]
    refine wpAnyH_done (by kernel_rfl) ?_ _
    clear hHeld
    go_wp2_with fail
    go_meet
    exact ⟨_, _, _, _, _, _, _, _, _, _, _, _, _, _, _, _, rfl, rfl, inferInstance, inferInstance, CQ.cast inferInstance rfl (by omega), CQ.cast inferInstance rfl (by omega), ⟨(inferInstance : Kp ((W3.alloc (.cells #[.bool g1, .slice a1 l1 c1, .slice aa1 ll1 cc1] 29)).alloc (.cells #[.bool g2, .slice a2 l2 c2, .slice aa2 ll2 cc2] 29)) _).out⟩⟩
    go_simp
    refine hK.out _ _ inferInstance ?_
    clear hHeld hK K
    intro hHeld
    try simp only [Act.put, List.setIfInBounds_toArray, List.set_cons_zero, List.set_cons_succ]
    refine wpAnyH_ready (rs := [1, 4]) (by kernel_rfl) (by simp) ?_
    refine AllReadyH.cons (by simp; rfl) (fun K hK => ?_) (AllReadyH.cons (by simp; rfl) (fun K hK => ?_) AllReadyH.nil)
    go_simp
    (go_at_call 27; (with_reducible refine Calls.cQ (refQC (by omega)) ?_); intros)
    refine hK.out _ _ inferInstance ?_
    clear hHeld hK K
    intro hHeld
    try simp only [Act.put, List.setIfInBounds_toArray, List.set_cons_zero, List.set_cons_succ]
    refine wpAnyH_ready (rs := [3, 4]) (by kernel_rfl) (by simp) ?_
    refine AllReadyH.cons (by simp; rfl) (fun K hK => ?_) (AllReadyH.cons (by simp; rfl) (fun K hK => ?_) AllReadyH.nil)
    go_simp
    (go_at_call 27; (with_reducible refine Calls.cQ (refQC (by omega)) ?_); intros)
    refine hK.out _ _ inferInstance ?_
    clear hHeld hK K
    intro hHeld
    try simp only [Act.put, List.setIfInBounds_toArray, List.set_cons_zero, List.set_cons_succ]
    refine wpAnyH_ready (rs := [4]) (by kernel_rfl) (by simp) ?_
    refine AllReadyH.cons (by simp; rfl) (fun K hK => ?_) AllReadyH.nil
    go_simp
    refine hK.out _ _ inferInstance ?_
    clear hHeld hK K
    intro hHeld
    try simp only [Act.put, List.setIfInBounds_toArray, List.set_cons_zero, List.set_cons_succ]
    refine wpAnyH_ready (rs := [6]) (by kernel_rfl) (by simp) ?_
    refine AllReadyH.cons (by simp; rfl) (fun K hK => ?_) AllReadyH.nil
    go_simp
    refine hK.out _ _ inferInstance ?_
    clear hHeld hK K
    intro hHeld
    try simp only [Act.put, List.setIfInBounds_toArray, List.set_cons_zero, List.set_cons_succ]
    refine wpAnyH_ready (rs := [7]) (by kernel_rfl) (by simp) ?_
    refine AllReadyH.cons (by simp; rfl) (fun K hK => ?_) AllReadyH.nil
    go_simp
    refine hK.out _ _ inferInstance ?_
    clear hHeld hK K
    intro hHeld
    try simp only [Act.put, List.setIfInBounds_toArray, List.set_cons_zero, List.set_cons_succ]
    refine wpAnyH_done (by kernel_rfl) ?_ _
    clear hHeld
    go_wp2_with fail
    go_meet
    exact ⟨_, _, _, _, _, _, _, _, _, _, _, _, _, _, _, _, rfl, rfl, inferInstance, inferInstance, CQ.cast inferInstance rfl (by omega), CQ.cast inferInstance rfl (by omega), ⟨(inferInstance : Kp ((W3.alloc (.cells #[.bool g1, .slice a1 l1 c1, .slice aa1 ll1 cc1] 29)).alloc (.cells #[.bool g2, .slice a2 l2 c2, .slice aa2 ll2 cc2] 29)) _).out⟩⟩
    go_simp
    refine hK.out _ _ inferInstance ?_
    clear hHeld hK K
    intro hHeld
    try simp only [Act.put, List.setIfInBounds_toArray, List.set_cons_zero, List.set_cons_succ]
    refine wpAnyH_ready (rs := [3]) (by kernel_rfl) (by simp) ?_
    refine AllReadyH.cons (by simp; rfl) (fun K hK => ?_) AllReadyH.nil
    go_simp
    (go_at_call 27; (with_reducible refine Calls.cQ (refQC (by omega)) ?_); intros)
    refine hK.out _ _ inferInstance ?_
    clear hHeld hK K
    intro hHeld
    try simp only [Act.put, List.setIfInBounds_toArray, List.set_cons_zero, List.set_cons_succ]
    refine wpAnyH_ready (rs := [6]) (by kernel_rfl) (by simp) ?_
    refine AllReadyH.cons (by simp; rfl) (fun K hK => ?_) AllReadyH.nil
    go_simp
    refine hK.out _ _ inferInstance ?_
    clear hHeld hK K
    intro hHeld
    try simp only [Act.put, List.setIfInBounds_toArray, List.set_cons_zero, List.set_cons_succ]
    refine wpAnyH_ready (rs := [7]) (by kernel_rfl) (by simp) ?_
    refine AllReadyH.cons (by simp; rfl) (fun K hK => ?_) AllReadyH.nil
    go_simp
    refine hK.out _ _ inferInstance ?_
    clear hHeld hK K
    intro hHeld
    try simp only [Act.put, List.setIfInBounds_toArray, List.set_cons_zero, List.set_cons_succ]
    refine wpAnyH_done (by kernel_rfl) ?_ _
    clear hHeld
    go_wp2_with fail
    go_meet
    exact ⟨_, _, _, _, _, _, _, _, _, _, _, _, _, _, _, _, rfl, rfl, inferInstance, inferInstance, CQ.cast inferInstance rfl (by omega), CQ.cast inferInstance rfl (by omega), ⟨(inferInstance : Kp ((W3.alloc (.cells #[.bool g1, .slice a1 l1 c1, .slice aa1 ll1 cc1] 29)).alloc (.cells #[.bool g2, .slice a2 l2 c2, .slice aa2 ll2 cc2] 29)) _).out⟩⟩
    go_simp
    refine hK.out _ _ inferInstance ?_
    clear hHeld hK K
    intro hHeld
    try simp only [Act.put, List.setIfInBounds_toArray, List.set_cons_zero, List.set_cons_succ]
    refine wpAnyH_ready (rs := [1]) (by kernel_rfl) (by simp) ?_
    refine AllReadyH.cons (by simp; rfl) (fun K hK => ?_) AllReadyH.nil
    go_simp
    (go_at_call 27; (with_reducible refine Calls.cQ (refQC (by omega)) ?_); intros)
    refine hK.out _ _ inferInstance ?_
    clear hHeld hK K
    intro hHeld
    try simp only [Act.put, List.setIfInBounds_toArray, List.set_cons_zero, List.set_cons_succ]
    refine wpAnyH_ready (rs := [3]) (by kernel_rfl) (by simp) ?_
    refine AllReadyH.cons (by simp; rfl) (fun K hK => ?_) AllReadyH.nil
    go_simp
    (go_at_call 27; (with_reducible refine Calls.cQ (refQC (by omega)) ?_); intros)
    refine hK.out _ _ inferInstance ?_
    clear hHeld hK K
    intro hHeld
    try simp only [Act.put, List.setIfInBounds_toArray, List.set_cons_zero, List.set_cons_succ]
    refine wpAnyH_ready (rs := [6]) (by kernel_rfl) (by simp) ?_
    refine AllReadyH.cons (by simp; rfl) (fun K hK => ?_) AllReadyH.nil
    go_simp
    refine hK.out _ _ inferInstance ?_
    clear hHeld hK K
    intro hHeld
    try simp only [Act.put, List.setIfInBounds_toArray, List.set_cons_zero, List.set_cons_succ]
    refine wpAnyH_ready (rs := [7]) (by kernel_rfl) (by simp) ?_
    refine AllReadyH.cons (by simp; rfl) (fun K hK => ?_) AllReadyH.nil
    go_simp
    refine hK.out _ _ inferInstance ?_
    clear hHeld hK K
    intro hHeld
    try simp only [Act.put, List.setIfInBounds_toArray, List.set_cons_zero, List.set_cons_succ]
    refine wpAnyH_done (by kernel_rfl) ?_ _
    clear hHeld
    go_wp2_with fail
    go_meet
    exact ⟨_, _, _, _, _, _, _, _, _, _, _, _, _, _, _, _, rfl, rfl, inferInstance, inferInstance, CQ.cast inferInstance rfl (by omega), CQ.cast inferInstance rfl (by omega), ⟨(inferInstance : Kp ((W3.alloc (.cells #[.bool g1, .slice a1 l1 c1, .slice aa1 ll1 cc1] 29)).alloc (.cells #[.bool g2, .slice a2 l2 c2, .slice aa2 ll2 cc2] 29)) _).out⟩⟩
  case rest =>
    obtain ⟨b6, b7, G, A, L, C, AA, LL, CC, G', A', L', C', AA', LL', CC', rfl, rfl, p1, p2, p3, p4, p5⟩ := hcut
    have p6 := p3.num
    go_wp2_with fail
    with_reducible refine Calls.cDiv (ratDivC (by omega)) ?_
    intro W6 _ g6 a6 l6 c6 aa6 ll6 cc6 _
    generalize hok : (!decide (x2 = 0)) = ok
    go_upto_region 5 with fail
    go_cut [55] from 30 to 55 (fun tv wx => tv = .bool false ∧ Kp1 W6 wx)
    case first =>
      cases ok
      · have hy : x2 = 0 := by simpa using hok
        have hs : isgn x2.num = 0 := isgn_zero hy
        have HQ : Hid (x1 / x2 = 0) := by show _ = _; rw [hy, Rat.div_def, Rat.inv_zero, Rat.mul_zero]
        clear hy hok
        refine region_cls (by kernel_rfl) [] (fun hHeld => ?_)
        refine wpAnyH_take (i := 0) (v := ?z368) (by simp; rfl) (by kernel_rfl) (by kernel_rfl) (by kernel_rfl) (by exact fun _ _ _ h => h) (Or.inl ⟨by rfl, ?yz368⟩) hHeld ?_
        case yz368 => (intro wx hSw; have hSx := Ex1.mk hSw; go_simp; (try with_reducible rfl))
        try simp only [Act.put, List.setIfInBounds_toArray, List.set_cons_zero, List.set_cons_succ]
        refine wpAnyH_take (i := 1) (v := ?z369) (by simp; rfl) (by kernel_rfl) (by kernel_rfl) (by kernel_rfl) (by exact fun _ _ _ h => h) (Or.inl ⟨by rfl, ?yz369⟩) hHeld ?_
        case yz369 => (intro wx hSw; have hSx := Ex1.mk hSw; go_simp; (try with_reducible rfl))
        try simp only [Act.put, List.setIfInBounds_toArray, List.set_cons_zero, List.set_cons_succ]
        refine wpAnyH_ready (rs := [2]) (by kernel_rfl) (by simp) ?_
        refine AllReadyH.cons (by simp; rfl) (fun K hK => ?_) AllReadyH.nil
        go_simp
        (go_at_call 43; (with_reducible refine Calls.cE (numSC) ?_); intros)
        refine hK.out _ _ inferInstance ?_
        clear hHeld hK K
        intro hHeld
        try simp only [Act.put, List.setIfInBounds_toArray, List.set_cons_zero, List.set_cons_succ]
        refine wpAnyH_take (i := 3) (v := ?z370) (by simp; rfl) (by kernel_rfl) (by kernel_rfl) (by kernel_rfl) (by exact fun _ _ _ h => h) (Or.inl ⟨by rfl, ?yz370⟩) hHeld ?_
        case yz370 => (intro wx hSw; have hSx := Ex1.mk hSw; go_simp; (try with_reducible rfl))
        try simp only [Act.put, List.setIfInBounds_toArray, List.set_cons_zero, List.set_cons_succ]
        refine wpAnyH_take (i := 4) (v := ?z371) (by simp; rfl) (by kernel_rfl) (by kernel_rfl) (by kernel_rfl) (by exact fun _ _ _ h => h) (Or.inl ⟨by rfl, ?yz371⟩) hHeld ?_
        case yz371 => (intro wx hSw; have hSx := Ex1.mk hSw; go_simp; (try with_reducible rfl))
        try simp only [Act.put, List.setIfInBounds_toArray, List.set_cons_zero, List.set_cons_succ]
        refine wpAnyH_take (i := 5) (v := ?z372) (by simp; rfl) (by kernel_rfl) (by kernel_rfl) (by kernel_rfl) (by exact fun _ _ _ h => h) (Or.inl ⟨by rfl, ?yz372⟩) hHeld ?_
        case yz372 => (intro wx hSw; have hSx := Ex1.mk hSw; go_simp; (try with_reducible rfl))
        try simp only [Act.put, List.setIfInBounds_toArray, List.set_cons_zero, List.set_cons_succ]
        refine wpAnyH_take (i := 6) (v := ?z373) (by simp; rfl) (by kernel_rfl) (by kernel_rfl) (by kernel_rfl) (by exact fun _ _ _ h => h) (Or.inl ⟨by rfl, ?yz373⟩) hHeld ?_
        case yz373 => (intro wx hSw; have hSx := Ex1.mk hSw; go_simp; (try with_reducible rfl))
        try simp only [Act.put, List.setIfInBounds_toArray, List.set_cons_zero, List.set_cons_succ]
        refine wpAnyH_take (i := 7) (v := ?z374) (by simp; rfl) (by kernel_rfl) (by kernel_rfl) (by kernel_rfl) (by exact fun _ _ _ h => h) (Or.inl ⟨by rfl, ?yz374⟩) hHeld ?_
        case yz374 => (intro wx hSw; have hSx := Ex1.mk hSw; go_simp; (try with_reducible rfl))
        try simp only [Act.put, List.setIfInBounds_toArray, List.set_cons_zero, List.set_cons_succ]
        refine wpAnyH_take (i := 8) (v := ?z375) (by simp; rfl) (by kernel_rfl) (by kernel_rfl) (by kernel_rfl) (by exact fun _ _ _ h => h) (Or.inl ⟨by rfl, ?yz375⟩) hHeld ?_
        case yz375 => (intro wx hSw; have hSx := Ex1.mk hSw; go_simp; (try with_reducible rfl))
        try simp only [Act.put, List.setIfInBounds_toArray, List.set_cons_zero, List.set_cons_succ]
        refine wpAnyH_take (i := 9) (v := ?z376) (by simp; rfl) (by kernel_rfl) (by kernel_rfl) (by kernel_rfl) (by exact fun _ _ _ h => h) (Or.inl ⟨by rfl, ?yz376⟩) hHeld ?_
        case yz376 => (intro wx hSw; have hSx := Ex1.mk hSw; go_simp; (try with_reducible rfl))
        try simp only [Act.put, List.setIfInBounds_toArray, List.set_cons_zero, List.set_cons_succ]
        refine wpAnyH_take (i := 10) (v := ?z377) (by simp; rfl) (by kernel_rfl) (by kernel_rfl) (by kernel_rfl) (by exact fun _ _ _ h => h) (Or.inl ⟨by rfl, ?yz377⟩) hHeld ?_
        case yz377 => (intro wx hSw; have hSx := Ex1.mk hSw; go_simp; (try with_reducible rfl))
        try simp only [Act.put, List.setIfInBounds_toArray, List.set_cons_zero, List.set_cons_succ]
        refine wpAnyH_ready (rs := [11]) (by kernel_rfl) (by simp) ?_
        refine AllReadyH.cons (by simp; rfl) (fun K hK => ?_) AllReadyH.nil
        go_simp
        (go_at_call 24; (with_reducible refine Calls.cE (same03V (by omega) HQ) ?_); intros)
        refine hK.out _ _ inferInstance ?_
        clear hHeld hK K
        intro hHeld
        try simp only [Act.put, List.setIfInBounds_toArray, List.set_cons_zero, List.set_cons_succ]
        refine wpAnyH_take (i := 12) (v := ?z378) (by simp; rfl) (by kernel_rfl) (by kernel_rfl) (by kernel_rfl) (by exact fun _ _ _ h => h) (Or.inl ⟨by rfl, ?yz378⟩) hHeld ?_
        case yz378 => (intro wx hSw; have hSx := Ex1.mk hSw; go_simp; (try with_reducible rfl))
        try simp only [Act.put, List.setIfInBounds_toArray, List.set_cons_zero, List.set_cons_succ]
        refine wpAnyH_take (i := 13) (v := ?z379) (by simp; rfl) (by kernel_rfl) (by kernel_rfl) (by kernel_rfl) (by exact fun _ _ _ h => h) (Or.inl ⟨by rfl, ?yz379⟩) hHeld ?_
        case yz379 => (intro wx hSw; have hSx := Ex1.mk hSw; go_simp; (try with_reducible rfl))
        try simp only [Act.put, List.setIfInBounds_toArray, List.set_cons_zero, List.set_cons_succ]
        refine wpAnyH_take (i := 14) (v := ?z380) (by simp; rfl) (by kernel_rfl) (by kernel_rfl) (by kernel_rfl) (by exact fun _ _ _ h => h) (Or.inl ⟨by rfl, ?yz380⟩) hHeld ?_
        case yz380 => (intro wx hSw; have hSx := Ex1.mk hSw; go_simp; (try with_reducible rfl))
        try simp only [Act.put, List.setIfInBounds_toArray, List.set_cons_zero, List.set_cons_succ]
        refine wpAnyH_take (i := 15) (v := ?z381) (by simp; rfl) (by kernel_rfl) (by kernel_rfl) (by kernel_rfl) (by exact fun _ _ _ h => h) (Or.inl ⟨by rfl, ?yz381⟩) hHeld ?_
        case yz381 => (intro wx hSw; have hSx := Ex1.mk hSw; go_simp; (try with_reducible rfl))
        try simp only [Act.put, List.setIfInBounds_toArray, List.set_cons_zero, List.set_cons_succ]
        refine wpAnyH_take (i := 16) (v := ?z382) (by simp; rfl) (by kernel_rfl) (by kernel_rfl) (by kernel_rfl) (by exact fun _ _ _ h => h) (Or.inl ⟨by rfl, ?yz382⟩) hHeld ?_
        case yz382 => (intro wx hSw; have hSx := Ex1.mk hSw; go_simp; (try with_reducible rfl))
        try simp only [Act.put, List.setIfInBounds_toArray, List.set_cons_zero, List.set_cons_succ]
        refine wpAnyH_take (i := 17) (v := ?z383) (by simp; rfl) (by kernel_rfl) (by kernel_rfl) (by kernel_rfl) (by exact fun _ _ _ h => h) (Or.inl ⟨by rfl, ?yz383⟩) hHeld ?_
        case yz383 => (intro wx hSw; have hSx := Ex1.mk hSw; go_simp; (try with_reducible rfl))
        try simp only [Act.put, List.setIfInBounds_toArray, List.set_cons_zero, List.set_cons_succ]
        refine wpAnyH_take (i := 18) (v := undef) (by simp; rfl) (by kernel_rfl) (by kernel_rfl) (by kernel_rfl) (by exact fun _ _ _ h => h) (Or.inr ⟨by rfl, rfl⟩) hHeld ?_
        try simp only [Act.put, List.setIfInBounds_toArray, List.set_cons_zero, List.set_cons_succ]
        refine wpAnyH_take (i := 19) (v := undef) (by simp; rfl) (by kernel_rfl) (by kernel_rfl) (by kernel_rfl) (by exact fun _ _ _ h => h) (Or.inr ⟨by rfl, rfl⟩) hHeld ?_
        try simp only [Act.put, List.setIfInBounds_toArray, List.set_cons_zero, List.set_cons_succ]
        refine wpAnyH_take (i := 20) (v := undef) (by simp; rfl) (by kernel_rfl) (by kernel_rfl) (by kernel_rfl) (by exact fun _ _ _ h => h) (Or.inr ⟨by rfl, rfl⟩) hHeld ?_
        try simp only [Act.put, List.setIfInBounds_toArray, List.set_cons_zero, List.set_cons_succ]
        refine wpAnyH_take (i := 21) (v := undef) (by simp; rfl) (by kernel_rfl) (by kernel_rfl) (by kernel_rfl) (by exact fun _ _ _ h => h) (Or.inr ⟨by rfl, rfl⟩) hHeld ?_
        try simp only [Act.put, List.setIfInBounds_toArray, List.set_cons_zero, List.set_cons_succ]
        refine wpAnyH_take (i := 22) (v := undef) (by simp; rfl) (by kernel_rfl) (by kernel_rfl) (by kernel_rfl) (by exact fun _ _ _ h => h) (Or.inr ⟨by rfl, rfl⟩) hHeld ?_
        try simp only [Act.put, List.setIfInBounds_toArray, List.set_cons_zero, List.set_cons_succ]
        refine wpAnyH_take (i := 23) (v := undef) (by simp; rfl) (by kernel_rfl) (by kernel_rfl) (by kernel_rfl) (by exact fun _ _ _ h => h) (Or.inr ⟨by rfl, rfl⟩) hHeld ?_
        try simp only [Act.put, List.setIfInBounds_toArray, List.set_cons_zero, List.set_cons_succ]
        refine wpAnyH_take (i := 24) (v := ?z390) (by simp; rfl) (by kernel_rfl) (by kernel_rfl) (by kernel_rfl) (by exact fun _ _ _ h => h) (Or.inl ⟨by rfl, ?yz390⟩) hHeld ?_
        case yz390 => (intro wx hSw; have hSx := Ex1.mk hSw; go_simp; (try with_reducible rfl))
        try simp only [Act.put, List.setIfInBounds_toArray, List.set_cons_zero, List.set_cons_succ]
        refine wpAnyH_take (i := 25) (v := ?z391) (by simp; rfl) (by kernel_rfl) (by kernel_rfl) (by kernel_rfl) (by exact fun _ _ _ h => h) (Or.inl ⟨by rfl, ?yz391⟩) hHeld ?_
        case yz391 => (intro wx hSw; have hSx := Ex1.mk hSw; go_simp; (try with_reducible rfl))
        try simp only [Act.put, List.setIfInBounds_toArray, List.set_cons_zero, List.set_cons_succ]
        refine wpAnyH_done (by kernel_rfl) ?_ _
        clear hHeld
        go_wp2_with fail
        go_meet
        exact ⟨rfl, ⟨(inferInstance : Kp W6 _).out⟩⟩
      · have hy : x2 ≠ 0 := by simpa using hok
        have hs : (isgn x2.num != 0) = true := by
          simp only [bne_iff_ne, ne_eq, isgn0]
          exact fun h => hy (Rat.num_eq_zero.1 h)
        have h2z := hy
        clear hy hok
        refine region_cls (by kernel_rfl) [] (fun hHeld => ?_)
        refine wpAnyH_take (i := 0) (v := ?z392) (by simp; rfl) (by kernel_rfl) (by kernel_rfl) (by kernel_rfl) (by exact fun _ _ _ h => h) (Or.inl ⟨by rfl, ?yz392⟩) hHeld ?_
        case yz392 => (intro wx hSw; have hSx := Ex1.mk hSw; go_simp; (try with_reducible rfl))
        try simp only [Act.put, List.setIfInBounds_toArray, List.set_cons_zero, List.set_cons_succ]
        refine wpAnyH_take (i := 1) (v := ?z393) (by simp; rfl) (by kernel_rfl) (by kernel_rfl) (by kernel_rfl) (by exact fun _ _ _ h => h) (Or.inl ⟨by rfl, ?yz393⟩) hHeld ?_
        case yz393 => (intro wx hSw; have hSx := Ex1.mk hSw; go_simp; (try with_reducible rfl))
        try simp only [Act.put, List.setIfInBounds_toArray, List.set_cons_zero, List.set_cons_succ]
        refine wpAnyH_ready (rs := [2]) (by kernel_rfl) (by simp) ?_
        refine AllReadyH.cons (by simp; rfl) (fun K hK => ?_) AllReadyH.nil
        go_simp
        (go_at_call 43; (with_reducible refine Calls.cE (numSC) ?_); intros)
        refine hK.out _ _ inferInstance ?_
        clear hHeld hK K
        intro hHeld
        try simp only [Act.put, List.setIfInBounds_toArray, List.set_cons_zero, List.set_cons_succ]
        refine wpAnyH_take (i := 3) (v := ?z394) (by simp; rfl) (by kernel_rfl) (by kernel_rfl) (by kernel_rfl) (by exact fun _ _ _ h => h) (Or.inl ⟨by rfl, ?yz394⟩) hHeld ?_
        case yz394 => (intro wx hSw; have hSx := Ex1.mk hSw; go_simp; (try with_reducible rfl))
        try simp only [Act.put, List.setIfInBounds_toArray, List.set_cons_zero, List.set_cons_succ]
        refine wpAnyH_take (i := 4) (v := ?z395) (by simp; rfl) (by kernel_rfl) (by kernel_rfl) (by kernel_rfl) (by exact fun _ _ _ h => h) (Or.inl ⟨by rfl, ?yz395⟩) hHeld ?_
        case yz395 => (intro wx hSw; have hSx := Ex1.mk hSw; go_simp; (try with_reducible rfl))
        try simp only [Act.put, List.setIfInBounds_toArray, List.set_cons_zero, List.set_cons_succ]
        refine wpAnyH_take (i := 5) (v := ?z396) (by simp; rfl) (by kernel_rfl) (by kernel_rfl) (by kernel_rfl) (by exact fun _ _ _ h => h) (Or.inl ⟨by rfl, ?yz396⟩) hHeld ?_
        case yz396 => (intro wx hSw; have hSx := Ex1.mk hSw; go_simp; (try with_reducible rfl))
        try simp only [Act.put, List.setIfInBounds_toArray, List.set_cons_zero, List.set_cons_succ]
        refine wpAnyH_take (i := 6) (v := ?z397) (by simp; rfl) (by kernel_rfl) (by kernel_rfl) (by kernel_rfl) (by exact fun _ _ _ h => h) (Or.inl ⟨by rfl, ?yz397⟩) hHeld ?_
        case yz397 => (intro wx hSw; have hSx := Ex1.mk hSw; go_simp; (try with_reducible rfl))
        try simp only [Act.put, List.setIfInBounds_toArray, List.set_cons_zero, List.set_cons_succ]
        refine wpAnyH_take (i := 7) (v := ?z398) (by simp; rfl) (by kernel_rfl) (by kernel_rfl) (by kernel_rfl) (by exact fun _ _ _ h => h) (Or.inl ⟨by rfl, ?yz398⟩) hHeld ?_
        case yz398 => (intro wx hSw; have hSx := Ex1.mk hSw; go_simp; (try with_reducible rfl))
        try simp only [Act.put, List.setIfInBounds_toArray, List.set_cons_zero, List.set_cons_succ]
        refine wpAnyH_take (i := 8) (v := ?z399) (by simp; rfl) (by kernel_rfl) (by kernel_rfl) (by kernel_rfl) (by exact fun _ _ _ h => h) (Or.inl ⟨by rfl, ?yz399⟩) hHeld ?_
        case yz399 => (intro wx hSw; have hSx := Ex1.mk hSw; go_simp; (try with_reducible rfl))
        try simp only [Act.put, List.setIfInBounds_toArray, List.set_cons_zero, List.set_cons_succ]
        refine wpAnyH_take (i := 9) (v := undef) (by simp; rfl) (by kernel_rfl) (by kernel_rfl) (by kernel_rfl) (by exact fun _ _ _ h => h) (Or.inr ⟨by rfl, rfl⟩) hHeld ?_
        try simp only [Act.put, List.setIfInBounds_toArray, List.set_cons_zero, List.set_cons_succ]
        refine wpAnyH_take (i := 10) (v := undef) (by simp; rfl) (by kernel_rfl) (by kernel_rfl) (by kernel_rfl) (by exact fun _ _ _ h => h) (Or.inr ⟨by rfl, rfl⟩) hHeld ?_
        try simp only [Act.put, List.setIfInBounds_toArray, List.set_cons_zero, List.set_cons_succ]
        refine wpAnyH_take (i := 11) (v := undef) (by simp; rfl) (by kernel_rfl) (by kernel_rfl) (by kernel_rfl) (by exact fun _ _ _ h => h) (Or.inr ⟨by rfl, rfl⟩) hHeld ?_
        try simp only [Act.put, List.setIfInBounds_toArray, List.set_cons_zero, List.set_cons_succ]
        refine wpAnyH_take (i := 12) (v := undef) (by simp; rfl) (by kernel_rfl) (by kernel_rfl) (by kernel_rfl) (by exact fun _ _ _ h => h) (Or.inr ⟨by rfl, rfl⟩) hHeld ?_
        try simp only [Act.put, List.setIfInBounds_toArray, List.set_cons_zero, List.set_cons_succ]
        refine wpAnyH_take (i := 13) (v := ?z404) (by simp; rfl) (by kernel_rfl) (by kernel_rfl) (by kernel_rfl) (by exact fun _ _ _ h => h) (Or.inl ⟨by rfl, ?yz404⟩) hHeld ?_
        case yz404 => (intro wx hSw; have hSx := Ex1.mk hSw; go_simp; (try with_reducible rfl))
        try simp only [Act.put, List.setIfInBounds_toArray, List.set_cons_zero, List.set_cons_succ]
        refine wpAnyH_take (i := 14) (v := ?z405) (by simp; rfl) (by kernel_rfl) (by kernel_rfl) (by kernel_rfl) (by exact fun _ _ _ h => h) (Or.inl ⟨by rfl, ?yz405⟩) hHeld ?_
        case yz405 => (intro wx hSw; have hSx := Ex1.mk hSw; go_simp; (try with_reducible rfl))
        try simp only [Act.put, List.setIfInBounds_toArray, List.set_cons_zero, List.set_cons_succ]
        refine wpAnyH_take (i := 15) (v := ?z406) (by simp; rfl) (by kernel_rfl) (by kernel_rfl) (by kernel_rfl) (by exact fun _ _ _ h => h) (Or.inl ⟨by rfl, ?yz406⟩) hHeld ?_
        case yz406 => (intro wx hSw; have hSx := Ex1.mk hSw; go_simp; (try with_reducible rfl))
        try simp only [Act.put, List.setIfInBounds_toArray, List.set_cons_zero, List.set_cons_succ]
        refine wpAnyH_take (i := 16) (v := ?z407) (by simp; rfl) (by kernel_rfl) (by kernel_rfl) (by kernel_rfl) (by exact fun _ _ _ h => h) (Or.inl ⟨by rfl, ?yz407⟩) hHeld ?_
        case yz407 => (intro wx hSw; have hSx := Ex1.mk hSw; go_simp; (try with_reducible rfl))
        try simp only [Act.put, List.setIfInBounds_toArray, List.set_cons_zero, List.set_cons_succ]
        refine wpAnyH_take (i := 17) (v := ?z408) (by simp; rfl) (by kernel_rfl) (by kernel_rfl) (by kernel_rfl) (by exact fun _ _ _ h => h) (Or.inl ⟨by rfl, ?yz408⟩) hHeld ?_
        case yz408 => (intro wx hSw; have hSx := Ex1.mk hSw; go_simp; (try with_reducible rfl))
        try simp only [Act.put, List.setIfInBounds_toArray, List.set_cons_zero, List.set_cons_succ]
        refine wpAnyH_take (i := 18) (v := ?z409) (by simp; rfl) (by kernel_rfl) (by kernel_rfl) (by kernel_rfl) (by exact fun _ _ _ h => h) (Or.inl ⟨by rfl, ?yz409⟩) hHeld ?_
        case yz409 => (intro wx hSw; have hSx := Ex1.mk hSw; go_simp; (try with_reducible rfl))
        try simp only [Act.put, List.setIfInBounds_toArray, List.set_cons_zero, List.set_cons_succ]
        refine wpAnyH_take (i := 19) (v := ?z410) (by simp; rfl) (by kernel_rfl) (by kernel_rfl) (by kernel_rfl) (by exact fun _ _ _ h => h) (Or.inl ⟨by rfl, ?yz410⟩) hHeld ?_
        case yz410 => (intro wx hSw; have hSx := Ex1.mk hSw; go_simp; (try with_reducible rfl))
        try simp only [Act.put, List.setIfInBounds_toArray, List.set_cons_zero, List.set_cons_succ]
        refine wpAnyH_take (i := 20) (v := ?z411) (by simp; rfl) (by kernel_rfl) (by kernel_rfl) (by kernel_rfl) (by exact fun _ _ _ h => h) (Or.inl ⟨by rfl, ?yz411⟩) hHeld ?_
        case yz411 => (intro wx hSw; have hSx := Ex1.mk hSw; go_simp; (try with_reducible rfl))
        try simp only [Act.put, List.setIfInBounds_toArray, List.set_cons_zero, List.set_cons_succ]
        refine wpAnyH_ready (rs := [21]) (by kernel_rfl) (by simp) ?_
        refine AllReadyH.cons (by simp; rfl) (fun K hK => ?_) AllReadyH.nil
        go_simp
        (go_at_call 38; (with_reducible refine Calls.cQ (numOverC (by omega) h2z) ?_); intros)
        refine hK.out _ _ inferInstance ?_
        clear hHeld hK K
        intro hHeld
        try simp only [Act.put, List.setIfInBounds_toArray, List.set_cons_zero, List.set_cons_succ]
        refine wpAnyH_ready (rs := [22]) (by kernel_rfl) (by simp) ?_
        refine AllReadyH.cons (by simp; rfl) (fun K hK => ?_) AllReadyH.nil
        go_simp
        (go_at_call 24; (with_reducible refine Calls.cE (same03V (by omega) (Lib.hid rfl)) ?_); intros)
        refine hK.out _ _ inferInstance ?_
        clear hHeld hK K
        intro hHeld
        try simp only [Act.put, List.setIfInBounds_toArray, List.set_cons_zero, List.set_cons_succ]
        refine wpAnyH_take (i := 23) (v := ?z412) (by simp; rfl) (by kernel_rfl) (by kernel_rfl) (by kernel_rfl) (by exact fun _ _ _ h => h) (Or.inl ⟨by rfl, ?yz412⟩) hHeld ?_
        case yz412 => (intro wx hSw; have hSx := Ex1.mk hSw; go_simp; (try with_reducible rfl))
        try simp only [Act.put, List.setIfInBounds_toArray, List.set_cons_zero, List.set_cons_succ]
        refine wpAnyH_take (i := 24) (v := ?z413) (by simp; rfl) (by kernel_rfl) (by kernel_rfl) (by kernel_rfl) (by exact fun _ _ _ h => h) (Or.inl ⟨by rfl, ?yz413⟩) hHeld ?_
        case yz413 => (intro wx hSw; have hSx := Ex1.mk hSw; go_simp; (try with_reducible rfl))
        try simp only [Act.put, List.setIfInBounds_toArray, List.set_cons_zero, List.set_cons_succ]
        refine wpAnyH_take (i := 25) (v := ?z414) (by simp; rfl) (by kernel_rfl) (by kernel_rfl) (by kernel_rfl) (by exact fun _ _ _ h => h) (Or.inl ⟨by rfl, ?yz414⟩) hHeld ?_
        case yz414 => (intro wx hSw; have hSx := Ex1.mk hSw; go_simp; (try with_reducible rfl))
        try simp only [Act.put, List.setIfInBounds_toArray, List.set_cons_zero, List.set_cons_succ]
        refine wpAnyH_done (by kernel_rfl) ?_ _
        clear hHeld
        go_wp2_with fail
        go_meet
        exact ⟨rfl, ⟨(inferInstance : Kp W6 _).out⟩⟩
    case rest =>
      obtain ⟨rfl, q1⟩ := hcut
      go_upto_region 7 with fail
      go_cut [10] from 56 to 63 (fun tv wx => ∃ (b : Nat) (g : Bool) (a : Option Addr) (l c : Nat), tv = .pointer (some ⟨b, 0, none⟩) ∧ Bx wx b 43 [.bool g, .slice a l c] ∧ CZ wx (.agg #[.bool g, .slice a l c]) x1.floor 500 ∧ Kp1 wc wx)
      case first =>
        refine region_cls (by kernel_rfl) [] (fun hHeld => ?_)
        refine wpAnyH_take (i := 0) (v := ?z415) (by simp; rfl) (by kernel_rfl) (by kernel_rfl) (by kernel_rfl) (by exact fun _ _ _ h => h) (Or.inl ⟨by rfl, ?yz415⟩) hHeld ?_
        case yz415 => (intro wx hSw; have hSx := Ex1.mk hSw; go_simp; (try with_reducible rfl))
        try simp only [Act.put, List.setIfInBounds_toArray, List.set_cons_zero, List.set_cons_succ]
        refine wpAnyH_take (i := 1) (v := ?z416) (by simp; rfl) (by kernel_rfl) (by kernel_rfl) (by kernel_rfl) (by exact fun _ _ _ h => h) (Or.inl ⟨by rfl, ?yz416⟩) hHeld ?_
        case yz416 => (intro wx hSw; have hSx := Ex1.mk hSw; go_simp; (try with_reducible rfl))
        try simp only [Act.put, List.setIfInBounds_toArray, List.set_cons_zero, List.set_cons_succ]
        refine wpAnyH_take (i := 2) (v := ?z417) (by simp; rfl) (by kernel_rfl) (by kernel_rfl) (by kernel_rfl) (by exact fun _ _ _ h => h) (Or.inl ⟨by rfl, ?yz417⟩) hHeld ?_
        case yz417 => (intro wx hSw; have hSx := Ex1.mk hSw; go_simp; (try with_reducible rfl))
        try simp only [Act.put, List.setIfInBounds_toArray, List.set_cons_zero, List.set_cons_succ]
        refine wpAnyH_ready (rs := [3, 8]) (by kernel_rfl) (by simp) ?_
        refine AllReadyH.cons (by simp; rfl) (fun K hK => ?_) (AllReadyH.cons (by simp; rfl) (fun K hK => ?_) AllReadyH.nil)
        go_simp
        (go_at_call 55; (with_reducible refine Calls.cN (numDenC) ?_); intros)
        refine hK.out _ _ inferInstance ?_
        clear hHeld hK K
        intro hHeld
        try simp only [Act.put, List.setIfInBounds_toArray, List.set_cons_zero, List.set_cons_succ]
        refine wpAnyH_ready (rs := [4, 8]) (by kernel_rfl) (by simp) ?_
        refine AllReadyH.cons (by simp; rfl) (fun K hK => ?_) (AllReadyH.cons (by simp; rfl) (fun K hK => ?_) AllReadyH.nil)
        go_simp
        (go_at_call 54; (with_reducible refine Calls.cFl (floorC (by omega) x1.den_nz) ?_); intros)
        refine hK.out _ _ inferInstance ?_
        clear hHeld hK K
        intro hHeld
        try simp only [Act.put, List.setIfInBounds_toArray, List.set_cons_zero, List.set_cons_succ]
        refine wpAnyH_take (i := 5) (v := ?z418) (by simp; rfl) (by kernel_rfl) (by kernel_rfl) (by kernel_rfl) (by exact fun _ _ _ h => h) (Or.inl ⟨by rfl, ?yz418⟩) hHeld ?_
        case yz418 => (intro wx hSw; have hSx := Ex1.mk hSw; go_simp; (try with_reducible rfl))
        try simp only [Act.put, List.setIfInBounds_toArray, List.set_cons_zero, List.set_cons_succ]
        refine wpAnyH_take (i := 6) (v := ?z419) (by simp; rfl) (by kernel_rfl) (by kernel_rfl) (by kernel_rfl) (by exact fun _ _ _ h => h) (Or.inl ⟨by rfl, ?yz419⟩) hHeld ?_
        case yz419 => (intro wx hSw; have hSx := Ex1.mk hSw; go_simp; (try with_reducible rfl))
        try simp only [Act.put, List.setIfInBounds_toArray, List.set_cons_zero, List.set_cons_succ]
        refine wpAnyH_take (i := 7) (v := ?z420) (by simp; rfl) (by kernel_rfl) (by kernel_rfl) (by kernel_rfl) (by exact fun _ _ _ h => h) (Or.inl ⟨by rfl, ?yz420⟩) hHeld ?_
        case yz420 => (intro wx hSw; have hSx := Ex1.mk hSw; go_simp; (try with_reducible rfl))
        try simp only [Act.put, List.setIfInBounds_toArray, List.set_cons_zero, List.set_cons_succ]
        refine wpAnyH_ready (rs := [8]) (by kernel_rfl) (by simp) ?_
        refine AllReadyH.cons (by simp; rfl) (fun K hK => ?_) AllReadyH.nil
        go_simp
        refine hK.out _ _ inferInstance ?_
        clear hHeld hK K
        intro hHeld
        try simp only [Act.put, List.setIfInBounds_toArray, List.set_cons_zero, List.set_cons_succ]
        refine wpAnyH_ready (rs := [9]) (by kernel_rfl) (by simp) ?_
        refine AllReadyH.cons (by simp; rfl) (fun K hK => ?_) AllReadyH.nil
        go_simp
        refine hK.out _ _ inferInstance ?_
        clear hHeld hK K
        intro hHeld
        try simp only [Act.put, List.setIfInBounds_toArray, List.set_cons_zero, List.set_cons_succ]
        refine wpAnyH_take (i := 10) (v := ?z421) (by simp; rfl) (by kernel_rfl) (by kernel_rfl) (by kernel_rfl) (by exact fun _ _ _ h => h) (Or.inl ⟨by rfl, ?yz421⟩) hHeld ?_
        case yz421 => (intro wx hSw; have hSx := Ex1.mk hSw; go_simp; (try with_reducible rfl))
        try simp only [Act.put, List.setIfInBounds_toArray, List.set_cons_zero, List.set_cons_succ]
        refine wpAnyH_done (by kernel_rfl) ?_ _
        clear hHeld
        go_wp2_with fail
        go_meet
        exact ⟨_, _, _, _, _, rfl, inferInstance, CZ.cast inferInstance HF1.out.symm (by omega), ⟨(inferInstance : Kp wc _).out⟩⟩
        go_simp
        refine hK.out _ _ inferInstance ?_
        clear hHeld hK K
        intro hHeld
        try simp only [Act.put, List.setIfInBounds_toArray, List.set_cons_zero, List.set_cons_succ]
        refine wpAnyH_ready (rs := [4]) (by kernel_rfl) (by simp) ?_
        refine AllReadyH.cons (by simp; rfl) (fun K hK => ?_) AllReadyH.nil
        go_simp
        (go_at_call 54; (with_reducible refine Calls.cFl (floorC (by omega) x1.den_nz) ?_); intros)
        refine hK.out _ _ inferInstance ?_
        clear hHeld hK K
        intro hHeld
        try simp only [Act.put, List.setIfInBounds_toArray, List.set_cons_zero, List.set_cons_succ]
        refine wpAnyH_take (i := 5) (v := ?z422) (by simp; rfl) (by kernel_rfl) (by kernel_rfl) (by kernel_rfl) (by exact fun _ _ _ h => h) (Or.inl ⟨by rfl, ?yz422⟩) hHeld ?_
        case yz422 => (intro wx hSw; have hSx := Ex1.mk hSw; go_simp; (try with_reducible rfl))
        try simp only [Act.put, List.setIfInBounds_toArray, List.set_cons_zero, List.set_cons_succ]
        refine wpAnyH_take (i := 6) (v := ?z423) (by simp; rfl) (by kernel_rfl) (by kernel_rfl) (by kernel_rfl) (by exact fun _ _ _ h => h) (Or.inl ⟨by rfl, ?yz423⟩) hHeld ?_
        case yz423 => (intro wx hSw; have hSx := Ex1.mk hSw; go_simp; (try with_reducible rfl))
        try simp only [Act.put, List.setIfInBounds_toArray, List.set_cons_zero, List.set_cons_succ]
        refine wpAnyH_take (i := 7) (v := ?z424) (by simp; rfl) (by kernel_rfl) (by kernel_rfl) (by kernel_rfl) (by exact fun _ _ _ h => h) (Or.inl ⟨by rfl, ?yz424⟩) hHeld ?_
        case yz424 => (intro wx hSw; have hSx := Ex1.mk hSw; go_simp; (try with_reducible rfl))
        try simp only [Act.put, List.setIfInBounds_toArray, List.set_cons_zero, List.set_cons_succ]
        refine wpAnyH_ready (rs := [9]) (by kernel_rfl) (by simp) ?_
        refine AllReadyH.cons (by simp; rfl) (fun K hK => ?_) AllReadyH.nil
        go_simp
        refine hK.out _ _ inferInstance ?_
        clear hHeld hK K
        intro hHeld
        try simp only [Act.put, List.setIfInBounds_toArray, List.set_cons_zero, List.set_cons_succ]
        refine wpAnyH_take (i := 10) (v := ?z425) (by simp; rfl) (by kernel_rfl) (by kernel_rfl) (by kernel_rfl) (by exact fun _ _ _ h => h) (Or.inl ⟨by rfl, ?yz425⟩) hHeld ?_
        case yz425 => (intro wx hSw; have hSx := Ex1.mk hSw; go_simp; (try with_reducible rfl))
        try simp only [Act.put, List.setIfInBounds_toArray, List.set_cons_zero, List.set_cons_succ]
        refine wpAnyH_done (by kernel_rfl) ?_ _
        clear hHeld
        go_wp2_with fail
        go_meet
        exact ⟨_, _, _, _, _, rfl, inferInstance, CZ.cast inferInstance HF1.out.symm (by omega), ⟨(inferInstance : Kp wc _).out⟩⟩
        go_simp
        refine hK.out _ _ inferInstance ?_
        clear hHeld hK K
        intro hHeld
        try simp only [Act.put, List.setIfInBounds_toArray, List.set_cons_zero, List.set_cons_succ]
        refine wpAnyH_ready (rs := [3]) (by kernel_rfl) (by simp) ?_
        refine AllReadyH.cons (by simp; rfl) (fun K hK => ?_) AllReadyH.nil
        go_simp
        (go_at_call 55; (with_reducible refine Calls.cN (numDenC) ?_); intros)
        refine hK.out _ _ inferInstance ?_
        clear hHeld hK K
        intro hHeld
        try simp only [Act.put, List.setIfInBounds_toArray, List.set_cons_zero, List.set_cons_succ]
        refine wpAnyH_ready (rs := [4]) (by kernel_rfl) (by simp) ?_
        refine AllReadyH.cons (by simp; rfl) (fun K hK => ?_) AllReadyH.nil
        go_simp
        (go_at_call 54; (with_reducible refine Calls.cFl (floorC (by omega) x1.den_nz) ?_); intros)
        refine hK.out _ _ inferInstance ?_
        clear hHeld hK K
        intro hHeld
        try simp only [Act.put, List.setIfInBounds_toArray, List.set_cons_zero, List.set_cons_succ]
        refine wpAnyH_take (i := 5) (v := ?z426) (by simp; rfl) (by kernel_rfl) (by kernel_rfl) (by kernel_rfl) (by exact fun _ _ _ h => h) (Or.inl ⟨by rfl, ?yz426⟩) hHeld ?_
        case yz426 => (intro wx hSw; have hSx := Ex1.mk hSw; go_simp; (try with_reducible rfl))
        try simp only [Act.put, List.setIfInBounds_toArray, List.set_cons_zero, List.set_cons_succ]
        refine wpAnyH_take (i := 6) (v := ?z427) (by simp; rfl) (by kernel_rfl) (by kernel_rfl) (by kernel_rfl) (by exact fun _ _ _ h => h) (Or.inl ⟨by rfl, ?yz427⟩) hHeld ?_
        case yz427 => (intro wx hSw; have hSx := Ex1.mk hSw; go_simp; (try with_reducible rfl))
        try simp only [Act.put, List.setIfInBounds_toArray, List.set_cons_zero, List.set_cons_succ]
        refine wpAnyH_take (i := 7) (v := ?z428) (by simp; rfl) (by kernel_rfl) (by kernel_rfl) (by kernel_rfl) (by exact fun _ _ _ h => h) (Or.inl ⟨by rfl, ?yz428⟩) hHeld ?_
        case yz428 => (intro wx hSw; have hSx := Ex1.mk hSw; go_simp; (try with_reducible rfl))
        try simp only [Act.put, List.setIfInBounds_toArray, List.set_cons_zero, List.set_cons_succ]
        refine wpAnyH_ready (rs := [9]) (by kernel_rfl) (by simp) ?_
        refine AllReadyH.cons (by simp; rfl) (fun K hK => ?_) AllReadyH.nil
        go_simp
        refine hK.out _ _ inferInstance ?_
        clear hHeld hK K
        intro hHeld
        try simp only [Act.put, List.setIfInBounds_toArray, List.set_cons_zero, List.set_cons_succ]
        refine wpAnyH_take (i := 10) (v := ?z429) (by simp; rfl) (by kernel_rfl) (by kernel_rfl) (by kernel_rfl) (by exact fun _ _ _ h => h) (Or.inl ⟨by rfl, ?yz429⟩) hHeld ?_
        case yz429 => (intro wx hSw; have hSx := Ex1.mk hSw; go_simp; (try with_reducible rfl))
        try simp only [Act.put, List.setIfInBounds_toArray, List.set_cons_zero, List.set_cons_succ]
        refine wpAnyH_done (by kernel_rfl) ?_ _
        clear hHeld
        go_wp2_with fail
        go_meet
        exact ⟨_, _, _, _, _, rfl, inferInstance, CZ.cast inferInstance HF1.out.symm (by omega), ⟨(inferInstance : Kp wc _).out⟩⟩
      case rest =>
        obtain ⟨b10, g0, A0, L0, C0, rfl, r1, r2, r3⟩ := hcut
        go_upto_region 8 with fail
        go_cut [12] from 64 to 72 (fun tv wx => ∃ (b : Nat) (g : Bool) (a : Option Addr) (l c : Nat), tv = .pointer (some ⟨b, 0, none⟩) ∧ Bx wx b 43 [.bool g, .slice a l c] ∧ CZ wx (.agg #[.bool g, .slice a l c]) (-x1).floor 500 ∧ Kp1 wc wx)
        case first =>
          refine region_cls (by kernel_rfl) [] (fun hHeld => ?_)
          refine wpAnyH_take (i := 0) (v := ?z430) (by simp; rfl) (by kernel_rfl) (by kernel_rfl) (by kernel_rfl) (by exact fun _ _ _ h => h) (Or.inl ⟨by rfl, ?yz430⟩) hHeld ?_
          case yz430 => (intro wx hSw; have hSx := Ex1.mk hSw; go_simp; (try with_reducible rfl))
          try simp only [Act.put, List.setIfInBounds_toArray, List.set_cons_zero, List.set_cons_succ]
          refine wpAnyH_take (i := 3) (v := ?z431) (by simp; rfl) (by kernel_rfl) (by kernel_rfl) (by kernel_rfl) (by exact fun _ _ _ h => h) (Or.inl ⟨by rfl, ?yz431⟩) hHeld ?_
          case yz431 => (intro wx hSw; have hSx := Ex1.mk hSw; go_simp; (try with_reducible rfl))
          try simp only [Act.put, List.setIfInBounds_toArray, List.set_cons_zero, List.set_cons_succ]
          refine wpAnyH_ready (rs := [1, 9]) (by kernel_rfl) (by simp) ?_
          refine AllReadyH.cons (by simp; rfl) (fun K hK => ?_) (AllReadyH.cons (by simp; rfl) (fun K hK => ?_) AllReadyH.nil)
          go_simp
          (go_at_call 56; (with_reducible refine Calls.cQ numOppC ?_); intro _ _ _ _ _ _ _ _ _ io; have io2 := io.num; clear io)
          refine hK.out _ _ inferInstance ?_
          clear hHeld hK K
          intro hHeld
          try simp only [Act.put, List.setIfInBounds_toArray, List.set_cons_zero, List.set_cons_succ]
          refine wpAnyH_take (i := 2) (v := ?z432) (by simp; rfl) (by kernel_rfl) (by kernel_rfl) (by kernel_rfl) (by exact fun _ _ _ h => h) (Or.inl ⟨by rfl, ?yz432⟩) hHeld ?_
          case yz432 => (intro wx hSw; have hSx := Ex1.mk hSw; go_simp; (try with_reducible rfl))
          try simp only [Act.put, List.setIfInBounds_toArray, List.set_cons_zero, List.set_cons_succ]
          refine wpAnyH_ready (rs := [4, 9]) (by kernel_rfl) (by simp) ?_
          refine AllReadyH.cons (by simp; rfl) (fun K hK => ?_) (AllReadyH.cons (by simp; rfl) (fun K hK => ?_) AllReadyH.nil)
          go_simp
          (go_at_call 55; (with_reducible refine Calls.cN (numDenC) ?_); intros)
          refine hK.out _ _ inferInstance ?_
          clear hHeld hK K
          intro hHeld
          try simp only [Act.put, List.setIfInBounds_toArray, List.set_cons_zero, List.set_cons_succ]
          refine wpAnyH_ready (rs := [5, 9]) (by kernel_rfl) (by simp) ?_
          refine AllReadyH.cons (by simp; rfl) (fun K hK => ?_) (AllReadyH.cons (by simp; rfl) (fun K hK => ?_) AllReadyH.nil)
          go_simp
          (go_at_call 54; (with_reducible refine Calls.cFl (floorC (by omega) x1.den_nz) ?_); intros)
          refine hK.out _ _ inferInstance ?_
          clear hHeld hK K
          intro hHeld
          try simp only [Act.put, List.setIfInBounds_toArray, List.set_cons_zero, List.set_cons_succ]
          refine wpAnyH_take (i := 6) (v := ?z433) (by simp; rfl) (by kernel_rfl) (by kernel_rfl) (by kernel_rfl) (by exact fun _ _ _ h => h) (Or.inl ⟨by rfl, ?yz433⟩) hHeld ?_
          case yz433 => (intro wx hSw; have hSx := Ex1.mk hSw; go_simp; (try with_reducible rfl))
          try simp only [Act.put, List.setIfInBounds_toArray, List.set_cons_zero, List.set_cons_succ]
          refine wpAnyH_take (i := 7) (v := ?z434) (by simp; rfl) (by kernel_rfl) (by kernel_rfl) (by kernel_rfl) (by exact fun _ _ _ h => h) (Or.inl ⟨by rfl, ?yz434⟩) hHeld ?_
          case yz434 => (intro wx hSw; have hSx := Ex1.mk hSw; go_simp; (try with_reducible rfl))
          try simp only [Act.put, List.setIfInBounds_toArray, List.set_cons_zero, List.set_cons_succ]
          refine wpAnyH_take (i := 8) (v := ?z435) (by simp; rfl) (by kernel_rfl) (by kernel_rfl) (by kernel_rfl) (by exact fun _ _ _ h => h) (Or.inl ⟨by rfl, ?yz435⟩) hHeld ?_
          case yz435 => (intro wx hSw; have hSx := Ex1.mk hSw; go_simp; (try with_reducible rfl))
          try simp only [Act.put, List.setIfInBounds_toArray, List.set_cons_zero, List.set_cons_succ]
          refine wpAnyH_ready (rs := [9]) (by kernel_rfl) (by simp) ?_
          refine AllReadyH.cons (by simp; rfl) (fun K hK => ?_) AllReadyH.nil
          go_simp
          refine hK.out _ _ inferInstance ?_
          clear hHeld hK K
          intro hHeld
          try simp only [Act.put, List.setIfInBounds_toArray, List.set_cons_zero, List.set_cons_succ]
          refine wpAnyH_ready (rs := [10]) (by kernel_rfl) (by simp) ?_
          refine AllReadyH.cons (by simp; rfl) (fun K hK => ?_) AllReadyH.nil
          go_simp
          refine hK.out _ _ inferInstance ?_
          clear hHeld hK K
          intro hHeld
          try simp only [Act.put, List.setIfInBounds_toArray, List.set_cons_zero, List.set_cons_succ]
          refine wpAnyH_take (i := 11) (v := ?z436) (by simp; rfl) (by kernel_rfl) (by kernel_rfl) (by kernel_rfl) (by exact fun _ _ _ h => h) (Or.inl ⟨by rfl, ?yz436⟩) hHeld ?_
          case yz436 => (intro wx hSw; have hSx := Ex1.mk hSw; go_simp; (try with_reducible rfl))
          try simp only [Act.put, List.setIfInBounds_toArray, List.set_cons_zero, List.set_cons_succ]
          refine wpAnyH_done (by kernel_rfl) ?_ _
          clear hHeld
          go_wp2_with fail
          go_meet
          exact ⟨_, _, _, _, _, rfl, inferInstance, CZ.cast inferInstance HF2.out.symm (by omega), ⟨(inferInstance : Kp wc _).out⟩⟩
          go_simp
          refine hK.out _ _ inferInstance ?_
          clear hHeld hK K
          intro hHeld
          try simp only [Act.put, List.setIfInBounds_toArray, List.set_cons_zero, List.set_cons_succ]
          refine wpAnyH_ready (rs := [5]) (by kernel_rfl) (by simp) ?_
          refine AllReadyH.cons (by simp; rfl) (fun K hK => ?_) AllReadyH.nil
          go_simp
          (go_at_call 54; (with_reducible refine Calls.cFl (floorC (by omega) x1.den_nz) ?_); intros)
          refine hK.out _ _ inferInstance ?_
          clear hHeld hK K
          intro hHeld
          try simp only [Act.put, List.setIfInBounds_toArray, List.set_cons_zero, List.set_cons_succ]
          refine wpAnyH_take (i := 6) (v := ?z437) (by simp; rfl) (by kernel_rfl) (by kernel_rfl) (by kernel_rfl) (by exact fun _ _ _ h => h) (Or.inl ⟨by rfl, ?yz437⟩) hHeld ?_
          case yz437 => (intro wx hSw; have hSx := Ex1.mk hSw; go_simp; (try with_reducible rfl))
          try simp only [Act.put, List.setIfInBounds_toArray, List.set_cons_zero, List.set_cons_succ]
          refine wpAnyH_take (i := 7) (v := ?z438) (by simp; rfl) (by kernel_rfl) (by kernel_rfl) (by kernel_rfl) (by exact fun _ _ _ h => h) (Or.inl ⟨by rfl, ?yz438⟩) hHeld ?_
          case yz438 => (intro wx hSw; have hSx := Ex1.mk hSw; go_simp; (try with_reducible rfl))
          try simp only [Act.put, List.setIfInBounds_toArray, List.set_cons_zero, List.set_cons_succ]
          refine wpAnyH_take (i := 8) (v := ?z439) (by simp; rfl) (by kernel_rfl) (by kernel_rfl) (by kernel_rfl) (by exact fun _ _ _ h => h) (Or.inl ⟨by rfl, ?yz439⟩) hHeld ?_
          case yz439 => (intro wx hSw; have hSx := Ex1.mk hSw; go_simp; (try with_reducible rfl))
          try simp only [Act.put, List.setIfInBounds_toArray, List.set_cons_zero, List.set_cons_succ]
          refine wpAnyH_ready (rs := [10]) (by kernel_rfl) (by simp) ?_
          refine AllReadyH.cons (by simp; rfl) (fun K hK => ?_) AllReadyH.nil
          go_simp
          refine hK.out _ _ inferInstance ?_
          clear hHeld hK K
          intro hHeld
          try simp only [Act.put, List.setIfInBounds_toArray, List.set_cons_zero, List.set_cons_succ]
          refine wpAnyH_take (i := 11) (v := ?z440) (by simp; rfl) (by kernel_rfl) (by kernel_rfl) (by kernel_rfl) (by exact fun _ _ _ h => h) (Or.inl ⟨by rfl, ?yz440⟩) hHeld ?_
          case yz440 => (intro wx hSw; have hSx := Ex1.mk hSw; go_simp; (try with_reducible rfl))
          try simp only [Act.put, List.setIfInBounds_toArray, List.set_cons_zero, List.set_cons_succ]
          refine wpAnyH_done (by kernel_rfl) ?_ _
          clear hHeld
          go_wp2_with fail
          go_meet
          exact ⟨_, _, _, _, _, rfl, inferInstance, CZ.cast inferInstance HF2.out.symm (by omega), ⟨(inferInstance : Kp wc _).out⟩⟩
          go_simp
          refine hK.out _ _ inferInstance ?_
          clear hHeld hK K
          intro hHeld
          try simp only [Act.put, List.setIfInBounds_toArray, List.set_cons_zero, List.set_cons_succ]
          refine wpAnyH_ready (rs := [4]) (by kernel_rfl) (by simp) ?_
          refine AllReadyH.cons (by simp; rfl) (fun K hK => ?_) AllReadyH.nil
          go_simp
          (go_at_call 55; (with_reducible refine Calls.cN (numDenC) ?_); intros)
          refine hK.out _ _ inferInstance ?_
          clear hHeld hK K
          intro hHeld
          try simp only [Act.put, List.setIfInBounds_toArray, List.set_cons_zero, List.set_cons_succ]
          refine wpAnyH_ready (rs := [5]) (by kernel_rfl) (by simp) ?_
          refine AllReadyH.cons (by simp; rfl) (fun K hK => ?_) AllReadyH.nil
          go_simp
          (go_at_call 54; (with_reducible refine Calls.cFl (floorC (by omega) x1.den_nz) ?_); intros)
          refine hK.out _ _ inferInstance ?_
          clear hHeld hK K
          intro hHeld
          try simp only [Act.put, List.setIfInBounds_toArray, List.set_cons_zero, List.set_cons_succ]
          refine wpAnyH_take (i := 6) (v := ?z441) (by simp; rfl) (by kernel_rfl) (by kernel_rfl) (by kernel_rfl) (by exact fun _ _ _ h => h) (Or.inl ⟨by rfl, ?yz441⟩) hHeld ?_
          case yz441 => (intro wx hSw; have hSx := Ex1.mk hSw; go_simp; (try with_reducible rfl))
          try simp only [Act.put, List.setIfInBounds_toArray, List.set_cons_zero, List.set_cons_succ]
          refine wpAnyH_take (i := 7) (v := ?z442) (by simp; rfl) (by kernel_rfl) (by kernel_rfl) (by kernel_rfl) (by exact fun _ _ _ h => h) (Or.inl ⟨by rfl, ?yz442⟩) hHeld ?_
          case yz442 => (intro wx hSw; have hSx := Ex1.mk hSw; go_simp; (try with_reducible rfl))
          try simp only [Act.put, List.setIfInBounds_toArray, List.set_cons_zero, List.set_cons_succ]
          refine wpAnyH_take (i := 8) (v := ?z443) (by simp; rfl) (by kernel_rfl) (by kernel_rfl) (by kernel_rfl) (by exact fun _ _ _ h => h) (Or.inl ⟨by rfl, ?yz443⟩) hHeld ?_
          case yz443 => (intro wx hSw; have hSx := Ex1.mk hSw; go_simp; (try with_reducible rfl))
          try simp only [Act.put, List.setIfInBounds_toArray, List.set_cons_zero, List.set_cons_succ]
          refine wpAnyH_ready (rs := [10]) (by kernel_rfl) (by simp) ?_
          refine AllReadyH.cons (by simp; rfl) (fun K hK => ?_) AllReadyH.nil
          go_simp
          refine hK.out _ _ inferInstance ?_
          clear hHeld hK K
          intro hHeld
          try simp only [Act.put, List.setIfInBounds_toArray, List.set_cons_zero, List.set_cons_succ]
          refine wpAnyH_take (i := 11) (v := ?z444) (by simp; rfl) (by kernel_rfl) (by kernel_rfl) (by kernel_rfl) (by exact fun _ _ _ h => h) (Or.inl ⟨by rfl, ?yz444⟩) hHeld ?_
          case yz444 => (intro wx hSw; have hSx := Ex1.mk hSw; go_simp; (try with_reducible rfl))
          try simp only [Act.put, List.setIfInBounds_toArray, List.set_cons_zero, List.set_cons_succ]
          refine wpAnyH_done (by kernel_rfl) ?_ _
          clear hHeld
          go_wp2_with fail
          go_meet
          exact ⟨_, _, _, _, _, rfl, inferInstance, CZ.cast inferInstance HF2.out.symm (by omega), ⟨(inferInstance : Kp wc _).out⟩⟩
          go_simp
          refine hK.out _ _ inferInstance ?_
          clear hHeld hK K
          intro hHeld
          try simp only [Act.put, List.setIfInBounds_toArray, List.set_cons_zero, List.set_cons_succ]
          refine wpAnyH_ready (rs := [1]) (by kernel_rfl) (by simp) ?_
          refine AllReadyH.cons (by simp; rfl) (fun K hK => ?_) AllReadyH.nil
          go_simp
          (go_at_call 56; (with_reducible refine Calls.cQ numOppC ?_); intro _ _ _ _ _ _ _ _ _ io; have io2 := io.num; clear io)
          refine hK.out _ _ inferInstance ?_
          clear hHeld hK K
          intro hHeld
          try simp only [Act.put, List.setIfInBounds_toArray, List.set_cons_zero, List.set_cons_succ]
          refine wpAnyH_take (i := 2) (v := ?z445) (by simp; rfl) (by kernel_rfl) (by kernel_rfl) (by kernel_rfl) (by exact fun _ _ _ h => h) (Or.inl ⟨by rfl, ?yz445⟩) hHeld ?_
          case yz445 => (intro wx hSw; have hSx := Ex1.mk hSw; go_simp; (try with_reducible rfl))
          try simp only [Act.put, List.setIfInBounds_toArray, List.set_cons_zero, List.set_cons_succ]
          refine wpAnyH_ready (rs := [4]) (by kernel_rfl) (by simp) ?_
          refine AllReadyH.cons (by simp; rfl) (fun K hK => ?_) AllReadyH.nil
          go_simp
          (go_at_call 55; (with_reducible refine Calls.cN (numDenC) ?_); intros)
          refine hK.out _ _ inferInstance ?_
          clear hHeld hK K
          intro hHeld
          try simp only [Act.put, List.setIfInBounds_toArray, List.set_cons_zero, List.set_cons_succ]
          refine wpAnyH_ready (rs := [5]) (by kernel_rfl) (by simp) ?_
          refine AllReadyH.cons (by simp; rfl) (fun K hK => ?_) AllReadyH.nil
          go_simp
          (go_at_call 54; (with_reducible refine Calls.cFl (floorC (by omega) x1.den_nz) ?_); intros)
          refine hK.out _ _ inferInstance ?_
          clear hHeld hK K
          intro hHeld
          try simp only [Act.put, List.setIfInBounds_toArray, List.set_cons_zero, List.set_cons_succ]
          refine wpAnyH_take (i := 6) (v := ?z446) (by simp; rfl) (by kernel_rfl) (by kernel_rfl) (by kernel_rfl) (by exact fun _ _ _ h => h) (Or.inl ⟨by rfl, ?yz446⟩) hHeld ?_
          case yz446 => (intro wx hSw; have hSx := Ex1.mk hSw; go_simp; (try with_reducible rfl))
          try simp only [Act.put, List.setIfInBounds_toArray, List.set_cons_zero, List.set_cons_succ]
          refine wpAnyH_take (i := 7) (v := ?z447) (by simp; rfl) (by kernel_rfl) (by kernel_rfl) (by kernel_rfl) (by exact fun _ _ _ h => h) (Or.inl ⟨by rfl, ?yz447⟩) hHeld ?_
          case yz447 => (intro wx hSw; have hSx := Ex1.mk hSw; go_simp; (try with_reducible rfl))
          try simp only [Act.put, List.setIfInBounds_toArray, List.set_cons_zero, List.set_cons_succ]
          refine wpAnyH_take (i := 8) (v := ?z448) (by simp; rfl) (by kernel_rfl) (by kernel_rfl) (by kernel_rfl) (by exact fun _ _ _ h => h) (Or.inl ⟨by rfl, ?yz448⟩) hHeld ?_
          case yz448 => (intro wx hSw; have hSx := Ex1.mk hSw; go_simp; (try with_reducible rfl))
          try simp only [Act.put, List.setIfInBounds_toArray, List.set_cons_zero, List.set_cons_succ]
          refine wpAnyH_ready (rs := [10]) (by kernel_rfl) (by simp) ?_
          refine AllReadyH.cons (by simp; rfl) (fun K hK => ?_) AllReadyH.nil
          go_simp
          refine hK.out _ _ inferInstance ?_
          clear hHeld hK K
          intro hHeld
          try simp only [Act.put, List.setIfInBounds_toArray, List.set_cons_zero, List.set_cons_succ]
          refine wpAnyH_take (i := 11) (v := ?z449) (by simp; rfl) (by kernel_rfl) (by kernel_rfl) (by kernel_rfl) (by exact fun _ _ _ h => h) (Or.inl ⟨by rfl, ?yz449⟩) hHeld ?_
          case yz449 => (intro wx hSw; have hSx := Ex1.mk hSw; go_simp; (try with_reducible rfl))
          try simp only [Act.put, List.setIfInBounds_toArray, List.set_cons_zero, List.set_cons_succ]
          refine wpAnyH_done (by kernel_rfl) ?_ _
          clear hHeld
          go_wp2_with fail
          go_meet
          exact ⟨_, _, _, _, _, rfl, inferInstance, CZ.cast inferInstance HF2.out.symm (by omega), ⟨(inferInstance : Kp wc _).out⟩⟩
        case rest =>
          obtain ⟨b12, g9, A9, L9, C9, rfl, r4, r5, r6⟩ := hcut
          go_wp2_with fail
          refine region_cls (by kernel_rfl) [] (fun hHeld => ?_)
          refine wpAnyH_ready (rs := [0]) (by kernel_rfl) (by simp) ?_
          refine AllReadyH.cons (by simp; rfl) (fun K hK => ?_) AllReadyH.nil
          go_simp
          (go_at_call 21; (with_reducible refine Calls.cE (known03C inferInstance inferInstance inferInstance hne) ?_); intros)
          refine hK.out _ _ inferInstance ?_
          clear hHeld hK K
          intro hHeld
          try simp only [Act.put, List.setIfInBounds_toArray, List.set_cons_zero, List.set_cons_succ]
          refine wpAnyH_take (i := 1) (v := ?z450) (by simp; rfl) (by kernel_rfl) (by kernel_rfl) (by kernel_rfl) (by exact fun _ _ _ h => h) (Or.inl ⟨by rfl, ?yz450⟩) hHeld ?_
          case yz450 => (intro wx hSw; have hSx := Ex1.mk hSw; go_simp; (try with_reducible rfl))
          try simp only [Act.put, List.setIfInBounds_toArray, List.set_cons_zero, List.set_cons_succ]
          refine wpAnyH_take (i := 2) (v := ?z451) (by simp; rfl) (by kernel_rfl) (by kernel_rfl) (by kernel_rfl) (by exact fun _ _ _ h => h) (Or.inl ⟨by rfl, ?yz451⟩) hHeld ?_
          case yz451 => (intro wx hSw; have hSx := Ex1.mk hSw; go_simp; (try with_reducible rfl))
          try simp only [Act.put, List.setIfInBounds_toArray, List.set_cons_zero, List.set_cons_succ]
          refine wpAnyH_take (i := 4) (v := ?z452) (by simp; rfl) (by kernel_rfl) (by kernel_rfl) (by kernel_rfl) (by exact fun _ _ _ h => h) (Or.inl ⟨by rfl, ?yz452⟩) hHeld ?_
          case yz452 => (intro wx hSw; have hSx := Ex1.mk hSw; go_simp; (try with_reducible rfl))
          try simp only [Act.put, List.setIfInBounds_toArray, List.set_cons_zero, List.set_cons_succ]
          refine wpAnyH_ready (rs := [3]) (by kernel_rfl) (by simp) ?_
          refine AllReadyH.cons (by simp; rfl) (fun K hK => ?_) AllReadyH.nil
          go_simp
          (go_at_call 46; (with_reducible refine Calls.cA (ratNegC (by omega)) ?_); intros)
          refine hK.out _ _ inferInstance ?_
          clear hHeld hK K
          intro hHeld
          try simp only [Act.put, List.setIfInBounds_toArray, List.set_cons_zero, List.set_cons_succ]
          refine wpAnyH_ready (rs := [5]) (by kernel_rfl) (by simp) ?_
          refine AllReadyH.cons (by simp; rfl) (fun K hK => ?_) AllReadyH.nil
          go_simp
          (go_at_call 56; (with_reducible refine Calls.cQ (numOppC) ?_); intros)
          refine hK.out _ _ inferInstance ?_
          clear hHeld hK K
          intro hHeld
          try simp only [Act.put, List.setIfInBounds_toArray, List.set_cons_zero, List.set_cons_succ]
          refine wpAnyH_ready (rs := [6]) (by kernel_rfl) (by simp) ?_
          refine AllReadyH.cons (by simp; rfl) (fun K hK => ?_) AllReadyH.nil
          go_simp
          (go_at_call 24; (with_reducible refine Calls.cE (same03V (by omega) (Lib.hid rfl)) ?_); intros)
          refine hK.out _ _ inferInstance ?_
          clear hHeld hK K
          intro hHeld
          try simp only [Act.put, List.setIfInBounds_toArray, List.set_cons_zero, List.set_cons_succ]
          refine wpAnyH_take (i := 7) (v := ?z453) (by simp; rfl) (by kernel_rfl) (by kernel_rfl) (by kernel_rfl) (by exact fun _ _ _ h => h) (Or.inl ⟨by rfl, ?yz453⟩) hHeld ?_
          case yz453 => (intro wx hSw; have hSx := Ex1.mk hSw; go_simp; (try with_reducible rfl))
          try simp only [Act.put, List.setIfInBounds_toArray, List.set_cons_zero, List.set_cons_succ]
          refine wpAnyH_take (i := 8) (v := ?z454) (by simp; rfl) (by kernel_rfl) (by kernel_rfl) (by kernel_rfl) (by exact fun _ _ _ h => h) (Or.inl ⟨by rfl, ?yz454⟩) hHeld ?_
          case yz454 => (intro wx hSw; have hSx := Ex1.mk hSw; go_simp; (try with_reducible rfl))
          try simp only [Act.put, List.setIfInBounds_toArray, List.set_cons_zero, List.set_cons_succ]
          refine wpAnyH_take (i := 9) (v := ?z455) (by simp; rfl) (by kernel_rfl) (by kernel_rfl) (by kernel_rfl) (by exact fun _ _ _ h => h) (Or.inl ⟨by rfl, ?yz455⟩) hHeld ?_
          case yz455 => (intro wx hSw; have hSx := Ex1.mk hSw; go_simp; (try with_reducible rfl))
          try simp only [Act.put, List.setIfInBounds_toArray, List.set_cons_zero, List.set_cons_succ]
          refine wpAnyH_take (i := 10) (v := ?z456) (by simp; rfl) (by kernel_rfl) (by kernel_rfl) (by kernel_rfl) (by exact fun _ _ _ h => h) (Or.inl ⟨by rfl, ?yz456⟩) hHeld ?_
          case yz456 => (intro wx hSw; have hSx := Ex1.mk hSw; go_simp; (try with_reducible rfl))
          try simp only [Act.put, List.setIfInBounds_toArray, List.set_cons_zero, List.set_cons_succ]
          refine wpAnyH_take (i := 12) (v := ?z457) (by simp; rfl) (by kernel_rfl) (by kernel_rfl) (by kernel_rfl) (by exact fun _ _ _ h => h) (Or.inl ⟨by rfl, ?yz457⟩) hHeld ?_
          case yz457 => (intro wx hSw; have hSx := Ex1.mk hSw; go_simp; (try with_reducible rfl))
          try simp only [Act.put, List.setIfInBounds_toArray, List.set_cons_zero, List.set_cons_succ]
          refine wpAnyH_take (i := 13) (v := ?z458) (by simp; rfl) (by kernel_rfl) (by kernel_rfl) (by kernel_rfl) (by exact fun _ _ _ h => h) (Or.inl ⟨by rfl, ?yz458⟩) hHeld ?_
          case yz458 => (intro wx hSw; have hSx := Ex1.mk hSw; go_simp; (try with_reducible rfl))
          try simp only [Act.put, List.setIfInBounds_toArray, List.set_cons_zero, List.set_cons_succ]
          refine wpAnyH_ready (rs := [11]) (by kernel_rfl) (by simp) ?_
          refine AllReadyH.cons (by simp; rfl) (fun K hK => ?_) AllReadyH.nil
          go_simp
          (go_at_call 30; (with_reducible refine Calls.cA (ratAddC (by omega)) ?_); intros)
          refine hK.out _ _ inferInstance ?_
          clear hHeld hK K
          intro hHeld
          try simp only [Act.put, List.setIfInBounds_toArray, List.set_cons_zero, List.set_cons_succ]
          refine wpAnyH_ready (rs := [14]) (by kernel_rfl) (by simp) ?_
          refine AllReadyH.cons (by simp; rfl) (fun K hK => ?_) AllReadyH.nil
          go_simp
          (go_at_call 57; (with_reducible refine Calls.cQ (numPlusC (by omega)) ?_); intros)
          refine hK.out _ _ inferInstance ?_
          clear hHeld hK K
          intro hHeld
          try simp only [Act.put, List.setIfInBounds_toArray, List.set_cons_zero, List.set_cons_succ]
          refine wpAnyH_ready (rs := [15]) (by kernel_rfl) (by simp) ?_
          refine AllReadyH.cons (by simp; rfl) (fun K hK => ?_) AllReadyH.nil
          go_simp
          (go_at_call 24; (with_reducible refine Calls.cE (same03V (by omega) (Lib.hid rfl)) ?_); intros)
          refine hK.out _ _ inferInstance ?_
          clear hHeld hK K
          intro hHeld
          try simp only [Act.put, List.setIfInBounds_toArray, List.set_cons_zero, List.set_cons_succ]
          refine wpAnyH_take (i := 16) (v := ?z459) (by simp; rfl) (by kernel_rfl) (by kernel_rfl) (by kernel_rfl) (by exact fun _ _ _ h => h) (Or.inl ⟨by rfl, ?yz459⟩) hHeld ?_
          case yz459 => (intro wx hSw; have hSx := Ex1.mk hSw; go_simp; (try with_reducible rfl))
          try simp only [Act.put, List.setIfInBounds_toArray, List.set_cons_zero, List.set_cons_succ]
          refine wpAnyH_take (i := 17) (v := ?z460) (by simp; rfl) (by kernel_rfl) (by kernel_rfl) (by kernel_rfl) (by exact fun _ _ _ h => h) (Or.inl ⟨by rfl, ?yz460⟩) hHeld ?_
          case yz460 => (intro wx hSw; have hSx := Ex1.mk hSw; go_simp; (try with_reducible rfl))
          try simp only [Act.put, List.setIfInBounds_toArray, List.set_cons_zero, List.set_cons_succ]
          refine wpAnyH_take (i := 18) (v := ?z461) (by simp; rfl) (by kernel_rfl) (by kernel_rfl) (by kernel_rfl) (by exact fun _ _ _ h => h) (Or.inl ⟨by rfl, ?yz461⟩) hHeld ?_
          case yz461 => (intro wx hSw; have hSx := Ex1.mk hSw; go_simp; (try with_reducible rfl))
          try simp only [Act.put, List.setIfInBounds_toArray, List.set_cons_zero, List.set_cons_succ]
          refine wpAnyH_take (i := 19) (v := ?z462) (by simp; rfl) (by kernel_rfl) (by kernel_rfl) (by kernel_rfl) (by exact fun _ _ _ h => h) (Or.inl ⟨by rfl, ?yz462⟩) hHeld ?_
          case yz462 => (intro wx hSw; have hSx := Ex1.mk hSw; go_simp; (try with_reducible rfl))
          try simp only [Act.put, List.setIfInBounds_toArray, List.set_cons_zero, List.set_cons_succ]
          refine wpAnyH_take (i := 21) (v := ?z463) (by simp; rfl) (by kernel_rfl) (by kernel_rfl) (by kernel_rfl) (by exact fun _ _ _ h => h) (Or.inl ⟨by rfl, ?yz463⟩) hHeld ?_
          case yz463 => (intro wx hSw; have hSx := Ex1.mk hSw; go_simp; (try with_reducible rfl))
          try simp only [Act.put, List.setIfInBounds_toArray, List.set_cons_zero, List.set_cons_succ]
          refine wpAnyH_take (i := 22) (v := ?z464) (by simp; rfl) (by kernel_rfl) (by kernel_rfl) (by kernel_rfl) (by exact fun _ _ _ h => h) (Or.inl ⟨by rfl, ?yz464⟩) hHeld ?_
          case yz464 => (intro wx hSw; have hSx := Ex1.mk hSw; go_simp; (try with_reducible rfl))
          try simp only [Act.put, List.setIfInBounds_toArray, List.set_cons_zero, List.set_cons_succ]
          refine wpAnyH_ready (rs := [20]) (by kernel_rfl) (by simp) ?_
          refine AllReadyH.cons (by simp; rfl) (fun K hK => ?_) AllReadyH.nil
          go_simp
          (go_at_call 31; (with_reducible refine Calls.cA (ratSubC (by omega)) ?_); intros)
          refine hK.out _ _ inferInstance ?_
          clear hHeld hK K
          intro hHeld
          try simp only [Act.put, List.setIfInBounds_toArray, List.set_cons_zero, List.set_cons_succ]
          refine wpAnyH_ready (rs := [23]) (by kernel_rfl) (by simp) ?_
          refine AllReadyH.cons (by simp; rfl) (fun K hK => ?_) AllReadyH.nil
          go_simp
          (go_at_call 58; (with_reducible refine Calls.cQ (numSubC (by omega)) ?_); intros)
          refine hK.out _ _ inferInstance ?_
          clear hHeld hK K
          intro hHeld
          try simp only [Act.put, List.setIfInBounds_toArray, List.set_cons_zero, List.set_cons_succ]
          refine wpAnyH_ready (rs := [24]) (by kernel_rfl) (by simp) ?_
          refine AllReadyH.cons (by simp; rfl) (fun K hK => ?_) AllReadyH.nil
          go_simp
          (go_at_call 24; (with_reducible refine Calls.cE (same03V (by omega) (Lib.hid rfl)) ?_); intros)
          refine hK.out _ _ inferInstance ?_
          clear hHeld hK K
          intro hHeld
          try simp only [Act.put, List.setIfInBounds_toArray, List.set_cons_zero, List.set_cons_succ]
          refine wpAnyH_take (i := 25) (v := ?z465) (by simp; rfl) (by kernel_rfl) (by kernel_rfl) (by kernel_rfl) (by exact fun _ _ _ h => h) (Or.inl ⟨by rfl, ?yz465⟩) hHeld ?_
          case yz465 => (intro wx hSw; have hSx := Ex1.mk hSw; go_simp; (try with_reducible rfl))
          try simp only [Act.put, List.setIfInBounds_toArray, List.set_cons_zero, List.set_cons_succ]
          refine wpAnyH_take (i := 26) (v := ?z466) (by simp; rfl) (by kernel_rfl) (by kernel_rfl) (by kernel_rfl) (by exact fun _ _ _ h => h) (Or.inl ⟨by rfl, ?yz466⟩) hHeld ?_
          case yz466 => (intro wx hSw; have hSx := Ex1.mk hSw; go_simp; (try with_reducible rfl))
          try simp only [Act.put, List.setIfInBounds_toArray, List.set_cons_zero, List.set_cons_succ]
          refine wpAnyH_take (i := 27) (v := ?z467) (by simp; rfl) (by kernel_rfl) (by kernel_rfl) (by kernel_rfl) (by exact fun _ _ _ h => h) (Or.inl ⟨by rfl, ?yz467⟩) hHeld ?_
          case yz467 => (intro wx hSw; have hSx := Ex1.mk hSw; go_simp; (try with_reducible rfl))
          try simp only [Act.put, List.setIfInBounds_toArray, List.set_cons_zero, List.set_cons_succ]
          refine wpAnyH_take (i := 28) (v := ?z468) (by simp; rfl) (by kernel_rfl) (by kernel_rfl) (by kernel_rfl) (by exact fun _ _ _ h => h) (Or.inl ⟨by rfl, ?yz468⟩) hHeld ?_
          case yz468 => (intro wx hSw; have hSx := Ex1.mk hSw; go_simp; (try with_reducible rfl))
          try simp only [Act.put, List.setIfInBounds_toArray, List.set_cons_zero, List.set_cons_succ]
          refine wpAnyH_take (i := 30) (v := ?z469) (by simp; rfl) (by kernel_rfl) (by kernel_rfl) (by kernel_rfl) (by exact fun _ _ _ h => h) (Or.inl ⟨by rfl, ?yz469⟩) hHeld ?_
          case yz469 => (intro wx hSw; have hSx := Ex1.mk hSw; go_simp; (try with_reducible rfl))
          try simp only [Act.put, List.setIfInBounds_toArray, List.set_cons_zero, List.set_cons_succ]
          refine wpAnyH_take (i := 31) (v := ?z470) (by simp; rfl) (by kernel_rfl) (by kernel_rfl) (by kernel_rfl) (by exact fun _ _ _ h => h) (Or.inl ⟨by rfl, ?yz470⟩) hHeld ?_
          case yz470 => (intro wx hSw; have hSx := Ex1.mk hSw; go_simp; (try with_reducible rfl))
          try simp only [Act.put, List.setIfInBounds_toArray, List.set_cons_zero, List.set_cons_succ]
          refine wpAnyH_ready (rs := [29]) (by kernel_rfl) (by simp) ?_
          refine AllReadyH.cons (by simp; rfl) (fun K hK => ?_) AllReadyH.nil
          go_simp
          (go_at_call 51; (with_reducible refine Calls.cA (ratMulC (by omega)) ?_); intros)
          refine hK.out _ _ inferInstance ?_
          clear hHeld hK K
          intro hHeld
          try simp only [Act.put, List.setIfInBounds_toArray, List.set_cons_zero, List.set_cons_succ]
          refine wpAnyH_ready (rs := [32]) (by kernel_rfl) (by simp) ?_
          refine AllReadyH.cons (by simp; rfl) (fun K hK => ?_) AllReadyH.nil
          go_simp
          (go_at_call 59; (with_reducible refine Calls.cQ (numTimesC (by omega)) ?_); intros)
          refine hK.out _ _ inferInstance ?_
          clear hHeld hK K
          intro hHeld
          try simp only [Act.put, List.setIfInBounds_toArray, List.set_cons_zero, List.set_cons_succ]
          refine wpAnyH_ready (rs := [33]) (by kernel_rfl) (by simp) ?_
          refine AllReadyH.cons (by simp; rfl) (fun K hK => ?_) AllReadyH.nil
          go_simp
          (go_at_call 24; (with_reducible refine Calls.cE (same03V (by omega) (Lib.hid rfl)) ?_); intros)
          refine hK.out _ _ inferInstance ?_
          clear hHeld hK K
          intro hHeld
          try simp only [Act.put, List.setIfInBounds_toArray, List.set_cons_zero, List.set_cons_succ]
          refine wpAnyH_take (i := 34) (v := ?z471) (by simp; rfl) (by kernel_rfl) (by kernel_rfl) (by kernel_rfl) (by exact fun _ _ _ h => h) (Or.inl ⟨by rfl, ?yz471⟩) hHeld ?_
          case yz471 => (intro wx hSw; have hSx := Ex1.mk hSw; go_simp; (try with_reducible rfl))
          try simp only [Act.put, List.setIfInBounds_toArray, List.set_cons_zero, List.set_cons_succ]
          refine wpAnyH_take (i := 35) (v := ?z472) (by simp; rfl) (by kernel_rfl) (by kernel_rfl) (by kernel_rfl) (by exact fun _ _ _ h => h) (Or.inl ⟨by rfl, ?yz472⟩) hHeld ?_
          case yz472 => (intro wx hSw; have hSx := Ex1.mk hSw; go_simp; (try with_reducible rfl))
          try simp only [Act.put, List.setIfInBounds_toArray, List.set_cons_zero, List.set_cons_succ]
          refine wpAnyH_take (i := 36) (v := ?z473) (by simp; rfl) (by kernel_rfl) (by kernel_rfl) (by kernel_rfl) (by exact fun _ _ _ h => h) (Or.inl ⟨by rfl, ?yz473⟩) hHeld ?_
          case yz473 => (intro wx hSw; have hSx := Ex1.mk hSw; go_simp; (try with_reducible rfl))
          try simp only [Act.put, List.setIfInBounds_toArray, List.set_cons_zero, List.set_cons_succ]
          refine wpAnyH_take (i := 37) (v := ?z474) (by simp; rfl) (by kernel_rfl) (by kernel_rfl) (by kernel_rfl) (by exact fun _ _ _ h => h) (Or.inl ⟨by rfl, ?yz474⟩) hHeld ?_
          case yz474 => (intro wx hSw; have hSx := Ex1.mk hSw; go_simp; (try with_reducible rfl))
          try simp only [Act.put, List.setIfInBounds_toArray, List.set_cons_zero, List.set_cons_succ]
          refine wpAnyH_take (i := 39) (v := ?z475) (by simp; rfl) (by kernel_rfl) (by kernel_rfl) (by kernel_rfl) (by exact fun _ _ _ h => h) (Or.inl ⟨by rfl, ?yz475⟩) hHeld ?_
          case yz475 => (intro wx hSw; have hSx := Ex1.mk hSw; go_simp; (try with_reducible rfl))
          try simp only [Act.put, List.setIfInBounds_toArray, List.set_cons_zero, List.set_cons_succ]
          refine wpAnyH_take (i := 40) (v := ?z476) (by simp; rfl) (by kernel_rfl) (by kernel_rfl) (by kernel_rfl) (by exact fun _ _ _ h => h) (Or.inl ⟨by rfl, ?yz476⟩) hHeld ?_
          case yz476 => (intro wx hSw; have hSx := Ex1.mk hSw; go_simp; (try with_reducible rfl))
          try simp only [Act.put, List.setIfInBounds_toArray, List.set_cons_zero, List.set_cons_succ]
          refine wpAnyH_ready (rs := [38]) (by kernel_rfl) (by simp) ?_
          refine AllReadyH.cons (by simp; rfl) (fun K hK => ?_) AllReadyH.nil
          go_simp
          (go_at_call 53; (with_reducible refine Calls.cA (ratMiddleC (by omega)) ?_); intros)
          refine hK.out _ _ inferInstance ?_
          clear hHeld hK K
          intro hHeld
          try simp only [Act.put, List.setIfInBounds_toArray, List.set_cons_zero, List.set_cons_succ]
          refine wpAnyH_ready (rs := [41]) (by kernel_rfl) (by simp) ?_
          refine AllReadyH.cons (by simp; rfl) (fun K hK => ?_) AllReadyH.nil
          go_simp
          (go_at_call 60; (with_reducible refine Calls.cQ (numMidC (by omega)) ?_); intros)
          refine hK.out _ _ inferInstance ?_
          clear hHeld hK K
          intro hHeld
          try simp only [Act.put, List.setIfInBounds_toArray, List.set_cons_zero, List.set_cons_succ]
          refine wpAnyH_ready (rs := [42]) (by kernel_rfl) (by simp) ?_
          refine AllReadyH.cons (by simp; rfl) (fun K hK => ?_) AllReadyH.nil
          go_simp
          (go_at_call 24; (with_reducible refine Calls.cE (same03V (by omega) HM) ?_); intros)
          refine hK.out _ _ inferInstance ?_
          clear hHeld hK K
          intro hHeld
          try simp only [Act.put, List.setIfInBounds_toArray, List.set_cons_zero, List.set_cons_succ]
          refine wpAnyH_take (i := 43) (v := ?z477) (by simp; rfl) (by kernel_rfl) (by kernel_rfl) (by kernel_rfl) (by exact fun _ _ _ h => h) (Or.inl ⟨by rfl, ?yz477⟩) hHeld ?_
          case yz477 => (intro wx hSw; have hSx := Ex1.mk hSw; go_simp; (try with_reducible rfl))
          try simp only [Act.put, List.setIfInBounds_toArray, List.set_cons_zero, List.set_cons_succ]
          refine wpAnyH_take (i := 44) (v := ?z478) (by simp; rfl) (by kernel_rfl) (by kernel_rfl) (by kernel_rfl) (by exact fun _ _ _ h => h) (Or.inl ⟨by rfl, ?yz478⟩) hHeld ?_
          case yz478 => (intro wx hSw; have hSx := Ex1.mk hSw; go_simp; (try with_reducible rfl))
          try simp only [Act.put, List.setIfInBounds_toArray, List.set_cons_zero, List.set_cons_succ]
          refine wpAnyH_take (i := 45) (v := ?z479) (by simp; rfl) (by kernel_rfl) (by kernel_rfl) (by kernel_rfl) (by exact fun _ _ _ h => h) (Or.inl ⟨by rfl, ?yz479⟩) hHeld ?_
          case yz479 => (intro wx hSw; have hSx := Ex1.mk hSw; go_simp; (try with_reducible rfl))
          try simp only [Act.put, List.setIfInBounds_toArray, List.set_cons_zero, List.set_cons_succ]
          refine wpAnyH_take (i := 47) (v := ?z480) (by simp; rfl) (by kernel_rfl) (by kernel_rfl) (by kernel_rfl) (by exact fun _ _ _ h => h) (Or.inl ⟨by rfl, ?yz480⟩) hHeld ?_
          case yz480 => (intro wx hSw; have hSx := Ex1.mk hSw; go_simp; (try with_reducible rfl))
          try simp only [Act.put, List.setIfInBounds_toArray, List.set_cons_zero, List.set_cons_succ]
          refine wpAnyH_ready (rs := [46]) (by kernel_rfl) (by simp) ?_
          refine AllReadyH.cons (by simp; rfl) (fun K hK => ?_) AllReadyH.nil
          go_simp
          (go_at_call 45; (with_reducible refine Calls.cZ (ratFloorC (by omega)) ?_); intros)
          refine hK.out _ _ inferInstance ?_
          clear hHeld hK K
          intro hHeld
          try simp only [Act.put, List.setIfInBounds_toArray, List.set_cons_zero, List.set_cons_succ]
          refine wpAnyH_ready (rs := [48]) (by kernel_rfl) (by simp) ?_
          refine AllReadyH.cons (by simp; rfl) (fun K hK => ?_) AllReadyH.nil
          go_simp
          (go_at_call 49; (with_reducible refine Calls.cZ (toIC (by omega)) ?_); intros)
          refine hK.out _ _ inferInstance ?_
          clear hHeld hK K
          intro hHeld
          try simp only [Act.put, List.setIfInBounds_toArray, List.set_cons_zero, List.set_cons_succ]
          refine wpAnyH_ready (rs := [49]) (by kernel_rfl) (by simp) ?_
          refine AllReadyH.cons (by simp; rfl) (fun K hK => ?_) AllReadyH.nil
          go_simp
          (go_at_call 47; (with_reducible refine Calls.cE (sameIC rfl) ?_); intros)
          refine hK.out _ _ inferInstance ?_
          clear hHeld hK K
          intro hHeld
          try simp only [Act.put, List.setIfInBounds_toArray, List.set_cons_zero, List.set_cons_succ]
          refine wpAnyH_take (i := 50) (v := ?z481) (by simp; rfl) (by kernel_rfl) (by kernel_rfl) (by kernel_rfl) (by exact fun _ _ _ h => h) (Or.inl ⟨by rfl, ?yz481⟩) hHeld ?_
          case yz481 => (intro wx hSw; have hSx := Ex1.mk hSw; go_simp; (try with_reducible rfl))
          try simp only [Act.put, List.setIfInBounds_toArray, List.set_cons_zero, List.set_cons_succ]
          refine wpAnyH_take (i := 51) (v := ?z482) (by simp; rfl) (by kernel_rfl) (by kernel_rfl) (by kernel_rfl) (by exact fun _ _ _ h => h) (Or.inl ⟨by rfl, ?yz482⟩) hHeld ?_
          case yz482 => (intro wx hSw; have hSx := Ex1.mk hSw; go_simp; (try with_reducible rfl))
          try simp only [Act.put, List.setIfInBounds_toArray, List.set_cons_zero, List.set_cons_succ]
          refine wpAnyH_take (i := 52) (v := ?z483) (by simp; rfl) (by kernel_rfl) (by kernel_rfl) (by kernel_rfl) (by exact fun _ _ _ h => h) (Or.inl ⟨by rfl, ?yz483⟩) hHeld ?_
          case yz483 => (intro wx hSw; have hSx := Ex1.mk hSw; go_simp; (try with_reducible rfl))
          try simp only [Act.put, List.setIfInBounds_toArray, List.set_cons_zero, List.set_cons_succ]
          refine wpAnyH_take (i := 54) (v := ?z484) (by simp; rfl) (by kernel_rfl) (by kernel_rfl) (by kernel_rfl) (by exact fun _ _ _ h => h) (Or.inl ⟨by rfl, ?yz484⟩) hHeld ?_
          case yz484 => (intro wx hSw; have hSx := Ex1.mk hSw; go_simp; (try with_reducible rfl))
          try simp only [Act.put, List.setIfInBounds_toArray, List.set_cons_zero, List.set_cons_succ]
          refine wpAnyH_ready (rs := [53]) (by kernel_rfl) (by simp) ?_
          refine AllReadyH.cons (by simp; rfl) (fun K hK => ?_) AllReadyH.nil
          go_simp
          (go_at_call 48; (with_reducible refine Calls.cZ (ratCeilC (by omega)) ?_); intros)
          refine hK.out _ _ inferInstance ?_
          clear hHeld hK K
          intro hHeld
          try simp only [Act.put, List.setIfInBounds_toArray, List.set_cons_zero, List.set_cons_succ]
          refine wpAnyH_ready (rs := [55]) (by kernel_rfl) (by simp) ?_
          refine AllReadyH.cons (by simp; rfl) (fun K hK => ?_) AllReadyH.nil
          go_simp
          (go_at_call 50; (with_reducible refine Calls.cZ (numMinusC) ?_); intros)
          refine hK.out _ _ inferInstance ?_
          clear hHeld hK K
          intro hHeld
          try simp only [Act.put, List.setIfInBounds_toArray, List.set_cons_zero, List.set_cons_succ]
          refine wpAnyH_ready (rs := [56]) (by kernel_rfl) (by simp) ?_
          refine AllReadyH.cons (by simp; rfl) (fun K hK => ?_) AllReadyH.nil
          go_simp
          (go_at_call 49; (with_reducible refine Calls.cZ (toIC (by omega)) ?_); intros)
          refine hK.out _ _ inferInstance ?_
          clear hHeld hK K
          intro hHeld
          try simp only [Act.put, List.setIfInBounds_toArray, List.set_cons_zero, List.set_cons_succ]
          refine wpAnyH_ready (rs := [57]) (by kernel_rfl) (by simp) ?_
          refine AllReadyH.cons (by simp; rfl) (fun K hK => ?_) AllReadyH.nil
          go_simp
          (go_at_call 47; (with_reducible refine Calls.cE (sameIC rfl) ?_); intros)
          refine hK.out _ _ inferInstance ?_
          clear hHeld hK K
          intro hHeld
          try simp only [Act.put, List.setIfInBounds_toArray, List.set_cons_zero, List.set_cons_succ]
          refine wpAnyH_take (i := 58) (v := ?z485) (by simp; rfl) (by kernel_rfl) (by kernel_rfl) (by kernel_rfl) (by exact fun _ _ _ h => h) (Or.inl ⟨by rfl, ?yz485⟩) hHeld ?_
          case yz485 => (intro wx hSw; have hSx := Ex1.mk hSw; go_simp; (try with_reducible rfl))
          try simp only [Act.put, List.setIfInBounds_toArray, List.set_cons_zero, List.set_cons_succ]
          refine wpAnyH_take (i := 59) (v := ?z486) (by simp; rfl) (by kernel_rfl) (by kernel_rfl) (by kernel_rfl) (by exact fun _ _ _ h => h) (Or.inl ⟨by rfl, ?yz486⟩) hHeld ?_
          case yz486 => (intro wx hSw; have hSx := Ex1.mk hSw; go_simp; (try with_reducible rfl))
          try simp only [Act.put, List.setIfInBounds_toArray, List.set_cons_zero, List.set_cons_succ]
          refine wpAnyH_done (by kernel_rfl) ?_ _
          clear hHeld
          go_wp2
          go_ret
          exact E.fin rfl
end Go.Proofs.YtnkfbkdcplbgoaaGreatDoor
