/-
  The walk of the law RationalUnique: it returns true and changes nothing that was there.
  Printed by a small program (mkrat2.py).
-/
import Derived.Test.YtnkfbkdcplbgoaaGreatDoorRC
namespace Go.Proofs.YtnkfbkdcplbgoaaGreatDoor
open Go.RowKit

set_option linter.unusedSimpArgs false
set_option linter.unusedVariables false
theorem cmp_eq (x y : Rat) : (isgn (x - y).num == 0) = decide (x = y) := by
  rw [Bool.eq_iff_iff]
  simp only [beq_iff_eq, decide_eq_true_eq, isgn0]
  constructor
  · intro h
    have : x - y = 0 := Rat.num_eq_zero.1 h
    grind
  · intro h
    subst h
    rw [Rat.sub_self]; rfl
set_option maxRecDepth 100000 in
set_option maxHeartbeats 40000000 in
set_option synthInstance.maxSize 100000 in
set_option synthInstance.maxHeartbeats 1000000 in
theorem rationalUnique_walk (a0 : Option Addr) (len0 cap0 : Nat) (z0 : List Int) (w : World) (w0 : IsRow .i64 w a0 len0 cap0 z0) (hL : laidMetH Tryz.prog laid3 w) :
    Calls Tryz.prog 5 #[.slice a0 len0 cap0] w fun e w' => e = .returned (.bool true) ∧ Below w.heap.size w w' := by
  obtain ⟨s0, s1, s2, i0, i1, i2, hne⟩ := sents3 hL
  clear hL
  go_enter Tryz.func5, Tryz.ntmps5
  go_wp2_with fail
  with_reducible refine Calls.cNew (newW w0) ?_
  intro W1 _ _
  go_wp2_with fail
  with_reducible refine Calls.cTW (rmadeC) ?_
  intro W2 _ _ g1 a1 l1 c1 aa1 ll1 cc1 x1 _
  go_wp2_with fail
  with_reducible refine Calls.cTW (rmadeC) ?_
  intro W3 _ _ g2 a2 l2 c2 aa2 ll2 cc2 x2 _
  go_wp2_with fail
  with_reducible refine Calls.cNext (nextC (by omega)) ?_
  intro W4 _ _ v hv0 hv1
  go_upto_if 16 with fail
  go_cut [] from 17 to 21 (fun wx => ∃ (z : Rat) (g : Bool) (a : Option Addr) (l c : Nat) (aa : Option Addr) (ll cc : Nat), Bx wx W3.heap.size 29 [.bool g1, .slice a1 l1 c1, .slice aa1 ll1 cc1] ∧ Bx wx (W3.heap.size + 1) 29 [.bool g, .slice a l c, .slice aa ll cc] ∧ CW wx (.agg #[.bool g1, .slice a1 l1 c1, .slice aa1 ll1 cc1]) x1 300 ∧
    CW wx (.agg #[.bool g, .slice a l c, .slice aa ll cc]) z 2000 ∧ Kp w wx ∧ Snt wx 0 s0 w ∧ Snt wx 2 s1 w ∧ Snt wx 1 s2 w)
  case first =>
    by_cases hv : v = 0
    · subst hv
      go_wp2_with fail
      refine region_t (by kernel_rfl) [] (List.contains [5]) (fun hHeld => ?_)
      refine wpAnyT_take (i := 0) (v := ?z144) (by simp; rfl) (by kernel_rfl) (by kernel_rfl) (by kernel_rfl) (by exact fun _ _ _ h => h) (T_waits (by kernel_rfl)) (Or.inl ⟨by rfl, ?yz144⟩) hHeld ?_
      case yz144 => (intro wx hSw; have hSx := Ex1.mk hSw; go_simp; (try with_reducible rfl))
      try simp only [Act.put, List.setIfInBounds_toArray, List.set_cons_zero, List.set_cons_succ]
      refine wpAnyT_take (i := 1) (v := ?z145) (by simp; rfl) (by kernel_rfl) (by kernel_rfl) (by kernel_rfl) (by exact fun _ _ _ h => h) (T_waits (by kernel_rfl)) (Or.inl ⟨by rfl, ?yz145⟩) hHeld ?_
      case yz145 => (intro wx hSw; have hSx := Ex1.mk hSw; go_simp; (try with_reducible rfl))
      try simp only [Act.put, List.setIfInBounds_toArray, List.set_cons_zero, List.set_cons_succ]
      refine wpAnyT_take (i := 3) (v := ?z146) (by simp; rfl) (by kernel_rfl) (by kernel_rfl) (by kernel_rfl) (by exact fun _ _ _ h => h) (T_waits (by kernel_rfl)) (Or.inl ⟨by rfl, ?yz146⟩) hHeld ?_
      case yz146 => (intro wx hSw; have hSx := Ex1.mk hSw; go_simp; (try with_reducible rfl))
      try simp only [Act.put, List.setIfInBounds_toArray, List.set_cons_zero, List.set_cons_succ]
      refine wpAnyT_ready (rs := [2]) (by kernel_rfl) (by simp) ?_
      refine AllT.cons (by simp; rfl) (fun K hK => ?_) AllT.nil
      go_simp
      (go_at_call 31; (with_reducible refine Calls.cA (ratSubC (by omega)) ?_); intros)
      refine hK.out _ _ (fun _ => inferInstance) ?_
      clear hHeld hK K
      intro hHeld
      have hHeld := hHeld (by decide)
      try simp only [Act.put, List.setIfInBounds_toArray, List.set_cons_zero, List.set_cons_succ]
      refine wpAnyT_ready (rs := [4]) (by kernel_rfl) (by simp) ?_
      refine AllT.cons (by simp; rfl) (fun K hK => ?_) AllT.nil
      go_simp
      (go_at_call 30; (with_reducible refine Calls.cA (ratAddC (by omega)) ?_); intros)
      refine hK.out _ _ (fun _ => inferInstance) ?_
      clear hHeld hK K
      intro hHeld
      have hHeld := hHeld (by decide)
      try simp only [Act.put, List.setIfInBounds_toArray, List.set_cons_zero, List.set_cons_succ]
      refine wpAnyT_ready (rs := [5]) (by kernel_rfl) (by simp) ?_
      refine AllT.cons (by simp; rfl) (fun K hK => ?_) AllT.nil
      go_simp
      refine hK.out _ _ (fun h => absurd h (by decide)) ?_
      clear hHeld hK K
      intro hHeld
      try simp only [Act.put, List.setIfInBounds_toArray, List.set_cons_zero, List.set_cons_succ]
      refine wpAnyT_done (by kernel_rfl) ?_ _
      clear hHeld
      go_wp2_with fail
      go_meet
      exact ⟨_, _, _, _, _, _, _, _, inferInstance, inferInstance, CW.cast inferInstance rfl (by omega), CW.cast inferInstance rfl (by omega), inferInstance, inferInstance, inferInstance, inferInstance⟩
    · have hv2 : (v == 0) = false := by rw [beq_eq_false_iff_ne]; exact hv
      go_wp2_with fail
      go_meet
      exact ⟨_, _, _, _, _, _, _, _, inferInstance, inferInstance, CW.cast inferInstance rfl (by omega), CW.cast inferInstance rfl (by omega), inferInstance, inferInstance, inferInstance, inferInstance⟩
  case rest =>
    obtain ⟨z, g, a, l, c, aa, ll, cc, j1, j2, j3, j4, j5, j6, j7, j8⟩ := hcut
    clear i0 i1 i2
    have HE := Lib.hid (cmp_eq x1 z)
    go_upto_region 5 with fail
    go_cut [6, 7] from 22 to 25 (fun t6 t7 wx => ∃ (b6 b7 : Nat) (G : Bool) (A : Option Addr) (L C : Nat) (AA : Option Addr) (LL CC : Nat) (G' : Bool) (A' : Option Addr) (L' C' : Nat) (AA' : Option Addr) (LL' CC' : Nat), t6 = .pointer (some ⟨b6, 0, none⟩) ∧ t7 = .pointer (some ⟨b7, 0, none⟩) ∧
      Bx wx b6 29 [.bool G, .slice A L C, .slice AA LL CC] ∧ Bx wx b7 29 [.bool G', .slice A' L' C', .slice AA' LL' CC'] ∧ CA wx (.agg #[.bool G, .slice A L C, .slice AA LL CC]) x1 2100 ∧ CA wx (.agg #[.bool G', .slice A' L' C', .slice AA' LL' CC']) z 2100 ∧
      Bx wx W3.heap.size 29 [.bool g1, .slice a1 l1 c1, .slice aa1 ll1 cc1] ∧ Bx wx (W3.heap.size + 1) 29 [.bool g, .slice a l c, .slice aa ll cc] ∧ CW wx (.agg #[.bool g1, .slice a1 l1 c1, .slice aa1 ll1 cc1]) x1 300 ∧ CW wx (.agg #[.bool g, .slice a l c, .slice aa ll cc]) z 2000 ∧ Kp w wx ∧ Snt wx 0 s0 w ∧ Snt wx 2 s1 w ∧ Snt wx 1 s2 w)
    case first =>
      refine region_cls (by kernel_rfl) [] (fun hHeld => ?_)
      refine wpAnyH_take (i := 0) (v := ?z147) (by simp; rfl) (by kernel_rfl) (by kernel_rfl) (by kernel_rfl) (by exact fun _ _ _ h => h) (Or.inl ⟨by rfl, ?yz147⟩) hHeld ?_
      case yz147 => (intro wx hSw; have hSx := Ex1.mk hSw; go_simp; (try with_reducible rfl))
      try simp only [Act.put, List.setIfInBounds_toArray, List.set_cons_zero, List.set_cons_succ]
      refine wpAnyH_take (i := 2) (v := ?z148) (by simp; rfl) (by kernel_rfl) (by kernel_rfl) (by kernel_rfl) (by exact fun _ _ _ h => h) (Or.inl ⟨by rfl, ?yz148⟩) hHeld ?_
      case yz148 => (intro wx hSw; have hSx := Ex1.mk hSw; go_simp; (try with_reducible rfl))
      try simp only [Act.put, List.setIfInBounds_toArray, List.set_cons_zero, List.set_cons_succ]
      refine wpAnyH_ready (rs := [1, 4, 5]) (by kernel_rfl) (by simp) ?_
      refine AllReadyH.cons (by simp; rfl) (fun K hK => ?_) (AllReadyH.cons (by simp; rfl) (fun K hK => ?_) (AllReadyH.cons (by simp; rfl) (fun K hK => ?_) AllReadyH.nil))
      go_simp
      (go_at_call 32; (with_reducible refine Calls.cA (ratNormC (by omega)) ?_); intros)
      refine hK.out _ _ inferInstance ?_
      clear hHeld hK K
      intro hHeld
      try simp only [Act.put, List.setIfInBounds_toArray, List.set_cons_zero, List.set_cons_succ]
      refine wpAnyH_ready (rs := [3, 4, 5]) (by kernel_rfl) (by simp) ?_
      refine AllReadyH.cons (by simp; rfl) (fun K hK => ?_) (AllReadyH.cons (by simp; rfl) (fun K hK => ?_) (AllReadyH.cons (by simp; rfl) (fun K hK => ?_) AllReadyH.nil))
      go_simp
      (go_at_call 32; (with_reducible refine Calls.cA (ratNormC (by omega)) ?_); intros)
      refine hK.out _ _ inferInstance ?_
      clear hHeld hK K
      intro hHeld
      try simp only [Act.put, List.setIfInBounds_toArray, List.set_cons_zero, List.set_cons_succ]
      refine wpAnyH_ready (rs := [4, 5]) (by kernel_rfl) (by simp) ?_
      refine AllReadyH.cons (by simp; rfl) (fun K hK => ?_) (AllReadyH.cons (by simp; rfl) (fun K hK => ?_) AllReadyH.nil)
      go_simp
      refine hK.out _ _ inferInstance ?_
      clear hHeld hK K
      intro hHeld
      try simp only [Act.put, List.setIfInBounds_toArray, List.set_cons_zero, List.set_cons_succ]
      refine wpAnyH_ready (rs := [5]) (by kernel_rfl) (by simp) ?_
      refine AllReadyH.cons (by simp; rfl) (fun K hK => ?_) AllReadyH.nil
      go_simp
      refine hK.out _ _ inferInstance ?_
      clear hHeld hK K
      intro hHeld
      try simp only [Act.put, List.setIfInBounds_toArray, List.set_cons_zero, List.set_cons_succ]
      refine wpAnyH_ready (rs := [6]) (by kernel_rfl) (by simp) ?_
      refine AllReadyH.cons (by simp; rfl) (fun K hK => ?_) AllReadyH.nil
      go_simp
      refine hK.out _ _ inferInstance ?_
      clear hHeld hK K
      intro hHeld
      try simp only [Act.put, List.setIfInBounds_toArray, List.set_cons_zero, List.set_cons_succ]
      refine wpAnyH_ready (rs := [7]) (by kernel_rfl) (by simp) ?_
      refine AllReadyH.cons (by simp; rfl) (fun K hK => ?_) AllReadyH.nil
      go_simp
      refine hK.out _ _ inferInstance ?_
      clear hHeld hK K
      intro hHeld
      try simp only [Act.put, List.setIfInBounds_toArray, List.set_cons_zero, List.set_cons_succ]
      refine wpAnyH_done (by kernel_rfl) ?_ _
      clear hHeld
      go_wp2_with fail
      go_meet
      exact ⟨_, _, _, _, _, _, _, _, _, _, _, _, _, _, _, _, rfl, rfl, inferInstance, inferInstance, CA.cast inferInstance rfl (by omega), CA.cast inferInstance rfl (by omega), inferInstance, inferInstance, CW.cast inferInstance rfl (by omega), CW.cast inferInstance rfl (by omega), inferInstance, inferInstance, inferInstance, inferInstance⟩
      go_simp
      refine hK.out _ _ inferInstance ?_
      clear hHeld hK K
      intro hHeld
      try simp only [Act.put, List.setIfInBounds_toArray, List.set_cons_zero, List.set_cons_succ]
      refine wpAnyH_ready (rs := [4]) (by kernel_rfl) (by simp) ?_
      refine AllReadyH.cons (by simp; rfl) (fun K hK => ?_) AllReadyH.nil
      go_simp
      refine hK.out _ _ inferInstance ?_
      clear hHeld hK K
      intro hHeld
      try simp only [Act.put, List.setIfInBounds_toArray, List.set_cons_zero, List.set_cons_succ]
      refine wpAnyH_ready (rs := [6]) (by kernel_rfl) (by simp) ?_
      refine AllReadyH.cons (by simp; rfl) (fun K hK => ?_) AllReadyH.nil
      go_simp
      refine hK.out _ _ inferInstance ?_
      clear hHeld hK K
      intro hHeld
      try simp only [Act.put, List.setIfInBounds_toArray, List.set_cons_zero, List.set_cons_succ]
      refine wpAnyH_ready (rs := [7]) (by kernel_rfl) (by simp) ?_
      refine AllReadyH.cons (by simp; rfl) (fun K hK => ?_) AllReadyH.nil
      go_simp
      refine hK.out _ _ inferInstance ?_
      clear hHeld hK K
      intro hHeld
      try simp only [Act.put, List.setIfInBounds_toArray, List.set_cons_zero, List.set_cons_succ]
      refine wpAnyH_done (by kernel_rfl) ?_ _
      clear hHeld
      go_wp2_with fail
      go_meet
      exact ⟨_, _, _, _, _, _, _, _, _, _, _, _, _, _, _, _, rfl, rfl, inferInstance, inferInstance, CA.cast inferInstance rfl (by omega), CA.cast inferInstance rfl (by omega), inferInstance, inferInstance, CW.cast inferInstance rfl (by omega), CW.cast inferInstance rfl (by omega), inferInstance, inferInstance, inferInstance, inferInstance⟩
      go_simp
      refine hK.out _ _ inferInstance ?_
      clear hHeld hK K
      intro hHeld
      try simp only [Act.put, List.setIfInBounds_toArray, List.set_cons_zero, List.set_cons_succ]
      refine wpAnyH_ready (rs := [3, 5]) (by kernel_rfl) (by simp) ?_
      refine AllReadyH.cons (by simp; rfl) (fun K hK => ?_) (AllReadyH.cons (by simp; rfl) (fun K hK => ?_) AllReadyH.nil)
      go_simp
      (go_at_call 32; (with_reducible refine Calls.cA (ratNormC (by omega)) ?_); intros)
      refine hK.out _ _ inferInstance ?_
      clear hHeld hK K
      intro hHeld
      try simp only [Act.put, List.setIfInBounds_toArray, List.set_cons_zero, List.set_cons_succ]
      refine wpAnyH_ready (rs := [5]) (by kernel_rfl) (by simp) ?_
      refine AllReadyH.cons (by simp; rfl) (fun K hK => ?_) AllReadyH.nil
      go_simp
      refine hK.out _ _ inferInstance ?_
      clear hHeld hK K
      intro hHeld
      try simp only [Act.put, List.setIfInBounds_toArray, List.set_cons_zero, List.set_cons_succ]
      refine wpAnyH_ready (rs := [6]) (by kernel_rfl) (by simp) ?_
      refine AllReadyH.cons (by simp; rfl) (fun K hK => ?_) AllReadyH.nil
      go_simp
      refine hK.out _ _ inferInstance ?_
      clear hHeld hK K
      intro hHeld
      try simp only [Act.put, List.setIfInBounds_toArray, List.set_cons_zero, List.set_cons_succ]
      refine wpAnyH_ready (rs := [7]) (by kernel_rfl) (by simp) ?_
      refine AllReadyH.cons (by simp; rfl) (fun K hK => ?_) AllReadyH.nil
      go_simp
      refine hK.out _ _ inferInstance ?_
      clear hHeld hK K
      intro hHeld
      try simp only [Act.put, List.setIfInBounds_toArray, List.set_cons_zero, List.set_cons_succ]
      refine wpAnyH_done (by kernel_rfl) ?_ _
      clear hHeld
      go_wp2_with fail
      go_meet
      exact ⟨_, _, _, _, _, _, _, _, _, _, _, _, _, _, _, _, rfl, rfl, inferInstance, inferInstance, CA.cast inferInstance rfl (by omega), CA.cast inferInstance rfl (by omega), inferInstance, inferInstance, CW.cast inferInstance rfl (by omega), CW.cast inferInstance rfl (by omega), inferInstance, inferInstance, inferInstance, inferInstance⟩
      go_simp
      refine hK.out _ _ inferInstance ?_
      clear hHeld hK K
      intro hHeld
      try simp only [Act.put, List.setIfInBounds_toArray, List.set_cons_zero, List.set_cons_succ]
      refine wpAnyH_ready (rs := [3]) (by kernel_rfl) (by simp) ?_
      refine AllReadyH.cons (by simp; rfl) (fun K hK => ?_) AllReadyH.nil
      go_simp
      (go_at_call 32; (with_reducible refine Calls.cA (ratNormC (by omega)) ?_); intros)
      refine hK.out _ _ inferInstance ?_
      clear hHeld hK K
      intro hHeld
      try simp only [Act.put, List.setIfInBounds_toArray, List.set_cons_zero, List.set_cons_succ]
      refine wpAnyH_ready (rs := [6]) (by kernel_rfl) (by simp) ?_
      refine AllReadyH.cons (by simp; rfl) (fun K hK => ?_) AllReadyH.nil
      go_simp
      refine hK.out _ _ inferInstance ?_
      clear hHeld hK K
      intro hHeld
      try simp only [Act.put, List.setIfInBounds_toArray, List.set_cons_zero, List.set_cons_succ]
      refine wpAnyH_ready (rs := [7]) (by kernel_rfl) (by simp) ?_
      refine AllReadyH.cons (by simp; rfl) (fun K hK => ?_) AllReadyH.nil
      go_simp
      refine hK.out _ _ inferInstance ?_
      clear hHeld hK K
      intro hHeld
      try simp only [Act.put, List.setIfInBounds_toArray, List.set_cons_zero, List.set_cons_succ]
      refine wpAnyH_done (by kernel_rfl) ?_ _
      clear hHeld
      go_wp2_with fail
      go_meet
      exact ⟨_, _, _, _, _, _, _, _, _, _, _, _, _, _, _, _, rfl, rfl, inferInstance, inferInstance, CA.cast inferInstance rfl (by omega), CA.cast inferInstance rfl (by omega), inferInstance, inferInstance, CW.cast inferInstance rfl (by omega), CW.cast inferInstance rfl (by omega), inferInstance, inferInstance, inferInstance, inferInstance⟩
      go_simp
      refine hK.out _ _ inferInstance ?_
      clear hHeld hK K
      intro hHeld
      try simp only [Act.put, List.setIfInBounds_toArray, List.set_cons_zero, List.set_cons_succ]
      refine wpAnyH_ready (rs := [3, 4]) (by kernel_rfl) (by simp) ?_
      refine AllReadyH.cons (by simp; rfl) (fun K hK => ?_) (AllReadyH.cons (by simp; rfl) (fun K hK => ?_) AllReadyH.nil)
      go_simp
      (go_at_call 32; (with_reducible refine Calls.cA (ratNormC (by omega)) ?_); intros)
      refine hK.out _ _ inferInstance ?_
      clear hHeld hK K
      intro hHeld
      try simp only [Act.put, List.setIfInBounds_toArray, List.set_cons_zero, List.set_cons_succ]
      refine wpAnyH_ready (rs := [4]) (by kernel_rfl) (by simp) ?_
      refine AllReadyH.cons (by simp; rfl) (fun K hK => ?_) AllReadyH.nil
      go_simp
      refine hK.out _ _ inferInstance ?_
      clear hHeld hK K
      intro hHeld
      try simp only [Act.put, List.setIfInBounds_toArray, List.set_cons_zero, List.set_cons_succ]
      refine wpAnyH_ready (rs := [6]) (by kernel_rfl) (by simp) ?_
      refine AllReadyH.cons (by simp; rfl) (fun K hK => ?_) AllReadyH.nil
      go_simp
      refine hK.out _ _ inferInstance ?_
      clear hHeld hK K
      intro hHeld
      try simp only [Act.put, List.setIfInBounds_toArray, List.set_cons_zero, List.set_cons_succ]
      refine wpAnyH_ready (rs := [7]) (by kernel_rfl) (by simp) ?_
      refine AllReadyH.cons (by simp; rfl) (fun K hK => ?_) AllReadyH.nil
      go_simp
      refine hK.out _ _ inferInstance ?_
      clear hHeld hK K
      intro hHeld
      try simp only [Act.put, List.setIfInBounds_toArray, List.set_cons_zero, List.set_cons_succ]
      refine wpAnyH_done (by kernel_rfl) ?_ _
      clear hHeld
      go_wp2_with fail
      go_meet
      exact ⟨_, _, _, _, _, _, _, _, _, _, _, _, _, _, _, _, rfl, rfl, inferInstance, inferInstance, CA.cast inferInstance rfl (by omega), CA.cast inferInstance rfl (by omega), inferInstance, inferInstance, CW.cast inferInstance rfl (by omega), CW.cast inferInstance rfl (by omega), inferInstance, inferInstance, inferInstance, inferInstance⟩
      go_simp
      refine hK.out _ _ inferInstance ?_
      clear hHeld hK K
      intro hHeld
      try simp only [Act.put, List.setIfInBounds_toArray, List.set_cons_zero, List.set_cons_succ]
      refine wpAnyH_ready (rs := [3]) (by kernel_rfl) (by simp) ?_
      refine AllReadyH.cons (by simp; rfl) (fun K hK => ?_) AllReadyH.nil
      go_simp
      (go_at_call 32; (with_reducible refine Calls.cA (ratNormC (by omega)) ?_); intros)
      refine hK.out _ _ inferInstance ?_
      clear hHeld hK K
      intro hHeld
      try simp only [Act.put, List.setIfInBounds_toArray, List.set_cons_zero, List.set_cons_succ]
      refine wpAnyH_ready (rs := [6]) (by kernel_rfl) (by simp) ?_
      refine AllReadyH.cons (by simp; rfl) (fun K hK => ?_) AllReadyH.nil
      go_simp
      refine hK.out _ _ inferInstance ?_
      clear hHeld hK K
      intro hHeld
      try simp only [Act.put, List.setIfInBounds_toArray, List.set_cons_zero, List.set_cons_succ]
      refine wpAnyH_ready (rs := [7]) (by kernel_rfl) (by simp) ?_
      refine AllReadyH.cons (by simp; rfl) (fun K hK => ?_) AllReadyH.nil
      go_simp
      refine hK.out _ _ inferInstance ?_
      clear hHeld hK K
      intro hHeld
      try simp only [Act.put, List.setIfInBounds_toArray, List.set_cons_zero, List.set_cons_succ]
      refine wpAnyH_done (by kernel_rfl) ?_ _
      clear hHeld
      go_wp2_with fail
      go_meet
      exact ⟨_, _, _, _, _, _, _, _, _, _, _, _, _, _, _, _, rfl, rfl, inferInstance, inferInstance, CA.cast inferInstance rfl (by omega), CA.cast inferInstance rfl (by omega), inferInstance, inferInstance, CW.cast inferInstance rfl (by omega), CW.cast inferInstance rfl (by omega), inferInstance, inferInstance, inferInstance, inferInstance⟩
      go_simp
      refine hK.out _ _ inferInstance ?_
      clear hHeld hK K
      intro hHeld
      try simp only [Act.put, List.setIfInBounds_toArray, List.set_cons_zero, List.set_cons_succ]
      refine wpAnyH_ready (rs := [1, 5]) (by kernel_rfl) (by simp) ?_
      refine AllReadyH.cons (by simp; rfl) (fun K hK => ?_) (AllReadyH.cons (by simp; rfl) (fun K hK => ?_) AllReadyH.nil)
      go_simp
      (go_at_call 32; (with_reducible refine Calls.cA (ratNormC (by omega)) ?_); intros)
      refine hK.out _ _ inferInstance ?_
      clear hHeld hK K
      intro hHeld
      try simp only [Act.put, List.setIfInBounds_toArray, List.set_cons_zero, List.set_cons_succ]
      refine wpAnyH_ready (rs := [3, 5]) (by kernel_rfl) (by simp) ?_
      refine AllReadyH.cons (by simp; rfl) (fun K hK => ?_) (AllReadyH.cons (by simp; rfl) (fun K hK => ?_) AllReadyH.nil)
      go_simp
      (go_at_call 32; (with_reducible refine Calls.cA (ratNormC (by omega)) ?_); intros)
      refine hK.out _ _ inferInstance ?_
      clear hHeld hK K
      intro hHeld
      try simp only [Act.put, List.setIfInBounds_toArray, List.set_cons_zero, List.set_cons_succ]
      refine wpAnyH_ready (rs := [5]) (by kernel_rfl) (by simp) ?_
      refine AllReadyH.cons (by simp; rfl) (fun K hK => ?_) AllReadyH.nil
      go_simp
      refine hK.out _ _ inferInstance ?_
      clear hHeld hK K
      intro hHeld
      try simp only [Act.put, List.setIfInBounds_toArray, List.set_cons_zero, List.set_cons_succ]
      refine wpAnyH_ready (rs := [6]) (by kernel_rfl) (by simp) ?_
      refine AllReadyH.cons (by simp; rfl) (fun K hK => ?_) AllReadyH.nil
      go_simp
      refine hK.out _ _ inferInstance ?_
      clear hHeld hK K
      intro hHeld
      try simp only [Act.put, List.setIfInBounds_toArray, List.set_cons_zero, List.set_cons_succ]
      refine wpAnyH_ready (rs := [7]) (by kernel_rfl) (by simp) ?_
      refine AllReadyH.cons (by simp; rfl) (fun K hK => ?_) AllReadyH.nil
      go_simp
      refine hK.out _ _ inferInstance ?_
      clear hHeld hK K
      intro hHeld
      try simp only [Act.put, List.setIfInBounds_toArray, List.set_cons_zero, List.set_cons_succ]
      refine wpAnyH_done (by kernel_rfl) ?_ _
      clear hHeld
      go_wp2_with fail
      go_meet
      exact ⟨_, _, _, _, _, _, _, _, _, _, _, _, _, _, _, _, rfl, rfl, inferInstance, inferInstance, CA.cast inferInstance rfl (by omega), CA.cast inferInstance rfl (by omega), inferInstance, inferInstance, CW.cast inferInstance rfl (by omega), CW.cast inferInstance rfl (by omega), inferInstance, inferInstance, inferInstance, inferInstance⟩
      go_simp
      refine hK.out _ _ inferInstance ?_
      clear hHeld hK K
      intro hHeld
      try simp only [Act.put, List.setIfInBounds_toArray, List.set_cons_zero, List.set_cons_succ]
      refine wpAnyH_ready (rs := [3]) (by kernel_rfl) (by simp) ?_
      refine AllReadyH.cons (by simp; rfl) (fun K hK => ?_) AllReadyH.nil
      go_simp
      (go_at_call 32; (with_reducible refine Calls.cA (ratNormC (by omega)) ?_); intros)
      refine hK.out _ _ inferInstance ?_
      clear hHeld hK K
      intro hHeld
      try simp only [Act.put, List.setIfInBounds_toArray, List.set_cons_zero, List.set_cons_succ]
      refine wpAnyH_ready (rs := [6]) (by kernel_rfl) (by simp) ?_
      refine AllReadyH.cons (by simp; rfl) (fun K hK => ?_) AllReadyH.nil
      go_simp
      refine hK.out _ _ inferInstance ?_
      clear hHeld hK K
      intro hHeld
      try simp only [Act.put, List.setIfInBounds_toArray, List.set_cons_zero, List.set_cons_succ]
      refine wpAnyH_ready (rs := [7]) (by kernel_rfl) (by simp) ?_
      refine AllReadyH.cons (by simp; rfl) (fun K hK => ?_) AllReadyH.nil
      go_simp
      refine hK.out _ _ inferInstance ?_
      clear hHeld hK K
      intro hHeld
      try simp only [Act.put, List.setIfInBounds_toArray, List.set_cons_zero, List.set_cons_succ]
      refine wpAnyH_done (by kernel_rfl) ?_ _
      clear hHeld
      go_wp2_with fail
      go_meet
      exact ⟨_, _, _, _, _, _, _, _, _, _, _, _, _, _, _, _, rfl, rfl, inferInstance, inferInstance, CA.cast inferInstance rfl (by omega), CA.cast inferInstance rfl (by omega), inferInstance, inferInstance, CW.cast inferInstance rfl (by omega), CW.cast inferInstance rfl (by omega), inferInstance, inferInstance, inferInstance, inferInstance⟩
      go_simp
      refine hK.out _ _ inferInstance ?_
      clear hHeld hK K
      intro hHeld
      try simp only [Act.put, List.setIfInBounds_toArray, List.set_cons_zero, List.set_cons_succ]
      refine wpAnyH_ready (rs := [1]) (by kernel_rfl) (by simp) ?_
      refine AllReadyH.cons (by simp; rfl) (fun K hK => ?_) AllReadyH.nil
      go_simp
      (go_at_call 32; (with_reducible refine Calls.cA (ratNormC (by omega)) ?_); intros)
      refine hK.out _ _ inferInstance ?_
      clear hHeld hK K
      intro hHeld
      try simp only [Act.put, List.setIfInBounds_toArray, List.set_cons_zero, List.set_cons_succ]
      refine wpAnyH_ready (rs := [3]) (by kernel_rfl) (by simp) ?_
      refine AllReadyH.cons (by simp; rfl) (fun K hK => ?_) AllReadyH.nil
      go_simp
      (go_at_call 32; (with_reducible refine Calls.cA (ratNormC (by omega)) ?_); intros)
      refine hK.out _ _ inferInstance ?_
      clear hHeld hK K
      intro hHeld
      try simp only [Act.put, List.setIfInBounds_toArray, List.set_cons_zero, List.set_cons_succ]
      refine wpAnyH_ready (rs := [6]) (by kernel_rfl) (by simp) ?_
      refine AllReadyH.cons (by simp; rfl) (fun K hK => ?_) AllReadyH.nil
      go_simp
      refine hK.out _ _ inferInstance ?_
      clear hHeld hK K
      intro hHeld
      try simp only [Act.put, List.setIfInBounds_toArray, List.set_cons_zero, List.set_cons_succ]
      refine wpAnyH_ready (rs := [7]) (by kernel_rfl) (by simp) ?_
      refine AllReadyH.cons (by simp; rfl) (fun K hK => ?_) AllReadyH.nil
      go_simp
      refine hK.out _ _ inferInstance ?_
      clear hHeld hK K
      intro hHeld
      try simp only [Act.put, List.setIfInBounds_toArray, List.set_cons_zero, List.set_cons_succ]
      refine wpAnyH_done (by kernel_rfl) ?_ _
      clear hHeld
      go_wp2_with fail
      go_meet
      exact ⟨_, _, _, _, _, _, _, _, _, _, _, _, _, _, _, _, rfl, rfl, inferInstance, inferInstance, CA.cast inferInstance rfl (by omega), CA.cast inferInstance rfl (by omega), inferInstance, inferInstance, CW.cast inferInstance rfl (by omega), CW.cast inferInstance rfl (by omega), inferInstance, inferInstance, inferInstance, inferInstance⟩
      go_simp
      refine hK.out _ _ inferInstance ?_
      clear hHeld hK K
      intro hHeld
      try simp only [Act.put, List.setIfInBounds_toArray, List.set_cons_zero, List.set_cons_succ]
      refine wpAnyH_ready (rs := [1, 4]) (by kernel_rfl) (by simp) ?_
      refine AllReadyH.cons (by simp; rfl) (fun K hK => ?_) (AllReadyH.cons (by simp; rfl) (fun K hK => ?_) AllReadyH.nil)
      go_simp
      (go_at_call 32; (with_reducible refine Calls.cA (ratNormC (by omega)) ?_); intros)
      refine hK.out _ _ inferInstance ?_
      clear hHeld hK K
      intro hHeld
      try simp only [Act.put, List.setIfInBounds_toArray, List.set_cons_zero, List.set_cons_succ]
      refine wpAnyH_ready (rs := [3, 4]) (by kernel_rfl) (by simp) ?_
      refine AllReadyH.cons (by simp; rfl) (fun K hK => ?_) (AllReadyH.cons (by simp; rfl) (fun K hK => ?_) AllReadyH.nil)
      go_simp
      (go_at_call 32; (with_reducible refine Calls.cA (ratNormC (by omega)) ?_); intros)
      refine hK.out _ _ inferInstance ?_
      clear hHeld hK K
      intro hHeld
      try simp only [Act.put, List.setIfInBounds_toArray, List.set_cons_zero, List.set_cons_succ]
      refine wpAnyH_ready (rs := [4]) (by kernel_rfl) (by simp) ?_
      refine AllReadyH.cons (by simp; rfl) (fun K hK => ?_) AllReadyH.nil
      go_simp
      refine hK.out _ _ inferInstance ?_
      clear hHeld hK K
      intro hHeld
      try simp only [Act.put, List.setIfInBounds_toArray, List.set_cons_zero, List.set_cons_succ]
      refine wpAnyH_ready (rs := [6]) (by kernel_rfl) (by simp) ?_
      refine AllReadyH.cons (by simp; rfl) (fun K hK => ?_) AllReadyH.nil
      go_simp
      refine hK.out _ _ inferInstance ?_
      clear hHeld hK K
      intro hHeld
      try simp only [Act.put, List.setIfInBounds_toArray, List.set_cons_zero, List.set_cons_succ]
      refine wpAnyH_ready (rs := [7]) (by kernel_rfl) (by simp) ?_
      refine AllReadyH.cons (by simp; rfl) (fun K hK => ?_) AllReadyH.nil
      go_simp
      refine hK.out _ _ inferInstance ?_
      clear hHeld hK K
      intro hHeld
      try simp only [Act.put, List.setIfInBounds_toArray, List.set_cons_zero, List.set_cons_succ]
      refine wpAnyH_done (by kernel_rfl) ?_ _
      clear hHeld
      go_wp2_with fail
      go_meet
      exact ⟨_, _, _, _, _, _, _, _, _, _, _, _, _, _, _, _, rfl, rfl, inferInstance, inferInstance, CA.cast inferInstance rfl (by omega), CA.cast inferInstance rfl (by omega), inferInstance, inferInstance, CW.cast inferInstance rfl (by omega), CW.cast inferInstance rfl (by omega), inferInstance, inferInstance, inferInstance, inferInstance⟩
      go_simp
      refine hK.out _ _ inferInstance ?_
      clear hHeld hK K
      intro hHeld
      try simp only [Act.put, List.setIfInBounds_toArray, List.set_cons_zero, List.set_cons_succ]
      refine wpAnyH_ready (rs := [3]) (by kernel_rfl) (by simp) ?_
      refine AllReadyH.cons (by simp; rfl) (fun K hK => ?_) AllReadyH.nil
      go_simp
      (go_at_call 32; (with_reducible refine Calls.cA (ratNormC (by omega)) ?_); intros)
      refine hK.out _ _ inferInstance ?_
      clear hHeld hK K
      intro hHeld
      try simp only [Act.put, List.setIfInBounds_toArray, List.set_cons_zero, List.set_cons_succ]
      refine wpAnyH_ready (rs := [6]) (by kernel_rfl) (by simp) ?_
      refine AllReadyH.cons (by simp; rfl) (fun K hK => ?_) AllReadyH.nil
      go_simp
      refine hK.out _ _ inferInstance ?_
      clear hHeld hK K
      intro hHeld
      try simp only [Act.put, List.setIfInBounds_toArray, List.set_cons_zero, List.set_cons_succ]
      refine wpAnyH_ready (rs := [7]) (by kernel_rfl) (by simp) ?_
      refine AllReadyH.cons (by simp; rfl) (fun K hK => ?_) AllReadyH.nil
      go_simp
      refine hK.out _ _ inferInstance ?_
      clear hHeld hK K
      intro hHeld
      try simp only [Act.put, List.setIfInBounds_toArray, List.set_cons_zero, List.set_cons_succ]
      refine wpAnyH_done (by kernel_rfl) ?_ _
      clear hHeld
      go_wp2_with fail
      go_meet
      exact ⟨_, _, _, _, _, _, _, _, _, _, _, _, _, _, _, _, rfl, rfl, inferInstance, inferInstance, CA.cast inferInstance rfl (by omega), CA.cast inferInstance rfl (by omega), inferInstance, inferInstance, CW.cast inferInstance rfl (by omega), CW.cast inferInstance rfl (by omega), inferInstance, inferInstance, inferInstance, inferInstance⟩
      go_simp
      refine hK.out _ _ inferInstance ?_
      clear hHeld hK K
      intro hHeld
      try simp only [Act.put, List.setIfInBounds_toArray, List.set_cons_zero, List.set_cons_succ]
      refine wpAnyH_ready (rs := [1]) (by kernel_rfl) (by simp) ?_
      refine AllReadyH.cons (by simp; rfl) (fun K hK => ?_) AllReadyH.nil
      go_simp
      (go_at_call 32; (with_reducible refine Calls.cA (ratNormC (by omega)) ?_); intros)
      refine hK.out _ _ inferInstance ?_
      clear hHeld hK K
      intro hHeld
      try simp only [Act.put, List.setIfInBounds_toArray, List.set_cons_zero, List.set_cons_succ]
      refine wpAnyH_ready (rs := [3]) (by kernel_rfl) (by simp) ?_
      refine AllReadyH.cons (by simp; rfl) (fun K hK => ?_) AllReadyH.nil
      go_simp
      (go_at_call 32; (with_reducible refine Calls.cA (ratNormC (by omega)) ?_); intros)
      refine hK.out _ _ inferInstance ?_
      clear hHeld hK K
      intro hHeld
      try simp only [Act.put, List.setIfInBounds_toArray, List.set_cons_zero, List.set_cons_succ]
      refine wpAnyH_ready (rs := [6]) (by kernel_rfl) (by simp) ?_
      refine AllReadyH.cons (by simp; rfl) (fun K hK => ?_) AllReadyH.nil
      go_simp
      refine hK.out _ _ inferInstance ?_
      clear hHeld hK K
      intro hHeld
      try simp only [Act.put, List.setIfInBounds_toArray, List.set_cons_zero, List.set_cons_succ]
      refine wpAnyH_ready (rs := [7]) (by kernel_rfl) (by simp) ?_
      refine AllReadyH.cons (by simp; rfl) (fun K hK => ?_) AllReadyH.nil
      go_simp
      refine hK.out _ _ inferInstance ?_
      clear hHeld hK K
      intro hHeld
      try simp only [Act.put, List.setIfInBounds_toArray, List.set_cons_zero, List.set_cons_succ]
      refine wpAnyH_done (by kernel_rfl) ?_ _
      clear hHeld
      go_wp2_with fail
      go_meet
      exact ⟨_, _, _, _, _, _, _, _, _, _, _, _, _, _, _, _, rfl, rfl, inferInstance, inferInstance, CA.cast inferInstance rfl (by omega), CA.cast inferInstance rfl (by omega), inferInstance, inferInstance, CW.cast inferInstance rfl (by omega), CW.cast inferInstance rfl (by omega), inferInstance, inferInstance, inferInstance, inferInstance⟩
    case rest =>
      obtain ⟨b6, b7, G, A, L, C, AA, LL, CC, G', A', L', C', AA', LL', CC', rfl, rfl, p1, p2, p3, p4, p5, p6, p7, p8, p9, q0, q1, q2⟩ := hcut
      clear j6 j7 j8
      have he1 := HE.out
      go_wp2_with fail
      refine region_cls (by kernel_rfl) [] (fun hHeld => ?_)
      refine wpAnyH_ready (rs := [0]) (by kernel_rfl) (by simp) ?_
      refine AllReadyH.cons (by simp; rfl) (fun K hK => ?_) AllReadyH.nil
      go_simp
      (go_at_call 21; (with_reducible refine Calls.cE (known03C inferInstance inferInstance inferInstance hne) ?_); intros)
      refine hK.out _ _ inferInstance ?_
      clear hHeld hK K
      intro hHeld
      try simp only [Act.put, List.setIfInBounds_toArray, List.set_cons_zero, List.set_cons_succ]
      refine wpAnyH_take (i := 1) (v := ?z149) (by simp; rfl) (by kernel_rfl) (by kernel_rfl) (by kernel_rfl) (by exact fun _ _ _ h => h) (Or.inl ⟨by rfl, ?yz149⟩) hHeld ?_
      case yz149 => (intro wx hSw; have hSx := Ex1.mk hSw; go_simp; (try with_reducible rfl))
      try simp only [Act.put, List.setIfInBounds_toArray, List.set_cons_zero, List.set_cons_succ]
      refine wpAnyH_take (i := 2) (v := ?z150) (by simp; rfl) (by kernel_rfl) (by kernel_rfl) (by kernel_rfl) (by exact fun _ _ _ h => h) (Or.inl ⟨by rfl, ?yz150⟩) hHeld ?_
      case yz150 => (intro wx hSw; have hSx := Ex1.mk hSw; go_simp; (try with_reducible rfl))
      try simp only [Act.put, List.setIfInBounds_toArray, List.set_cons_zero, List.set_cons_succ]
      refine wpAnyH_ready (rs := [3]) (by kernel_rfl) (by simp) ?_
      refine AllReadyH.cons (by simp; rfl) (fun K hK => ?_) AllReadyH.nil
      go_simp
      (go_at_call 33; (with_reducible refine Calls.cE (ratNormalA (by omega)) ?_); intros)
      refine hK.out _ _ inferInstance ?_
      clear hHeld hK K
      intro hHeld
      try simp only [Act.put, List.setIfInBounds_toArray, List.set_cons_zero, List.set_cons_succ]
      refine wpAnyH_take (i := 4) (v := ?z151) (by simp; rfl) (by kernel_rfl) (by kernel_rfl) (by kernel_rfl) (by exact fun _ _ _ h => h) (Or.inl ⟨by rfl, ?yz151⟩) hHeld ?_
      case yz151 => (intro wx hSw; have hSx := Ex1.mk hSw; go_simp; (try with_reducible rfl))
      try simp only [Act.put, List.setIfInBounds_toArray, List.set_cons_zero, List.set_cons_succ]
      refine wpAnyH_take (i := 5) (v := ?z152) (by simp; rfl) (by kernel_rfl) (by kernel_rfl) (by kernel_rfl) (by exact fun _ _ _ h => h) (Or.inl ⟨by rfl, ?yz152⟩) hHeld ?_
      case yz152 => (intro wx hSw; have hSx := Ex1.mk hSw; go_simp; (try with_reducible rfl))
      try simp only [Act.put, List.setIfInBounds_toArray, List.set_cons_zero, List.set_cons_succ]
      refine wpAnyH_take (i := 6) (v := ?z153) (by simp; rfl) (by kernel_rfl) (by kernel_rfl) (by kernel_rfl) (by exact fun _ _ _ h => h) (Or.inl ⟨by rfl, ?yz153⟩) hHeld ?_
      case yz153 => (intro wx hSw; have hSx := Ex1.mk hSw; go_simp; (try with_reducible rfl))
      try simp only [Act.put, List.setIfInBounds_toArray, List.set_cons_zero, List.set_cons_succ]
      refine wpAnyH_take (i := 7) (v := ?z154) (by simp; rfl) (by kernel_rfl) (by kernel_rfl) (by kernel_rfl) (by exact fun _ _ _ h => h) (Or.inl ⟨by rfl, ?yz154⟩) hHeld ?_
      case yz154 => (intro wx hSw; have hSx := Ex1.mk hSw; go_simp; (try with_reducible rfl))
      try simp only [Act.put, List.setIfInBounds_toArray, List.set_cons_zero, List.set_cons_succ]
      refine wpAnyH_take (i := 10) (v := ?z155) (by simp; rfl) (by kernel_rfl) (by kernel_rfl) (by kernel_rfl) (by exact fun _ _ _ h => h) (Or.inl ⟨by rfl, ?yz155⟩) hHeld ?_
      case yz155 => (intro wx hSw; have hSx := Ex1.mk hSw; go_simp; (try with_reducible rfl))
      try simp only [Act.put, List.setIfInBounds_toArray, List.set_cons_zero, List.set_cons_succ]
      refine wpAnyH_take (i := 11) (v := ?z156) (by simp; rfl) (by kernel_rfl) (by kernel_rfl) (by kernel_rfl) (by exact fun _ _ _ h => h) (Or.inl ⟨by rfl, ?yz156⟩) hHeld ?_
      case yz156 => (intro wx hSw; have hSx := Ex1.mk hSw; go_simp; (try with_reducible rfl))
      try simp only [Act.put, List.setIfInBounds_toArray, List.set_cons_zero, List.set_cons_succ]
      refine wpAnyH_ready (rs := [8]) (by kernel_rfl) (by simp) ?_
      refine AllReadyH.cons (by simp; rfl) (fun K hK => ?_) AllReadyH.nil
      go_simp
      (go_at_call 34; (with_reducible refine Calls.cE (ratCmpC (by omega)) ?_); intros)
      refine hK.out _ _ inferInstance ?_
      clear hHeld hK K
      intro hHeld
      try simp only [Act.put, List.setIfInBounds_toArray, List.set_cons_zero, List.set_cons_succ]
      refine wpAnyH_take (i := 9) (v := ?z157) (by simp; rfl) (by kernel_rfl) (by kernel_rfl) (by kernel_rfl) (by exact fun _ _ _ h => h) (Or.inl ⟨by rfl, ?yz157⟩) hHeld ?_
      case yz157 => (intro wx hSw; have hSx := Ex1.mk hSw; go_simp; (try with_reducible rfl))
      try simp only [Act.put, List.setIfInBounds_toArray, List.set_cons_zero, List.set_cons_succ]
      refine wpAnyH_ready (rs := [12]) (by kernel_rfl) (by simp) ?_
      refine AllReadyH.cons (by simp; rfl) (fun K hK => ?_) AllReadyH.nil
      go_simp
      (go_at_call 23; (with_reducible refine Calls.cE (sameQG) ?_); intros)
      refine hK.out _ _ inferInstance ?_
      clear hHeld hK K
      intro hHeld
      try simp only [Act.put, List.setIfInBounds_toArray, List.set_cons_zero, List.set_cons_succ]
      refine wpAnyH_take (i := 13) (v := ?z158) (by simp; rfl) (by kernel_rfl) (by kernel_rfl) (by kernel_rfl) (by exact fun _ _ _ h => h) (Or.inl ⟨by rfl, ?yz158⟩) hHeld ?_
      case yz158 => (intro wx hSw; have hSx := Ex1.mk hSw; go_simp; (try with_reducible rfl))
      try simp only [Act.put, List.setIfInBounds_toArray, List.set_cons_zero, List.set_cons_succ]
      refine wpAnyH_take (i := 14) (v := ?z159) (by simp; rfl) (by kernel_rfl) (by kernel_rfl) (by kernel_rfl) (by exact fun _ _ _ h => h) (Or.inl ⟨by rfl, ?yz159⟩) hHeld ?_
      case yz159 => (intro wx hSw; have hSx := Ex1.mk hSw; go_simp; (try with_reducible rfl))
      try simp only [Act.put, List.setIfInBounds_toArray, List.set_cons_zero, List.set_cons_succ]
      refine wpAnyH_take (i := 15) (v := ?z160) (by simp; rfl) (by kernel_rfl) (by kernel_rfl) (by kernel_rfl) (by exact fun _ _ _ h => h) (Or.inl ⟨by rfl, ?yz160⟩) hHeld ?_
      case yz160 => (intro wx hSw; have hSx := Ex1.mk hSw; go_simp; (try with_reducible rfl))
      try simp only [Act.put, List.setIfInBounds_toArray, List.set_cons_zero, List.set_cons_succ]
      refine wpAnyH_take (i := 16) (v := ?z161) (by simp; rfl) (by kernel_rfl) (by kernel_rfl) (by kernel_rfl) (by exact fun _ _ _ h => h) (Or.inl ⟨by rfl, ?yz161⟩) hHeld ?_
      case yz161 => (intro wx hSw; have hSx := Ex1.mk hSw; go_simp; (try with_reducible rfl))
      try simp only [Act.put, List.setIfInBounds_toArray, List.set_cons_zero, List.set_cons_succ]
      refine wpAnyH_take (i := 18) (v := ?z162) (by simp; rfl) (by kernel_rfl) (by kernel_rfl) (by kernel_rfl) (by exact fun _ _ _ h => h) (Or.inl ⟨by rfl, ?yz162⟩) hHeld ?_
      case yz162 => (intro wx hSw; have hSx := Ex1.mk hSw; go_simp; (try with_reducible rfl))
      try simp only [Act.put, List.setIfInBounds_toArray, List.set_cons_zero, List.set_cons_succ]
      refine wpAnyH_ready (rs := [17]) (by kernel_rfl) (by simp) ?_
      refine AllReadyH.cons (by simp; rfl) (fun K hK => ?_) AllReadyH.nil
      go_simp
      (go_at_call 32; (with_reducible refine Calls.cA (ratNormC (by omega)) ?_); intros)
      refine hK.out _ _ inferInstance ?_
      clear hHeld hK K
      intro hHeld
      try simp only [Act.put, List.setIfInBounds_toArray, List.set_cons_zero, List.set_cons_succ]
      refine wpAnyH_ready (rs := [19]) (by kernel_rfl) (by simp) ?_
      refine AllReadyH.cons (by simp; rfl) (fun K hK => ?_) AllReadyH.nil
      go_simp
      (go_at_call 23; (with_reducible refine Calls.cE (sameQG) ?_); intros)
      refine hK.out _ _ inferInstance ?_
      clear hHeld hK K
      intro hHeld
      try simp only [Act.put, List.setIfInBounds_toArray, List.set_cons_zero, List.set_cons_succ]
      refine wpAnyH_take (i := 20) (v := ?z163) (by simp; rfl) (by kernel_rfl) (by kernel_rfl) (by kernel_rfl) (by exact fun _ _ _ h => h) (Or.inl ⟨by rfl, ?yz163⟩) hHeld ?_
      case yz163 => (intro wx hSw; have hSx := Ex1.mk hSw; go_simp; (try with_reducible rfl))
      try simp only [Act.put, List.setIfInBounds_toArray, List.set_cons_zero, List.set_cons_succ]
      refine wpAnyH_take (i := 21) (v := ?z164) (by simp; rfl) (by kernel_rfl) (by kernel_rfl) (by kernel_rfl) (by exact fun _ _ _ h => h) (Or.inl ⟨by rfl, ?yz164⟩) hHeld ?_
      case yz164 => (intro wx hSw; have hSx := Ex1.mk hSw; go_simp; (try with_reducible rfl))
      try simp only [Act.put, List.setIfInBounds_toArray, List.set_cons_zero, List.set_cons_succ]
      refine wpAnyH_done (by kernel_rfl) ?_ _
      clear hHeld
      go_wp2
      go_ret
      exact E.fin rfl
end Go.Proofs.YtnkfbkdcplbgoaaGreatDoor
