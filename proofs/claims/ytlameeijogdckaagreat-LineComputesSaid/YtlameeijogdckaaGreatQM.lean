/-
  Texts of this claim, joined: QLn3, QLn4.
-/
import Derived.Test.YtlameeijogdckaaGreatQL
/- Package line: lines of package api are read and written; the functions of one line. printed by a small program (mkln3.py). -/
namespace Go.Proofs.YtlameeijogdckaaGreat
open Go.RowKit
set_option linter.unusedVariables false

theorem RL.ofZ {w : World} {g : Bool} {a : Option Addr} {l c : Nat} {z : Int} {k : Nat} (h : CZ w (.agg #[.bool g, .slice a l c]) z k) : RL w (.slice a l c) (nf z.natAbs) := ⟨(zz_of h).2.1⟩
theorem nrm_z {w : World} {g : Bool} {a : Option Addr} {l c : Nat} {z : Int} {k : Nat} (h : CZ w (.agg #[.bool g, .slice a l c]) z k) : nrmI g (nf z.natAbs) = true := by
  have hg := (zz_of h).1
  unfold nrmI
  rw [normalB_nfx, Bool.true_and]
  by_cases hz : z < 0
  · have : 0 < (nf z.natAbs).length := nf_len_pos (by omega)
    simp [this]
  · rw [hg, decide_eq_false hz]; rfl
theorem intNormalC {w : World} {g : Bool} {a : Option Addr} {l c : Nat} {z : Int} {k : Nat} [h : CZ w (.agg #[.bool g, .slice a l c]) z k] :
    Calls Tryz.prog 197 #[.agg #[.bool g, .slice a l c]] w fun e w' => e = .returned (.bool true) ∧ Below w.heap.size w w' := by
  have i := RL.ofZ h
  exact intNormalL (L := nf z.natAbs) (Lib.hid (nrm_z h))
theorem rEqualV {w : World} {v : Bool} {n1 : Int} {d1 : Int} {p1 : Option Addr} {x : Rat} {n2 : Int} {d2 : Int} {p2 : Option Addr} {y : Rat} {k1 k2 : Nat} [h1 : CF w (.agg #[.int .i64 n1, .int .i64 d1, .pointer p1]) x k1] [h2 : CF w (.agg #[.int .i64 n2, .int .i64 d2, .pointer p2]) y k2] (b : k1 ≤ 50000 ∧ k2 ≤ 50000) (hv : Hid (decide (x = y) = v)) :
    Calls Tryz.prog 171 #[.agg #[.int .i64 n1, .int .i64 d1, .pointer p1], .agg #[.int .i64 n2, .int .i64 d2, .pointer p2]] w (fun e w' => e = .returned (.bool v) ∧ Below w.heap.size w w') := by
  rw [← hv.out]; exact rEqualC (by omega)
set_option maxRecDepth 100000 in
set_option maxHeartbeats 4000000 in
set_option synthInstance.maxSize 100000 in
set_option synthInstance.maxHeartbeats 1000000 in
theorem lnOfC {w : World} {g1x : Bool} {a1x : Option Addr} {l1x : Nat} {c1x : Nat} {g1y : Bool} {a1y : Option Addr} {l1y : Nat} {c1y : Nat} {g1z : Bool} {a1z : Option Addr} {l1z : Nat} {c1z : Nat} {la lb lc : Int} {k1x k1y k1z : Nat} [h1x : CZ w (.agg #[.bool g1x, .slice a1x l1x c1x]) la k1x] [h1y : CZ w (.agg #[.bool g1y, .slice a1y l1y c1y]) lb k1y] [h1z : CZ w (.agg #[.bool g1z, .slice a1z l1z c1z]) lc k1z] (b : k1x ≤ 10000 ∧ k1y ≤ 10000 ∧ k1z ≤ 10000) (hv : Hid (LnV la lb lc)) :
    Calls Tryz.prog 149 #[.agg #[.bool g1x, .slice a1x l1x c1x, .bool g1y, .slice a1y l1y c1y, .bool g1z, .slice a1z l1z c1z]] w (LFBRet w ((la : Int) : Rat) ((lb : Int) : Rat) ((lc : Int) : Rat) true (max k1x (max k1y k1z) + 3)) := by
  have HG : Hid (decide (rgcd (rgcd (la : Rat) (lb : Rat)) (lc : Rat) = ((1 : Int) : Rat)) = true) := by
    refine decide_eq_true ?_
    have h := lnG_int la lb lc
    rw [hv.out.2] at h
    exact h
  obtain ⟨u, hu⟩ : ∃ u, decide ((la : Rat) = 0) = u := ⟨_, rfl⟩
  have HX := Lib.hid hu
  have HY : Hid (u = true → decide ((lb : Rat) = 0) = false) := fun e => decide_eq_false (fun h => hv.out.1 ⟨by exact_mod_cast (of_decide_eq_true (hu.trans e)), by exact_mod_cast h⟩)
  clear hu
  go_enter Tryz.func149, Tryz.ntmps149
  go_upto_region 3 with (first | (go_at_call 197; (with_reducible refine Calls.cE (intNormalC) ?_); intros))
  go_cut [4] from 22 to 31 (fun t wx => ∃ (q : Nat) (n1 d1 : Int) (p1 : Option Addr) (n2 d2 : Int) (p2 : Option Addr) (n3 d3 : Int) (p3 : Option Addr), t = .pointer (some ⟨q, 0, none⟩) ∧ Bx wx q 128 [.int .i64 n1, .int .i64 d1, .pointer p1, .int .i64 n2, .int .i64 d2, .pointer p2, .int .i64 n3, .int .i64 d3, .pointer p3] ∧ CF wx (.agg #[.int .i64 n1, .int .i64 d1, .pointer p1]) ((la : Int) : Rat) (max k1x (max k1y k1z) + 3) ∧ CF wx (.agg #[.int .i64 n2, .int .i64 d2, .pointer p2]) ((lb : Int) : Rat) (max k1x (max k1y k1z) + 3) ∧ CF wx (.agg #[.int .i64 n3, .int .i64 d3, .pointer p3]) ((lc : Int) : Rat) (max k1x (max k1y k1z) + 3) ∧ Bx wx (w.heap.size + 1) 128 [.int .i64 0, .int .i64 0, .pointer none, .int .i64 0, .int .i64 0, .pointer none, .int .i64 0, .int .i64 0, .pointer none] ∧ Kp w wx)
  case first =>
    refine region_cls (by kernel_rfl) [] (fun hHeld => ?_)
    refine wpAnyH_take (i := 0) (v := ?z468) (by simp; rfl) (by kernel_rfl) (by kernel_rfl) (by kernel_rfl) (by exact fun _ _ _ h => h) (Or.inl ⟨by rfl, ?yz468⟩) hHeld ?_
    case yz468 => (intro wx hSw; have hSx := Ex1.mk hSw; go_simp; (try with_reducible rfl))
    try simp only [Act.put, List.setIfInBounds_toArray, List.set_cons_zero, List.set_cons_succ]
    refine wpAnyH_take (i := 1) (v := ?z469) (by simp; rfl) (by kernel_rfl) (by kernel_rfl) (by kernel_rfl) (by exact fun _ _ _ h => h) (Or.inl ⟨by rfl, ?yz469⟩) hHeld ?_
    case yz469 => (intro wx hSw; have hSx := Ex1.mk hSw; go_simp; (try with_reducible rfl))
    try simp only [Act.put, List.setIfInBounds_toArray, List.set_cons_zero, List.set_cons_succ]
    refine wpAnyH_take (i := 3) (v := ?z470) (by simp; rfl) (by kernel_rfl) (by kernel_rfl) (by kernel_rfl) (by exact fun _ _ _ h => h) (Or.inl ⟨by rfl, ?yz470⟩) hHeld ?_
    case yz470 => (intro wx hSw; have hSx := Ex1.mk hSw; go_simp; (try with_reducible rfl))
    try simp only [Act.put, List.setIfInBounds_toArray, List.set_cons_zero, List.set_cons_succ]
    refine wpAnyH_take (i := 4) (v := ?z471) (by simp; rfl) (by kernel_rfl) (by kernel_rfl) (by kernel_rfl) (by exact fun _ _ _ h => h) (Or.inl ⟨by rfl, ?yz471⟩) hHeld ?_
    case yz471 => (intro wx hSw; have hSx := Ex1.mk hSw; go_simp; (try with_reducible rfl))
    try simp only [Act.put, List.setIfInBounds_toArray, List.set_cons_zero, List.set_cons_succ]
    refine wpAnyH_take (i := 6) (v := ?z472) (by simp; rfl) (by kernel_rfl) (by kernel_rfl) (by kernel_rfl) (by exact fun _ _ _ h => h) (Or.inl ⟨by rfl, ?yz472⟩) hHeld ?_
    case yz472 => (intro wx hSw; have hSx := Ex1.mk hSw; go_simp; (try with_reducible rfl))
    try simp only [Act.put, List.setIfInBounds_toArray, List.set_cons_zero, List.set_cons_succ]
    refine wpAnyH_take (i := 7) (v := ?z473) (by simp; rfl) (by kernel_rfl) (by kernel_rfl) (by kernel_rfl) (by exact fun _ _ _ h => h) (Or.inl ⟨by rfl, ?yz473⟩) hHeld ?_
    case yz473 => (intro wx hSw; have hSx := Ex1.mk hSw; go_simp; (try with_reducible rfl))
    try simp only [Act.put, List.setIfInBounds_toArray, List.set_cons_zero, List.set_cons_succ]
    refine wpAnyH_ready (rs := [2, 10]) (by kernel_rfl) (by simp) ?_
    refine AllReadyH.cons (by simp; rfl) (fun K hK => ?_) (AllReadyH.cons (by simp; rfl) (fun K hK => ?_) AllReadyH.nil)
    go_simp
    (go_at_call 99; (with_reducible refine Calls.cF (wholeC (by omega)) ?_); intros)
    refine hK.out _ _ inferInstance ?_
    clear hHeld hK K
    intro hHeld
    try simp only [Act.put, List.setIfInBounds_toArray, List.set_cons_zero, List.set_cons_succ]
    refine wpAnyH_ready (rs := [5, 10]) (by kernel_rfl) (by simp) ?_
    refine AllReadyH.cons (by simp; rfl) (fun K hK => ?_) (AllReadyH.cons (by simp; rfl) (fun K hK => ?_) AllReadyH.nil)
    go_simp
    (go_at_call 99; (with_reducible refine Calls.cF (wholeC (by omega)) ?_); intros)
    refine hK.out _ _ inferInstance ?_
    clear hHeld hK K
    intro hHeld
    try simp only [Act.put, List.setIfInBounds_toArray, List.set_cons_zero, List.set_cons_succ]
    refine wpAnyH_ready (rs := [8, 10]) (by kernel_rfl) (by simp) ?_
    refine AllReadyH.cons (by simp; rfl) (fun K hK => ?_) (AllReadyH.cons (by simp; rfl) (fun K hK => ?_) AllReadyH.nil)
    go_simp
    (go_at_call 99; (with_reducible refine Calls.cF (wholeC (by omega)) ?_); intros)
    refine hK.out _ _ inferInstance ?_
    clear hHeld hK K
    intro hHeld
    try simp only [Act.put, List.setIfInBounds_toArray, List.set_cons_zero, List.set_cons_succ]
    refine wpAnyH_take (i := 9) (v := ?z474) (by simp; rfl) (by kernel_rfl) (by kernel_rfl) (by kernel_rfl) (by exact fun _ _ _ h => h) (Or.inl ⟨by rfl, ?yz474⟩) hHeld ?_
    case yz474 => (intro wx hSw; have hSx := Ex1.mk hSw; go_simp; (try with_reducible rfl))
    try simp only [Act.put, List.setIfInBounds_toArray, List.set_cons_zero, List.set_cons_succ]
    refine wpAnyH_ready (rs := [10]) (by kernel_rfl) (by simp) ?_
    refine AllReadyH.cons (by simp; rfl) (fun K hK => ?_) AllReadyH.nil
    go_simp
    refine hK.out _ _ inferInstance ?_
    clear hHeld hK K
    intro hHeld
    try simp only [Act.put, List.setIfInBounds_toArray, List.set_cons_zero, List.set_cons_succ]
    refine wpAnyH_ready (rs := [11]) (by kernel_rfl) (by simp) ?_
    refine AllReadyH.cons (by simp; rfl) (fun K hK => ?_) AllReadyH.nil
    go_simp
    refine hK.out _ _ inferInstance ?_
    clear hHeld hK K
    intro hHeld
    try simp only [Act.put, List.setIfInBounds_toArray, List.set_cons_zero, List.set_cons_succ]
    refine wpAnyH_done (by kernel_rfl) ?_ _
    clear hHeld
    go_wp2_with fail
    go_meet
    exact ⟨_, _, _, _, _, _, _, _, _, _, rfl, inferInstance, CF.cast inferInstance rfl (by omega), CF.cast inferInstance rfl (by omega), CF.cast inferInstance rfl (by omega), inferInstance, inferInstance⟩
    go_simp
    refine hK.out _ _ inferInstance ?_
    clear hHeld hK K
    intro hHeld
    try simp only [Act.put, List.setIfInBounds_toArray, List.set_cons_zero, List.set_cons_succ]
    refine wpAnyH_ready (rs := [8]) (by kernel_rfl) (by simp) ?_
    refine AllReadyH.cons (by simp; rfl) (fun K hK => ?_) AllReadyH.nil
    go_simp
    (go_at_call 99; (with_reducible refine Calls.cF (wholeC (by omega)) ?_); intros)
    refine hK.out _ _ inferInstance ?_
    clear hHeld hK K
    intro hHeld
    try simp only [Act.put, List.setIfInBounds_toArray, List.set_cons_zero, List.set_cons_succ]
    refine wpAnyH_take (i := 9) (v := ?z475) (by simp; rfl) (by kernel_rfl) (by kernel_rfl) (by kernel_rfl) (by exact fun _ _ _ h => h) (Or.inl ⟨by rfl, ?yz475⟩) hHeld ?_
    case yz475 => (intro wx hSw; have hSx := Ex1.mk hSw; go_simp; (try with_reducible rfl))
    try simp only [Act.put, List.setIfInBounds_toArray, List.set_cons_zero, List.set_cons_succ]
    refine wpAnyH_ready (rs := [11]) (by kernel_rfl) (by simp) ?_
    refine AllReadyH.cons (by simp; rfl) (fun K hK => ?_) AllReadyH.nil
    go_simp
    refine hK.out _ _ inferInstance ?_
    clear hHeld hK K
    intro hHeld
    try simp only [Act.put, List.setIfInBounds_toArray, List.set_cons_zero, List.set_cons_succ]
    refine wpAnyH_done (by kernel_rfl) ?_ _
    clear hHeld
    go_wp2_with fail
    go_meet
    exact ⟨_, _, _, _, _, _, _, _, _, _, rfl, inferInstance, CF.cast inferInstance rfl (by omega), CF.cast inferInstance rfl (by omega), CF.cast inferInstance rfl (by omega), inferInstance, inferInstance⟩
    go_simp
    refine hK.out _ _ inferInstance ?_
    clear hHeld hK K
    intro hHeld
    try simp only [Act.put, List.setIfInBounds_toArray, List.set_cons_zero, List.set_cons_succ]
    refine wpAnyH_ready (rs := [5]) (by kernel_rfl) (by simp) ?_
    refine AllReadyH.cons (by simp; rfl) (fun K hK => ?_) AllReadyH.nil
    go_simp
    (go_at_call 99; (with_reducible refine Calls.cF (wholeC (by omega)) ?_); intros)
    refine hK.out _ _ inferInstance ?_
    clear hHeld hK K
    intro hHeld
    try simp only [Act.put, List.setIfInBounds_toArray, List.set_cons_zero, List.set_cons_succ]
    refine wpAnyH_ready (rs := [8]) (by kernel_rfl) (by simp) ?_
    refine AllReadyH.cons (by simp; rfl) (fun K hK => ?_) AllReadyH.nil
    go_simp
    (go_at_call 99; (with_reducible refine Calls.cF (wholeC (by omega)) ?_); intros)
    refine hK.out _ _ inferInstance ?_
    clear hHeld hK K
    intro hHeld
    try simp only [Act.put, List.setIfInBounds_toArray, List.set_cons_zero, List.set_cons_succ]
    refine wpAnyH_take (i := 9) (v := ?z476) (by simp; rfl) (by kernel_rfl) (by kernel_rfl) (by kernel_rfl) (by exact fun _ _ _ h => h) (Or.inl ⟨by rfl, ?yz476⟩) hHeld ?_
    case yz476 => (intro wx hSw; have hSx := Ex1.mk hSw; go_simp; (try with_reducible rfl))
    try simp only [Act.put, List.setIfInBounds_toArray, List.set_cons_zero, List.set_cons_succ]
    refine wpAnyH_ready (rs := [11]) (by kernel_rfl) (by simp) ?_
    refine AllReadyH.cons (by simp; rfl) (fun K hK => ?_) AllReadyH.nil
    go_simp
    refine hK.out _ _ inferInstance ?_
    clear hHeld hK K
    intro hHeld
    try simp only [Act.put, List.setIfInBounds_toArray, List.set_cons_zero, List.set_cons_succ]
    refine wpAnyH_done (by kernel_rfl) ?_ _
    clear hHeld
    go_wp2_with fail
    go_meet
    exact ⟨_, _, _, _, _, _, _, _, _, _, rfl, inferInstance, CF.cast inferInstance rfl (by omega), CF.cast inferInstance rfl (by omega), CF.cast inferInstance rfl (by omega), inferInstance, inferInstance⟩
    go_simp
    refine hK.out _ _ inferInstance ?_
    clear hHeld hK K
    intro hHeld
    try simp only [Act.put, List.setIfInBounds_toArray, List.set_cons_zero, List.set_cons_succ]
    refine wpAnyH_ready (rs := [2]) (by kernel_rfl) (by simp) ?_
    refine AllReadyH.cons (by simp; rfl) (fun K hK => ?_) AllReadyH.nil
    go_simp
    (go_at_call 99; (with_reducible refine Calls.cF (wholeC (by omega)) ?_); intros)
    refine hK.out _ _ inferInstance ?_
    clear hHeld hK K
    intro hHeld
    try simp only [Act.put, List.setIfInBounds_toArray, List.set_cons_zero, List.set_cons_succ]
    refine wpAnyH_ready (rs := [5]) (by kernel_rfl) (by simp) ?_
    refine AllReadyH.cons (by simp; rfl) (fun K hK => ?_) AllReadyH.nil
    go_simp
    (go_at_call 99; (with_reducible refine Calls.cF (wholeC (by omega)) ?_); intros)
    refine hK.out _ _ inferInstance ?_
    clear hHeld hK K
    intro hHeld
    try simp only [Act.put, List.setIfInBounds_toArray, List.set_cons_zero, List.set_cons_succ]
    refine wpAnyH_ready (rs := [8]) (by kernel_rfl) (by simp) ?_
    refine AllReadyH.cons (by simp; rfl) (fun K hK => ?_) AllReadyH.nil
    go_simp
    (go_at_call 99; (with_reducible refine Calls.cF (wholeC (by omega)) ?_); intros)
    refine hK.out _ _ inferInstance ?_
    clear hHeld hK K
    intro hHeld
    try simp only [Act.put, List.setIfInBounds_toArray, List.set_cons_zero, List.set_cons_succ]
    refine wpAnyH_take (i := 9) (v := ?z477) (by simp; rfl) (by kernel_rfl) (by kernel_rfl) (by kernel_rfl) (by exact fun _ _ _ h => h) (Or.inl ⟨by rfl, ?yz477⟩) hHeld ?_
    case yz477 => (intro wx hSw; have hSx := Ex1.mk hSw; go_simp; (try with_reducible rfl))
    try simp only [Act.put, List.setIfInBounds_toArray, List.set_cons_zero, List.set_cons_succ]
    refine wpAnyH_ready (rs := [11]) (by kernel_rfl) (by simp) ?_
    refine AllReadyH.cons (by simp; rfl) (fun K hK => ?_) AllReadyH.nil
    go_simp
    refine hK.out _ _ inferInstance ?_
    clear hHeld hK K
    intro hHeld
    try simp only [Act.put, List.setIfInBounds_toArray, List.set_cons_zero, List.set_cons_succ]
    refine wpAnyH_done (by kernel_rfl) ?_ _
    clear hHeld
    go_wp2_with fail
    go_meet
    exact ⟨_, _, _, _, _, _, _, _, _, _, rfl, inferInstance, CF.cast inferInstance rfl (by omega), CF.cast inferInstance rfl (by omega), CF.cast inferInstance rfl (by omega), inferInstance, inferInstance⟩
  case rest =>
    obtain ⟨q, n1, d1, p1, n2, d2, p2, n3, d3, p3, rfl, i1, i2, i3, i4, i5, i6⟩ := hcut
    cases u with
    | true =>
      have HY' := Lib.hid (HY.out rfl)
      clear HY
      go_wp2_with fail
      refine region_cls (by kernel_rfl) [] (fun hHeld => ?_)
      refine wpAnyH_take (i := 0) (v := ?z478) (by simp; rfl) (by kernel_rfl) (by kernel_rfl) (by kernel_rfl) (by exact fun _ _ _ h => h) (Or.inl ⟨by rfl, ?yz478⟩) hHeld ?_
      case yz478 => (intro wx hSw; have hSx := Ex1.mk hSw; go_simp; (try with_reducible rfl))
      try simp only [Act.put, List.setIfInBounds_toArray, List.set_cons_zero, List.set_cons_succ]
      refine wpAnyH_take (i := 1) (v := ?z479) (by simp; rfl) (by kernel_rfl) (by kernel_rfl) (by kernel_rfl) (by exact fun _ _ _ h => h) (Or.inl ⟨by rfl, ?yz479⟩) hHeld ?_
      case yz479 => (intro wx hSw; have hSx := Ex1.mk hSw; go_simp; (try with_reducible rfl))
      try simp only [Act.put, List.setIfInBounds_toArray, List.set_cons_zero, List.set_cons_succ]
      refine wpAnyH_ready (rs := [2]) (by kernel_rfl) (by simp) ?_
      refine AllReadyH.cons (by simp; rfl) (fun K hK => ?_) AllReadyH.nil
      go_simp
      (go_at_call 158; (with_reducible refine Calls.cE (rZeroV HX) ?_); intros)
      refine hK.out _ _ inferInstance ?_
      clear hHeld hK K
      intro hHeld
      try simp only [Act.put, List.setIfInBounds_toArray, List.set_cons_zero, List.set_cons_succ]
      refine wpAnyH_take (i := 3) (v := ?z480) (by simp; rfl) (by kernel_rfl) (by kernel_rfl) (by kernel_rfl) (by exact fun _ _ _ h => h) (Or.inl ⟨by rfl, ?yz480⟩) hHeld ?_
      case yz480 => (intro wx hSw; have hSx := Ex1.mk hSw; go_simp; (try with_reducible rfl))
      try simp only [Act.put, List.setIfInBounds_toArray, List.set_cons_zero, List.set_cons_succ]
      refine wpAnyH_take (i := 4) (v := ?z481) (by simp; rfl) (by kernel_rfl) (by kernel_rfl) (by kernel_rfl) (by exact fun _ _ _ h => h) (Or.inl ⟨by rfl, ?yz481⟩) hHeld ?_
      case yz481 => (intro wx hSw; have hSx := Ex1.mk hSw; go_simp; (try with_reducible rfl))
      try simp only [Act.put, List.setIfInBounds_toArray, List.set_cons_zero, List.set_cons_succ]
      refine wpAnyH_take (i := 5) (v := ?z482) (by simp; rfl) (by kernel_rfl) (by kernel_rfl) (by kernel_rfl) (by exact fun _ _ _ h => h) (Or.inl ⟨by rfl, ?yz482⟩) hHeld ?_
      case yz482 => (intro wx hSw; have hSx := Ex1.mk hSw; go_simp; (try with_reducible rfl))
      try simp only [Act.put, List.setIfInBounds_toArray, List.set_cons_zero, List.set_cons_succ]
      refine wpAnyH_ready (rs := [6]) (by kernel_rfl) (by simp) ?_
      refine AllReadyH.cons (by simp; rfl) (fun K hK => ?_) AllReadyH.nil
      go_simp
      (go_at_call 158; (with_reducible refine Calls.cE (rZeroV HY') ?_); intros)
      refine hK.out _ _ inferInstance ?_
      clear hHeld hK K
      intro hHeld
      try simp only [Act.put, List.setIfInBounds_toArray, List.set_cons_zero, List.set_cons_succ]
      refine wpAnyH_take (i := 7) (v := ?z483) (by simp; rfl) (by kernel_rfl) (by kernel_rfl) (by kernel_rfl) (by exact fun _ _ _ h => h) (Or.inl ⟨by rfl, ?yz483⟩) hHeld ?_
      case yz483 => (intro wx hSw; have hSx := Ex1.mk hSw; go_simp; (try with_reducible rfl))
      try simp only [Act.put, List.setIfInBounds_toArray, List.set_cons_zero, List.set_cons_succ]
      refine wpAnyH_take (i := 8) (v := ?z484) (by simp; rfl) (by kernel_rfl) (by kernel_rfl) (by kernel_rfl) (by exact fun _ _ _ h => h) (Or.inl ⟨by rfl, ?yz484⟩) hHeld ?_
      case yz484 => (intro wx hSw; have hSx := Ex1.mk hSw; go_simp; (try with_reducible rfl))
      try simp only [Act.put, List.setIfInBounds_toArray, List.set_cons_zero, List.set_cons_succ]
      refine wpAnyH_take (i := 9) (v := ?z485) (by simp; rfl) (by kernel_rfl) (by kernel_rfl) (by kernel_rfl) (by exact fun _ _ _ h => h) (Or.inl ⟨by rfl, ?yz485⟩) hHeld ?_
      case yz485 => (intro wx hSw; have hSx := Ex1.mk hSw; go_simp; (try with_reducible rfl))
      try simp only [Act.put, List.setIfInBounds_toArray, List.set_cons_zero, List.set_cons_succ]
      refine wpAnyH_take (i := 10) (v := ?z486) (by simp; rfl) (by kernel_rfl) (by kernel_rfl) (by kernel_rfl) (by exact fun _ _ _ h => h) (Or.inl ⟨by rfl, ?yz486⟩) hHeld ?_
      case yz486 => (intro wx hSw; have hSx := Ex1.mk hSw; go_simp; (try with_reducible rfl))
      try simp only [Act.put, List.setIfInBounds_toArray, List.set_cons_zero, List.set_cons_succ]
      refine wpAnyH_take (i := 11) (v := ?z487) (by simp; rfl) (by kernel_rfl) (by kernel_rfl) (by kernel_rfl) (by exact fun _ _ _ h => h) (Or.inl ⟨by rfl, ?yz487⟩) hHeld ?_
      case yz487 => (intro wx hSw; have hSx := Ex1.mk hSw; go_simp; (try with_reducible rfl))
      try simp only [Act.put, List.setIfInBounds_toArray, List.set_cons_zero, List.set_cons_succ]
      refine wpAnyH_take (i := 12) (v := ?z488) (by simp; rfl) (by kernel_rfl) (by kernel_rfl) (by kernel_rfl) (by exact fun _ _ _ h => h) (Or.inl ⟨by rfl, ?yz488⟩) hHeld ?_
      case yz488 => (intro wx hSw; have hSx := Ex1.mk hSw; go_simp; (try with_reducible rfl))
      try simp only [Act.put, List.setIfInBounds_toArray, List.set_cons_zero, List.set_cons_succ]
      refine wpAnyH_take (i := 14) (v := ?z489) (by simp; rfl) (by kernel_rfl) (by kernel_rfl) (by kernel_rfl) (by exact fun _ _ _ h => h) (Or.inl ⟨by rfl, ?yz489⟩) hHeld ?_
      case yz489 => (intro wx hSw; have hSx := Ex1.mk hSw; go_simp; (try with_reducible rfl))
      try simp only [Act.put, List.setIfInBounds_toArray, List.set_cons_zero, List.set_cons_succ]
      refine wpAnyH_take (i := 15) (v := ?z490) (by simp; rfl) (by kernel_rfl) (by kernel_rfl) (by kernel_rfl) (by exact fun _ _ _ h => h) (Or.inl ⟨by rfl, ?yz490⟩) hHeld ?_
      case yz490 => (intro wx hSw; have hSx := Ex1.mk hSw; go_simp; (try with_reducible rfl))
      try simp only [Act.put, List.setIfInBounds_toArray, List.set_cons_zero, List.set_cons_succ]
      refine wpAnyH_ready (rs := [13]) (by kernel_rfl) (by simp) ?_
      refine AllReadyH.cons (by simp; rfl) (fun K hK => ?_) AllReadyH.nil
      go_simp
      (go_at_call 175; (with_reducible refine Calls.cF (fracGcdC (by omega)) ?_); intros)
      refine hK.out _ _ inferInstance ?_
      clear hHeld hK K
      intro hHeld
      try simp only [Act.put, List.setIfInBounds_toArray, List.set_cons_zero, List.set_cons_succ]
      refine wpAnyH_ready (rs := [16]) (by kernel_rfl) (by simp) ?_
      refine AllReadyH.cons (by simp; rfl) (fun K hK => ?_) AllReadyH.nil
      go_simp
      (go_at_call 175; (with_reducible refine Calls.cF (fracGcdC (by omega)) ?_); intros)
      refine hK.out _ _ inferInstance ?_
      clear hHeld hK K
      intro hHeld
      try simp only [Act.put, List.setIfInBounds_toArray, List.set_cons_zero, List.set_cons_succ]
      refine wpAnyH_ready (rs := [17]) (by kernel_rfl) (by simp) ?_
      refine AllReadyH.cons (by simp; rfl) (fun K hK => ?_) AllReadyH.nil
      go_simp
      (go_at_call 94; (with_reducible refine Calls.cF (fracIntC (by omega)) ?_); intros)
      refine hK.out _ _ inferInstance ?_
      clear hHeld hK K
      intro hHeld
      try simp only [Act.put, List.setIfInBounds_toArray, List.set_cons_zero, List.set_cons_succ]
      refine wpAnyH_ready (rs := [18]) (by kernel_rfl) (by simp) ?_
      refine AllReadyH.cons (by simp; rfl) (fun K hK => ?_) AllReadyH.nil
      go_simp
      (go_at_call 171; (with_reducible refine Calls.cE (rEqualV (by omega) HG) ?_); intros)
      refine hK.out _ _ inferInstance ?_
      clear hHeld hK K
      intro hHeld
      try simp only [Act.put, List.setIfInBounds_toArray, List.set_cons_zero, List.set_cons_succ]
      refine wpAnyH_take (i := 19) (v := ?z491) (by simp; rfl) (by kernel_rfl) (by kernel_rfl) (by kernel_rfl) (by exact fun _ _ _ h => h) (Or.inl ⟨by rfl, ?yz491⟩) hHeld ?_
      case yz491 => (intro wx hSw; have hSx := Ex1.mk hSw; go_simp; (try with_reducible rfl))
      try simp only [Act.put, List.setIfInBounds_toArray, List.set_cons_zero, List.set_cons_succ]
      refine wpAnyH_take (i := 20) (v := ?z492) (by simp; rfl) (by kernel_rfl) (by kernel_rfl) (by kernel_rfl) (by exact fun _ _ _ h => h) (Or.inl ⟨by rfl, ?yz492⟩) hHeld ?_
      case yz492 => (intro wx hSw; have hSx := Ex1.mk hSw; go_simp; (try with_reducible rfl))
      try simp only [Act.put, List.setIfInBounds_toArray, List.set_cons_zero, List.set_cons_succ]
      refine wpAnyH_done (by kernel_rfl) ?_ _
      clear hHeld
      go_wp2_with fail
      refine ret_bt rfl Tryz.underlying128 rfl (by kernel_rfl) rfl rfl rfl ?_
      exact LFBRet.fin rfl (by omega) rfl (by omega) rfl (by omega)
    | false =>
      clear HY
      go_wp2_with fail
      refine region_cls (by kernel_rfl) [] (fun hHeld => ?_)
      refine wpAnyH_take (i := 0) (v := ?z493) (by simp; rfl) (by kernel_rfl) (by kernel_rfl) (by kernel_rfl) (by exact fun _ _ _ h => h) (Or.inl ⟨by rfl, ?yz493⟩) hHeld ?_
      case yz493 => (intro wx hSw; have hSx := Ex1.mk hSw; go_simp; (try with_reducible rfl))
      try simp only [Act.put, List.setIfInBounds_toArray, List.set_cons_zero, List.set_cons_succ]
      refine wpAnyH_take (i := 1) (v := ?z494) (by simp; rfl) (by kernel_rfl) (by kernel_rfl) (by kernel_rfl) (by exact fun _ _ _ h => h) (Or.inl ⟨by rfl, ?yz494⟩) hHeld ?_
      case yz494 => (intro wx hSw; have hSx := Ex1.mk hSw; go_simp; (try with_reducible rfl))
      try simp only [Act.put, List.setIfInBounds_toArray, List.set_cons_zero, List.set_cons_succ]
      refine wpAnyH_ready (rs := [2]) (by kernel_rfl) (by simp) ?_
      refine AllReadyH.cons (by simp; rfl) (fun K hK => ?_) AllReadyH.nil
      go_simp
      (go_at_call 158; (with_reducible refine Calls.cE (rZeroV HX) ?_); intros)
      refine hK.out _ _ inferInstance ?_
      clear hHeld hK K
      intro hHeld
      try simp only [Act.put, List.setIfInBounds_toArray, List.set_cons_zero, List.set_cons_succ]
      refine wpAnyH_take (i := 3) (v := ?z495) (by simp; rfl) (by kernel_rfl) (by kernel_rfl) (by kernel_rfl) (by exact fun _ _ _ h => h) (Or.inl ⟨by rfl, ?yz495⟩) hHeld ?_
      case yz495 => (intro wx hSw; have hSx := Ex1.mk hSw; go_simp; (try with_reducible rfl))
      try simp only [Act.put, List.setIfInBounds_toArray, List.set_cons_zero, List.set_cons_succ]
      refine wpAnyH_take (i := 4) (v := undef) (by simp; rfl) (by kernel_rfl) (by kernel_rfl) (by kernel_rfl) (by exact fun _ _ _ h => h) (Or.inr ⟨by rfl, rfl⟩) hHeld ?_
      try simp only [Act.put, List.setIfInBounds_toArray, List.set_cons_zero, List.set_cons_succ]
      refine wpAnyH_take (i := 5) (v := undef) (by simp; rfl) (by kernel_rfl) (by kernel_rfl) (by kernel_rfl) (by exact fun _ _ _ h => h) (Or.inr ⟨by rfl, rfl⟩) hHeld ?_
      try simp only [Act.put, List.setIfInBounds_toArray, List.set_cons_zero, List.set_cons_succ]
      refine wpAnyH_take (i := 6) (v := undef) (by simp; rfl) (by kernel_rfl) (by kernel_rfl) (by kernel_rfl) (by exact fun _ _ _ h => h) (Or.inr ⟨by rfl, rfl⟩) hHeld ?_
      try simp only [Act.put, List.setIfInBounds_toArray, List.set_cons_zero, List.set_cons_succ]
      refine wpAnyH_take (i := 7) (v := ?z499) (by simp; rfl) (by kernel_rfl) (by kernel_rfl) (by kernel_rfl) (by exact fun _ _ _ h => h) (Or.inl ⟨by rfl, ?yz499⟩) hHeld ?_
      case yz499 => (intro wx hSw; have hSx := Ex1.mk hSw; go_simp; (try with_reducible rfl))
      try simp only [Act.put, List.setIfInBounds_toArray, List.set_cons_zero, List.set_cons_succ]
      refine wpAnyH_take (i := 8) (v := ?z500) (by simp; rfl) (by kernel_rfl) (by kernel_rfl) (by kernel_rfl) (by exact fun _ _ _ h => h) (Or.inl ⟨by rfl, ?yz500⟩) hHeld ?_
      case yz500 => (intro wx hSw; have hSx := Ex1.mk hSw; go_simp; (try with_reducible rfl))
      try simp only [Act.put, List.setIfInBounds_toArray, List.set_cons_zero, List.set_cons_succ]
      refine wpAnyH_take (i := 9) (v := ?z501) (by simp; rfl) (by kernel_rfl) (by kernel_rfl) (by kernel_rfl) (by exact fun _ _ _ h => h) (Or.inl ⟨by rfl, ?yz501⟩) hHeld ?_
      case yz501 => (intro wx hSw; have hSx := Ex1.mk hSw; go_simp; (try with_reducible rfl))
      try simp only [Act.put, List.setIfInBounds_toArray, List.set_cons_zero, List.set_cons_succ]
      refine wpAnyH_take (i := 10) (v := ?z502) (by simp; rfl) (by kernel_rfl) (by kernel_rfl) (by kernel_rfl) (by exact fun _ _ _ h => h) (Or.inl ⟨by rfl, ?yz502⟩) hHeld ?_
      case yz502 => (intro wx hSw; have hSx := Ex1.mk hSw; go_simp; (try with_reducible rfl))
      try simp only [Act.put, List.setIfInBounds_toArray, List.set_cons_zero, List.set_cons_succ]
      refine wpAnyH_take (i := 11) (v := ?z503) (by simp; rfl) (by kernel_rfl) (by kernel_rfl) (by kernel_rfl) (by exact fun _ _ _ h => h) (Or.inl ⟨by rfl, ?yz503⟩) hHeld ?_
      case yz503 => (intro wx hSw; have hSx := Ex1.mk hSw; go_simp; (try with_reducible rfl))
      try simp only [Act.put, List.setIfInBounds_toArray, List.set_cons_zero, List.set_cons_succ]
      refine wpAnyH_take (i := 12) (v := ?z504) (by simp; rfl) (by kernel_rfl) (by kernel_rfl) (by kernel_rfl) (by exact fun _ _ _ h => h) (Or.inl ⟨by rfl, ?yz504⟩) hHeld ?_
      case yz504 => (intro wx hSw; have hSx := Ex1.mk hSw; go_simp; (try with_reducible rfl))
      try simp only [Act.put, List.setIfInBounds_toArray, List.set_cons_zero, List.set_cons_succ]
      refine wpAnyH_take (i := 14) (v := ?z505) (by simp; rfl) (by kernel_rfl) (by kernel_rfl) (by kernel_rfl) (by exact fun _ _ _ h => h) (Or.inl ⟨by rfl, ?yz505⟩) hHeld ?_
      case yz505 => (intro wx hSw; have hSx := Ex1.mk hSw; go_simp; (try with_reducible rfl))
      try simp only [Act.put, List.setIfInBounds_toArray, List.set_cons_zero, List.set_cons_succ]
      refine wpAnyH_take (i := 15) (v := ?z506) (by simp; rfl) (by kernel_rfl) (by kernel_rfl) (by kernel_rfl) (by exact fun _ _ _ h => h) (Or.inl ⟨by rfl, ?yz506⟩) hHeld ?_
      case yz506 => (intro wx hSw; have hSx := Ex1.mk hSw; go_simp; (try with_reducible rfl))
      try simp only [Act.put, List.setIfInBounds_toArray, List.set_cons_zero, List.set_cons_succ]
      refine wpAnyH_ready (rs := [13]) (by kernel_rfl) (by simp) ?_
      refine AllReadyH.cons (by simp; rfl) (fun K hK => ?_) AllReadyH.nil
      go_simp
      (go_at_call 175; (with_reducible refine Calls.cF (fracGcdC (by omega)) ?_); intros)
      refine hK.out _ _ inferInstance ?_
      clear hHeld hK K
      intro hHeld
      try simp only [Act.put, List.setIfInBounds_toArray, List.set_cons_zero, List.set_cons_succ]
      refine wpAnyH_ready (rs := [16]) (by kernel_rfl) (by simp) ?_
      refine AllReadyH.cons (by simp; rfl) (fun K hK => ?_) AllReadyH.nil
      go_simp
      (go_at_call 175; (with_reducible refine Calls.cF (fracGcdC (by omega)) ?_); intros)
      refine hK.out _ _ inferInstance ?_
      clear hHeld hK K
      intro hHeld
      try simp only [Act.put, List.setIfInBounds_toArray, List.set_cons_zero, List.set_cons_succ]
      refine wpAnyH_ready (rs := [17]) (by kernel_rfl) (by simp) ?_
      refine AllReadyH.cons (by simp; rfl) (fun K hK => ?_) AllReadyH.nil
      go_simp
      (go_at_call 94; (with_reducible refine Calls.cF (fracIntC (by omega)) ?_); intros)
      refine hK.out _ _ inferInstance ?_
      clear hHeld hK K
      intro hHeld
      try simp only [Act.put, List.setIfInBounds_toArray, List.set_cons_zero, List.set_cons_succ]
      refine wpAnyH_ready (rs := [18]) (by kernel_rfl) (by simp) ?_
      refine AllReadyH.cons (by simp; rfl) (fun K hK => ?_) AllReadyH.nil
      go_simp
      (go_at_call 171; (with_reducible refine Calls.cE (rEqualV (by omega) HG) ?_); intros)
      refine hK.out _ _ inferInstance ?_
      clear hHeld hK K
      intro hHeld
      try simp only [Act.put, List.setIfInBounds_toArray, List.set_cons_zero, List.set_cons_succ]
      refine wpAnyH_take (i := 19) (v := ?z507) (by simp; rfl) (by kernel_rfl) (by kernel_rfl) (by kernel_rfl) (by exact fun _ _ _ h => h) (Or.inl ⟨by rfl, ?yz507⟩) hHeld ?_
      case yz507 => (intro wx hSw; have hSx := Ex1.mk hSw; go_simp; (try with_reducible rfl))
      try simp only [Act.put, List.setIfInBounds_toArray, List.set_cons_zero, List.set_cons_succ]
      refine wpAnyH_take (i := 20) (v := ?z508) (by simp; rfl) (by kernel_rfl) (by kernel_rfl) (by kernel_rfl) (by exact fun _ _ _ h => h) (Or.inl ⟨by rfl, ?yz508⟩) hHeld ?_
      case yz508 => (intro wx hSw; have hSx := Ex1.mk hSw; go_simp; (try with_reducible rfl))
      try simp only [Act.put, List.setIfInBounds_toArray, List.set_cons_zero, List.set_cons_succ]
      refine wpAnyH_done (by kernel_rfl) ?_ _
      clear hHeld
      go_wp2_with fail
      refine ret_bt rfl Tryz.underlying128 rfl (by kernel_rfl) rfl rfl rfl ?_
      exact LFBRet.fin rfl (by omega) rfl (by omega) rfl (by omega)

set_option maxRecDepth 100000 in
set_option maxHeartbeats 4000000 in
set_option synthInstance.maxSize 100000 in
set_option synthInstance.maxHeartbeats 1000000 in
theorem lnApiC {w : World} {n1x : Int} {d1x : Int} {p1x : Option Addr} {n1y : Int} {d1y : Int} {p1y : Option Addr} {n1z : Int} {d1z : Int} {p1z : Option Addr} {la lb lc : Rat} {k1x k1y k1z : Nat} [h1x : CF w (.agg #[.int .i64 n1x, .int .i64 d1x, .pointer p1x]) la k1x] [h1y : CF w (.agg #[.int .i64 n1y, .int .i64 d1y, .pointer p1y]) lb k1y] [h1z : CF w (.agg #[.int .i64 n1z, .int .i64 d1z, .pointer p1z]) lc k1z] (b : k1x ≤ 300000 ∧ k1y ≤ 300000 ∧ k1z ≤ 300000) :
    Calls Tryz.prog 154 #[.agg #[.int .i64 n1x, .int .i64 d1x, .pointer p1x, .int .i64 n1y, .int .i64 d1y, .pointer p1y, .int .i64 n1z, .int .i64 d1z, .pointer p1z]] w (CLZRet w (la.num) (lb.num) (lc.num) (max k1x (max k1y k1z))) := by
  go_enter Tryz.func154, Tryz.ntmps154
  go_wp2_with fail
  refine region_cls (by kernel_rfl) [w.heap.size + 1] (fun hHeld => ?_)
  refine wpAnyH_take (i := 0) (v := ?z509) (by simp; rfl) (by kernel_rfl) (by kernel_rfl) (by kernel_rfl) (by exact fun _ _ _ h => h) (Or.inl ⟨by rfl, ?yz509⟩) hHeld ?_
  case yz509 => (intro wx hSw; have hSx := Ex1.mk hSw; go_simp; (try with_reducible rfl))
  try simp only [Act.put, List.setIfInBounds_toArray, List.set_cons_zero, List.set_cons_succ]
  refine wpAnyH_take (i := 1) (v := ?z510) (by simp; rfl) (by kernel_rfl) (by kernel_rfl) (by kernel_rfl) (by exact fun _ _ _ h => h) (Or.inl ⟨by rfl, ?yz510⟩) hHeld ?_
  case yz510 => (intro wx hSw; have hSx := Ex1.mk hSw; go_simp; (try with_reducible rfl))
  try simp only [Act.put, List.setIfInBounds_toArray, List.set_cons_zero, List.set_cons_succ]
  refine wpAnyH_take (i := 3) (v := ?z511) (by simp; rfl) (by kernel_rfl) (by kernel_rfl) (by kernel_rfl) (by exact fun _ _ _ h => h) (Or.inl ⟨by rfl, ?yz511⟩) hHeld ?_
  case yz511 => (intro wx hSw; have hSx := Ex1.mk hSw; go_simp; (try with_reducible rfl))
  try simp only [Act.put, List.setIfInBounds_toArray, List.set_cons_zero, List.set_cons_succ]
  refine wpAnyH_take (i := 4) (v := ?z512) (by simp; rfl) (by kernel_rfl) (by kernel_rfl) (by kernel_rfl) (by exact fun _ _ _ h => h) (Or.inl ⟨by rfl, ?yz512⟩) hHeld ?_
  case yz512 => (intro wx hSw; have hSx := Ex1.mk hSw; go_simp; (try with_reducible rfl))
  try simp only [Act.put, List.setIfInBounds_toArray, List.set_cons_zero, List.set_cons_succ]
  refine wpAnyH_take (i := 6) (v := ?z513) (by simp; rfl) (by kernel_rfl) (by kernel_rfl) (by kernel_rfl) (by exact fun _ _ _ h => h) (Or.inl ⟨by rfl, ?yz513⟩) hHeld ?_
  case yz513 => (intro wx hSw; have hSx := Ex1.mk hSw; go_simp; (try with_reducible rfl))
  try simp only [Act.put, List.setIfInBounds_toArray, List.set_cons_zero, List.set_cons_succ]
  refine wpAnyH_take (i := 7) (v := ?z514) (by simp; rfl) (by kernel_rfl) (by kernel_rfl) (by kernel_rfl) (by exact fun _ _ _ h => h) (Or.inl ⟨by rfl, ?yz514⟩) hHeld ?_
  case yz514 => (intro wx hSw; have hSx := Ex1.mk hSw; go_simp; (try with_reducible rfl))
  try simp only [Act.put, List.setIfInBounds_toArray, List.set_cons_zero, List.set_cons_succ]
  refine wpAnyH_ready (rs := [2]) (by kernel_rfl) (by simp) ?_
  refine AllReadyH.cons (by simp; rfl) (fun K hK => ?_) AllReadyH.nil
  go_simp
  (go_at_call 192; (with_reducible refine Calls.cZ (rNumC (by omega)) ?_); intros)
  refine hK.out _ _ inferInstance ?_
  clear hHeld hK K
  intro hHeld
  try simp only [Act.put, List.setIfInBounds_toArray, List.set_cons_zero, List.set_cons_succ]
  refine wpAnyH_ready (rs := [5]) (by kernel_rfl) (by simp) ?_
  refine AllReadyH.cons (by simp; rfl) (fun K hK => ?_) AllReadyH.nil
  go_simp
  (go_at_call 192; (with_reducible refine Calls.cZ (rNumC (by omega)) ?_); intros)
  refine hK.out _ _ inferInstance ?_
  clear hHeld hK K
  intro hHeld
  try simp only [Act.put, List.setIfInBounds_toArray, List.set_cons_zero, List.set_cons_succ]
  refine wpAnyH_ready (rs := [8]) (by kernel_rfl) (by simp) ?_
  refine AllReadyH.cons (by simp; rfl) (fun K hK => ?_) AllReadyH.nil
  go_simp
  (go_at_call 192; (with_reducible refine Calls.cZ (rNumC (by omega)) ?_); intros)
  refine hK.out _ _ inferInstance ?_
  clear hHeld hK K
  intro hHeld
  try simp only [Act.put, List.setIfInBounds_toArray, List.set_cons_zero, List.set_cons_succ]
  refine wpAnyH_take (i := 9) (v := ?z515) (by simp; rfl) (by kernel_rfl) (by kernel_rfl) (by kernel_rfl) (by exact fun _ _ _ h => h) (Or.inl ⟨by rfl, ?yz515⟩) hHeld ?_
  case yz515 => (intro wx hSw; have hSx := Ex1.mk hSw; go_simp; (try with_reducible rfl))
  try simp only [Act.put, List.setIfInBounds_toArray, List.set_cons_zero, List.set_cons_succ]
  refine wpAnyH_ready (rs := [10]) (by kernel_rfl) (by simp) ?_
  refine AllReadyH.cons (by simp; rfl) (fun K hK => ?_) AllReadyH.nil
  go_simp
  refine hK.out _ _ inferInstance ?_
  clear hHeld hK K
  intro hHeld
  try simp only [Act.put, List.setIfInBounds_toArray, List.set_cons_zero, List.set_cons_succ]
  refine wpAnyH_done (by kernel_rfl) ?_ _
  clear hHeld
  go_wp2
  refine ret_bx rfl Tryz.underlying51 rfl (by kernel_rfl) rfl rfl rfl ?_
  exact CLZRet.fin rfl (by omega) rfl (by omega) rfl (by omega)

set_option maxRecDepth 100000 in
set_option maxHeartbeats 4000000 in
set_option synthInstance.maxSize 100000 in
set_option synthInstance.maxHeartbeats 1000000 in
theorem clValueC {w : World} {n1x : Int} {d1x : Int} {p1x : Option Addr} {n1y : Int} {d1y : Int} {p1y : Option Addr} {n1z : Int} {d1z : Int} {p1z : Option Addr} {la lb lc : Rat} {g2x : Bool} {a2x : Option Addr} {l2x : Nat} {c2x : Nat} {aa2x : Option Addr} {ll2x : Nat} {cc2x : Nat} {g2y : Bool} {a2y : Option Addr} {l2y : Nat} {c2y : Nat} {aa2y : Option Addr} {ll2y : Nat} {cc2y : Nat} {x y : Rat} {k1x k1y k1z k2x k2y : Nat} [h1x : CF w (.agg #[.int .i64 n1x, .int .i64 d1x, .pointer p1x]) la k1x] [h1y : CF w (.agg #[.int .i64 n1y, .int .i64 d1y, .pointer p1y]) lb k1y] [h1z : CF w (.agg #[.int .i64 n1z, .int .i64 d1z, .pointer p1z]) lc k1z] [h2x : CW w (.agg #[.bool g2x, .slice a2x l2x c2x, .slice aa2x ll2x cc2x]) x k2x] [h2y : CW w (.agg #[.bool g2y, .slice a2y l2y c2y, .slice aa2y ll2y cc2y]) y k2y] {q : Nat} [hq : Bx w q 29 [.bool g2x, .slice a2x l2x c2x, .slice aa2x ll2x cc2x, .bool g2y, .slice a2y l2y c2y, .slice aa2y ll2y cc2y]] (b : k1x ≤ 6200 ∧ k1y ≤ 6200 ∧ k1z ≤ 6200 ∧ k2x ≤ 6200 ∧ k2y ≤ 6200) :
    Calls Tryz.prog 133 #[.agg #[.int .i64 n1x, .int .i64 d1x, .pointer p1x, .int .i64 n1y, .int .i64 d1y, .pointer p1y, .int .i64 n1z, .int .i64 d1z, .pointer p1z], .pointer (some ⟨q, 0, none⟩)] w (CARet w (la * x + lb * y + lc) (8 * (k1x + k1y + k1z + k2x + k2y) + 100)) := by
  go_enter Tryz.func133, Tryz.ntmps133
  go_wp2_with fail
  refine region_cls (by kernel_rfl) [w.heap.size + 1] (fun hHeld => ?_)
  refine wpAnyH_take (i := 0) (v := ?z516) (by simp; rfl) (by kernel_rfl) (by kernel_rfl) (by kernel_rfl) (by exact fun _ _ _ h => h) (Or.inl ⟨by rfl, ?yz516⟩) hHeld ?_
  case yz516 => (intro wx hSw; have hSx := Ex1.mk hSw; go_simp; (try with_reducible rfl))
  try simp only [Act.put, List.setIfInBounds_toArray, List.set_cons_zero, List.set_cons_succ]
  refine wpAnyH_take (i := 1) (v := ?z517) (by simp; rfl) (by kernel_rfl) (by kernel_rfl) (by kernel_rfl) (by exact fun _ _ _ h => h) (Or.inl ⟨by rfl, ?yz517⟩) hHeld ?_
  case yz517 => (intro wx hSw; have hSx := Ex1.mk hSw; go_simp; (try with_reducible rfl))
  try simp only [Act.put, List.setIfInBounds_toArray, List.set_cons_zero, List.set_cons_succ]
  refine wpAnyH_ready (rs := [2]) (by kernel_rfl) (by simp) ?_
  refine AllReadyH.cons (by simp; rfl) (fun K hK => ?_) AllReadyH.nil
  go_simp
  (go_at_call 89; (with_reducible refine Calls.cPF (ptOfC (by omega)) ?_); intros)
  refine hK.out _ _ inferInstance ?_
  clear hHeld hK K
  intro hHeld
  try simp only [Act.put, List.setIfInBounds_toArray, List.set_cons_zero, List.set_cons_succ]
  refine wpAnyH_ready (rs := [3]) (by kernel_rfl) (by simp) ?_
  refine AllReadyH.cons (by simp; rfl) (fun K hK => ?_) AllReadyH.nil
  go_simp
  (go_at_call 134; (with_reducible refine Calls.cF (lnValueC (by omega)) ?_); intros)
  refine hK.out _ _ inferInstance ?_
  clear hHeld hK K
  intro hHeld
  try simp only [Act.put, List.setIfInBounds_toArray, List.set_cons_zero, List.set_cons_succ]
  refine wpAnyH_ready (rs := [4]) (by kernel_rfl) (by simp) ?_
  refine AllReadyH.cons (by simp; rfl) (fun K hK => ?_) AllReadyH.nil
  go_simp
  (go_at_call 122; (with_reducible refine Calls.cA (rApiC (by omega)) ?_); intros)
  refine hK.out _ _ inferInstance ?_
  clear hHeld hK K
  intro hHeld
  try simp only [Act.put, List.setIfInBounds_toArray, List.set_cons_zero, List.set_cons_succ]
  refine wpAnyH_ready (rs := [5]) (by kernel_rfl) (by simp) ?_
  refine AllReadyH.cons (by simp; rfl) (fun K hK => ?_) AllReadyH.nil
  go_simp
  refine hK.out _ _ inferInstance ?_
  clear hHeld hK K
  intro hHeld
  try simp only [Act.put, List.setIfInBounds_toArray, List.set_cons_zero, List.set_cons_succ]
  refine wpAnyH_done (by kernel_rfl) ?_ _
  clear hHeld
  go_wp2
  refine ret_bx rfl Tryz.underlying27 rfl (by kernel_rfl) rfl rfl rfl ?_
  exact CARet.fin rfl (by omega)

set_option maxRecDepth 100000 in
set_option maxHeartbeats 4000000 in
set_option synthInstance.maxSize 100000 in
set_option synthInstance.maxHeartbeats 1000000 in
theorem ofValueC {w : World} {g1x : Bool} {a1x : Option Addr} {l1x : Nat} {c1x : Nat} {g1y : Bool} {a1y : Option Addr} {l1y : Nat} {c1y : Nat} {g1z : Bool} {a1z : Option Addr} {l1z : Nat} {c1z : Nat} {la lb lc : Int} {g2x : Bool} {a2x : Option Addr} {l2x : Nat} {c2x : Nat} {aa2x : Option Addr} {ll2x : Nat} {cc2x : Nat} {g2y : Bool} {a2y : Option Addr} {l2y : Nat} {c2y : Nat} {aa2y : Option Addr} {ll2y : Nat} {cc2y : Nat} {x y : Rat} {k1x k1y k1z k2x k2y : Nat} [h1x : CZ w (.agg #[.bool g1x, .slice a1x l1x c1x]) la k1x] [h1y : CZ w (.agg #[.bool g1y, .slice a1y l1y c1y]) lb k1y] [h1z : CZ w (.agg #[.bool g1z, .slice a1z l1z c1z]) lc k1z] [h2x : CW w (.agg #[.bool g2x, .slice a2x l2x c2x, .slice aa2x ll2x cc2x]) x k2x] [h2y : CW w (.agg #[.bool g2y, .slice a2y l2y c2y, .slice aa2y ll2y cc2y]) y k2y] {q : Nat} [hq : Bx w q 29 [.bool g2x, .slice a2x l2x c2x, .slice aa2x ll2x cc2x, .bool g2y, .slice a2y l2y c2y, .slice aa2y ll2y cc2y]] (b : k1x ≤ 6000 ∧ k1y ≤ 6000 ∧ k1z ≤ 6000 ∧ k2x ≤ 6000 ∧ k2y ≤ 6000) (hv : Hid (LnV la lb lc)) :
    Calls Tryz.prog 132 #[.agg #[.bool g1x, .slice a1x l1x c1x, .bool g1y, .slice a1y l1y c1y, .bool g1z, .slice a1z l1z c1z], .func (.func 133) #[] #[.pointer (some ⟨q, 0, none⟩)]] w (CARet w (((la : Int) : Rat) * x + ((lb : Int) : Rat) * y + ((lc : Int) : Rat)) (24 * (k1x + k1y + k1z + k2x + k2y) + 200)) := by
  go_enter Tryz.func132, Tryz.ntmps132
  go_wp2_with (first
    | (go_at_call 149; (with_reducible refine Calls.cLFB (lnOfC (by omega) hv) ?_); intros)
    | (go_at_call 133; (with_reducible refine Calls.cA (clValueC (by omega)) ?_); intros))
  refine ret_bx rfl Tryz.underlying27 rfl (by kernel_rfl) rfl rfl rfl ?_
  exact CARet.fin rfl (by omega)

set_option maxRecDepth 100000 in
set_option maxHeartbeats 4000000 in
set_option synthInstance.maxSize 100000 in
set_option synthInstance.maxHeartbeats 1000000 in
theorem lineValueC {w : World} {g1x : Bool} {a1x : Option Addr} {l1x : Nat} {c1x : Nat} {g1y : Bool} {a1y : Option Addr} {l1y : Nat} {c1y : Nat} {g1z : Bool} {a1z : Option Addr} {l1z : Nat} {c1z : Nat} {la lb lc : Int} {g2x : Bool} {a2x : Option Addr} {l2x : Nat} {c2x : Nat} {aa2x : Option Addr} {ll2x : Nat} {cc2x : Nat} {g2y : Bool} {a2y : Option Addr} {l2y : Nat} {c2y : Nat} {aa2y : Option Addr} {ll2y : Nat} {cc2y : Nat} {x y : Rat} {k1x k1y k1z k2x k2y : Nat} [h1x : CZ w (.agg #[.bool g1x, .slice a1x l1x c1x]) la k1x] [h1y : CZ w (.agg #[.bool g1y, .slice a1y l1y c1y]) lb k1y] [h1z : CZ w (.agg #[.bool g1z, .slice a1z l1z c1z]) lc k1z] [h2x : CW w (.agg #[.bool g2x, .slice a2x l2x c2x, .slice aa2x ll2x cc2x]) x k2x] [h2y : CW w (.agg #[.bool g2y, .slice a2y l2y c2y, .slice aa2y ll2y cc2y]) y k2y] (b : k1x ≤ 6000 ∧ k1y ≤ 6000 ∧ k1z ≤ 6000 ∧ k2x ≤ 6000 ∧ k2y ≤ 6000) (hv : Hid (LnV la lb lc)) :
    Calls Tryz.prog 58 #[.agg #[.bool g1x, .slice a1x l1x c1x, .bool g1y, .slice a1y l1y c1y, .bool g1z, .slice a1z l1z c1z], .agg #[.bool g2x, .slice a2x l2x c2x, .slice aa2x ll2x cc2x, .bool g2y, .slice a2y l2y c2y, .slice aa2y ll2y cc2y]] w (CARet w (((la : Int) : Rat) * x + ((lb : Int) : Rat) * y + ((lc : Int) : Rat)) (24 * (k1x + k1y + k1z + k2x + k2y) + 200)) := by
  have hmf : ∀ (fn : Fn) (first cap : Array Value) (W : World), (Instr.makeFunc fn first cap).run Tryz.prog W = .ok (.func fn first cap) W := fun _ _ _ _ => rfl
  go_enter Tryz.func58, Tryz.ntmps58
  go_wp2_with (go_at_call 132; (with_reducible refine Calls.cA (ofValueC (by omega) hv) ?_); intros)
  refine ret_bx rfl Tryz.underlying27 rfl (by kernel_rfl) rfl rfl rfl ?_
  exact CARet.fin rfl (by omega)

set_option maxRecDepth 100000 in
set_option maxHeartbeats 4000000 in
set_option synthInstance.maxSize 100000 in
set_option synthInstance.maxHeartbeats 1000000 in
theorem clSideC {w : World} {n1x : Int} {d1x : Int} {p1x : Option Addr} {n1y : Int} {d1y : Int} {p1y : Option Addr} {n1z : Int} {d1z : Int} {p1z : Option Addr} {la lb lc : Rat} {g2x : Bool} {a2x : Option Addr} {l2x : Nat} {c2x : Nat} {aa2x : Option Addr} {ll2x : Nat} {cc2x : Nat} {g2y : Bool} {a2y : Option Addr} {l2y : Nat} {c2y : Nat} {aa2y : Option Addr} {ll2y : Nat} {cc2y : Nat} {x y : Rat} {k1x k1y k1z k2x k2y : Nat} [h1x : CF w (.agg #[.int .i64 n1x, .int .i64 d1x, .pointer p1x]) la k1x] [h1y : CF w (.agg #[.int .i64 n1y, .int .i64 d1y, .pointer p1y]) lb k1y] [h1z : CF w (.agg #[.int .i64 n1z, .int .i64 d1z, .pointer p1z]) lc k1z] [h2x : CW w (.agg #[.bool g2x, .slice a2x l2x c2x, .slice aa2x ll2x cc2x]) x k2x] [h2y : CW w (.agg #[.bool g2y, .slice a2y l2y c2y, .slice aa2y ll2y cc2y]) y k2y] {q : Nat} [hq : Bx w q 29 [.bool g2x, .slice a2x l2x c2x, .slice aa2x ll2x cc2x, .bool g2y, .slice a2y l2y c2y, .slice aa2y ll2y cc2y]] (b : k1x ≤ 6200 ∧ k1y ≤ 6200 ∧ k1z ≤ 6200 ∧ k2x ≤ 6200 ∧ k2y ≤ 6200) :
    Calls Tryz.prog 137 #[.agg #[.int .i64 n1x, .int .i64 d1x, .pointer p1x, .int .i64 n1y, .int .i64 d1y, .pointer p1y, .int .i64 n1z, .int .i64 d1z, .pointer p1z], .pointer (some ⟨q, 0, none⟩)] w (fun e w' => e = .returned (.int .i64 (isgn (la * x + lb * y + lc).num)) ∧ Below w.heap.size w w') := by
  go_enter Tryz.func137, Tryz.ntmps137
  go_wp2_with fail
  refine region_cls (by kernel_rfl) [] (fun hHeld => ?_)
  refine wpAnyH_take (i := 0) (v := ?z518) (by simp; rfl) (by kernel_rfl) (by kernel_rfl) (by kernel_rfl) (by exact fun _ _ _ h => h) (Or.inl ⟨by rfl, ?yz518⟩) hHeld ?_
  case yz518 => (intro wx hSw; have hSx := Ex1.mk hSw; go_simp; (try with_reducible rfl))
  try simp only [Act.put, List.setIfInBounds_toArray, List.set_cons_zero, List.set_cons_succ]
  refine wpAnyH_take (i := 1) (v := ?z519) (by simp; rfl) (by kernel_rfl) (by kernel_rfl) (by kernel_rfl) (by exact fun _ _ _ h => h) (Or.inl ⟨by rfl, ?yz519⟩) hHeld ?_
  case yz519 => (intro wx hSw; have hSx := Ex1.mk hSw; go_simp; (try with_reducible rfl))
  try simp only [Act.put, List.setIfInBounds_toArray, List.set_cons_zero, List.set_cons_succ]
  refine wpAnyH_ready (rs := [2]) (by kernel_rfl) (by simp) ?_
  refine AllReadyH.cons (by simp; rfl) (fun K hK => ?_) AllReadyH.nil
  go_simp
  (go_at_call 89; (with_reducible refine Calls.cPF (ptOfC (by omega)) ?_); intros)
  refine hK.out _ _ inferInstance ?_
  clear hHeld hK K
  intro hHeld
  try simp only [Act.put, List.setIfInBounds_toArray, List.set_cons_zero, List.set_cons_succ]
  refine wpAnyH_ready (rs := [3]) (by kernel_rfl) (by simp) ?_
  refine AllReadyH.cons (by simp; rfl) (fun K hK => ?_) AllReadyH.nil
  go_simp
  (go_at_call 138; (with_reducible refine Calls.cE (lnSideC (by omega)) ?_); intros)
  refine hK.out _ _ inferInstance ?_
  clear hHeld hK K
  intro hHeld
  try simp only [Act.put, List.setIfInBounds_toArray, List.set_cons_zero, List.set_cons_succ]
  refine wpAnyH_take (i := 4) (v := ?z520) (by simp; rfl) (by kernel_rfl) (by kernel_rfl) (by kernel_rfl) (by exact fun _ _ _ h => h) (Or.inl ⟨by rfl, ?yz520⟩) hHeld ?_
  case yz520 => (intro wx hSw; have hSx := Ex1.mk hSw; go_simp; (try with_reducible rfl))
  try simp only [Act.put, List.setIfInBounds_toArray, List.set_cons_zero, List.set_cons_succ]
  refine wpAnyH_done (by kernel_rfl) ?_ _
  clear hHeld
  go_wp2
  go_ret
  exact E.fin rfl

set_option maxRecDepth 100000 in
set_option maxHeartbeats 4000000 in
set_option synthInstance.maxSize 100000 in
set_option synthInstance.maxHeartbeats 1000000 in
theorem ofSideC {w : World} {g1x : Bool} {a1x : Option Addr} {l1x : Nat} {c1x : Nat} {g1y : Bool} {a1y : Option Addr} {l1y : Nat} {c1y : Nat} {g1z : Bool} {a1z : Option Addr} {l1z : Nat} {c1z : Nat} {la lb lc : Int} {g2x : Bool} {a2x : Option Addr} {l2x : Nat} {c2x : Nat} {aa2x : Option Addr} {ll2x : Nat} {cc2x : Nat} {g2y : Bool} {a2y : Option Addr} {l2y : Nat} {c2y : Nat} {aa2y : Option Addr} {ll2y : Nat} {cc2y : Nat} {x y : Rat} {k1x k1y k1z k2x k2y : Nat} [h1x : CZ w (.agg #[.bool g1x, .slice a1x l1x c1x]) la k1x] [h1y : CZ w (.agg #[.bool g1y, .slice a1y l1y c1y]) lb k1y] [h1z : CZ w (.agg #[.bool g1z, .slice a1z l1z c1z]) lc k1z] [h2x : CW w (.agg #[.bool g2x, .slice a2x l2x c2x, .slice aa2x ll2x cc2x]) x k2x] [h2y : CW w (.agg #[.bool g2y, .slice a2y l2y c2y, .slice aa2y ll2y cc2y]) y k2y] {q : Nat} [hq : Bx w q 29 [.bool g2x, .slice a2x l2x c2x, .slice aa2x ll2x cc2x, .bool g2y, .slice a2y l2y c2y, .slice aa2y ll2y cc2y]] (b : k1x ≤ 6000 ∧ k1y ≤ 6000 ∧ k1z ≤ 6000 ∧ k2x ≤ 6000 ∧ k2y ≤ 6000) (hv : Hid (LnV la lb lc)) :
    Calls Tryz.prog 136 #[.agg #[.bool g1x, .slice a1x l1x c1x, .bool g1y, .slice a1y l1y c1y, .bool g1z, .slice a1z l1z c1z], .func (.func 137) #[] #[.pointer (some ⟨q, 0, none⟩)]] w (fun e w' => e = .returned (.int .i64 (isgn (((la : Int) : Rat) * x + ((lb : Int) : Rat) * y + ((lc : Int) : Rat)).num)) ∧ Below w.heap.size w w') := by
  go_enter Tryz.func136, Tryz.ntmps136
  go_wp2_with (first
    | (go_at_call 149; (with_reducible refine Calls.cLFB (lnOfC (by omega) hv) ?_); intros)
    | (go_at_call 137; (with_reducible refine Calls.cE (clSideC (by omega)) ?_); intros))
  go_ret
  exact E.fin rfl

set_option maxRecDepth 100000 in
set_option maxHeartbeats 4000000 in
set_option synthInstance.maxSize 100000 in
set_option synthInstance.maxHeartbeats 1000000 in
theorem lineSideC {w : World} {g1x : Bool} {a1x : Option Addr} {l1x : Nat} {c1x : Nat} {g1y : Bool} {a1y : Option Addr} {l1y : Nat} {c1y : Nat} {g1z : Bool} {a1z : Option Addr} {l1z : Nat} {c1z : Nat} {la lb lc : Int} {g2x : Bool} {a2x : Option Addr} {l2x : Nat} {c2x : Nat} {aa2x : Option Addr} {ll2x : Nat} {cc2x : Nat} {g2y : Bool} {a2y : Option Addr} {l2y : Nat} {c2y : Nat} {aa2y : Option Addr} {ll2y : Nat} {cc2y : Nat} {x y : Rat} {k1x k1y k1z k2x k2y : Nat} [h1x : CZ w (.agg #[.bool g1x, .slice a1x l1x c1x]) la k1x] [h1y : CZ w (.agg #[.bool g1y, .slice a1y l1y c1y]) lb k1y] [h1z : CZ w (.agg #[.bool g1z, .slice a1z l1z c1z]) lc k1z] [h2x : CW w (.agg #[.bool g2x, .slice a2x l2x c2x, .slice aa2x ll2x cc2x]) x k2x] [h2y : CW w (.agg #[.bool g2y, .slice a2y l2y c2y, .slice aa2y ll2y cc2y]) y k2y] (b : k1x ≤ 6000 ∧ k1y ≤ 6000 ∧ k1z ≤ 6000 ∧ k2x ≤ 6000 ∧ k2y ≤ 6000) (hv : Hid (LnV la lb lc)) :
    Calls Tryz.prog 60 #[.agg #[.bool g1x, .slice a1x l1x c1x, .bool g1y, .slice a1y l1y c1y, .bool g1z, .slice a1z l1z c1z], .agg #[.bool g2x, .slice a2x l2x c2x, .slice aa2x ll2x cc2x, .bool g2y, .slice a2y l2y c2y, .slice aa2y ll2y cc2y]] w (fun e w' => e = .returned (.int .i64 (isgn (((la : Int) : Rat) * x + ((lb : Int) : Rat) * y + ((lc : Int) : Rat)).num)) ∧ Below w.heap.size w w') := by
  have hmf : ∀ (fn : Fn) (first cap : Array Value) (W : World), (Instr.makeFunc fn first cap).run Tryz.prog W = .ok (.func fn first cap) W := fun _ _ _ _ => rfl
  go_enter Tryz.func60, Tryz.ntmps60
  go_wp2_with (go_at_call 136; (with_reducible refine Calls.cE (ofSideC (by omega) hv) ?_); intros)
  go_ret
  exact E.fin rfl

set_option maxRecDepth 100000 in
set_option maxHeartbeats 4000000 in
set_option synthInstance.maxSize 100000 in
set_option synthInstance.maxHeartbeats 1000000 in
theorem clDirectionC {w : World} {n1x : Int} {d1x : Int} {p1x : Option Addr} {n1y : Int} {d1y : Int} {p1y : Option Addr} {n1z : Int} {d1z : Int} {p1z : Option Addr} {la lb lc : Rat} {k1x k1y k1z : Nat} [h1x : CF w (.agg #[.int .i64 n1x, .int .i64 d1x, .pointer p1x]) la k1x] [h1y : CF w (.agg #[.int .i64 n1y, .int .i64 d1y, .pointer p1y]) lb k1y] [h1z : CF w (.agg #[.int .i64 n1z, .int .i64 d1z, .pointer p1z]) lc k1z] (b : k1x ≤ 6200 ∧ k1y ≤ 6200 ∧ k1z ≤ 6200) :
    Calls Tryz.prog 140 #[.agg #[.int .i64 n1x, .int .i64 d1x, .pointer p1x, .int .i64 n1y, .int .i64 d1y, .pointer p1y, .int .i64 n1z, .int .i64 d1z, .pointer p1z]] w (CPARet w (lb) (-la) (8 * (k1x + k1y + k1z) + 100)) := by
  go_enter Tryz.func140, Tryz.ntmps140
  go_wp2_with (first
    | (go_at_call 141; (with_reducible refine Calls.cPF (lnDirC (by omega)) ?_); intros)
    | (go_at_call 90; (with_reducible refine Calls.cPA (ptApiC (by omega)) ?_); intros))
  refine ret_bx rfl Tryz.underlying29 rfl (by kernel_rfl) rfl rfl rfl ?_
  exact CPARet.fin rfl (by omega) rfl (by omega)

set_option maxRecDepth 100000 in
set_option maxHeartbeats 4000000 in
set_option synthInstance.maxSize 100000 in
set_option synthInstance.maxHeartbeats 1000000 in
theorem ofDirectionC {w : World} {g1x : Bool} {a1x : Option Addr} {l1x : Nat} {c1x : Nat} {g1y : Bool} {a1y : Option Addr} {l1y : Nat} {c1y : Nat} {g1z : Bool} {a1z : Option Addr} {l1z : Nat} {c1z : Nat} {la lb lc : Int} {k1x k1y k1z : Nat} [h1x : CZ w (.agg #[.bool g1x, .slice a1x l1x c1x]) la k1x] [h1y : CZ w (.agg #[.bool g1y, .slice a1y l1y c1y]) lb k1y] [h1z : CZ w (.agg #[.bool g1z, .slice a1z l1z c1z]) lc k1z] (b : k1x ≤ 6000 ∧ k1y ≤ 6000 ∧ k1z ≤ 6000) (hv : Hid (LnV la lb lc)) :
    Calls Tryz.prog 139 #[.agg #[.bool g1x, .slice a1x l1x c1x, .bool g1y, .slice a1y l1y c1y, .bool g1z, .slice a1z l1z c1z], .func (.func 140) #[] #[]] w (CPARet w (((lb : Int) : Rat)) (-((la : Int) : Rat)) (24 * (k1x + k1y + k1z) + 200)) := by
  go_enter Tryz.func139, Tryz.ntmps139
  go_wp2_with (first
    | (go_at_call 149; (with_reducible refine Calls.cLFB (lnOfC (by omega) hv) ?_); intros)
    | (go_at_call 140; (with_reducible refine Calls.cPA (clDirectionC (by omega)) ?_); intros))
  refine ret_bx rfl Tryz.underlying29 rfl (by kernel_rfl) rfl rfl rfl ?_
  exact CPARet.fin rfl (by omega) rfl (by omega)

set_option maxRecDepth 100000 in
set_option maxHeartbeats 4000000 in
set_option synthInstance.maxSize 100000 in
set_option synthInstance.maxHeartbeats 1000000 in
theorem lineDirectionC {w : World} {g1x : Bool} {a1x : Option Addr} {l1x : Nat} {c1x : Nat} {g1y : Bool} {a1y : Option Addr} {l1y : Nat} {c1y : Nat} {g1z : Bool} {a1z : Option Addr} {l1z : Nat} {c1z : Nat} {la lb lc : Int} {k1x k1y k1z : Nat} [h1x : CZ w (.agg #[.bool g1x, .slice a1x l1x c1x]) la k1x] [h1y : CZ w (.agg #[.bool g1y, .slice a1y l1y c1y]) lb k1y] [h1z : CZ w (.agg #[.bool g1z, .slice a1z l1z c1z]) lc k1z] (b : k1x ≤ 6000 ∧ k1y ≤ 6000 ∧ k1z ≤ 6000) (hv : Hid (LnV la lb lc)) :
    Calls Tryz.prog 63 #[.agg #[.bool g1x, .slice a1x l1x c1x, .bool g1y, .slice a1y l1y c1y, .bool g1z, .slice a1z l1z c1z]] w (CPARet w (((lb : Int) : Rat)) (-((la : Int) : Rat)) (24 * (k1x + k1y + k1z) + 200)) := by
  have hmf : ∀ (fn : Fn) (first cap : Array Value) (W : World), (Instr.makeFunc fn first cap).run Tryz.prog W = .ok (.func fn first cap) W := fun _ _ _ _ => rfl
  go_enter Tryz.func63, Tryz.ntmps63
  go_wp2_with (go_at_call 139; (with_reducible refine Calls.cPA (ofDirectionC (by omega) hv) ?_); intros)
  refine ret_bx rfl Tryz.underlying29 rfl (by kernel_rfl) rfl rfl rfl ?_
  exact CPARet.fin rfl (by omega) rfl (by omega)

set_option maxRecDepth 100000 in
set_option maxHeartbeats 4000000 in
set_option synthInstance.maxSize 100000 in
set_option synthInstance.maxHeartbeats 1000000 in
theorem clBaseC {w : World} {n1x : Int} {d1x : Int} {p1x : Option Addr} {n1y : Int} {d1y : Int} {p1y : Option Addr} {n1z : Int} {d1z : Int} {p1z : Option Addr} {la lb lc : Rat} {k1x k1y k1z : Nat} [h1x : CF w (.agg #[.int .i64 n1x, .int .i64 d1x, .pointer p1x]) la k1x] [h1y : CF w (.agg #[.int .i64 n1y, .int .i64 d1y, .pointer p1y]) lb k1y] [h1z : CF w (.agg #[.int .i64 n1z, .int .i64 d1z, .pointer p1z]) lc k1z] (b : k1x ≤ 6200 ∧ k1y ≤ 6200 ∧ k1z ≤ 6200) :
    Calls Tryz.prog 142 #[.agg #[.int .i64 n1x, .int .i64 d1x, .pointer p1x, .int .i64 n1y, .int .i64 d1y, .pointer p1y, .int .i64 n1z, .int .i64 d1z, .pointer p1z]] w (CPARet w (la * (-lc / (la * la + lb * lb))) (lb * (-lc / (la * la + lb * lb))) (8 * (k1x + k1y + k1z) + 100)) := by
  go_enter Tryz.func142, Tryz.ntmps142
  go_wp2_with (first
    | (go_at_call 143; (with_reducible refine Calls.cPF (lnBaseC (by omega)) ?_); intros)
    | (go_at_call 90; (with_reducible refine Calls.cPA (ptApiC (by omega)) ?_); intros))
  refine ret_bx rfl Tryz.underlying29 rfl (by kernel_rfl) rfl rfl rfl ?_
  exact CPARet.fin rfl (by omega) rfl (by omega)

set_option maxRecDepth 100000 in
set_option maxHeartbeats 4000000 in
set_option synthInstance.maxSize 100000 in
set_option synthInstance.maxHeartbeats 1000000 in
theorem ofBaseC {w : World} {g1x : Bool} {a1x : Option Addr} {l1x : Nat} {c1x : Nat} {g1y : Bool} {a1y : Option Addr} {l1y : Nat} {c1y : Nat} {g1z : Bool} {a1z : Option Addr} {l1z : Nat} {c1z : Nat} {la lb lc : Int} {k1x k1y k1z : Nat} [h1x : CZ w (.agg #[.bool g1x, .slice a1x l1x c1x]) la k1x] [h1y : CZ w (.agg #[.bool g1y, .slice a1y l1y c1y]) lb k1y] [h1z : CZ w (.agg #[.bool g1z, .slice a1z l1z c1z]) lc k1z] (b : k1x ≤ 6000 ∧ k1y ≤ 6000 ∧ k1z ≤ 6000) (hv : Hid (LnV la lb lc)) :
    Calls Tryz.prog 139 #[.agg #[.bool g1x, .slice a1x l1x c1x, .bool g1y, .slice a1y l1y c1y, .bool g1z, .slice a1z l1z c1z], .func (.func 142) #[] #[]] w (CPARet w (((la : Int) : Rat) * (-((lc : Int) : Rat) / (((la : Int) : Rat) * ((la : Int) : Rat) + ((lb : Int) : Rat) * ((lb : Int) : Rat)))) (((lb : Int) : Rat) * (-((lc : Int) : Rat) / (((la : Int) : Rat) * ((la : Int) : Rat) + ((lb : Int) : Rat) * ((lb : Int) : Rat)))) (24 * (k1x + k1y + k1z) + 200)) := by
  go_enter Tryz.func139, Tryz.ntmps139
  go_wp2_with (first
    | (go_at_call 149; (with_reducible refine Calls.cLFB (lnOfC (by omega) hv) ?_); intros)
    | (go_at_call 142; (with_reducible refine Calls.cPA (clBaseC (by omega)) ?_); intros))
  refine ret_bx rfl Tryz.underlying29 rfl (by kernel_rfl) rfl rfl rfl ?_
  exact CPARet.fin rfl (by omega) rfl (by omega)

set_option maxRecDepth 100000 in
set_option maxHeartbeats 4000000 in
set_option synthInstance.maxSize 100000 in
set_option synthInstance.maxHeartbeats 1000000 in
theorem lineBaseC {w : World} {g1x : Bool} {a1x : Option Addr} {l1x : Nat} {c1x : Nat} {g1y : Bool} {a1y : Option Addr} {l1y : Nat} {c1y : Nat} {g1z : Bool} {a1z : Option Addr} {l1z : Nat} {c1z : Nat} {la lb lc : Int} {k1x k1y k1z : Nat} [h1x : CZ w (.agg #[.bool g1x, .slice a1x l1x c1x]) la k1x] [h1y : CZ w (.agg #[.bool g1y, .slice a1y l1y c1y]) lb k1y] [h1z : CZ w (.agg #[.bool g1z, .slice a1z l1z c1z]) lc k1z] (b : k1x ≤ 6000 ∧ k1y ≤ 6000 ∧ k1z ≤ 6000) (hv : Hid (LnV la lb lc)) :
    Calls Tryz.prog 65 #[.agg #[.bool g1x, .slice a1x l1x c1x, .bool g1y, .slice a1y l1y c1y, .bool g1z, .slice a1z l1z c1z]] w (CPARet w (((la : Int) : Rat) * (-((lc : Int) : Rat) / (((la : Int) : Rat) * ((la : Int) : Rat) + ((lb : Int) : Rat) * ((lb : Int) : Rat)))) (((lb : Int) : Rat) * (-((lc : Int) : Rat) / (((la : Int) : Rat) * ((la : Int) : Rat) + ((lb : Int) : Rat) * ((lb : Int) : Rat)))) (24 * (k1x + k1y + k1z) + 200)) := by
  have hmf : ∀ (fn : Fn) (first cap : Array Value) (W : World), (Instr.makeFunc fn first cap).run Tryz.prog W = .ok (.func fn first cap) W := fun _ _ _ _ => rfl
  go_enter Tryz.func65, Tryz.ntmps65
  go_wp2_with (go_at_call 139; (with_reducible refine Calls.cPA (ofBaseC (by omega) hv) ?_); intros)
  refine ret_bx rfl Tryz.underlying29 rfl (by kernel_rfl) rfl rfl rfl ?_
  exact CPARet.fin rfl (by omega) rfl (by omega)

set_option maxRecDepth 100000 in
set_option maxHeartbeats 4000000 in
set_option synthInstance.maxSize 100000 in
set_option synthInstance.maxHeartbeats 1000000 in
theorem clAtC {w : World} {n1x : Int} {d1x : Int} {p1x : Option Addr} {n1y : Int} {d1y : Int} {p1y : Option Addr} {n1z : Int} {d1z : Int} {p1z : Option Addr} {la lb lc : Rat} {g2 : Bool} {a2 : Option Addr} {l2 : Nat} {c2 : Nat} {aa2 : Option Addr} {ll2 : Nat} {cc2 : Nat} {t : Rat} {k1x k1y k1z k2 : Nat} [h1x : CF w (.agg #[.int .i64 n1x, .int .i64 d1x, .pointer p1x]) la k1x] [h1y : CF w (.agg #[.int .i64 n1y, .int .i64 d1y, .pointer p1y]) lb k1y] [h1z : CF w (.agg #[.int .i64 n1z, .int .i64 d1z, .pointer p1z]) lc k1z] [h2 : CW w (.agg #[.bool g2, .slice a2 l2 c2, .slice aa2 ll2 cc2]) t k2] {q : Nat} [hq : Bx w q 27 [.bool g2, .slice a2 l2 c2, .slice aa2 ll2 cc2]] (b : k1x ≤ 6200 ∧ k1y ≤ 6200 ∧ k1z ≤ 6200 ∧ k2 ≤ 6200) :
    Calls Tryz.prog 145 #[.agg #[.int .i64 n1x, .int .i64 d1x, .pointer p1x, .int .i64 n1y, .int .i64 d1y, .pointer p1y, .int .i64 n1z, .int .i64 d1z, .pointer p1z], .pointer (some ⟨q, 0, none⟩)] w (CPARet w (la * (-lc / (la * la + lb * lb)) + lb * t) (lb * (-lc / (la * la + lb * lb)) + -la * t) (8 * (k1x + k1y + k1z + k2) + 100)) := by
  go_enter Tryz.func145, Tryz.ntmps145
  go_wp2_with fail
  refine region_cls (by kernel_rfl) [w.heap.size + 1] (fun hHeld => ?_)
  refine wpAnyH_take (i := 0) (v := ?z521) (by simp; rfl) (by kernel_rfl) (by kernel_rfl) (by kernel_rfl) (by exact fun _ _ _ h => h) (Or.inl ⟨by rfl, ?yz521⟩) hHeld ?_
  case yz521 => (intro wx hSw; have hSx := Ex1.mk hSw; go_simp; (try with_reducible rfl))
  try simp only [Act.put, List.setIfInBounds_toArray, List.set_cons_zero, List.set_cons_succ]
  refine wpAnyH_take (i := 1) (v := ?z522) (by simp; rfl) (by kernel_rfl) (by kernel_rfl) (by kernel_rfl) (by exact fun _ _ _ h => h) (Or.inl ⟨by rfl, ?yz522⟩) hHeld ?_
  case yz522 => (intro wx hSw; have hSx := Ex1.mk hSw; go_simp; (try with_reducible rfl))
  try simp only [Act.put, List.setIfInBounds_toArray, List.set_cons_zero, List.set_cons_succ]
  refine wpAnyH_ready (rs := [2]) (by kernel_rfl) (by simp) ?_
  refine AllReadyH.cons (by simp; rfl) (fun K hK => ?_) AllReadyH.nil
  go_simp
  (go_at_call 113; (with_reducible refine Calls.cF (ofC (by omega)) ?_); intros)
  refine hK.out _ _ inferInstance ?_
  clear hHeld hK K
  intro hHeld
  try simp only [Act.put, List.setIfInBounds_toArray, List.set_cons_zero, List.set_cons_succ]
  refine wpAnyH_ready (rs := [3]) (by kernel_rfl) (by simp) ?_
  refine AllReadyH.cons (by simp; rfl) (fun K hK => ?_) AllReadyH.nil
  go_simp
  (go_at_call 146; (with_reducible refine Calls.cPF (lnAtC (by omega)) ?_); intros)
  refine hK.out _ _ inferInstance ?_
  clear hHeld hK K
  intro hHeld
  try simp only [Act.put, List.setIfInBounds_toArray, List.set_cons_zero, List.set_cons_succ]
  refine wpAnyH_ready (rs := [4]) (by kernel_rfl) (by simp) ?_
  refine AllReadyH.cons (by simp; rfl) (fun K hK => ?_) AllReadyH.nil
  go_simp
  (go_at_call 90; (with_reducible refine Calls.cPA (ptApiC (by omega)) ?_); intros)
  refine hK.out _ _ inferInstance ?_
  clear hHeld hK K
  intro hHeld
  try simp only [Act.put, List.setIfInBounds_toArray, List.set_cons_zero, List.set_cons_succ]
  refine wpAnyH_ready (rs := [5]) (by kernel_rfl) (by simp) ?_
  refine AllReadyH.cons (by simp; rfl) (fun K hK => ?_) AllReadyH.nil
  go_simp
  refine hK.out _ _ inferInstance ?_
  clear hHeld hK K
  intro hHeld
  try simp only [Act.put, List.setIfInBounds_toArray, List.set_cons_zero, List.set_cons_succ]
  refine wpAnyH_done (by kernel_rfl) ?_ _
  clear hHeld
  go_wp2
  refine ret_bx rfl Tryz.underlying29 rfl (by kernel_rfl) rfl rfl rfl ?_
  exact CPARet.fin rfl (by omega) rfl (by omega)

set_option maxRecDepth 100000 in
set_option maxHeartbeats 4000000 in
set_option synthInstance.maxSize 100000 in
set_option synthInstance.maxHeartbeats 1000000 in
theorem ofAtC {w : World} {g1x : Bool} {a1x : Option Addr} {l1x : Nat} {c1x : Nat} {g1y : Bool} {a1y : Option Addr} {l1y : Nat} {c1y : Nat} {g1z : Bool} {a1z : Option Addr} {l1z : Nat} {c1z : Nat} {la lb lc : Int} {g2 : Bool} {a2 : Option Addr} {l2 : Nat} {c2 : Nat} {aa2 : Option Addr} {ll2 : Nat} {cc2 : Nat} {t : Rat} {k1x k1y k1z k2 : Nat} [h1x : CZ w (.agg #[.bool g1x, .slice a1x l1x c1x]) la k1x] [h1y : CZ w (.agg #[.bool g1y, .slice a1y l1y c1y]) lb k1y] [h1z : CZ w (.agg #[.bool g1z, .slice a1z l1z c1z]) lc k1z] [h2 : CW w (.agg #[.bool g2, .slice a2 l2 c2, .slice aa2 ll2 cc2]) t k2] {q : Nat} [hq : Bx w q 27 [.bool g2, .slice a2 l2 c2, .slice aa2 ll2 cc2]] (b : k1x ≤ 6000 ∧ k1y ≤ 6000 ∧ k1z ≤ 6000 ∧ k2 ≤ 6000) (hv : Hid (LnV la lb lc)) :
    Calls Tryz.prog 139 #[.agg #[.bool g1x, .slice a1x l1x c1x, .bool g1y, .slice a1y l1y c1y, .bool g1z, .slice a1z l1z c1z], .func (.func 145) #[] #[.pointer (some ⟨q, 0, none⟩)]] w (CPARet w (((la : Int) : Rat) * (-((lc : Int) : Rat) / (((la : Int) : Rat) * ((la : Int) : Rat) + ((lb : Int) : Rat) * ((lb : Int) : Rat))) + ((lb : Int) : Rat) * t) (((lb : Int) : Rat) * (-((lc : Int) : Rat) / (((la : Int) : Rat) * ((la : Int) : Rat) + ((lb : Int) : Rat) * ((lb : Int) : Rat))) + -((la : Int) : Rat) * t) (24 * (k1x + k1y + k1z + k2) + 200)) := by
  go_enter Tryz.func139, Tryz.ntmps139
  go_wp2_with (first
    | (go_at_call 149; (with_reducible refine Calls.cLFB (lnOfC (by omega) hv) ?_); intros)
    | (go_at_call 145; (with_reducible refine Calls.cPA (clAtC (by omega)) ?_); intros))
  refine ret_bx rfl Tryz.underlying29 rfl (by kernel_rfl) rfl rfl rfl ?_
  exact CPARet.fin rfl (by omega) rfl (by omega)

set_option maxRecDepth 100000 in
set_option maxHeartbeats 4000000 in
set_option synthInstance.maxSize 100000 in
set_option synthInstance.maxHeartbeats 1000000 in
theorem lineAtC {w : World} {g1x : Bool} {a1x : Option Addr} {l1x : Nat} {c1x : Nat} {g1y : Bool} {a1y : Option Addr} {l1y : Nat} {c1y : Nat} {g1z : Bool} {a1z : Option Addr} {l1z : Nat} {c1z : Nat} {la lb lc : Int} {g2 : Bool} {a2 : Option Addr} {l2 : Nat} {c2 : Nat} {aa2 : Option Addr} {ll2 : Nat} {cc2 : Nat} {t : Rat} {k1x k1y k1z k2 : Nat} [h1x : CZ w (.agg #[.bool g1x, .slice a1x l1x c1x]) la k1x] [h1y : CZ w (.agg #[.bool g1y, .slice a1y l1y c1y]) lb k1y] [h1z : CZ w (.agg #[.bool g1z, .slice a1z l1z c1z]) lc k1z] [h2 : CW w (.agg #[.bool g2, .slice a2 l2 c2, .slice aa2 ll2 cc2]) t k2] (b : k1x ≤ 6000 ∧ k1y ≤ 6000 ∧ k1z ≤ 6000 ∧ k2 ≤ 6000) (hv : Hid (LnV la lb lc)) :
    Calls Tryz.prog 67 #[.agg #[.bool g1x, .slice a1x l1x c1x, .bool g1y, .slice a1y l1y c1y, .bool g1z, .slice a1z l1z c1z], .agg #[.bool g2, .slice a2 l2 c2, .slice aa2 ll2 cc2]] w (CPARet w (((la : Int) : Rat) * (-((lc : Int) : Rat) / (((la : Int) : Rat) * ((la : Int) : Rat) + ((lb : Int) : Rat) * ((lb : Int) : Rat))) + ((lb : Int) : Rat) * t) (((lb : Int) : Rat) * (-((lc : Int) : Rat) / (((la : Int) : Rat) * ((la : Int) : Rat) + ((lb : Int) : Rat) * ((lb : Int) : Rat))) + -((la : Int) : Rat) * t) (24 * (k1x + k1y + k1z + k2) + 200)) := by
  have hmf : ∀ (fn : Fn) (first cap : Array Value) (W : World), (Instr.makeFunc fn first cap).run Tryz.prog W = .ok (.func fn first cap) W := fun _ _ _ _ => rfl
  go_enter Tryz.func67, Tryz.ntmps67
  go_wp2_with (go_at_call 139; (with_reducible refine Calls.cPA (ofAtC (by omega) hv) ?_); intros)
  refine ret_bx rfl Tryz.underlying29 rfl (by kernel_rfl) rfl rfl rfl ?_
  exact CPARet.fin rfl (by omega) rfl (by omega)

set_option maxRecDepth 100000 in
set_option maxHeartbeats 4000000 in
set_option synthInstance.maxSize 100000 in
set_option synthInstance.maxHeartbeats 1000000 in
theorem clParamC {w : World} {n1x : Int} {d1x : Int} {p1x : Option Addr} {n1y : Int} {d1y : Int} {p1y : Option Addr} {n1z : Int} {d1z : Int} {p1z : Option Addr} {la lb lc : Rat} {g2x : Bool} {a2x : Option Addr} {l2x : Nat} {c2x : Nat} {aa2x : Option Addr} {ll2x : Nat} {cc2x : Nat} {g2y : Bool} {a2y : Option Addr} {l2y : Nat} {c2y : Nat} {aa2y : Option Addr} {ll2y : Nat} {cc2y : Nat} {x y : Rat} {k1x k1y k1z k2x k2y : Nat} [h1x : CF w (.agg #[.int .i64 n1x, .int .i64 d1x, .pointer p1x]) la k1x] [h1y : CF w (.agg #[.int .i64 n1y, .int .i64 d1y, .pointer p1y]) lb k1y] [h1z : CF w (.agg #[.int .i64 n1z, .int .i64 d1z, .pointer p1z]) lc k1z] [h2x : CW w (.agg #[.bool g2x, .slice a2x l2x c2x, .slice aa2x ll2x cc2x]) x k2x] [h2y : CW w (.agg #[.bool g2y, .slice a2y l2y c2y, .slice aa2y ll2y cc2y]) y k2y] {q : Nat} [hq : Bx w q 29 [.bool g2x, .slice a2x l2x c2x, .slice aa2x ll2x cc2x, .bool g2y, .slice a2y l2y c2y, .slice aa2y ll2y cc2y]] (b : k1x ≤ 6200 ∧ k1y ≤ 6200 ∧ k1z ≤ 6200 ∧ k2x ≤ 6200 ∧ k2y ≤ 6200) :
    Calls Tryz.prog 147 #[.agg #[.int .i64 n1x, .int .i64 d1x, .pointer p1x, .int .i64 n1y, .int .i64 d1y, .pointer p1y, .int .i64 n1z, .int .i64 d1z, .pointer p1z], .pointer (some ⟨q, 0, none⟩)] w (CARet w ((lb * x + -la * y) / (lb * lb + -la * -la)) (8 * (k1x + k1y + k1z + k2x + k2y) + 100)) := by
  go_enter Tryz.func147, Tryz.ntmps147
  go_wp2_with fail
  refine region_cls (by kernel_rfl) [w.heap.size + 1] (fun hHeld => ?_)
  refine wpAnyH_take (i := 0) (v := ?z523) (by simp; rfl) (by kernel_rfl) (by kernel_rfl) (by kernel_rfl) (by exact fun _ _ _ h => h) (Or.inl ⟨by rfl, ?yz523⟩) hHeld ?_
  case yz523 => (intro wx hSw; have hSx := Ex1.mk hSw; go_simp; (try with_reducible rfl))
  try simp only [Act.put, List.setIfInBounds_toArray, List.set_cons_zero, List.set_cons_succ]
  refine wpAnyH_take (i := 1) (v := ?z524) (by simp; rfl) (by kernel_rfl) (by kernel_rfl) (by kernel_rfl) (by exact fun _ _ _ h => h) (Or.inl ⟨by rfl, ?yz524⟩) hHeld ?_
  case yz524 => (intro wx hSw; have hSx := Ex1.mk hSw; go_simp; (try with_reducible rfl))
  try simp only [Act.put, List.setIfInBounds_toArray, List.set_cons_zero, List.set_cons_succ]
  refine wpAnyH_ready (rs := [2]) (by kernel_rfl) (by simp) ?_
  refine AllReadyH.cons (by simp; rfl) (fun K hK => ?_) AllReadyH.nil
  go_simp
  (go_at_call 89; (with_reducible refine Calls.cPF (ptOfC (by omega)) ?_); intros)
  refine hK.out _ _ inferInstance ?_
  clear hHeld hK K
  intro hHeld
  try simp only [Act.put, List.setIfInBounds_toArray, List.set_cons_zero, List.set_cons_succ]
  refine wpAnyH_ready (rs := [3]) (by kernel_rfl) (by simp) ?_
  refine AllReadyH.cons (by simp; rfl) (fun K hK => ?_) AllReadyH.nil
  go_simp
  (go_at_call 148; (with_reducible refine Calls.cF (lnParamC (by omega)) ?_); intros)
  refine hK.out _ _ inferInstance ?_
  clear hHeld hK K
  intro hHeld
  try simp only [Act.put, List.setIfInBounds_toArray, List.set_cons_zero, List.set_cons_succ]
  refine wpAnyH_ready (rs := [4]) (by kernel_rfl) (by simp) ?_
  refine AllReadyH.cons (by simp; rfl) (fun K hK => ?_) AllReadyH.nil
  go_simp
  (go_at_call 122; (with_reducible refine Calls.cA (rApiC (by omega)) ?_); intros)
  refine hK.out _ _ inferInstance ?_
  clear hHeld hK K
  intro hHeld
  try simp only [Act.put, List.setIfInBounds_toArray, List.set_cons_zero, List.set_cons_succ]
  refine wpAnyH_ready (rs := [5]) (by kernel_rfl) (by simp) ?_
  refine AllReadyH.cons (by simp; rfl) (fun K hK => ?_) AllReadyH.nil
  go_simp
  refine hK.out _ _ inferInstance ?_
  clear hHeld hK K
  intro hHeld
  try simp only [Act.put, List.setIfInBounds_toArray, List.set_cons_zero, List.set_cons_succ]
  refine wpAnyH_done (by kernel_rfl) ?_ _
  clear hHeld
  go_wp2
  refine ret_bx rfl Tryz.underlying27 rfl (by kernel_rfl) rfl rfl rfl ?_
  exact CARet.fin rfl (by omega)

set_option maxRecDepth 100000 in
set_option maxHeartbeats 4000000 in
set_option synthInstance.maxSize 100000 in
set_option synthInstance.maxHeartbeats 1000000 in
theorem ofParamC {w : World} {g1x : Bool} {a1x : Option Addr} {l1x : Nat} {c1x : Nat} {g1y : Bool} {a1y : Option Addr} {l1y : Nat} {c1y : Nat} {g1z : Bool} {a1z : Option Addr} {l1z : Nat} {c1z : Nat} {la lb lc : Int} {g2x : Bool} {a2x : Option Addr} {l2x : Nat} {c2x : Nat} {aa2x : Option Addr} {ll2x : Nat} {cc2x : Nat} {g2y : Bool} {a2y : Option Addr} {l2y : Nat} {c2y : Nat} {aa2y : Option Addr} {ll2y : Nat} {cc2y : Nat} {x y : Rat} {k1x k1y k1z k2x k2y : Nat} [h1x : CZ w (.agg #[.bool g1x, .slice a1x l1x c1x]) la k1x] [h1y : CZ w (.agg #[.bool g1y, .slice a1y l1y c1y]) lb k1y] [h1z : CZ w (.agg #[.bool g1z, .slice a1z l1z c1z]) lc k1z] [h2x : CW w (.agg #[.bool g2x, .slice a2x l2x c2x, .slice aa2x ll2x cc2x]) x k2x] [h2y : CW w (.agg #[.bool g2y, .slice a2y l2y c2y, .slice aa2y ll2y cc2y]) y k2y] {q : Nat} [hq : Bx w q 29 [.bool g2x, .slice a2x l2x c2x, .slice aa2x ll2x cc2x, .bool g2y, .slice a2y l2y c2y, .slice aa2y ll2y cc2y]] (b : k1x ≤ 6000 ∧ k1y ≤ 6000 ∧ k1z ≤ 6000 ∧ k2x ≤ 6000 ∧ k2y ≤ 6000) (hv : Hid (LnV la lb lc)) :
    Calls Tryz.prog 132 #[.agg #[.bool g1x, .slice a1x l1x c1x, .bool g1y, .slice a1y l1y c1y, .bool g1z, .slice a1z l1z c1z], .func (.func 147) #[] #[.pointer (some ⟨q, 0, none⟩)]] w (CARet w ((((lb : Int) : Rat) * x + -((la : Int) : Rat) * y) / (((lb : Int) : Rat) * ((lb : Int) : Rat) + -((la : Int) : Rat) * -((la : Int) : Rat))) (24 * (k1x + k1y + k1z + k2x + k2y) + 200)) := by
  go_enter Tryz.func132, Tryz.ntmps132
  go_wp2_with (first
    | (go_at_call 149; (with_reducible refine Calls.cLFB (lnOfC (by omega) hv) ?_); intros)
    | (go_at_call 147; (with_reducible refine Calls.cA (clParamC (by omega)) ?_); intros))
  refine ret_bx rfl Tryz.underlying27 rfl (by kernel_rfl) rfl rfl rfl ?_
  exact CARet.fin rfl (by omega)

set_option maxRecDepth 100000 in
set_option maxHeartbeats 4000000 in
set_option synthInstance.maxSize 100000 in
set_option synthInstance.maxHeartbeats 1000000 in
theorem lineParamC {w : World} {g1x : Bool} {a1x : Option Addr} {l1x : Nat} {c1x : Nat} {g1y : Bool} {a1y : Option Addr} {l1y : Nat} {c1y : Nat} {g1z : Bool} {a1z : Option Addr} {l1z : Nat} {c1z : Nat} {la lb lc : Int} {g2x : Bool} {a2x : Option Addr} {l2x : Nat} {c2x : Nat} {aa2x : Option Addr} {ll2x : Nat} {cc2x : Nat} {g2y : Bool} {a2y : Option Addr} {l2y : Nat} {c2y : Nat} {aa2y : Option Addr} {ll2y : Nat} {cc2y : Nat} {x y : Rat} {k1x k1y k1z k2x k2y : Nat} [h1x : CZ w (.agg #[.bool g1x, .slice a1x l1x c1x]) la k1x] [h1y : CZ w (.agg #[.bool g1y, .slice a1y l1y c1y]) lb k1y] [h1z : CZ w (.agg #[.bool g1z, .slice a1z l1z c1z]) lc k1z] [h2x : CW w (.agg #[.bool g2x, .slice a2x l2x c2x, .slice aa2x ll2x cc2x]) x k2x] [h2y : CW w (.agg #[.bool g2y, .slice a2y l2y c2y, .slice aa2y ll2y cc2y]) y k2y] (b : k1x ≤ 6000 ∧ k1y ≤ 6000 ∧ k1z ≤ 6000 ∧ k2x ≤ 6000 ∧ k2y ≤ 6000) (hv : Hid (LnV la lb lc)) :
    Calls Tryz.prog 69 #[.agg #[.bool g1x, .slice a1x l1x c1x, .bool g1y, .slice a1y l1y c1y, .bool g1z, .slice a1z l1z c1z], .agg #[.bool g2x, .slice a2x l2x c2x, .slice aa2x ll2x cc2x, .bool g2y, .slice a2y l2y c2y, .slice aa2y ll2y cc2y]] w (CARet w ((((lb : Int) : Rat) * x + -((la : Int) : Rat) * y) / (((lb : Int) : Rat) * ((lb : Int) : Rat) + -((la : Int) : Rat) * -((la : Int) : Rat))) (24 * (k1x + k1y + k1z + k2x + k2y) + 200)) := by
  have hmf : ∀ (fn : Fn) (first cap : Array Value) (W : World), (Instr.makeFunc fn first cap).run Tryz.prog W = .ok (.func fn first cap) W := fun _ _ _ _ => rfl
  go_enter Tryz.func69, Tryz.ntmps69
  go_wp2_with (go_at_call 132; (with_reducible refine Calls.cA (ofParamC (by omega) hv) ?_); intros)
  refine ret_bx rfl Tryz.underlying27 rfl (by kernel_rfl) rfl rfl rfl ?_
  exact CARet.fin rfl (by omega)

end Go.Proofs.YtlameeijogdckaaGreat

/- Package line: functions of two lines; lines from points and from coefficients. printed by a small program (mkln4.py). -/
namespace Go.Proofs.YtlameeijogdckaaGreat
open Go.RowKit
set_option linter.unusedVariables false

end Go.Proofs.YtlameeijogdckaaGreat
