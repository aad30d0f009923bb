/-
  Texts of this claim, joined: QLn7, QLn8, QLawLO.
-/
import Derived.Test.YtlameeijogdckaaGreatQP
/- The sanity check of the laws of layer 5; lines in canonical orientation. printed by a small program (mkln7.py). -/
namespace Go.Proofs.YtlameeijogdckaaGreat
open Go.RowKit
set_option linter.unusedVariables false
set_option linter.unusedSimpArgs false

theorem isgn_neg' (z : Int) : isgn (-z) = -isgn z := by
  unfold isgn
  repeat' split
  all_goals omega
theorem LnV.k1 : Hid (LnV 0 1 0) := ⟨by decide, by decide +kernel⟩
theorem lineSideV {w : World} {v : Int} {g1x : Bool} {a1x : Option Addr} {l1x : Nat} {c1x : Nat} {g1y : Bool} {a1y : Option Addr} {l1y : Nat} {c1y : Nat} {g1z : Bool} {a1z : Option Addr} {l1z : Nat} {c1z : Nat} {la lb lc : Int} {g2x : Bool} {a2x : Option Addr} {l2x : Nat} {c2x : Nat} {aa2x : Option Addr} {ll2x : Nat} {cc2x : Nat} {g2y : Bool} {a2y : Option Addr} {l2y : Nat} {c2y : Nat} {aa2y : Option Addr} {ll2y : Nat} {cc2y : Nat} {x y : Rat} {k1x k1y k1z k2x k2y : Nat} [h1x : CZ w (.agg #[.bool g1x, .slice a1x l1x c1x]) la k1x] [h1y : CZ w (.agg #[.bool g1y, .slice a1y l1y c1y]) lb k1y] [h1z : CZ w (.agg #[.bool g1z, .slice a1z l1z c1z]) lc k1z] [h2x : CW w (.agg #[.bool g2x, .slice a2x l2x c2x, .slice aa2x ll2x cc2x]) x k2x] [h2y : CW w (.agg #[.bool g2y, .slice a2y l2y c2y, .slice aa2y ll2y cc2y]) y k2y] (b : k1x ≤ 6000 ∧ k1y ≤ 6000 ∧ k1z ≤ 6000 ∧ k2x ≤ 6000 ∧ k2y ≤ 6000) (hv : Hid (LnV la lb lc)) (hs : Hid (isgn (((la : Int) : Rat) * x + ((lb : Int) : Rat) * y + ((lc : Int) : Rat)).num = v)) :
    Calls Tryz.prog 60 #[.agg #[.bool g1x, .slice a1x l1x c1x, .bool g1y, .slice a1y l1y c1y, .bool g1z, .slice a1z l1z c1z], .agg #[.bool g2x, .slice a2x l2x c2x, .slice aa2x ll2x cc2x, .bool g2y, .slice a2y l2y c2y, .slice aa2y ll2y cc2y]] w (fun e w' => e = .returned (.int .i64 v) ∧ Below w.heap.size w w') := by
  rw [← hs.out]; exact lineSideC (by omega) hv
set_option maxRecDepth 100000 in
set_option maxHeartbeats 4000000 in
set_option synthInstance.maxSize 100000 in
set_option synthInstance.maxHeartbeats 1000000 in
theorem thKnown {w : World} {g1x : Bool} {a1x : Option Addr} {l1x : Nat} {c1x : Nat} {aa1x : Option Addr} {ll1x : Nat} {cc1x : Nat} {g1y : Bool} {a1y : Option Addr} {l1y : Nat} {c1y : Nat} {aa1y : Option Addr} {ll1y : Nat} {cc1y : Nat} {x1 y1 : Rat} {g2x : Bool} {a2x : Option Addr} {l2x : Nat} {c2x : Nat} {aa2x : Option Addr} {ll2x : Nat} {cc2x : Nat} {g2y : Bool} {a2y : Option Addr} {l2y : Nat} {c2y : Nat} {aa2y : Option Addr} {ll2y : Nat} {cc2y : Nat} {x2 y2 : Rat} {k1x k1y k2x k2y : Nat} [h1x : CW w (.agg #[.bool g1x, .slice a1x l1x c1x, .slice aa1x ll1x cc1x]) x1 k1x] [h1y : CW w (.agg #[.bool g1y, .slice a1y l1y c1y, .slice aa1y ll1y cc1y]) y1 k1y] [h2x : CW w (.agg #[.bool g2x, .slice a2x l2x c2x, .slice aa2x ll2x cc2x]) x2 k2x] [h2y : CW w (.agg #[.bool g2y, .slice a2y l2y c2y, .slice aa2y ll2y cc2y]) y2 k2y] (b : k1x ≤ 200 ∧ k1y ≤ 200 ∧ k2x ≤ 200 ∧ k2y ≤ 200) (e1 : Hid (x1 = ((0 : Int) : Rat) ∧ y1 = ((0 : Int) : Rat) ∧ x2 = ((2 : Int) : Rat) ∧ y2 = ((0 : Int) : Rat))) :
    Calls Tryz.prog 32 #[.agg #[.bool g1x, .slice a1x l1x c1x, .slice aa1x ll1x cc1x, .bool g1y, .slice a1y l1y c1y, .slice aa1y ll1y cc1y], .agg #[.bool g2x, .slice a2x l2x c2x, .slice aa2x ll2x cc2x, .bool g2y, .slice a2y l2y c2y, .slice aa2y ll2y cc2y]] w (LZBRet w 0 1 0 true (40 * (k1x + k1y + k2x + k2y) + 600)) := by
  obtain ⟨rfl, rfl, rfl, rfl⟩ := e1
  have h0 : Hid (¬ (thA ((0 : Int) : Rat) ((0 : Int) : Rat) = 0 ∧ ((2 : Int) : Rat) - ((0 : Int) : Rat) = 0)) := fun h => absurd h.2 (by decide +kernel)
  have key : LZBRet w 0 1 0 true (40 * (k1x + k1y + k2x + k2y) + 600) = LZBRet w (lnK (thA ((0 : Int) : Rat) ((0 : Int) : Rat)) (thA ((0 : Int) : Rat) ((0 : Int) : Rat)) (((2 : Int) : Rat) - ((0 : Int) : Rat)) (thC ((0 : Int) : Rat) ((0 : Int) : Rat) ((2 : Int) : Rat) ((0 : Int) : Rat))).num (lnK (((2 : Int) : Rat) - ((0 : Int) : Rat)) (thA ((0 : Int) : Rat) ((0 : Int) : Rat)) (((2 : Int) : Rat) - ((0 : Int) : Rat)) (thC ((0 : Int) : Rat) ((0 : Int) : Rat) ((2 : Int) : Rat) ((0 : Int) : Rat))).num (lnK (thC ((0 : Int) : Rat) ((0 : Int) : Rat) ((2 : Int) : Rat) ((0 : Int) : Rat)) (thA ((0 : Int) : Rat) ((0 : Int) : Rat)) (((2 : Int) : Rat) - ((0 : Int) : Rat)) (thC ((0 : Int) : Rat) ((0 : Int) : Rat) ((2 : Int) : Rat) ((0 : Int) : Rat))).num true (40 * (k1x + k1y + k2x + k2y) + 600) := by
    rw [show (lnK (thA ((0 : Int) : Rat) ((0 : Int) : Rat)) (thA ((0 : Int) : Rat) ((0 : Int) : Rat)) (((2 : Int) : Rat) - ((0 : Int) : Rat)) (thC ((0 : Int) : Rat) ((0 : Int) : Rat) ((2 : Int) : Rat) ((0 : Int) : Rat))).num = 0 by decide +kernel, show (lnK (((2 : Int) : Rat) - ((0 : Int) : Rat)) (thA ((0 : Int) : Rat) ((0 : Int) : Rat)) (((2 : Int) : Rat) - ((0 : Int) : Rat)) (thC ((0 : Int) : Rat) ((0 : Int) : Rat) ((2 : Int) : Rat) ((0 : Int) : Rat))).num = 1 by decide +kernel, show (lnK (thC ((0 : Int) : Rat) ((0 : Int) : Rat) ((2 : Int) : Rat) ((0 : Int) : Rat)) (thA ((0 : Int) : Rat) ((0 : Int) : Rat)) (((2 : Int) : Rat) - ((0 : Int) : Rat)) (thC ((0 : Int) : Rat) ((0 : Int) : Rat) ((2 : Int) : Rat) ((0 : Int) : Rat))).num = 0 by decide +kernel]
  rw [key]
  exact lineThroughOk (by omega) h0

set_option maxRecDepth 100000 in
set_option maxHeartbeats 4000000 in
set_option synthInstance.maxSize 100000 in
set_option synthInstance.maxHeartbeats 1000000 in
theorem known05C {w : World} : Calls Tryz.prog 24 #[] w fun e w' => e = .returned (.bool true) ∧ Below w.heap.size w w' := by
  have H1 : Hid (isgn (((0 : Int) : Rat) * ((5 : Int) : Rat) + ((1 : Int) : Rat) * ((1 : Int) : Rat) + ((0 : Int) : Rat)).num = 1) := by show _ = _; decide +kernel
  go_enter Tryz.func24, Tryz.ntmps24
  go_wp2_with (first | (go_at_call 21; (with_reducible refine Calls.cPA (fromIntsC (by omega)) ?_); intros) | (go_at_call 32; (with_reducible refine Calls.cLZB (thKnown (by omega) (Lib.hid (And.intro rfl (And.intro rfl (And.intro rfl rfl))))) ?_); intros))
  refine region_cls (by kernel_rfl) [] (fun hHeld => ?_)
  refine wpAnyH_take (i := 0) (v := ?z673) (by simp; rfl) (by kernel_rfl) (by kernel_rfl) (by kernel_rfl) (by exact fun _ _ _ h => h) (Or.inl ⟨by rfl, ?yz673⟩) hHeld ?_
  case yz673 => (intro wx hSw; have hSx := Ex1.mk hSw; go_simp; (try with_reducible rfl))
  try simp only [Act.put, List.setIfInBounds_toArray, List.set_cons_zero, List.set_cons_succ]
  refine wpAnyH_take (i := 1) (v := ?z674) (by simp; rfl) (by kernel_rfl) (by kernel_rfl) (by kernel_rfl) (by exact fun _ _ _ h => h) (Or.inl ⟨by rfl, ?yz674⟩) hHeld ?_
  case yz674 => (intro wx hSw; have hSx := Ex1.mk hSw; go_simp; (try with_reducible rfl))
  try simp only [Act.put, List.setIfInBounds_toArray, List.set_cons_zero, List.set_cons_succ]
  refine wpAnyH_take (i := 2) (v := ?z675) (by simp; rfl) (by kernel_rfl) (by kernel_rfl) (by kernel_rfl) (by exact fun _ _ _ h => h) (Or.inl ⟨by rfl, ?yz675⟩) hHeld ?_
  case yz675 => (intro wx hSw; have hSx := Ex1.mk hSw; go_simp; (try with_reducible rfl))
  try simp only [Act.put, List.setIfInBounds_toArray, List.set_cons_zero, List.set_cons_succ]
  refine wpAnyH_ready (rs := [3]) (by kernel_rfl) (by simp) ?_
  refine AllReadyH.cons (by simp; rfl) (fun K hK => ?_) AllReadyH.nil
  go_simp
  (go_at_call 96; (with_reducible refine Calls.cE (validC (by omega) LnV.k1) ?_); intros)
  refine hK.out _ _ inferInstance ?_
  clear hHeld hK K
  intro hHeld
  try simp only [Act.put, List.setIfInBounds_toArray, List.set_cons_zero, List.set_cons_succ]
  refine wpAnyH_take (i := 4) (v := ?z676) (by simp; rfl) (by kernel_rfl) (by kernel_rfl) (by kernel_rfl) (by exact fun _ _ _ h => h) (Or.inl ⟨by rfl, ?yz676⟩) hHeld ?_
  case yz676 => (intro wx hSw; have hSx := Ex1.mk hSw; go_simp; (try with_reducible rfl))
  try simp only [Act.put, List.setIfInBounds_toArray, List.set_cons_zero, List.set_cons_succ]
  refine wpAnyH_take (i := 5) (v := ?z677) (by simp; rfl) (by kernel_rfl) (by kernel_rfl) (by kernel_rfl) (by exact fun _ _ _ h => h) (Or.inl ⟨by rfl, ?yz677⟩) hHeld ?_
  case yz677 => (intro wx hSw; have hSx := Ex1.mk hSw; go_simp; (try with_reducible rfl))
  try simp only [Act.put, List.setIfInBounds_toArray, List.set_cons_zero, List.set_cons_succ]
  refine wpAnyH_take (i := 6) (v := ?z678) (by simp; rfl) (by kernel_rfl) (by kernel_rfl) (by kernel_rfl) (by exact fun _ _ _ h => h) (Or.inl ⟨by rfl, ?yz678⟩) hHeld ?_
  case yz678 => (intro wx hSw; have hSx := Ex1.mk hSw; go_simp; (try with_reducible rfl))
  try simp only [Act.put, List.setIfInBounds_toArray, List.set_cons_zero, List.set_cons_succ]
  refine wpAnyH_ready (rs := [7]) (by kernel_rfl) (by simp) ?_
  refine AllReadyH.cons (by simp; rfl) (fun K hK => ?_) AllReadyH.nil
  go_simp
  (go_at_call 21; (with_reducible refine Calls.cPA (fromIntsC (by omega)) ?_); intros)
  refine hK.out _ _ inferInstance ?_
  clear hHeld hK K
  intro hHeld
  try simp only [Act.put, List.setIfInBounds_toArray, List.set_cons_zero, List.set_cons_succ]
  refine wpAnyH_ready (rs := [8]) (by kernel_rfl) (by simp) ?_
  refine AllReadyH.cons (by simp; rfl) (fun K hK => ?_) AllReadyH.nil
  go_simp
  (go_at_call 60; (with_reducible refine Calls.cE (lineSideV (by omega) LnV.k1 H1) ?_); intros)
  refine hK.out _ _ inferInstance ?_
  clear hHeld hK K
  intro hHeld
  try simp only [Act.put, List.setIfInBounds_toArray, List.set_cons_zero, List.set_cons_succ]
  refine wpAnyH_take (i := 9) (v := ?z679) (by simp; rfl) (by kernel_rfl) (by kernel_rfl) (by kernel_rfl) (by exact fun _ _ _ h => h) (Or.inl ⟨by rfl, ?yz679⟩) hHeld ?_
  case yz679 => (intro wx hSw; have hSx := Ex1.mk hSw; go_simp; (try with_reducible rfl))
  try simp only [Act.put, List.setIfInBounds_toArray, List.set_cons_zero, List.set_cons_succ]
  refine wpAnyH_take (i := 10) (v := ?z680) (by simp; rfl) (by kernel_rfl) (by kernel_rfl) (by kernel_rfl) (by exact fun _ _ _ h => h) (Or.inl ⟨by rfl, ?yz680⟩) hHeld ?_
  case yz680 => (intro wx hSw; have hSx := Ex1.mk hSw; go_simp; (try with_reducible rfl))
  try simp only [Act.put, List.setIfInBounds_toArray, List.set_cons_zero, List.set_cons_succ]
  refine wpAnyH_take (i := 11) (v := ?z681) (by simp; rfl) (by kernel_rfl) (by kernel_rfl) (by kernel_rfl) (by exact fun _ _ _ h => h) (Or.inl ⟨by rfl, ?yz681⟩) hHeld ?_
  case yz681 => (intro wx hSw; have hSx := Ex1.mk hSw; go_simp; (try with_reducible rfl))
  try simp only [Act.put, List.setIfInBounds_toArray, List.set_cons_zero, List.set_cons_succ]
  refine wpAnyH_take (i := 12) (v := ?z682) (by simp; rfl) (by kernel_rfl) (by kernel_rfl) (by kernel_rfl) (by exact fun _ _ _ h => h) (Or.inl ⟨by rfl, ?yz682⟩) hHeld ?_
  case yz682 => (intro wx hSw; have hSx := Ex1.mk hSw; go_simp; (try with_reducible rfl))
  try simp only [Act.put, List.setIfInBounds_toArray, List.set_cons_zero, List.set_cons_succ]
  refine wpAnyH_ready (rs := [13]) (by kernel_rfl) (by simp) ?_
  refine AllReadyH.cons (by simp; rfl) (fun K hK => ?_) AllReadyH.nil
  go_simp
  (go_at_call 63; (with_reducible refine Calls.cPA (lineDirectionC (by omega) LnV.k1) ?_); intros)
  refine hK.out _ _ inferInstance ?_
  clear hHeld hK K
  intro hHeld
  try simp only [Act.put, List.setIfInBounds_toArray, List.set_cons_zero, List.set_cons_succ]
  refine wpAnyH_ready (rs := [14]) (by kernel_rfl) (by simp) ?_
  refine AllReadyH.cons (by simp; rfl) (fun K hK => ?_) AllReadyH.nil
  go_simp
  (go_at_call 22; (with_reducible refine Calls.cPQ (refXyC (by omega)) ?_); intros)
  refine hK.out _ _ inferInstance ?_
  clear hHeld hK K
  intro hHeld
  try simp only [Act.put, List.setIfInBounds_toArray, List.set_cons_zero, List.set_cons_succ]
  refine wpAnyH_ready (rs := [15]) (by kernel_rfl) (by simp) ?_
  refine AllReadyH.cons (by simp; rfl) (fun K hK => ?_) AllReadyH.nil
  go_simp
  (go_at_call 33; (with_reducible refine Calls.cPA (toPC (by omega)) ?_); intros)
  refine hK.out _ _ inferInstance ?_
  clear hHeld hK K
  intro hHeld
  try simp only [Act.put, List.setIfInBounds_toArray, List.set_cons_zero, List.set_cons_succ]
  refine wpAnyH_ready (rs := [16]) (by kernel_rfl) (by simp) ?_
  refine AllReadyH.cons (by simp; rfl) (fun K hK => ?_) AllReadyH.nil
  go_simp
  (go_at_call 74; (with_reducible refine Calls.cE (samePC rfl (by decide +kernel)) ?_); intros)
  refine hK.out _ _ inferInstance ?_
  clear hHeld hK K
  intro hHeld
  try simp only [Act.put, List.setIfInBounds_toArray, List.set_cons_zero, List.set_cons_succ]
  refine wpAnyH_take (i := 17) (v := ?z683) (by simp; rfl) (by kernel_rfl) (by kernel_rfl) (by kernel_rfl) (by exact fun _ _ _ h => h) (Or.inl ⟨by rfl, ?yz683⟩) hHeld ?_
  case yz683 => (intro wx hSw; have hSx := Ex1.mk hSw; go_simp; (try with_reducible rfl))
  try simp only [Act.put, List.setIfInBounds_toArray, List.set_cons_zero, List.set_cons_succ]
  refine wpAnyH_take (i := 18) (v := ?z684) (by simp; rfl) (by kernel_rfl) (by kernel_rfl) (by kernel_rfl) (by exact fun _ _ _ h => h) (Or.inl ⟨by rfl, ?yz684⟩) hHeld ?_
  case yz684 => (intro wx hSw; have hSx := Ex1.mk hSw; go_simp; (try with_reducible rfl))
  try simp only [Act.put, List.setIfInBounds_toArray, List.set_cons_zero, List.set_cons_succ]
  refine wpAnyH_done (by kernel_rfl) ?_ _
  clear hHeld
  go_wp2
  go_ret
  exact E.fin rfl

theorem or2V {w : World} {q : Nat} {a b v : Int} [h : Bx w q 3 [.int .i64 a, .int .i64 b]] (hs : Hid (or3 a b 0 = v)) : Calls Tryz.prog 198 #[.slice (some ⟨q, 0, none⟩) 2 2] w fun e w' => e = .returned (.int .i64 v) ∧ Below w.heap.size w w' := by
  rw [← hs.out]; exact or2C
set_option maxRecDepth 100000 in
set_option maxHeartbeats 4000000 in
set_option synthInstance.maxSize 100000 in
set_option synthInstance.maxHeartbeats 1000000 in
theorem gCanonT {w : World} {s : Int} {n1x : Int} {d1x : Int} {p1x : Option Addr} {n1y : Int} {d1y : Int} {p1y : Option Addr} {n1z : Int} {d1z : Int} {p1z : Option Addr} {la lb lc : Rat} {k1x k1y k1z : Nat} [h1x : CF w (.agg #[.int .i64 n1x, .int .i64 d1x, .pointer p1x]) la k1x] [h1y : CF w (.agg #[.int .i64 n1y, .int .i64 d1y, .pointer p1y]) lb k1y] [h1z : CF w (.agg #[.int .i64 n1z, .int .i64 d1z, .pointer p1z]) lc k1z] (b : k1x ≤ 300000 ∧ k1y ≤ 300000 ∧ k1z ≤ 300000) (hs : Hid (or3 (isgn la.num) (isgn lb.num) 0 = s)) (hn : Hid (s < 0)) :
    Calls Tryz.prog 161 #[.agg #[.int .i64 n1x, .int .i64 d1x, .pointer p1x, .int .i64 n1y, .int .i64 d1y, .pointer p1y, .int .i64 n1z, .int .i64 d1z, .pointer p1z]] w (LFBRet w (-la) (-lb) (-lc) true (max k1x (max k1y k1z) + 5)) := by
  have hd : decide (s < 0) = true := decide_eq_true (by have := hn.out; omega)
  go_enter Tryz.func161, Tryz.ntmps161
  go_wp2_with fail
  refine region_cls (by kernel_rfl) [] (fun hHeld => ?_)
  refine wpAnyH_take (i := 0) (v := ?z688) (by simp; rfl) (by kernel_rfl) (by kernel_rfl) (by kernel_rfl) (by exact fun _ _ _ h => h) (Or.inl ⟨by rfl, ?yz688⟩) hHeld ?_
  case yz688 => (intro wx hSw; have hSx := Ex1.mk hSw; go_simp; (try with_reducible rfl))
  try simp only [Act.put, List.setIfInBounds_toArray, List.set_cons_zero, List.set_cons_succ]
  refine wpAnyH_take (i := 1) (v := ?z689) (by simp; rfl) (by kernel_rfl) (by kernel_rfl) (by kernel_rfl) (by exact fun _ _ _ h => h) (Or.inl ⟨by rfl, ?yz689⟩) hHeld ?_
  case yz689 => (intro wx hSw; have hSx := Ex1.mk hSw; go_simp; (try with_reducible rfl))
  try simp only [Act.put, List.setIfInBounds_toArray, List.set_cons_zero, List.set_cons_succ]
  refine wpAnyH_take (i := 3) (v := ?z690) (by simp; rfl) (by kernel_rfl) (by kernel_rfl) (by kernel_rfl) (by exact fun _ _ _ h => h) (Or.inl ⟨by rfl, ?yz690⟩) hHeld ?_
  case yz690 => (intro wx hSw; have hSx := Ex1.mk hSw; go_simp; (try with_reducible rfl))
  try simp only [Act.put, List.setIfInBounds_toArray, List.set_cons_zero, List.set_cons_succ]
  refine wpAnyH_take (i := 4) (v := ?z691) (by simp; rfl) (by kernel_rfl) (by kernel_rfl) (by kernel_rfl) (by exact fun _ _ _ h => h) (Or.inl ⟨by rfl, ?yz691⟩) hHeld ?_
  case yz691 => (intro wx hSw; have hSx := Ex1.mk hSw; go_simp; (try with_reducible rfl))
  try simp only [Act.put, List.setIfInBounds_toArray, List.set_cons_zero, List.set_cons_succ]
  refine wpAnyH_ready (rs := [2]) (by kernel_rfl) (by simp) ?_
  refine AllReadyH.cons (by simp; rfl) (fun K hK => ?_) AllReadyH.nil
  go_simp
  (go_at_call 189; (with_reducible refine Calls.cE (rSignC (by omega)) ?_); intros)
  refine hK.out _ _ inferInstance ?_
  clear hHeld hK K
  intro hHeld
  try simp only [Act.put, List.setIfInBounds_toArray, List.set_cons_zero, List.set_cons_succ]
  refine wpAnyH_ready (rs := [5]) (by kernel_rfl) (by simp) ?_
  refine AllReadyH.cons (by simp; rfl) (fun K hK => ?_) AllReadyH.nil
  go_simp
  (go_at_call 189; (with_reducible refine Calls.cE (rSignC (by omega)) ?_); intros)
  refine hK.out _ _ inferInstance ?_
  clear hHeld hK K
  intro hHeld
  try simp only [Act.put, List.setIfInBounds_toArray, List.set_cons_zero, List.set_cons_succ]
  refine wpAnyH_ready (rs := [6]) (by kernel_rfl) (by simp) ?_
  refine AllReadyH.cons (by simp; rfl) (fun K hK => ?_) AllReadyH.nil
  go_simp
  refine hK.out _ _ inferInstance ?_
  clear hHeld hK K
  intro hHeld
  try simp only [Act.put, List.setIfInBounds_toArray, List.set_cons_zero, List.set_cons_succ]
  refine wpAnyH_ready (rs := [7]) (by kernel_rfl) (by simp) ?_
  refine AllReadyH.cons (by simp; rfl) (fun K hK => ?_) AllReadyH.nil
  go_simp
  (go_at_call 198; (with_reducible refine Calls.cE (or2V hs) ?_); intros)
  refine hK.out _ _ inferInstance ?_
  clear hHeld hK K
  intro hHeld
  try simp only [Act.put, List.setIfInBounds_toArray, List.set_cons_zero, List.set_cons_succ]
  refine wpAnyH_take (i := 8) (v := ?z692) (by simp; rfl) (by kernel_rfl) (by kernel_rfl) (by kernel_rfl) (by exact fun _ _ _ h => h) (Or.inl ⟨by rfl, ?yz692⟩) hHeld ?_
  case yz692 => (intro wx hSw; have hSx := Ex1.mk hSw; go_simp; (try with_reducible rfl))
  try simp only [Act.put, List.setIfInBounds_toArray, List.set_cons_zero, List.set_cons_succ]
  refine wpAnyH_done (by kernel_rfl) ?_ _
  clear hHeld
  go_wp2_with (first
    | (go_at_call 153; (with_reducible refine Calls.cLF (lnReverseC (by omega)) ?_); intros))
  refine ret_bt rfl Tryz.underlying128 rfl (by kernel_rfl) rfl rfl rfl ?_
  exact LFBRet.fin rfl (by omega) rfl (by omega) rfl (by omega)

set_option maxRecDepth 100000 in
set_option maxHeartbeats 4000000 in
set_option synthInstance.maxSize 100000 in
set_option synthInstance.maxHeartbeats 1000000 in
theorem gCanonF {w : World} {s : Int} {n1x : Int} {d1x : Int} {p1x : Option Addr} {n1y : Int} {d1y : Int} {p1y : Option Addr} {n1z : Int} {d1z : Int} {p1z : Option Addr} {la lb lc : Rat} {k1x k1y k1z : Nat} [h1x : CF w (.agg #[.int .i64 n1x, .int .i64 d1x, .pointer p1x]) la k1x] [h1y : CF w (.agg #[.int .i64 n1y, .int .i64 d1y, .pointer p1y]) lb k1y] [h1z : CF w (.agg #[.int .i64 n1z, .int .i64 d1z, .pointer p1z]) lc k1z] (b : k1x ≤ 300000 ∧ k1y ≤ 300000 ∧ k1z ≤ 300000) (hs : Hid (or3 (isgn la.num) (isgn lb.num) 0 = s)) (hn : Hid (0 ≤ s)) :
    Calls Tryz.prog 161 #[.agg #[.int .i64 n1x, .int .i64 d1x, .pointer p1x, .int .i64 n1y, .int .i64 d1y, .pointer p1y, .int .i64 n1z, .int .i64 d1z, .pointer p1z]] w (LFBRet w la lb lc false (max k1x (max k1y k1z) + 5)) := by
  have hd : decide (s < 0) = false := decide_eq_false (by have := hn.out; omega)
  have hn2 : 0 ≤ s := by have := hn.out; omega
  clear hn
  go_enter Tryz.func161, Tryz.ntmps161
  go_wp2_with fail
  refine region_cls (by kernel_rfl) [] (fun hHeld => ?_)
  refine wpAnyH_take (i := 0) (v := ?z693) (by simp; rfl) (by kernel_rfl) (by kernel_rfl) (by kernel_rfl) (by exact fun _ _ _ h => h) (Or.inl ⟨by rfl, ?yz693⟩) hHeld ?_
  case yz693 => (intro wx hSw; have hSx := Ex1.mk hSw; go_simp; (try with_reducible rfl))
  try simp only [Act.put, List.setIfInBounds_toArray, List.set_cons_zero, List.set_cons_succ]
  refine wpAnyH_take (i := 1) (v := ?z694) (by simp; rfl) (by kernel_rfl) (by kernel_rfl) (by kernel_rfl) (by exact fun _ _ _ h => h) (Or.inl ⟨by rfl, ?yz694⟩) hHeld ?_
  case yz694 => (intro wx hSw; have hSx := Ex1.mk hSw; go_simp; (try with_reducible rfl))
  try simp only [Act.put, List.setIfInBounds_toArray, List.set_cons_zero, List.set_cons_succ]
  refine wpAnyH_take (i := 3) (v := ?z695) (by simp; rfl) (by kernel_rfl) (by kernel_rfl) (by kernel_rfl) (by exact fun _ _ _ h => h) (Or.inl ⟨by rfl, ?yz695⟩) hHeld ?_
  case yz695 => (intro wx hSw; have hSx := Ex1.mk hSw; go_simp; (try with_reducible rfl))
  try simp only [Act.put, List.setIfInBounds_toArray, List.set_cons_zero, List.set_cons_succ]
  refine wpAnyH_take (i := 4) (v := ?z696) (by simp; rfl) (by kernel_rfl) (by kernel_rfl) (by kernel_rfl) (by exact fun _ _ _ h => h) (Or.inl ⟨by rfl, ?yz696⟩) hHeld ?_
  case yz696 => (intro wx hSw; have hSx := Ex1.mk hSw; go_simp; (try with_reducible rfl))
  try simp only [Act.put, List.setIfInBounds_toArray, List.set_cons_zero, List.set_cons_succ]
  refine wpAnyH_ready (rs := [2]) (by kernel_rfl) (by simp) ?_
  refine AllReadyH.cons (by simp; rfl) (fun K hK => ?_) AllReadyH.nil
  go_simp
  (go_at_call 189; (with_reducible refine Calls.cE (rSignC (by omega)) ?_); intros)
  refine hK.out _ _ inferInstance ?_
  clear hHeld hK K
  intro hHeld
  try simp only [Act.put, List.setIfInBounds_toArray, List.set_cons_zero, List.set_cons_succ]
  refine wpAnyH_ready (rs := [5]) (by kernel_rfl) (by simp) ?_
  refine AllReadyH.cons (by simp; rfl) (fun K hK => ?_) AllReadyH.nil
  go_simp
  (go_at_call 189; (with_reducible refine Calls.cE (rSignC (by omega)) ?_); intros)
  refine hK.out _ _ inferInstance ?_
  clear hHeld hK K
  intro hHeld
  try simp only [Act.put, List.setIfInBounds_toArray, List.set_cons_zero, List.set_cons_succ]
  refine wpAnyH_ready (rs := [6]) (by kernel_rfl) (by simp) ?_
  refine AllReadyH.cons (by simp; rfl) (fun K hK => ?_) AllReadyH.nil
  go_simp
  refine hK.out _ _ inferInstance ?_
  clear hHeld hK K
  intro hHeld
  try simp only [Act.put, List.setIfInBounds_toArray, List.set_cons_zero, List.set_cons_succ]
  refine wpAnyH_ready (rs := [7]) (by kernel_rfl) (by simp) ?_
  refine AllReadyH.cons (by simp; rfl) (fun K hK => ?_) AllReadyH.nil
  go_simp
  (go_at_call 198; (with_reducible refine Calls.cE (or2V hs) ?_); intros)
  refine hK.out _ _ inferInstance ?_
  clear hHeld hK K
  intro hHeld
  try simp only [Act.put, List.setIfInBounds_toArray, List.set_cons_zero, List.set_cons_succ]
  refine wpAnyH_take (i := 8) (v := ?z697) (by simp; rfl) (by kernel_rfl) (by kernel_rfl) (by kernel_rfl) (by exact fun _ _ _ h => h) (Or.inl ⟨by rfl, ?yz697⟩) hHeld ?_
  case yz697 => (intro wx hSw; have hSx := Ex1.mk hSw; go_simp; (try with_reducible rfl))
  try simp only [Act.put, List.setIfInBounds_toArray, List.set_cons_zero, List.set_cons_succ]
  refine wpAnyH_done (by kernel_rfl) ?_ _
  clear hHeld
  go_wp2_with (first
    | (go_at_call 153; (with_reducible refine Calls.cLF (lnReverseC (by omega)) ?_); intros))
  refine ret_bt rfl Tryz.underlying128 rfl (by kernel_rfl) rfl rfl rfl ?_
  exact LFBRet.fin rfl (by omega) rfl (by omega) rfl (by omega)

set_option maxRecDepth 100000 in
set_option maxHeartbeats 4000000 in
set_option synthInstance.maxSize 100000 in
set_option synthInstance.maxHeartbeats 1000000 in
theorem lineCanonT {w : World} {s : Int} {g1x : Bool} {a1x : Option Addr} {l1x : Nat} {c1x : Nat} {g1y : Bool} {a1y : Option Addr} {l1y : Nat} {c1y : Nat} {g1z : Bool} {a1z : Option Addr} {l1z : Nat} {c1z : Nat} {la lb lc : Int} {k1x k1y k1z : Nat} [h1x : CZ w (.agg #[.bool g1x, .slice a1x l1x c1x]) la k1x] [h1y : CZ w (.agg #[.bool g1y, .slice a1y l1y c1y]) lb k1y] [h1z : CZ w (.agg #[.bool g1z, .slice a1z l1z c1z]) lc k1z] (b : k1x ≤ 9000 ∧ k1y ≤ 9000 ∧ k1z ≤ 9000) (hv : Hid (LnV la lb lc)) (hs : Hid (or3 (isgn ((la : Int) : Rat).num) (isgn ((lb : Int) : Rat).num) 0 = s)) (hn : Hid (s < 0)) :
    Calls Tryz.prog 76 #[.agg #[.bool g1x, .slice a1x l1x c1x, .bool g1y, .slice a1y l1y c1y, .bool g1z, .slice a1z l1z c1z]] w (LZBRet w (-la) (-lb) (-lc) true (max k1x (max k1y k1z) + 40)) := by
  go_enter Tryz.func76, Tryz.ntmps76
  go_wp2_with (first
    | (go_at_call 149; (with_reducible refine Calls.cLFB (lnOfC (by omega) hv) ?_); intros)
    | (go_at_call 161; (with_reducible refine Calls.cLFB (gCanonT (by omega) hs hn) ?_); intros)
    | (go_at_call 154; (with_reducible refine Calls.cLZ (lnApiC (by omega)) ?_); intros))
  refine ret_bt rfl Tryz.underlying51 rfl (by kernel_rfl) rfl rfl rfl ?_
  exact LZBRet.fin (neg_int _) (by omega) (neg_int _) (by omega) (neg_int _) (by omega)

set_option maxRecDepth 100000 in
set_option maxHeartbeats 4000000 in
set_option synthInstance.maxSize 100000 in
set_option synthInstance.maxHeartbeats 1000000 in
theorem lineCanonF {w : World} {s : Int} {g1x : Bool} {a1x : Option Addr} {l1x : Nat} {c1x : Nat} {g1y : Bool} {a1y : Option Addr} {l1y : Nat} {c1y : Nat} {g1z : Bool} {a1z : Option Addr} {l1z : Nat} {c1z : Nat} {la lb lc : Int} {k1x k1y k1z : Nat} [h1x : CZ w (.agg #[.bool g1x, .slice a1x l1x c1x]) la k1x] [h1y : CZ w (.agg #[.bool g1y, .slice a1y l1y c1y]) lb k1y] [h1z : CZ w (.agg #[.bool g1z, .slice a1z l1z c1z]) lc k1z] (b : k1x ≤ 9000 ∧ k1y ≤ 9000 ∧ k1z ≤ 9000) (hv : Hid (LnV la lb lc)) (hs : Hid (or3 (isgn ((la : Int) : Rat).num) (isgn ((lb : Int) : Rat).num) 0 = s)) (hn : Hid (0 ≤ s)) :
    Calls Tryz.prog 76 #[.agg #[.bool g1x, .slice a1x l1x c1x, .bool g1y, .slice a1y l1y c1y, .bool g1z, .slice a1z l1z c1z]] w (LZBRet w la lb lc false (max k1x (max k1y k1z) + 40)) := by
  go_enter Tryz.func76, Tryz.ntmps76
  go_wp2_with (first
    | (go_at_call 149; (with_reducible refine Calls.cLFB (lnOfC (by omega) hv) ?_); intros)
    | (go_at_call 161; (with_reducible refine Calls.cLFB (gCanonF (by omega) hs hn) ?_); intros)
    | (go_at_call 154; (with_reducible refine Calls.cLZ (lnApiC (by omega)) ?_); intros))
  refine ret_bt rfl Tryz.underlying51 rfl (by kernel_rfl) rfl rfl rfl ?_
  exact LZBRet.fin rfl (by omega) rfl (by omega) rfl (by omega)

end Go.Proofs.YtlameeijogdckaaGreat

/- Plain laws of the order of lines. -/
namespace Go.Proofs.YtlameeijogdckaaGreat
open Go.RowKit
set_option linter.unusedVariables false

theorem isgn_sub (x y : Rat) : (x < y ∧ isgn (x - y).num = -1) ∨ (x = y ∧ isgn (x - y).num = 0) ∨ (y < x ∧ isgn (x - y).num = 1) := by
  rcases isgn_cases (x - y).num with ⟨_, e⟩ | ⟨_, e⟩ | ⟨_, e⟩
  · exact Or.inl ⟨by have := isg_neg.1 e; grind, e⟩
  · exact Or.inr (Or.inl ⟨by have := isg_zero.1 e; grind, e⟩)
  · exact Or.inr (Or.inr ⟨by have := isg_pos.1 e; grind, e⟩)
theorem cmpL_cases (a b c a' b' c' : Rat) : (cmpL a b c a' b' c' = -1 ∧ (a < a' ∨ a = a' ∧ (b < b' ∨ b = b' ∧ c < c'))) ∨ (cmpL a b c a' b' c' = 0 ∧ a = a' ∧ b = b' ∧ c = c') ∨
    (cmpL a b c a' b' c' = 1 ∧ (a' < a ∨ a = a' ∧ (b' < b ∨ b = b' ∧ c' < c))) := by
  unfold cmpL or3
  rcases isgn_sub a a' with ⟨h1, e1⟩ | ⟨h1, e1⟩ | ⟨h1, e1⟩
  · rw [e1]; exact Or.inl ⟨by simp, Or.inl h1⟩
  · rw [e1]
    rcases isgn_sub b b' with ⟨h2, e2⟩ | ⟨h2, e2⟩ | ⟨h2, e2⟩
    · rw [e2]; exact Or.inl ⟨by simp, Or.inr ⟨h1, Or.inl h2⟩⟩
    · rw [e2]
      rcases isgn_sub c c' with ⟨h3, e3⟩ | ⟨h3, e3⟩ | ⟨h3, e3⟩
      · rw [e3]; exact Or.inl ⟨by simp, Or.inr ⟨h1, Or.inr ⟨h2, h3⟩⟩⟩
      · rw [e3]; exact Or.inr (Or.inl ⟨by simp, h1, h2, h3⟩)
      · rw [e3]; exact Or.inr (Or.inr ⟨by simp, Or.inr ⟨h1, Or.inr ⟨h2, h3⟩⟩⟩)
    · rw [e2]; exact Or.inr (Or.inr ⟨by simp, Or.inr ⟨h1, Or.inl h2⟩⟩)
  · rw [e1]; exact Or.inr (Or.inr ⟨by simp, Or.inl h1⟩)
theorem cmpL_bd (a b c a' b' c' : Rat) : -1 ≤ cmpL a b c a' b' c' ∧ cmpL a b c a' b' c' ≤ 1 := by
  rcases cmpL_cases a b c a' b' c' with ⟨h, _⟩ | ⟨h, _⟩ | ⟨h, _⟩ <;> omega
theorem cmpL_swap (a b c a' b' c' : Rat) : cmpL a' b' c' a b c = -cmpL a b c a' b' c' := by
  rcases cmpL_cases a b c a' b' c' with ⟨e, h⟩ | ⟨e, h⟩ | ⟨e, h⟩ <;> rcases cmpL_cases a' b' c' a b c with ⟨e', h'⟩ | ⟨e', h'⟩ | ⟨e', h'⟩ <;> rw [e, e'] <;> first | rfl | (exfalso; grind)
theorem cmpL_trans {a b c a' b' c' a'' b'' c'' : Rat} (h1 : cmpL a b c a' b' c' ≤ 0) (h2 : cmpL a' b' c' a'' b'' c'' ≤ 0) : cmpL a b c a'' b'' c'' ≤ 0 := by
  rcases cmpL_cases a b c a' b' c' with ⟨e, h⟩ | ⟨e, h⟩ | ⟨e, h⟩ <;> rcases cmpL_cases a' b' c' a'' b'' c'' with ⟨e', h'⟩ | ⟨e', h'⟩ | ⟨e', h'⟩ <;> rcases cmpL_cases a b c a'' b'' c'' with ⟨e3, h3⟩ | ⟨e3, h3⟩ | ⟨e3, h3⟩ <;> first | omega | (exfalso; grind)
theorem cmpL_same {a b c a' b' c' : Rat} (h : cmpL a b c a' b' c' = 0) : decide (a = a' ∧ b = b' ∧ c = c') = true := by
  rw [← cmpL_zero, h]; rfl
theorem or3_neg (a b : Int) : or3 (-a) (-b) 0 = -or3 a b 0 := by
  unfold or3
  repeat' split
  all_goals omega
theorem canon_rev {la lb lc : Int} (hv : LnV la lb lc) {s : Int} (h : or3 (isgn ((la : Int) : Rat).num) (isgn ((lb : Int) : Rat).num) 0 = s) :
    or3 (isgn ((-la : Int) : Rat).num) (isgn ((-lb : Int) : Rat).num) 0 = -s ∧ s ≠ 0 := by
  rw [show ((-la : Int) : Rat).num = -la from rfl, show ((-lb : Int) : Rat).num = -lb from rfl, isgn_neg', isgn_neg', or3_neg]
  rw [show ((la : Int) : Rat).num = la from rfl, show ((lb : Int) : Rat).num = lb from rfl] at h
  refine ⟨by rw [h], fun hs => ?_⟩
  rw [hs] at h
  refine hv.1 ⟨?_, ?_⟩
  · unfold or3 at h
    rcases isgn_cases la with ⟨h1, e⟩ | ⟨h1, e⟩ | ⟨h1, e⟩
    · rw [e] at h; exact absurd h (by simp)
    · exact h1
    · rw [e] at h; exact absurd h (by simp)
  · unfold or3 at h
    rcases isgn_cases la with ⟨h1, e⟩ | ⟨h1, e⟩ | ⟨h1, e⟩
    · rw [e] at h; exact absurd h (by simp)
    · rw [e] at h
      rcases isgn_cases lb with ⟨h2, e2⟩ | ⟨h2, e2⟩ | ⟨h2, e2⟩
      · rw [e2] at h; exact absurd h (by simp)
      · exact h2
      · rw [e2] at h; exact absurd h (by simp)
    · rw [e] at h; exact absurd h (by simp)
theorem lineCompareV {w : World} {v : Int} {g1x : Bool} {a1x : Option Addr} {l1x : Nat} {c1x : Nat} {g1y : Bool} {a1y : Option Addr} {l1y : Nat} {c1y : Nat} {g1z : Bool} {a1z : Option Addr} {l1z : Nat} {c1z : Nat} {la lb lc : Int} {g2x : Bool} {a2x : Option Addr} {l2x : Nat} {c2x : Nat} {g2y : Bool} {a2y : Option Addr} {l2y : Nat} {c2y : Nat} {g2z : Bool} {a2z : Option Addr} {l2z : Nat} {c2z : Nat} {ma mb mc : Int} {k1x k1y k1z k2x k2y k2z : Nat} [h1x : CZ w (.agg #[.bool g1x, .slice a1x l1x c1x]) la k1x] [h1y : CZ w (.agg #[.bool g1y, .slice a1y l1y c1y]) lb k1y] [h1z : CZ w (.agg #[.bool g1z, .slice a1z l1z c1z]) lc k1z] [h2x : CZ w (.agg #[.bool g2x, .slice a2x l2x c2x]) ma k2x] [h2y : CZ w (.agg #[.bool g2y, .slice a2y l2y c2y]) mb k2y] [h2z : CZ w (.agg #[.bool g2z, .slice a2z l2z c2z]) mc k2z] (b : k1x ≤ 6000 ∧ k1y ≤ 6000 ∧ k1z ≤ 6000 ∧ k2x ≤ 6000 ∧ k2y ≤ 6000 ∧ k2z ≤ 6000) (hv0 : Hid (LnV la lb lc)) (hw0 : Hid (LnV ma mb mc)) (hv : Hid (cmpL ((la : Int) : Rat) ((lb : Int) : Rat) ((lc : Int) : Rat) ((ma : Int) : Rat) ((mb : Int) : Rat) ((mc : Int) : Rat) = v)) :
    Calls Tryz.prog 75 #[.agg #[.bool g1x, .slice a1x l1x c1x, .bool g1y, .slice a1y l1y c1y, .bool g1z, .slice a1z l1z c1z], .agg #[.bool g2x, .slice a2x l2x c2x, .bool g2y, .slice a2y l2y c2y, .bool g2z, .slice a2z l2z c2z]] w (fun e w' => e = .returned (.int .i64 v) ∧ Below w.heap.size w w') := by
  rw [← hv.out]; exact lineCompareC (by omega) hv0 hw0
end Go.Proofs.YtlameeijogdckaaGreat

/- The walk of the law LineOrder: it returns true and changes nothing that was there. printed by a small program (mkln8.py). -/
namespace Go.Proofs.YtlameeijogdckaaGreat
open Go.RowKit

set_option linter.unusedSimpArgs false
set_option maxRecDepth 100000 in
set_option maxHeartbeats 40000000 in
set_option synthInstance.maxSize 100000 in
set_option synthInstance.maxHeartbeats 1000000 in
theorem lineOrder_walk (a0 : Option Addr) (len0 cap0 : Nat) (z0 : List Int) (w : World) (w0 : IsRow .i64 w a0 len0 cap0 z0) :
    Calls Tryz.prog 9 #[.slice a0 len0 cap0] w fun e w' => e = .returned (.bool true) ∧ Below w.heap.size w w' := by
  go_enter Tryz.func9, Tryz.ntmps9
  go_wp2_with fail
  with_reducible refine Calls.cNew (newW w0) ?_
  intro W1 _ _
  go_wp2_with fail
  with_reducible refine Calls.cTL tapeLC ?_
  intro W1 _ _ gx1 ax1 lx1 cx1 gy1 ay1 ly1 cy1 gz1 az1 lz1 cz1 la lb lc _ _ _ hv1
  go_wp2_with fail
  with_reducible refine Calls.cLZ (toLC (by omega)) ?_
  intros
  go_wp2_with fail
  with_reducible refine Calls.cTL tapeLC ?_
  intro W2 _ _ gx2 ax2 lx2 cx2 gy2 ay2 ly2 cy2 gz2 az2 lz2 cz2 ma mb mc _ _ _ hv2
  go_wp2_with fail
  with_reducible refine Calls.cLZ (toLC (by omega)) ?_
  intros
  go_wp2_with fail
  with_reducible refine Calls.cTL tapeLC ?_
  intro W3 _ _ gx3 ax3 lx3 cx3 gy3 ay3 ly3 cy3 gz3 az3 lz3 cz3 na nb nc _ _ _ hv3
  go_wp2_with fail
  with_reducible refine Calls.cLZ (toLC (by omega)) ?_
  intros
  go_wp2_with fail
  obtain ⟨a, ha⟩ : ∃ a, cmpL ((la : Int) : Rat) ((lb : Int) : Rat) ((lc : Int) : Rat) ((ma : Int) : Rat) ((mb : Int) : Rat) ((mc : Int) : Rat) = a := ⟨_, rfl⟩
  obtain ⟨b, hb⟩ : ∃ b, cmpL ((ma : Int) : Rat) ((mb : Int) : Rat) ((mc : Int) : Rat) ((na : Int) : Rat) ((nb : Int) : Rat) ((nc : Int) : Rat) = b := ⟨_, rfl⟩
  obtain ⟨c, hc⟩ : ∃ c, cmpL ((la : Int) : Rat) ((lb : Int) : Rat) ((lc : Int) : Rat) ((na : Int) : Rat) ((nb : Int) : Rat) ((nc : Int) : Rat) = c := ⟨_, rfl⟩
  obtain ⟨s, hs⟩ : ∃ s, or3 (isgn ((la : Int) : Rat).num) (isgn ((lb : Int) : Rat).num) 0 = s := ⟨_, rfl⟩
  obtain ⟨hs2, hs3⟩ := canon_rev hv1.out hs
  have HS := Lib.hid hs
  have HS2 := Lib.hid hs2
  have hr1 := Lib.hid hv1.out.rev
  have hr2 := Lib.hid hr1.out.rev
  obtain ⟨qa1, qa2⟩ := cmpL_bd ((la : Int) : Rat) ((lb : Int) : Rat) ((lc : Int) : Rat) ((ma : Int) : Rat) ((mb : Int) : Rat) ((mc : Int) : Rat)
  rw [ha] at qa1 qa2
  have HT : Hid (a ≤ 0 → b ≤ 0 → c ≤ 0) := by rw [← ha, ← hb, ← hc]; exact cmpL_trans
  have HZ : Hid (a = 0 → decide (((la : Int) : Rat) = ((ma : Int) : Rat) ∧ ((lb : Int) : Rat) = ((mb : Int) : Rat) ∧ ((lc : Int) : Rat) = ((mc : Int) : Rat)) = true) := fun e => cmpL_same (ha.trans e)
  have HA := Lib.hid ha
  have HB := Lib.hid hb
  have HC := Lib.hid hc
  have HD : Hid (cmpL ((ma : Int) : Rat) ((mb : Int) : Rat) ((mc : Int) : Rat) ((la : Int) : Rat) ((lb : Int) : Rat) ((lc : Int) : Rat) = -a) := by show _ = _; rw [cmpL_swap, ha]
  have ew : IntKind.i64.wrap (-a) = -a := by rw [IntKind.wrap_i64]; omega
  clear ha hb hc hs hs2
  refine region_cls (by kernel_rfl) [] (fun hHeld => ?_)
  refine wpAnyH_take (i := 0) (v := ?z698) (by simp; rfl) (by kernel_rfl) (by kernel_rfl) (by kernel_rfl) (by exact fun _ _ _ h => h) (Or.inl ⟨by rfl, ?yz698⟩) hHeld ?_
  case yz698 => (intro wx hSw; have hSx := Ex1.mk hSw; go_simp; (try with_reducible rfl))
  try simp only [Act.put, List.setIfInBounds_toArray, List.set_cons_zero, List.set_cons_succ]
  refine wpAnyH_take (i := 1) (v := ?z699) (by simp; rfl) (by kernel_rfl) (by kernel_rfl) (by kernel_rfl) (by exact fun _ _ _ h => h) (Or.inl ⟨by rfl, ?yz699⟩) hHeld ?_
  case yz699 => (intro wx hSw; have hSx := Ex1.mk hSw; go_simp; (try with_reducible rfl))
  try simp only [Act.put, List.setIfInBounds_toArray, List.set_cons_zero, List.set_cons_succ]
  refine wpAnyH_take (i := 3) (v := ?z700) (by simp; rfl) (by kernel_rfl) (by kernel_rfl) (by kernel_rfl) (by exact fun _ _ _ h => h) (Or.inl ⟨by rfl, ?yz700⟩) hHeld ?_
  case yz700 => (intro wx hSw; have hSx := Ex1.mk hSw; go_simp; (try with_reducible rfl))
  try simp only [Act.put, List.setIfInBounds_toArray, List.set_cons_zero, List.set_cons_succ]
  refine wpAnyH_take (i := 4) (v := ?z701) (by simp; rfl) (by kernel_rfl) (by kernel_rfl) (by kernel_rfl) (by exact fun _ _ _ h => h) (Or.inl ⟨by rfl, ?yz701⟩) hHeld ?_
  case yz701 => (intro wx hSw; have hSx := Ex1.mk hSw; go_simp; (try with_reducible rfl))
  try simp only [Act.put, List.setIfInBounds_toArray, List.set_cons_zero, List.set_cons_succ]
  refine wpAnyH_take (i := 6) (v := ?z702) (by simp; rfl) (by kernel_rfl) (by kernel_rfl) (by kernel_rfl) (by exact fun _ _ _ h => h) (Or.inl ⟨by rfl, ?yz702⟩) hHeld ?_
  case yz702 => (intro wx hSw; have hSx := Ex1.mk hSw; go_simp; (try with_reducible rfl))
  try simp only [Act.put, List.setIfInBounds_toArray, List.set_cons_zero, List.set_cons_succ]
  refine wpAnyH_take (i := 7) (v := ?z703) (by simp; rfl) (by kernel_rfl) (by kernel_rfl) (by kernel_rfl) (by exact fun _ _ _ h => h) (Or.inl ⟨by rfl, ?yz703⟩) hHeld ?_
  case yz703 => (intro wx hSw; have hSx := Ex1.mk hSw; go_simp; (try with_reducible rfl))
  try simp only [Act.put, List.setIfInBounds_toArray, List.set_cons_zero, List.set_cons_succ]
  refine wpAnyH_ready (rs := [2]) (by kernel_rfl) (by simp) ?_
  refine AllReadyH.cons (by simp; rfl) (fun K hK => ?_) AllReadyH.nil
  go_simp
  (go_at_call 75; (with_reducible refine Calls.cE (lineCompareV (by omega) hv1 hv2 HA) ?_); intros)
  refine hK.out _ _ inferInstance ?_
  clear hHeld hK K
  intro hHeld
  try simp only [Act.put, List.setIfInBounds_toArray, List.set_cons_zero, List.set_cons_succ]
  refine wpAnyH_ready (rs := [5]) (by kernel_rfl) (by simp) ?_
  refine AllReadyH.cons (by simp; rfl) (fun K hK => ?_) AllReadyH.nil
  go_simp
  (go_at_call 75; (with_reducible refine Calls.cE (lineCompareV (by omega) hv2 hv3 HB) ?_); intros)
  refine hK.out _ _ inferInstance ?_
  clear hHeld hK K
  intro hHeld
  try simp only [Act.put, List.setIfInBounds_toArray, List.set_cons_zero, List.set_cons_succ]
  refine wpAnyH_ready (rs := [8]) (by kernel_rfl) (by simp) ?_
  refine AllReadyH.cons (by simp; rfl) (fun K hK => ?_) AllReadyH.nil
  go_simp
  (go_at_call 75; (with_reducible refine Calls.cE (lineCompareV (by omega) hv1 hv3 HC) ?_); intros)
  refine hK.out _ _ inferInstance ?_
  clear hHeld hK K
  intro hHeld
  try simp only [Act.put, List.setIfInBounds_toArray, List.set_cons_zero, List.set_cons_succ]
  refine wpAnyH_take (i := 9) (v := ?z704) (by simp; rfl) (by kernel_rfl) (by kernel_rfl) (by kernel_rfl) (by exact fun _ _ _ h => h) (Or.inl ⟨by rfl, ?yz704⟩) hHeld ?_
  case yz704 => (intro wx hSw; have hSx := Ex1.mk hSw; go_simp; (try with_reducible rfl))
  try simp only [Act.put, List.setIfInBounds_toArray, List.set_cons_zero, List.set_cons_succ]
  refine wpAnyH_take (i := 10) (v := ?z705) (by simp; rfl) (by kernel_rfl) (by kernel_rfl) (by kernel_rfl) (by exact fun _ _ _ h => h) (Or.inl ⟨by rfl, ?yz705⟩) hHeld ?_
  case yz705 => (intro wx hSw; have hSx := Ex1.mk hSw; go_simp; (try with_reducible rfl))
  try simp only [Act.put, List.setIfInBounds_toArray, List.set_cons_zero, List.set_cons_succ]
  refine wpAnyH_take (i := 11) (v := ?z706) (by simp; rfl) (by kernel_rfl) (by kernel_rfl) (by kernel_rfl) (by exact fun _ _ _ h => h) (Or.inl ⟨by rfl, ?yz706⟩) hHeld ?_
  case yz706 => (intro wx hSw; have hSx := Ex1.mk hSw; go_simp; (try with_reducible rfl))
  try simp only [Act.put, List.setIfInBounds_toArray, List.set_cons_zero, List.set_cons_succ]
  refine wpAnyH_done (by kernel_rfl) ?_ _
  clear hHeld
  rcases Int.lt_or_le s 0 with h | h
  · have h' : 0 ≤ -s := by omega
    have hh : Hid (s < 0) := h
    have hh' : Hid (0 ≤ -s) := h'
    clear h h' hs3
    go_wp2_with fail
    (with_reducible refine Calls.cLZB (lineCanonT (by omega) hv1 HS hh) ?_)
    intros
    go_wp2_with (first | (go_at_call 72; (with_reducible refine Calls.cLZ (lineReverseC (by omega) hv1) ?_); intros))
    (with_reducible refine Calls.cLZB (lineCanonF (by omega) hr1 HS2 hh') ?_)
    intros
    rcases Int.lt_trichotomy a 0 with g1 | g1 | g1
    · have e1 : (a == 0) = false := by rw [beq_eq_false_iff_ne]; omega
      have e2 : (a != 0) = true := by simp [bne, e1]
      have e3 : decide (a ≤ 0) = true := decide_eq_true (by omega)
      have e4 : a ≤ 0 := by omega
      rcases Int.lt_or_le 0 b with g2 | g2
      · have e5 : decide (b ≤ 0) = false := decide_eq_false (by omega)
        go_wp2_with (first
        | (go_at_call 24; (with_reducible refine Calls.cE (known05C) ?_); intros)
        | (go_at_call 75; (with_reducible refine Calls.cE (lineCompareV (by omega) hv2 hv1 HD) ?_); intros)
        | (go_at_call 77; (with_reducible refine Calls.cE (lineSameC (v := true) (by omega) (by first | exact hr1 | exact hv1) (by first | exact hr1 | exact hr2 | exact hv1) (by refine Lib.hid ?_; simp)) ?_); intros))
        go_ret
        exact E.fin rfl
      · have e5 : decide (b ≤ 0) = true := decide_eq_true g2
        have g3 : c ≤ 0 := HT.out (by omega) g2
        have e6 : decide (0 < c) = false := decide_eq_false (by omega)
        go_wp2_with (first
        | (go_at_call 24; (with_reducible refine Calls.cE (known05C) ?_); intros)
        | (go_at_call 75; (with_reducible refine Calls.cE (lineCompareV (by omega) hv2 hv1 HD) ?_); intros)
        | (go_at_call 77; (with_reducible refine Calls.cE (lineSameC (v := true) (by omega) (by first | exact hr1 | exact hv1) (by first | exact hr1 | exact hr2 | exact hv1) (by refine Lib.hid ?_; simp)) ?_); intros))
        go_ret
        exact E.fin rfl
    · have HE := Lib.hid (HZ.out g1)
      subst g1
      rcases Int.lt_or_le 0 b with g2 | g2
      · have e5 : decide (b ≤ 0) = false := decide_eq_false (by omega)
        go_wp2_with (first
        | (go_at_call 24; (with_reducible refine Calls.cE (known05C) ?_); intros)
        | (go_at_call 75; (with_reducible refine Calls.cE (lineCompareV (by omega) hv2 hv1 HD) ?_); intros)
        | (go_at_call 77; (with_reducible refine Calls.cE (lineSameC (v := true) (by omega) hv1 hv2 (by refine Lib.hid ?_; simpa using HE.out)) ?_); intros)
        | (go_at_call 77; (with_reducible refine Calls.cE (lineSameC (v := true) (by omega) (by first | exact hr1 | exact hv1) (by first | exact hr1 | exact hr2 | exact hv1) (by refine Lib.hid ?_; simp)) ?_); intros))
        go_ret
        exact E.fin rfl
      · have e5 : decide (b ≤ 0) = true := decide_eq_true g2
        have g3 : c ≤ 0 := HT.out (by omega) g2
        have e6 : decide (0 < c) = false := decide_eq_false (by omega)
        go_wp2_with (first
        | (go_at_call 24; (with_reducible refine Calls.cE (known05C) ?_); intros)
        | (go_at_call 75; (with_reducible refine Calls.cE (lineCompareV (by omega) hv2 hv1 HD) ?_); intros)
        | (go_at_call 77; (with_reducible refine Calls.cE (lineSameC (v := true) (by omega) hv1 hv2 (by refine Lib.hid ?_; simpa using HE.out)) ?_); intros)
        | (go_at_call 77; (with_reducible refine Calls.cE (lineSameC (v := true) (by omega) (by first | exact hr1 | exact hv1) (by first | exact hr1 | exact hr2 | exact hv1) (by refine Lib.hid ?_; simp)) ?_); intros))
        go_ret
        exact E.fin rfl
    · have e1 : (a == 0) = false := by rw [beq_eq_false_iff_ne]; omega
      have e2 : (a != 0) = true := by simp [bne, e1]
      have e3 : decide (a ≤ 0) = false := decide_eq_false (by omega)
      go_wp2_with (first
        | (go_at_call 24; (with_reducible refine Calls.cE (known05C) ?_); intros)
        | (go_at_call 75; (with_reducible refine Calls.cE (lineCompareV (by omega) hv2 hv1 HD) ?_); intros)
        | (go_at_call 77; (with_reducible refine Calls.cE (lineSameC (v := true) (by omega) (by first | exact hr1 | exact hv1) (by first | exact hr1 | exact hr2 | exact hv1) (by refine Lib.hid ?_; simp)) ?_); intros))
      go_ret
      exact E.fin rfl
  · have h' : -s < 0 := by omega
    have hh : Hid (0 ≤ s) := h
    have hh' : Hid (-s < 0) := h'
    clear h h' hs3
    go_wp2_with fail
    (with_reducible refine Calls.cLZB (lineCanonF (by omega) hv1 HS hh) ?_)
    intros
    go_wp2_with (first | (go_at_call 72; (with_reducible refine Calls.cLZ (lineReverseC (by omega) hv1) ?_); intros))
    (with_reducible refine Calls.cLZB (lineCanonT (by omega) hr1 HS2 hh') ?_)
    intros
    rcases Int.lt_trichotomy a 0 with g1 | g1 | g1
    · have e1 : (a == 0) = false := by rw [beq_eq_false_iff_ne]; omega
      have e2 : (a != 0) = true := by simp [bne, e1]
      have e3 : decide (a ≤ 0) = true := decide_eq_true (by omega)
      have e4 : a ≤ 0 := by omega
      rcases Int.lt_or_le 0 b with g2 | g2
      · have e5 : decide (b ≤ 0) = false := decide_eq_false (by omega)
        go_wp2_with (first
        | (go_at_call 24; (with_reducible refine Calls.cE (known05C) ?_); intros)
        | (go_at_call 75; (with_reducible refine Calls.cE (lineCompareV (by omega) hv2 hv1 HD) ?_); intros)
        | (go_at_call 77; (with_reducible refine Calls.cE (lineSameC (v := true) (by omega) (by first | exact hr1 | exact hv1) (by first | exact hr1 | exact hr2 | exact hv1) (by refine Lib.hid ?_; simp)) ?_); intros))
        go_ret
        exact E.fin rfl
      · have e5 : decide (b ≤ 0) = true := decide_eq_true g2
        have g3 : c ≤ 0 := HT.out (by omega) g2
        have e6 : decide (0 < c) = false := decide_eq_false (by omega)
        go_wp2_with (first
        | (go_at_call 24; (with_reducible refine Calls.cE (known05C) ?_); intros)
        | (go_at_call 75; (with_reducible refine Calls.cE (lineCompareV (by omega) hv2 hv1 HD) ?_); intros)
        | (go_at_call 77; (with_reducible refine Calls.cE (lineSameC (v := true) (by omega) (by first | exact hr1 | exact hv1) (by first | exact hr1 | exact hr2 | exact hv1) (by refine Lib.hid ?_; simp)) ?_); intros))
        go_ret
        exact E.fin rfl
    · have HE := Lib.hid (HZ.out g1)
      subst g1
      rcases Int.lt_or_le 0 b with g2 | g2
      · have e5 : decide (b ≤ 0) = false := decide_eq_false (by omega)
        go_wp2_with (first
        | (go_at_call 24; (with_reducible refine Calls.cE (known05C) ?_); intros)
        | (go_at_call 75; (with_reducible refine Calls.cE (lineCompareV (by omega) hv2 hv1 HD) ?_); intros)
        | (go_at_call 77; (with_reducible refine Calls.cE (lineSameC (v := true) (by omega) hv1 hv2 (by refine Lib.hid ?_; simpa using HE.out)) ?_); intros)
        | (go_at_call 77; (with_reducible refine Calls.cE (lineSameC (v := true) (by omega) (by first | exact hr1 | exact hv1) (by first | exact hr1 | exact hr2 | exact hv1) (by refine Lib.hid ?_; simp)) ?_); intros))
        go_ret
        exact E.fin rfl
      · have e5 : decide (b ≤ 0) = true := decide_eq_true g2
        have g3 : c ≤ 0 := HT.out (by omega) g2
        have e6 : decide (0 < c) = false := decide_eq_false (by omega)
        go_wp2_with (first
        | (go_at_call 24; (with_reducible refine Calls.cE (known05C) ?_); intros)
        | (go_at_call 75; (with_reducible refine Calls.cE (lineCompareV (by omega) hv2 hv1 HD) ?_); intros)
        | (go_at_call 77; (with_reducible refine Calls.cE (lineSameC (v := true) (by omega) hv1 hv2 (by refine Lib.hid ?_; simpa using HE.out)) ?_); intros)
        | (go_at_call 77; (with_reducible refine Calls.cE (lineSameC (v := true) (by omega) (by first | exact hr1 | exact hv1) (by first | exact hr1 | exact hr2 | exact hv1) (by refine Lib.hid ?_; simp)) ?_); intros))
        go_ret
        exact E.fin rfl
    · have e1 : (a == 0) = false := by rw [beq_eq_false_iff_ne]; omega
      have e2 : (a != 0) = true := by simp [bne, e1]
      have e3 : decide (a ≤ 0) = false := decide_eq_false (by omega)
      go_wp2_with (first
        | (go_at_call 24; (with_reducible refine Calls.cE (known05C) ?_); intros)
        | (go_at_call 75; (with_reducible refine Calls.cE (lineCompareV (by omega) hv2 hv1 HD) ?_); intros)
        | (go_at_call 77; (with_reducible refine Calls.cE (lineSameC (v := true) (by omega) (by first | exact hr1 | exact hv1) (by first | exact hr1 | exact hr2 | exact hv1) (by refine Lib.hid ?_; simp)) ?_); intros))
      go_ret
      exact E.fin rfl
end Go.Proofs.YtlameeijogdckaaGreat
