/-
  Texts of this claim, joined: Rat2, RMade, Laid, Tail.
-/
import Derived.Test.YtnkfbkdcplbgoaaGreatDoorNumQ
import Derived.Test.YtnkfbkdcplbgoaaGreatDoorFrac3
import Derived.Test.YtnkfbkdcplbgoaaGreatDoorInt7
import Derived.Test.YtnkfbkdcplbgoaaGreatDoorRB
import Derived.Deep.CutRange
import Derived.Test.YtnkfbkdcplbgoaaGreatDoorRows
import Derived.Test.YtnkfbkdcplbgoaaGreatDoorRA
import Derived.LaidMore
import Derived.Stop.LaidTwo
import Derived.Stop.Joined
import Derived.Test.YtnkfbkdcplbgoaaGreatDoorCls
/- Package rational in terms of rational numbers; SameQ in general; what the laws of layer 3 read off the tape. printed by a small program (mkrat2.py). -/
namespace Go.Proofs.YtnkfbkdcplbgoaaGreatDoor
open Go.RowKit

theorem sameB_nf (m n : Nat) : sameB (nf m) (nf n) = decide (m = n) := by
  rw [Bool.eq_iff_iff]
  simp only [sameB, decide_eq_true_eq]
  exact ⟨nf_inj, fun h => by rw [h]⟩
theorem sameNG {w : World} {a1 a2 : Option Addr} {l1 c1 l2 c2 m n k1 k2 : Nat} [h1 : CN w (.slice a1 l1 c1) m k1] [h2 : CN w (.slice a2 l2 c2) n k2] :
    Calls Tryz.prog 83 #[.slice a1 l1 c1, .slice a2 l2 c2] w fun e w' => e = .returned (.bool (decide (m = n))) ∧ Below w.heap.size w w' := by
  rw [← sameB_nf]
  exact sameN_any _ _ _ _ _ h1.out.1 h2.out.1
set_option maxRecDepth 100000 in
set_option maxHeartbeats 4000000 in
set_option synthInstance.maxSize 100000 in
set_option synthInstance.maxHeartbeats 1000000 in
theorem sameIG {w : World} {g1 g2 : Bool} {a1 a2 : Option Addr} {l1 c1 l2 c2 k1 k2 : Nat} {x y : Int} [h1 : CZ w (.agg #[.bool g1, .slice a1 l1 c1]) x k1] [h2 : CZ w (.agg #[.bool g2, .slice a2 l2 c2]) y k2] :
    Calls Tryz.prog 47 #[.agg #[.bool g1, .slice a1 l1 c1], .agg #[.bool g2, .slice a2 l2 c2]] w fun e w' => e = .returned (.bool (decide (x = y))) ∧ Below w.heap.size w w' := by
  have e1 := (zz_of h1).1
  have e2 := (zz_of h2).1
  have i1 : CN w (.slice a1 l1 c1) x.natAbs k1 := ⟨(zz_of h1).2⟩
  have i2 : CN w (.slice a2 l2 c2) y.natAbs k2 := ⟨(zz_of h2).2⟩
  clear h1 h2
  have hcase : (g1 = g2 ∧ decide (x = y) = decide (x.natAbs = y.natAbs)) ∨ (g1 ≠ g2 ∧ decide (x = y) = false) := by
    rw [e1, e2]
    by_cases hx : x < 0 <;> by_cases hy : y < 0
    · left; exact ⟨by simp [hx, hy], by rw [Bool.eq_iff_iff]; simp only [decide_eq_true_eq]; omega⟩
    · right; exact ⟨by simp [hx, hy], by simp only [decide_eq_false_iff_not]; omega⟩
    · right; exact ⟨by simp [hx, hy], by simp only [decide_eq_false_iff_not]; omega⟩
    · left; exact ⟨by simp [hx, hy], by rw [Bool.eq_iff_iff]; simp only [decide_eq_true_eq]; omega⟩
  clear e1 e2
  rcases hcase with ⟨rfl, hd⟩ | ⟨hne, hd⟩
  · have HD := Lib.hid hd
    clear hd
    cases g1
    all_goals
      go_enter Tryz.func47, Tryz.ntmps47
      go_wp2_with (go_at_call 83; (with_reducible refine Calls.cE sameNG ?_); intros)
      go_ret
      exact E.fin (by rw [HD.out]; rfl)
  · have HD := Lib.hid hd
    clear hd
    cases g1 <;> cases g2
    · exact absurd rfl hne
    · go_enter Tryz.func47, Tryz.ntmps47
      go_wp2_with fail
      go_ret
      exact E.fin (by rw [HD.out]; rfl)
    · go_enter Tryz.func47, Tryz.ntmps47
      go_wp2_with fail
      go_ret
      exact E.fin (by rw [HD.out]; rfl)
    · exact absurd rfl hne
theorem rat_eq_iff {x y : Rat} : x = y ↔ x.num = y.num ∧ x.den = y.den := ⟨fun h => by rw [h]; exact ⟨rfl, rfl⟩, fun ⟨h1, h2⟩ => Rat.ext h1 h2⟩
set_option maxRecDepth 100000 in
set_option maxHeartbeats 4000000 in
set_option synthInstance.maxSize 100000 in
set_option synthInstance.maxHeartbeats 1000000 in
theorem sameQG {w : World} {g1 : Bool} {a1 : Option Addr} {l1 : Nat} {c1 : Nat} {aa1 : Option Addr} {ll1 : Nat} {cc1 : Nat} {x : Rat} {g2 : Bool} {a2 : Option Addr} {l2 : Nat} {c2 : Nat} {aa2 : Option Addr} {ll2 : Nat} {cc2 : Nat} {y : Rat} {k1 k2 : Nat} [h1 : CA w (.agg #[.bool g1, .slice a1 l1 c1, .slice aa1 ll1 cc1]) x k1] [h2 : CA w (.agg #[.bool g2, .slice a2 l2 c2, .slice aa2 ll2 cc2]) y k2] :
    Calls Tryz.prog 23 #[.agg #[.bool g1, .slice a1 l1 c1, .slice aa1 ll1 cc1], .agg #[.bool g2, .slice a2 l2 c2, .slice aa2 ll2 cc2]] w (fun e w' => e = .returned (.bool (decide (x = y))) ∧ Below w.heap.size w w') := by
  have i1 := h1.num
  have i2 := h1.den
  have i3 := h2.num
  have i4 := h2.den
  by_cases hn : x.num = y.num
  · have e1 : decide (x.num = y.num) = true := decide_eq_true hn
    have HD : Hid (decide (x = y) = decide (x.den = y.den)) := by
      show _ = _
      rw [Bool.eq_iff_iff]
      simp only [decide_eq_true_eq, rat_eq_iff]
      exact ⟨fun h => h.2, fun h => ⟨hn, h⟩⟩
    clear hn
    go_enter Tryz.func23, Tryz.ntmps23
    go_wp2_with (first
    | (go_at_call 47; (with_reducible refine Calls.cE (sameIG) ?_); intros)
    | (go_at_call 83; (with_reducible refine Calls.cE (sameNG) ?_); intros))
    go_ret
    exact E.fin (by rw [HD.out]; rfl)
  · have e1 : decide (x.num = y.num) = false := decide_eq_false hn
    have HD : Hid (decide (x = y) = false) := decide_eq_false fun h => hn (by rw [h])
    clear hn
    go_enter Tryz.func23, Tryz.ntmps23
    go_wp2_with (first
    | (go_at_call 47; (with_reducible refine Calls.cE (sameIG) ?_); intros)
    | (go_at_call 83; (with_reducible refine Calls.cE (sameNG) ?_); intros))
    go_ret
    exact E.fin (by rw [HD.out]; rfl)

set_option maxRecDepth 100000 in
set_option maxHeartbeats 4000000 in
set_option synthInstance.maxSize 100000 in
set_option synthInstance.maxHeartbeats 1000000 in
theorem ratNormC {w : World} {g1 : Bool} {a1 : Option Addr} {l1 : Nat} {c1 : Nat} {aa1 : Option Addr} {ll1 : Nat} {cc1 : Nat} {x : Rat} {k1 : Nat} [h1 : CW w (.agg #[.bool g1, .slice a1 l1 c1, .slice aa1 ll1 cc1]) x k1] (b : k1 ≤ 700000) :
    Calls Tryz.prog 32 #[.agg #[.bool g1, .slice a1 l1 c1, .slice aa1 ll1 cc1]] w (CARet w (x) (k1 + 2)) := by
  go_enter Tryz.func32, Tryz.ntmps32
  go_wp2_with (first
    | (go_at_call 81; (with_reducible refine Calls.cF (ofC (by omega)) ?_); intros)
    | (go_at_call 82; (with_reducible refine Calls.cA (rApiC (by omega)) ?_); intros))
  refine ret_bx rfl Tryz.underlying29 rfl (by kernel_rfl) rfl rfl rfl ?_
  exact CARet.fin rfl (by omega)

set_option maxRecDepth 100000 in
set_option maxHeartbeats 4000000 in
set_option synthInstance.maxSize 100000 in
set_option synthInstance.maxHeartbeats 1000000 in
theorem ratNegC {w : World} {g1 : Bool} {a1 : Option Addr} {l1 : Nat} {c1 : Nat} {aa1 : Option Addr} {ll1 : Nat} {cc1 : Nat} {x : Rat} {k1 : Nat} [h1 : CW w (.agg #[.bool g1, .slice a1 l1 c1, .slice aa1 ll1 cc1]) x k1] (b : k1 ≤ 700000) :
    Calls Tryz.prog 46 #[.agg #[.bool g1, .slice a1 l1 c1, .slice aa1 ll1 cc1]] w (CARet w (-x) (k1 + 2)) := by
  go_enter Tryz.func46, Tryz.ntmps46
  go_wp2_with (first
    | (go_at_call 81; (with_reducible refine Calls.cF (ofC (by omega)) ?_); intros)
    | (go_at_call 103; (with_reducible refine Calls.cF (rNegC (by omega)) ?_); intros)
    | (go_at_call 82; (with_reducible refine Calls.cA (rApiC (by omega)) ?_); intros))
  refine ret_bx rfl Tryz.underlying29 rfl (by kernel_rfl) rfl rfl rfl ?_
  exact CARet.fin rfl (by omega)

set_option maxRecDepth 100000 in
set_option maxHeartbeats 4000000 in
set_option synthInstance.maxSize 100000 in
set_option synthInstance.maxHeartbeats 1000000 in
theorem ratSignC {w : World} {g1 : Bool} {a1 : Option Addr} {l1 : Nat} {c1 : Nat} {aa1 : Option Addr} {ll1 : Nat} {cc1 : Nat} {x : Rat} {k1 : Nat} [h1 : CW w (.agg #[.bool g1, .slice a1 l1 c1, .slice aa1 ll1 cc1]) x k1] (b : k1 ≤ 700000) :
    Calls Tryz.prog 42 #[.agg #[.bool g1, .slice a1 l1 c1, .slice aa1 ll1 cc1]] w (fun e w' => e = .returned (.int .i64 (isgn x.num)) ∧ Below w.heap.size w w') := by
  go_enter Tryz.func42, Tryz.ntmps42
  go_wp2_with (first
    | (go_at_call 81; (with_reducible refine Calls.cF (ofC (by omega)) ?_); intros)
    | (go_at_call 99; (with_reducible refine Calls.cE (rSignC (by omega)) ?_); intros))
  go_ret
  exact E.fin rfl

set_option maxRecDepth 100000 in
set_option maxHeartbeats 4000000 in
set_option synthInstance.maxSize 100000 in
set_option synthInstance.maxHeartbeats 1000000 in
theorem ratCmpC {w : World} {g1 : Bool} {a1 : Option Addr} {l1 : Nat} {c1 : Nat} {aa1 : Option Addr} {ll1 : Nat} {cc1 : Nat} {x : Rat} {g2 : Bool} {a2 : Option Addr} {l2 : Nat} {c2 : Nat} {aa2 : Option Addr} {ll2 : Nat} {cc2 : Nat} {y : Rat} {k1 k2 : Nat} [h1 : CW w (.agg #[.bool g1, .slice a1 l1 c1, .slice aa1 ll1 cc1]) x k1] [h2 : CW w (.agg #[.bool g2, .slice a2 l2 c2, .slice aa2 ll2 cc2]) y k2] (b : k1 ≤ 90000 ∧ k2 ≤ 90000) :
    Calls Tryz.prog 34 #[.agg #[.bool g1, .slice a1 l1 c1, .slice aa1 ll1 cc1], .agg #[.bool g2, .slice a2 l2 c2, .slice aa2 ll2 cc2]] w (fun e w' => e = .returned (.int .i64 (isgn (x - y).num)) ∧ Below w.heap.size w w') := by
  go_enter Tryz.func34, Tryz.ntmps34
  go_wp2_with fail
  refine region_cls (by kernel_rfl) [] (fun hHeld => ?_)
  refine wpAnyH_take (i := 0) (v := ?z118) (by simp; rfl) (by kernel_rfl) (by kernel_rfl) (by kernel_rfl) (by exact fun _ _ _ h => h) (Or.inl ⟨by rfl, ?yz118⟩) hHeld ?_
  case yz118 => (intro wx hSw; have hSx := Ex1.mk hSw; go_simp; (try with_reducible rfl))
  try simp only [Act.put, List.setIfInBounds_toArray, List.set_cons_zero, List.set_cons_succ]
  refine wpAnyH_take (i := 2) (v := ?z119) (by simp; rfl) (by kernel_rfl) (by kernel_rfl) (by kernel_rfl) (by exact fun _ _ _ h => h) (Or.inl ⟨by rfl, ?yz119⟩) hHeld ?_
  case yz119 => (intro wx hSw; have hSx := Ex1.mk hSw; go_simp; (try with_reducible rfl))
  try simp only [Act.put, List.setIfInBounds_toArray, List.set_cons_zero, List.set_cons_succ]
  refine wpAnyH_ready (rs := [1]) (by kernel_rfl) (by simp) ?_
  refine AllReadyH.cons (by simp; rfl) (fun K hK => ?_) AllReadyH.nil
  go_simp
  (go_at_call 81; (with_reducible refine Calls.cF (ofC (by omega)) ?_); intros)
  refine hK.out _ _ inferInstance ?_
  clear hHeld hK K
  intro hHeld
  try simp only [Act.put, List.setIfInBounds_toArray, List.set_cons_zero, List.set_cons_succ]
  refine wpAnyH_ready (rs := [3]) (by kernel_rfl) (by simp) ?_
  refine AllReadyH.cons (by simp; rfl) (fun K hK => ?_) AllReadyH.nil
  go_simp
  (go_at_call 81; (with_reducible refine Calls.cF (ofC (by omega)) ?_); intros)
  refine hK.out _ _ inferInstance ?_
  clear hHeld hK K
  intro hHeld
  try simp only [Act.put, List.setIfInBounds_toArray, List.set_cons_zero, List.set_cons_succ]
  refine wpAnyH_ready (rs := [4]) (by kernel_rfl) (by simp) ?_
  refine AllReadyH.cons (by simp; rfl) (fun K hK => ?_) AllReadyH.nil
  go_simp
  (go_at_call 94; (with_reducible refine Calls.cE (rCmpC (by omega)) ?_); intros)
  refine hK.out _ _ inferInstance ?_
  clear hHeld hK K
  intro hHeld
  try simp only [Act.put, List.setIfInBounds_toArray, List.set_cons_zero, List.set_cons_succ]
  refine wpAnyH_take (i := 5) (v := ?z120) (by simp; rfl) (by kernel_rfl) (by kernel_rfl) (by kernel_rfl) (by exact fun _ _ _ h => h) (Or.inl ⟨by rfl, ?yz120⟩) hHeld ?_
  case yz120 => (intro wx hSw; have hSx := Ex1.mk hSw; go_simp; (try with_reducible rfl))
  try simp only [Act.put, List.setIfInBounds_toArray, List.set_cons_zero, List.set_cons_succ]
  refine wpAnyH_done (by kernel_rfl) ?_ _
  clear hHeld
  go_wp2
  go_ret
  exact E.fin rfl

set_option maxRecDepth 100000 in
set_option maxHeartbeats 4000000 in
set_option synthInstance.maxSize 100000 in
set_option synthInstance.maxHeartbeats 1000000 in
theorem ratAddC {w : World} {g1 : Bool} {a1 : Option Addr} {l1 : Nat} {c1 : Nat} {aa1 : Option Addr} {ll1 : Nat} {cc1 : Nat} {x : Rat} {g2 : Bool} {a2 : Option Addr} {l2 : Nat} {c2 : Nat} {aa2 : Option Addr} {ll2 : Nat} {cc2 : Nat} {y : Rat} {k1 k2 : Nat} [h1 : CW w (.agg #[.bool g1, .slice a1 l1 c1, .slice aa1 ll1 cc1]) x k1] [h2 : CW w (.agg #[.bool g2, .slice a2 l2 c2, .slice aa2 ll2 cc2]) y k2] (b : k1 ≤ 40000 ∧ k2 ≤ 40000) :
    Calls Tryz.prog 30 #[.agg #[.bool g1, .slice a1 l1 c1, .slice aa1 ll1 cc1], .agg #[.bool g2, .slice a2 l2 c2, .slice aa2 ll2 cc2]] w (CARet w (x + y) (k1 + k2 + 10)) := by
  go_enter Tryz.func30, Tryz.ntmps30
  go_wp2_with fail
  refine region_cls (by kernel_rfl) [w.heap.size + 1 + 1] (fun hHeld => ?_)
  refine wpAnyH_take (i := 0) (v := ?z121) (by simp; rfl) (by kernel_rfl) (by kernel_rfl) (by kernel_rfl) (by exact fun _ _ _ h => h) (Or.inl ⟨by rfl, ?yz121⟩) hHeld ?_
  case yz121 => (intro wx hSw; have hSx := Ex1.mk hSw; go_simp; (try with_reducible rfl))
  try simp only [Act.put, List.setIfInBounds_toArray, List.set_cons_zero, List.set_cons_succ]
  refine wpAnyH_take (i := 2) (v := ?z122) (by simp; rfl) (by kernel_rfl) (by kernel_rfl) (by kernel_rfl) (by exact fun _ _ _ h => h) (Or.inl ⟨by rfl, ?yz122⟩) hHeld ?_
  case yz122 => (intro wx hSw; have hSx := Ex1.mk hSw; go_simp; (try with_reducible rfl))
  try simp only [Act.put, List.setIfInBounds_toArray, List.set_cons_zero, List.set_cons_succ]
  refine wpAnyH_ready (rs := [1]) (by kernel_rfl) (by simp) ?_
  refine AllReadyH.cons (by simp; rfl) (fun K hK => ?_) AllReadyH.nil
  go_simp
  (go_at_call 81; (with_reducible refine Calls.cF (ofC (by omega)) ?_); intros)
  refine hK.out _ _ inferInstance ?_
  clear hHeld hK K
  intro hHeld
  try simp only [Act.put, List.setIfInBounds_toArray, List.set_cons_zero, List.set_cons_succ]
  refine wpAnyH_ready (rs := [3]) (by kernel_rfl) (by simp) ?_
  refine AllReadyH.cons (by simp; rfl) (fun K hK => ?_) AllReadyH.nil
  go_simp
  (go_at_call 81; (with_reducible refine Calls.cF (ofC (by omega)) ?_); intros)
  refine hK.out _ _ inferInstance ?_
  clear hHeld hK K
  intro hHeld
  try simp only [Act.put, List.setIfInBounds_toArray, List.set_cons_zero, List.set_cons_succ]
  refine wpAnyH_ready (rs := [4]) (by kernel_rfl) (by simp) ?_
  refine AllReadyH.cons (by simp; rfl) (fun K hK => ?_) AllReadyH.nil
  go_simp
  (go_at_call 91; (with_reducible refine Calls.cF (rAddC (by omega)) ?_); intros)
  refine hK.out _ _ inferInstance ?_
  clear hHeld hK K
  intro hHeld
  try simp only [Act.put, List.setIfInBounds_toArray, List.set_cons_zero, List.set_cons_succ]
  refine wpAnyH_ready (rs := [5]) (by kernel_rfl) (by simp) ?_
  refine AllReadyH.cons (by simp; rfl) (fun K hK => ?_) AllReadyH.nil
  go_simp
  (go_at_call 82; (with_reducible refine Calls.cA (rApiC (by omega)) ?_); intros)
  refine hK.out _ _ inferInstance ?_
  clear hHeld hK K
  intro hHeld
  try simp only [Act.put, List.setIfInBounds_toArray, List.set_cons_zero, List.set_cons_succ]
  refine wpAnyH_ready (rs := [6]) (by kernel_rfl) (by simp) ?_
  refine AllReadyH.cons (by simp; rfl) (fun K hK => ?_) AllReadyH.nil
  go_simp
  refine hK.out _ _ inferInstance ?_
  clear hHeld hK K
  intro hHeld
  try simp only [Act.put, List.setIfInBounds_toArray, List.set_cons_zero, List.set_cons_succ]
  refine wpAnyH_done (by kernel_rfl) ?_ _
  clear hHeld
  go_wp2
  refine ret_bx rfl Tryz.underlying29 rfl (by kernel_rfl) rfl rfl rfl ?_
  exact CARet.fin rfl (by omega)

set_option maxRecDepth 100000 in
set_option maxHeartbeats 4000000 in
set_option synthInstance.maxSize 100000 in
set_option synthInstance.maxHeartbeats 1000000 in
theorem ratSubC {w : World} {g1 : Bool} {a1 : Option Addr} {l1 : Nat} {c1 : Nat} {aa1 : Option Addr} {ll1 : Nat} {cc1 : Nat} {x : Rat} {g2 : Bool} {a2 : Option Addr} {l2 : Nat} {c2 : Nat} {aa2 : Option Addr} {ll2 : Nat} {cc2 : Nat} {y : Rat} {k1 k2 : Nat} [h1 : CW w (.agg #[.bool g1, .slice a1 l1 c1, .slice aa1 ll1 cc1]) x k1] [h2 : CW w (.agg #[.bool g2, .slice a2 l2 c2, .slice aa2 ll2 cc2]) y k2] (b : k1 ≤ 40000 ∧ k2 ≤ 40000) :
    Calls Tryz.prog 31 #[.agg #[.bool g1, .slice a1 l1 c1, .slice aa1 ll1 cc1], .agg #[.bool g2, .slice a2 l2 c2, .slice aa2 ll2 cc2]] w (CARet w (x - y) (k1 + k2 + 10)) := by
  go_enter Tryz.func31, Tryz.ntmps31
  go_wp2_with fail
  refine region_cls (by kernel_rfl) [w.heap.size + 1 + 1] (fun hHeld => ?_)
  refine wpAnyH_take (i := 0) (v := ?z123) (by simp; rfl) (by kernel_rfl) (by kernel_rfl) (by kernel_rfl) (by exact fun _ _ _ h => h) (Or.inl ⟨by rfl, ?yz123⟩) hHeld ?_
  case yz123 => (intro wx hSw; have hSx := Ex1.mk hSw; go_simp; (try with_reducible rfl))
  try simp only [Act.put, List.setIfInBounds_toArray, List.set_cons_zero, List.set_cons_succ]
  refine wpAnyH_take (i := 2) (v := ?z124) (by simp; rfl) (by kernel_rfl) (by kernel_rfl) (by kernel_rfl) (by exact fun _ _ _ h => h) (Or.inl ⟨by rfl, ?yz124⟩) hHeld ?_
  case yz124 => (intro wx hSw; have hSx := Ex1.mk hSw; go_simp; (try with_reducible rfl))
  try simp only [Act.put, List.setIfInBounds_toArray, List.set_cons_zero, List.set_cons_succ]
  refine wpAnyH_ready (rs := [1]) (by kernel_rfl) (by simp) ?_
  refine AllReadyH.cons (by simp; rfl) (fun K hK => ?_) AllReadyH.nil
  go_simp
  (go_at_call 81; (with_reducible refine Calls.cF (ofC (by omega)) ?_); intros)
  refine hK.out _ _ inferInstance ?_
  clear hHeld hK K
  intro hHeld
  try simp only [Act.put, List.setIfInBounds_toArray, List.set_cons_zero, List.set_cons_succ]
  refine wpAnyH_ready (rs := [3]) (by kernel_rfl) (by simp) ?_
  refine AllReadyH.cons (by simp; rfl) (fun K hK => ?_) AllReadyH.nil
  go_simp
  (go_at_call 81; (with_reducible refine Calls.cF (ofC (by omega)) ?_); intros)
  refine hK.out _ _ inferInstance ?_
  clear hHeld hK K
  intro hHeld
  try simp only [Act.put, List.setIfInBounds_toArray, List.set_cons_zero, List.set_cons_succ]
  refine wpAnyH_ready (rs := [4]) (by kernel_rfl) (by simp) ?_
  refine AllReadyH.cons (by simp; rfl) (fun K hK => ?_) AllReadyH.nil
  go_simp
  (go_at_call 92; (with_reducible refine Calls.cF (rSubC (by omega)) ?_); intros)
  refine hK.out _ _ inferInstance ?_
  clear hHeld hK K
  intro hHeld
  try simp only [Act.put, List.setIfInBounds_toArray, List.set_cons_zero, List.set_cons_succ]
  refine wpAnyH_ready (rs := [5]) (by kernel_rfl) (by simp) ?_
  refine AllReadyH.cons (by simp; rfl) (fun K hK => ?_) AllReadyH.nil
  go_simp
  (go_at_call 82; (with_reducible refine Calls.cA (rApiC (by omega)) ?_); intros)
  refine hK.out _ _ inferInstance ?_
  clear hHeld hK K
  intro hHeld
  try simp only [Act.put, List.setIfInBounds_toArray, List.set_cons_zero, List.set_cons_succ]
  refine wpAnyH_ready (rs := [6]) (by kernel_rfl) (by simp) ?_
  refine AllReadyH.cons (by simp; rfl) (fun K hK => ?_) AllReadyH.nil
  go_simp
  refine hK.out _ _ inferInstance ?_
  clear hHeld hK K
  intro hHeld
  try simp only [Act.put, List.setIfInBounds_toArray, List.set_cons_zero, List.set_cons_succ]
  refine wpAnyH_done (by kernel_rfl) ?_ _
  clear hHeld
  go_wp2
  refine ret_bx rfl Tryz.underlying29 rfl (by kernel_rfl) rfl rfl rfl ?_
  exact CARet.fin rfl (by omega)

set_option maxRecDepth 100000 in
set_option maxHeartbeats 4000000 in
set_option synthInstance.maxSize 100000 in
set_option synthInstance.maxHeartbeats 1000000 in
theorem ratMulC {w : World} {g1 : Bool} {a1 : Option Addr} {l1 : Nat} {c1 : Nat} {aa1 : Option Addr} {ll1 : Nat} {cc1 : Nat} {x : Rat} {g2 : Bool} {a2 : Option Addr} {l2 : Nat} {c2 : Nat} {aa2 : Option Addr} {ll2 : Nat} {cc2 : Nat} {y : Rat} {k1 k2 : Nat} [h1 : CW w (.agg #[.bool g1, .slice a1 l1 c1, .slice aa1 ll1 cc1]) x k1] [h2 : CW w (.agg #[.bool g2, .slice a2 l2 c2, .slice aa2 ll2 cc2]) y k2] (b : k1 ≤ 40000 ∧ k2 ≤ 40000) :
    Calls Tryz.prog 51 #[.agg #[.bool g1, .slice a1 l1 c1, .slice aa1 ll1 cc1], .agg #[.bool g2, .slice a2 l2 c2, .slice aa2 ll2 cc2]] w (CARet w (x * y) (k1 + k2 + 10)) := by
  go_enter Tryz.func51, Tryz.ntmps51
  go_wp2_with fail
  refine region_cls (by kernel_rfl) [w.heap.size + 1 + 1] (fun hHeld => ?_)
  refine wpAnyH_take (i := 0) (v := ?z125) (by simp; rfl) (by kernel_rfl) (by kernel_rfl) (by kernel_rfl) (by exact fun _ _ _ h => h) (Or.inl ⟨by rfl, ?yz125⟩) hHeld ?_
  case yz125 => (intro wx hSw; have hSx := Ex1.mk hSw; go_simp; (try with_reducible rfl))
  try simp only [Act.put, List.setIfInBounds_toArray, List.set_cons_zero, List.set_cons_succ]
  refine wpAnyH_take (i := 2) (v := ?z126) (by simp; rfl) (by kernel_rfl) (by kernel_rfl) (by kernel_rfl) (by exact fun _ _ _ h => h) (Or.inl ⟨by rfl, ?yz126⟩) hHeld ?_
  case yz126 => (intro wx hSw; have hSx := Ex1.mk hSw; go_simp; (try with_reducible rfl))
  try simp only [Act.put, List.setIfInBounds_toArray, List.set_cons_zero, List.set_cons_succ]
  refine wpAnyH_ready (rs := [1]) (by kernel_rfl) (by simp) ?_
  refine AllReadyH.cons (by simp; rfl) (fun K hK => ?_) AllReadyH.nil
  go_simp
  (go_at_call 81; (with_reducible refine Calls.cF (ofC (by omega)) ?_); intros)
  refine hK.out _ _ inferInstance ?_
  clear hHeld hK K
  intro hHeld
  try simp only [Act.put, List.setIfInBounds_toArray, List.set_cons_zero, List.set_cons_succ]
  refine wpAnyH_ready (rs := [3]) (by kernel_rfl) (by simp) ?_
  refine AllReadyH.cons (by simp; rfl) (fun K hK => ?_) AllReadyH.nil
  go_simp
  (go_at_call 81; (with_reducible refine Calls.cF (ofC (by omega)) ?_); intros)
  refine hK.out _ _ inferInstance ?_
  clear hHeld hK K
  intro hHeld
  try simp only [Act.put, List.setIfInBounds_toArray, List.set_cons_zero, List.set_cons_succ]
  refine wpAnyH_ready (rs := [4]) (by kernel_rfl) (by simp) ?_
  refine AllReadyH.cons (by simp; rfl) (fun K hK => ?_) AllReadyH.nil
  go_simp
  (go_at_call 105; (with_reducible refine Calls.cF (rMulC (by omega)) ?_); intros)
  refine hK.out _ _ inferInstance ?_
  clear hHeld hK K
  intro hHeld
  try simp only [Act.put, List.setIfInBounds_toArray, List.set_cons_zero, List.set_cons_succ]
  refine wpAnyH_ready (rs := [5]) (by kernel_rfl) (by simp) ?_
  refine AllReadyH.cons (by simp; rfl) (fun K hK => ?_) AllReadyH.nil
  go_simp
  (go_at_call 82; (with_reducible refine Calls.cA (rApiC (by omega)) ?_); intros)
  refine hK.out _ _ inferInstance ?_
  clear hHeld hK K
  intro hHeld
  try simp only [Act.put, List.setIfInBounds_toArray, List.set_cons_zero, List.set_cons_succ]
  refine wpAnyH_ready (rs := [6]) (by kernel_rfl) (by simp) ?_
  refine AllReadyH.cons (by simp; rfl) (fun K hK => ?_) AllReadyH.nil
  go_simp
  refine hK.out _ _ inferInstance ?_
  clear hHeld hK K
  intro hHeld
  try simp only [Act.put, List.setIfInBounds_toArray, List.set_cons_zero, List.set_cons_succ]
  refine wpAnyH_done (by kernel_rfl) ?_ _
  clear hHeld
  go_wp2
  refine ret_bx rfl Tryz.underlying29 rfl (by kernel_rfl) rfl rfl rfl ?_
  exact CARet.fin rfl (by omega)

end Go.Proofs.YtnkfbkdcplbgoaaGreatDoor

/- The rational numbers off the tape that the laws of layer 3 speak of, and their comparison with the reference. printed by a small program (mkrat2.py). -/
namespace Go.Proofs.YtnkfbkdcplbgoaaGreatDoor
open Go.RowKit

/-- A rational number, perhaps not in normal form, is read off the tape. -/
def TWRet (w : World) (t : Nat) (k : Nat) (e : Ending) (w' : World) : Prop := ∃ (g : Bool) (a : Option Addr) (l c : Nat) (aa : Option Addr) (ll cc : Nat) (x : Rat), e = .returned (.agg #[.bool g, .slice a l c, .slice aa ll cc]) ∧ CW w' (.agg #[.bool g, .slice a l c, .slice aa ll cc]) x k ∧ Ct w' t ∧ Gb w w' t
theorem Calls.cTW {P : Program} {f : FuncId} {args : Array Value} {w : World} {t k : Nat} {K : Ending → World → Prop} [ht : Ct w t] (h : Calls P f args w (TWRet w t k))
    (hK : ∀ w' [Tp1 w w' t] [Ct w' t] (g : Bool) (a : Option Addr) (l c : Nat) (aa : Option Addr) (ll cc : Nat) (x : Rat) [CW w' (.agg #[.bool g, .slice a l c, .slice aa ll cc]) x k], K (.returned (.agg #[.bool g, .slice a l c, .slice aa ll cc])) w') : Calls P f args w K := by
  refine h.mono ?_
  rintro e w' ⟨g, a, l, c, aa, ll, cc, x, rfl, h1, h2, h3⟩
  exact @hK w' ⟨h3.out, ht.out⟩ h2 g a l c aa ll cc x h1
set_option maxRecDepth 100000 in
set_option maxHeartbeats 4000000 in
set_option synthInstance.maxSize 100000 in
set_option synthInstance.maxHeartbeats 1000000 in
theorem tapeRatC {w : World} {t : Nat} [ht : Ct w t] : Calls Tryz.prog 85 #[.pointer (some ⟨t, 0, none⟩), .int .i64 3] w (TQRet w t 100) := by
  go_enter Tryz.func85, Tryz.ntmps85
  go_wp2_with fail
  with_reducible refine Calls.cTZ (tapeIntC (by omega)) ?_
  intro W1 _ _ g a l c z _
  go_wp2_with fail
  with_reducible refine Calls.cTN (tapeNatC (by omega)) ?_
  intro W2 _ _ a2 l2 c2 n i2
  have hl := i2.out.len
  by_cases hn : n = 0
  · subst hn
    have hl0 : l2 = 0 := by rw [hl]; rfl
    subst hl0
    clear hl
    have h1 : (1 : Nat) ≠ 0 := by decide
    go_wp2_with (first
    | (go_at_call 75; (with_reducible refine Calls.cN (oneC) ?_); intros)
    | (go_at_call 77; (with_reducible refine Calls.cQ (numFracC (by omega) (by assumption)) ?_); intros))
    refine ret_bx rfl Tryz.underlying45 rfl (by kernel_rfl) rfl rfl rfl ?_
    exact ⟨_, _, _, _, _, _, _, _, rfl, CQ.cast inferInstance rfl (by first | omega | decide), inferInstance, inferInstance⟩
  · have hl0 : 0 < l2 := by rw [hl]; exact nf_len_pos hn
    clear hl
    go_wp2_with (first
    | (go_at_call 75; (with_reducible refine Calls.cN (oneC) ?_); intros)
    | (go_at_call 77; (with_reducible refine Calls.cQ (numFracC (by omega) (by assumption)) ?_); intros))
    refine ret_bx rfl Tryz.underlying45 rfl (by kernel_rfl) rfl rfl rfl ?_
    exact ⟨_, _, _, _, _, _, _, _, rfl, CQ.cast inferInstance rfl (by first | omega | decide), inferInstance, inferInstance⟩

theorem made_val (x : Rat) {m : Nat} (hm : m ≠ 0) : mkRat (x.num * sgn false m) (x.den * m) = x := by
  rw [show sgn false m = (m : Int) from rfl, Rat.mkRat_mul_right hm, Rat.mkRat_self]
set_option maxRecDepth 100000 in
set_option maxHeartbeats 40000000 in
set_option synthInstance.maxSize 100000 in
set_option synthInstance.maxHeartbeats 1000000 in
theorem rmadeC {w : World} {t : Nat} [ht : Ct w t] : Calls Tryz.prog 25 #[.pointer (some ⟨t, 0, none⟩)] w (TWRet w t 300) := by
  go_enter Tryz.func25, Tryz.ntmps25
  go_wp2_with fail
  with_reducible refine Calls.cTQ tapeRatC ?_
  intro W1 _ _ g a l c aa ll cc x ix
  go_wp2_with fail
  with_reducible refine Calls.cTN (tapeNatC (by omega)) ?_
  intro W2 _ _ a2 l2 c2 n i2
  have HL := Lib.hid i2.out.len
  go_upto_if 12 with fail
  go_cut [4] from 13 to 13 (fun tv wx => ∃ (m : Nat) (a' : Option Addr) (l' c' : Nat), tv = .slice a' l' c' ∧ m ≠ 0 ∧ CN wx (.slice a' l' c') m 20 ∧ Bx wx W2.heap.size 45 [.bool g, .slice a l c, .slice aa ll cc] ∧
    Bx wx w.heap.size 29 [.bool false, .slice none 0 0, .slice none 0 0] ∧ CQ wx (.agg #[.bool g, .slice a l c, .slice aa ll cc]) x 100 ∧ Ct wx t ∧ Gb w wx t ∧ Kz w wx)
  case first =>
    by_cases hn : n = 0
    · subst hn
      have hl0 : l2 = 0 := HL.out
      subst hl0
      clear HL
      go_wp2_with (first
    | (go_at_call 75; (with_reducible refine Calls.cN (oneC) ?_); intros))
      go_meet
      exact ⟨1, _, _, _, rfl, by decide, CN.cast inferInstance rfl (by first | omega | decide), inferInstance, inferInstance, inferInstance, inferInstance, inferInstance, inferInstance⟩
    · have hl0 : 0 < l2 := by rw [HL.out]; exact nf_len_pos hn
      clear HL
      go_wp2_with (first
    | (go_at_call 75; (with_reducible refine Calls.cN (oneC) ?_); intros))
      go_meet
      exact ⟨n, _, _, _, rfl, hn, CN.cast inferInstance rfl (by first | omega | decide), inferInstance, inferInstance, inferInstance, inferInstance, inferInstance, inferInstance⟩
  case rest =>
    clear HL
    obtain ⟨m, a', l', c', rfl, hm, i1, i3, i4, i5, i6, i7, i8⟩ := hcut
    have jx := i5.num
    have HV := Lib.hid (made_val x hm)
    go_upto_region 4 with fail
    go_cut [5] from 14 to 27 (fun tv wx => ∃ (b : Nat) (g : Bool) (a : Option Addr) (l c : Nat) (aa : Option Addr) (ll cc : Nat), tv = .pointer (some ⟨b, 0, none⟩) ∧ Bx wx b 29 [.bool g, .slice a l c, .slice aa ll cc] ∧ Gg w b ∧ NeN w.heap.size b ∧
      Bx wx w.heap.size 29 [.bool false, .slice none 0 0, .slice none 0 0] ∧ CI wx (.agg #[.bool g, .slice a l c]) (x.num * sgn false m) 300 ∧ CR wx (.slice aa ll cc) (x.den * m) 300 ∧ Ct wx t ∧ Gb w wx t)
    case first =>
      refine region_cls (by kernel_rfl) [t] (fun hHeld => ?_)
      refine wpAnyH_take (i := 0) (v := ?z127) (by simp; rfl) (by kernel_rfl) (by kernel_rfl) (by kernel_rfl) (by exact fun _ _ _ h => h) (Or.inl ⟨by rfl, ?yz127⟩) hHeld ?_
      case yz127 => (intro wx hSw; have hSx := Ex1.mk hSw; go_simp; (try with_reducible rfl))
      try simp only [Act.put, List.setIfInBounds_toArray, List.set_cons_zero, List.set_cons_succ]
      refine wpAnyH_take (i := 1) (v := ?z128) (by simp; rfl) (by kernel_rfl) (by kernel_rfl) (by kernel_rfl) (by exact fun _ _ _ h => h) (Or.inl ⟨by rfl, ?yz128⟩) hHeld ?_
      case yz128 => (intro wx hSw; have hSx := Ex1.mk hSw; go_simp; (try with_reducible rfl))
      try simp only [Act.put, List.setIfInBounds_toArray, List.set_cons_zero, List.set_cons_succ]
      refine wpAnyH_take (i := 2) (v := ?z129) (by simp; rfl) (by kernel_rfl) (by kernel_rfl) (by kernel_rfl) (by exact fun _ _ _ h => h) (Or.inl ⟨by rfl, ?yz129⟩) hHeld ?_
      case yz129 => (intro wx hSw; have hSx := Ex1.mk hSw; go_simp; (try with_reducible rfl))
      try simp only [Act.put, List.setIfInBounds_toArray, List.set_cons_zero, List.set_cons_succ]
      refine wpAnyH_take (i := 6) (v := ?z130) (by simp; rfl) (by kernel_rfl) (by kernel_rfl) (by kernel_rfl) (by exact fun _ _ _ h => h) (Or.inl ⟨by rfl, ?yz130⟩) hHeld ?_
      case yz130 => (intro wx hSw; have hSx := Ex1.mk hSw; go_simp; (try with_reducible rfl))
      try simp only [Act.put, List.setIfInBounds_toArray, List.set_cons_zero, List.set_cons_succ]
      refine wpAnyH_take (i := 8) (v := ?z131) (by simp; rfl) (by kernel_rfl) (by kernel_rfl) (by kernel_rfl) (by exact fun _ _ _ h => h) (Or.inl ⟨by rfl, ?yz131⟩) hHeld ?_
      case yz131 => (intro wx hSw; have hSx := Ex1.mk hSw; go_simp; (try with_reducible rfl))
      try simp only [Act.put, List.setIfInBounds_toArray, List.set_cons_zero, List.set_cons_succ]
      refine wpAnyH_take (i := 10) (v := ?z132) (by simp; rfl) (by kernel_rfl) (by kernel_rfl) (by kernel_rfl) (by exact fun _ _ _ h => h) (Or.inl ⟨by rfl, ?yz132⟩) hHeld ?_
      case yz132 => (intro wx hSw; have hSx := Ex1.mk hSw; go_simp; (try with_reducible rfl))
      try simp only [Act.put, List.setIfInBounds_toArray, List.set_cons_zero, List.set_cons_succ]
      refine wpAnyH_ready (rs := [3, 14]) (by kernel_rfl) (by simp) ?_
      refine AllReadyH.cons (by simp; rfl) (fun K hK => ?_) (AllReadyH.cons (by simp; rfl) (fun K hK => ?_) AllReadyH.nil)
      go_simp
      (go_at_call 88; (with_reducible refine Calls.cSg (makeC) ?_); intros)
      refine hK.out _ _ inferInstance ?_
      clear hHeld hK K
      intro hHeld
      try simp only [Act.put, List.setIfInBounds_toArray, List.set_cons_zero, List.set_cons_succ]
      refine wpAnyH_ready (rs := [4, 14]) (by kernel_rfl) (by simp) ?_
      refine AllReadyH.cons (by simp; rfl) (fun K hK => ?_) (AllReadyH.cons (by simp; rfl) (fun K hK => ?_) AllReadyH.nil)
      go_simp
      (go_at_call 87; (with_reducible refine Calls.cZ (numMulC (by omega)) ?_); intros)
      refine hK.out _ _ inferInstance ?_
      clear hHeld hK K
      intro hHeld
      try simp only [Act.put, List.setIfInBounds_toArray, List.set_cons_zero, List.set_cons_succ]
      refine wpAnyH_ready (rs := [5, 14]) (by kernel_rfl) (by simp) ?_
      refine AllReadyH.cons (by simp; rfl) (fun K hK => ?_) (AllReadyH.cons (by simp; rfl) (fun K hK => ?_) AllReadyH.nil)
      go_simp
      (go_at_call 49; (with_reducible refine Calls.cZ (toIC (by omega)) ?_); intros)
      refine hK.out _ _ inferInstance ?_
      clear hHeld hK K
      intro hHeld
      try simp only [Act.put, List.setIfInBounds_toArray, List.set_cons_zero, List.set_cons_succ]
      refine wpAnyH_ready (rs := [7, 14]) (by kernel_rfl) (by simp) ?_
      refine AllReadyH.cons (by simp; rfl) (fun K hK => ?_) (AllReadyH.cons (by simp; rfl) (fun K hK => ?_) AllReadyH.nil)
      go_simp
      (go_at_call 55; (with_reducible refine Calls.cN (numDenC) ?_); intros)
      refine hK.out _ _ inferInstance ?_
      clear hHeld hK K
      intro hHeld
      try simp only [Act.put, List.setIfInBounds_toArray, List.set_cons_zero, List.set_cons_succ]
      refine wpAnyH_ready (rs := [9, 14]) (by kernel_rfl) (by simp) ?_
      refine AllReadyH.cons (by simp; rfl) (fun K hK => ?_) (AllReadyH.cons (by simp; rfl) (fun K hK => ?_) AllReadyH.nil)
      go_simp
      (go_at_call 67; (with_reducible refine Calls.cN (numProductC (by omega)) ?_); intros)
      refine hK.out _ _ inferInstance ?_
      clear hHeld hK K
      intro hHeld
      try simp only [Act.put, List.setIfInBounds_toArray, List.set_cons_zero, List.set_cons_succ]
      refine wpAnyH_ready (rs := [11, 14]) (by kernel_rfl) (by simp) ?_
      refine AllReadyH.cons (by simp; rfl) (fun K hK => ?_) (AllReadyH.cons (by simp; rfl) (fun K hK => ?_) AllReadyH.nil)
      go_simp
      (go_at_call 29; (with_reducible refine Calls.cNext (nextC (by omega)) ?_); intros)
      refine hK.out _ _ inferInstance ?_
      clear hHeld hK K
      intro hHeld
      try simp only [Act.put, List.setIfInBounds_toArray, List.set_cons_zero, List.set_cons_succ]
      refine wpAnyH_ready (rs := [12, 14]) (by kernel_rfl) (by simp) ?_
      refine AllReadyH.cons (by simp; rfl) (fun K hK => ?_) (AllReadyH.cons (by simp; rfl) (fun K hK => ?_) AllReadyH.nil)
      go_simp
      (go_at_call 66; (with_reducible refine Calls.cR (natsC (by omega)) ?_); intros)
      refine hK.out _ _ inferInstance ?_
      clear hHeld hK K
      intro hHeld
      try simp only [Act.put, List.setIfInBounds_toArray, List.set_cons_zero, List.set_cons_succ]
      refine wpAnyH_take (i := 13) (v := ?z133) (by simp; rfl) (by kernel_rfl) (by kernel_rfl) (by kernel_rfl) (by exact fun _ _ _ h => h) (Or.inl ⟨by rfl, ?yz133⟩) hHeld ?_
      case yz133 => (intro wx hSw; have hSx := Ex1.mk hSw; go_simp; (try with_reducible rfl))
      try simp only [Act.put, List.setIfInBounds_toArray, List.set_cons_zero, List.set_cons_succ]
      refine wpAnyH_ready (rs := [14]) (by kernel_rfl) (by simp) ?_
      refine AllReadyH.cons (by simp; rfl) (fun K hK => ?_) AllReadyH.nil
      go_simp
      refine hK.out _ _ inferInstance ?_
      clear hHeld hK K
      intro hHeld
      try simp only [Act.put, List.setIfInBounds_toArray, List.set_cons_zero, List.set_cons_succ]
      refine wpAnyH_ready (rs := [15]) (by kernel_rfl) (by simp) ?_
      refine AllReadyH.cons (by simp; rfl) (fun K hK => ?_) AllReadyH.nil
      go_simp
      refine hK.out _ _ inferInstance ?_
      clear hHeld hK K
      intro hHeld
      try simp only [Act.put, List.setIfInBounds_toArray, List.set_cons_zero, List.set_cons_succ]
      refine wpAnyH_done (by kernel_rfl) ?_ _
      clear hHeld
      go_wp2_with fail
      go_meet
      exact ⟨_, _, _, _, _, _, _, _, rfl, inferInstance, inferInstance, inferInstance, inferInstance, CI.cast inferInstance rfl (by first | omega | decide), CR.cast inferInstance rfl (by first | omega | decide), inferInstance, inferInstance⟩
      go_simp
      refine hK.out _ _ inferInstance ?_
      clear hHeld hK K
      intro hHeld
      try simp only [Act.put, List.setIfInBounds_toArray, List.set_cons_zero, List.set_cons_succ]
      refine wpAnyH_ready (rs := [12]) (by kernel_rfl) (by simp) ?_
      refine AllReadyH.cons (by simp; rfl) (fun K hK => ?_) AllReadyH.nil
      go_simp
      (go_at_call 66; (with_reducible refine Calls.cR (natsC (by omega)) ?_); intros)
      refine hK.out _ _ inferInstance ?_
      clear hHeld hK K
      intro hHeld
      try simp only [Act.put, List.setIfInBounds_toArray, List.set_cons_zero, List.set_cons_succ]
      refine wpAnyH_take (i := 13) (v := ?z134) (by simp; rfl) (by kernel_rfl) (by kernel_rfl) (by kernel_rfl) (by exact fun _ _ _ h => h) (Or.inl ⟨by rfl, ?yz134⟩) hHeld ?_
      case yz134 => (intro wx hSw; have hSx := Ex1.mk hSw; go_simp; (try with_reducible rfl))
      try simp only [Act.put, List.setIfInBounds_toArray, List.set_cons_zero, List.set_cons_succ]
      refine wpAnyH_ready (rs := [15]) (by kernel_rfl) (by simp) ?_
      refine AllReadyH.cons (by simp; rfl) (fun K hK => ?_) AllReadyH.nil
      go_simp
      refine hK.out _ _ inferInstance ?_
      clear hHeld hK K
      intro hHeld
      try simp only [Act.put, List.setIfInBounds_toArray, List.set_cons_zero, List.set_cons_succ]
      refine wpAnyH_done (by kernel_rfl) ?_ _
      clear hHeld
      go_wp2_with fail
      go_meet
      exact ⟨_, _, _, _, _, _, _, _, rfl, inferInstance, inferInstance, inferInstance, inferInstance, CI.cast inferInstance rfl (by first | omega | decide), CR.cast inferInstance rfl (by first | omega | decide), inferInstance, inferInstance⟩
      go_simp
      refine hK.out _ _ inferInstance ?_
      clear hHeld hK K
      intro hHeld
      try simp only [Act.put, List.setIfInBounds_toArray, List.set_cons_zero, List.set_cons_succ]
      refine wpAnyH_ready (rs := [11]) (by kernel_rfl) (by simp) ?_
      refine AllReadyH.cons (by simp; rfl) (fun K hK => ?_) AllReadyH.nil
      go_simp
      (go_at_call 29; (with_reducible refine Calls.cNext (nextC (by omega)) ?_); intros)
      refine hK.out _ _ inferInstance ?_
      clear hHeld hK K
      intro hHeld
      try simp only [Act.put, List.setIfInBounds_toArray, List.set_cons_zero, List.set_cons_succ]
      refine wpAnyH_ready (rs := [12]) (by kernel_rfl) (by simp) ?_
      refine AllReadyH.cons (by simp; rfl) (fun K hK => ?_) AllReadyH.nil
      go_simp
      (go_at_call 66; (with_reducible refine Calls.cR (natsC (by omega)) ?_); intros)
      refine hK.out _ _ inferInstance ?_
      clear hHeld hK K
      intro hHeld
      try simp only [Act.put, List.setIfInBounds_toArray, List.set_cons_zero, List.set_cons_succ]
      refine wpAnyH_take (i := 13) (v := ?z135) (by simp; rfl) (by kernel_rfl) (by kernel_rfl) (by kernel_rfl) (by exact fun _ _ _ h => h) (Or.inl ⟨by rfl, ?yz135⟩) hHeld ?_
      case yz135 => (intro wx hSw; have hSx := Ex1.mk hSw; go_simp; (try with_reducible rfl))
      try simp only [Act.put, List.setIfInBounds_toArray, List.set_cons_zero, List.set_cons_succ]
      refine wpAnyH_ready (rs := [15]) (by kernel_rfl) (by simp) ?_
      refine AllReadyH.cons (by simp; rfl) (fun K hK => ?_) AllReadyH.nil
      go_simp
      refine hK.out _ _ inferInstance ?_
      clear hHeld hK K
      intro hHeld
      try simp only [Act.put, List.setIfInBounds_toArray, List.set_cons_zero, List.set_cons_succ]
      refine wpAnyH_done (by kernel_rfl) ?_ _
      clear hHeld
      go_wp2_with fail
      go_meet
      exact ⟨_, _, _, _, _, _, _, _, rfl, inferInstance, inferInstance, inferInstance, inferInstance, CI.cast inferInstance rfl (by first | omega | decide), CR.cast inferInstance rfl (by first | omega | decide), inferInstance, inferInstance⟩
      go_simp
      refine hK.out _ _ inferInstance ?_
      clear hHeld hK K
      intro hHeld
      try simp only [Act.put, List.setIfInBounds_toArray, List.set_cons_zero, List.set_cons_succ]
      refine wpAnyH_ready (rs := [9]) (by kernel_rfl) (by simp) ?_
      refine AllReadyH.cons (by simp; rfl) (fun K hK => ?_) AllReadyH.nil
      go_simp
      (go_at_call 67; (with_reducible refine Calls.cN (numProductC (by omega)) ?_); intros)
      refine hK.out _ _ inferInstance ?_
      clear hHeld hK K
      intro hHeld
      try simp only [Act.put, List.setIfInBounds_toArray, List.set_cons_zero, List.set_cons_succ]
      refine wpAnyH_ready (rs := [11]) (by kernel_rfl) (by simp) ?_
      refine AllReadyH.cons (by simp; rfl) (fun K hK => ?_) AllReadyH.nil
      go_simp
      (go_at_call 29; (with_reducible refine Calls.cNext (nextC (by omega)) ?_); intros)
      refine hK.out _ _ inferInstance ?_
      clear hHeld hK K
      intro hHeld
      try simp only [Act.put, List.setIfInBounds_toArray, List.set_cons_zero, List.set_cons_succ]
      refine wpAnyH_ready (rs := [12]) (by kernel_rfl) (by simp) ?_
      refine AllReadyH.cons (by simp; rfl) (fun K hK => ?_) AllReadyH.nil
      go_simp
      (go_at_call 66; (with_reducible refine Calls.cR (natsC (by omega)) ?_); intros)
      refine hK.out _ _ inferInstance ?_
      clear hHeld hK K
      intro hHeld
      try simp only [Act.put, List.setIfInBounds_toArray, List.set_cons_zero, List.set_cons_succ]
      refine wpAnyH_take (i := 13) (v := ?z136) (by simp; rfl) (by kernel_rfl) (by kernel_rfl) (by kernel_rfl) (by exact fun _ _ _ h => h) (Or.inl ⟨by rfl, ?yz136⟩) hHeld ?_
      case yz136 => (intro wx hSw; have hSx := Ex1.mk hSw; go_simp; (try with_reducible rfl))
      try simp only [Act.put, List.setIfInBounds_toArray, List.set_cons_zero, List.set_cons_succ]
      refine wpAnyH_ready (rs := [15]) (by kernel_rfl) (by simp) ?_
      refine AllReadyH.cons (by simp; rfl) (fun K hK => ?_) AllReadyH.nil
      go_simp
      refine hK.out _ _ inferInstance ?_
      clear hHeld hK K
      intro hHeld
      try simp only [Act.put, List.setIfInBounds_toArray, List.set_cons_zero, List.set_cons_succ]
      refine wpAnyH_done (by kernel_rfl) ?_ _
      clear hHeld
      go_wp2_with fail
      go_meet
      exact ⟨_, _, _, _, _, _, _, _, rfl, inferInstance, inferInstance, inferInstance, inferInstance, CI.cast inferInstance rfl (by first | omega | decide), CR.cast inferInstance rfl (by first | omega | decide), inferInstance, inferInstance⟩
      go_simp
      refine hK.out _ _ inferInstance ?_
      clear hHeld hK K
      intro hHeld
      try simp only [Act.put, List.setIfInBounds_toArray, List.set_cons_zero, List.set_cons_succ]
      refine wpAnyH_ready (rs := [7]) (by kernel_rfl) (by simp) ?_
      refine AllReadyH.cons (by simp; rfl) (fun K hK => ?_) AllReadyH.nil
      go_simp
      (go_at_call 55; (with_reducible refine Calls.cN (numDenC) ?_); intros)
      refine hK.out _ _ inferInstance ?_
      clear hHeld hK K
      intro hHeld
      try simp only [Act.put, List.setIfInBounds_toArray, List.set_cons_zero, List.set_cons_succ]
      refine wpAnyH_ready (rs := [9]) (by kernel_rfl) (by simp) ?_
      refine AllReadyH.cons (by simp; rfl) (fun K hK => ?_) AllReadyH.nil
      go_simp
      (go_at_call 67; (with_reducible refine Calls.cN (numProductC (by omega)) ?_); intros)
      refine hK.out _ _ inferInstance ?_
      clear hHeld hK K
      intro hHeld
      try simp only [Act.put, List.setIfInBounds_toArray, List.set_cons_zero, List.set_cons_succ]
      refine wpAnyH_ready (rs := [11]) (by kernel_rfl) (by simp) ?_
      refine AllReadyH.cons (by simp; rfl) (fun K hK => ?_) AllReadyH.nil
      go_simp
      (go_at_call 29; (with_reducible refine Calls.cNext (nextC (by omega)) ?_); intros)
      refine hK.out _ _ inferInstance ?_
      clear hHeld hK K
      intro hHeld
      try simp only [Act.put, List.setIfInBounds_toArray, List.set_cons_zero, List.set_cons_succ]
      refine wpAnyH_ready (rs := [12]) (by kernel_rfl) (by simp) ?_
      refine AllReadyH.cons (by simp; rfl) (fun K hK => ?_) AllReadyH.nil
      go_simp
      (go_at_call 66; (with_reducible refine Calls.cR (natsC (by omega)) ?_); intros)
      refine hK.out _ _ inferInstance ?_
      clear hHeld hK K
      intro hHeld
      try simp only [Act.put, List.setIfInBounds_toArray, List.set_cons_zero, List.set_cons_succ]
      refine wpAnyH_take (i := 13) (v := ?z137) (by simp; rfl) (by kernel_rfl) (by kernel_rfl) (by kernel_rfl) (by exact fun _ _ _ h => h) (Or.inl ⟨by rfl, ?yz137⟩) hHeld ?_
      case yz137 => (intro wx hSw; have hSx := Ex1.mk hSw; go_simp; (try with_reducible rfl))
      try simp only [Act.put, List.setIfInBounds_toArray, List.set_cons_zero, List.set_cons_succ]
      refine wpAnyH_ready (rs := [15]) (by kernel_rfl) (by simp) ?_
      refine AllReadyH.cons (by simp; rfl) (fun K hK => ?_) AllReadyH.nil
      go_simp
      refine hK.out _ _ inferInstance ?_
      clear hHeld hK K
      intro hHeld
      try simp only [Act.put, List.setIfInBounds_toArray, List.set_cons_zero, List.set_cons_succ]
      refine wpAnyH_done (by kernel_rfl) ?_ _
      clear hHeld
      go_wp2_with fail
      go_meet
      exact ⟨_, _, _, _, _, _, _, _, rfl, inferInstance, inferInstance, inferInstance, inferInstance, CI.cast inferInstance rfl (by first | omega | decide), CR.cast inferInstance rfl (by first | omega | decide), inferInstance, inferInstance⟩
      go_simp
      refine hK.out _ _ inferInstance ?_
      clear hHeld hK K
      intro hHeld
      try simp only [Act.put, List.setIfInBounds_toArray, List.set_cons_zero, List.set_cons_succ]
      refine wpAnyH_ready (rs := [5]) (by kernel_rfl) (by simp) ?_
      refine AllReadyH.cons (by simp; rfl) (fun K hK => ?_) AllReadyH.nil
      go_simp
      (go_at_call 49; (with_reducible refine Calls.cZ (toIC (by omega)) ?_); intros)
      refine hK.out _ _ inferInstance ?_
      clear hHeld hK K
      intro hHeld
      try simp only [Act.put, List.setIfInBounds_toArray, List.set_cons_zero, List.set_cons_succ]
      refine wpAnyH_ready (rs := [7]) (by kernel_rfl) (by simp) ?_
      refine AllReadyH.cons (by simp; rfl) (fun K hK => ?_) AllReadyH.nil
      go_simp
      (go_at_call 55; (with_reducible refine Calls.cN (numDenC) ?_); intros)
      refine hK.out _ _ inferInstance ?_
      clear hHeld hK K
      intro hHeld
      try simp only [Act.put, List.setIfInBounds_toArray, List.set_cons_zero, List.set_cons_succ]
      refine wpAnyH_ready (rs := [9]) (by kernel_rfl) (by simp) ?_
      refine AllReadyH.cons (by simp; rfl) (fun K hK => ?_) AllReadyH.nil
      go_simp
      (go_at_call 67; (with_reducible refine Calls.cN (numProductC (by omega)) ?_); intros)
      refine hK.out _ _ inferInstance ?_
      clear hHeld hK K
      intro hHeld
      try simp only [Act.put, List.setIfInBounds_toArray, List.set_cons_zero, List.set_cons_succ]
      refine wpAnyH_ready (rs := [11]) (by kernel_rfl) (by simp) ?_
      refine AllReadyH.cons (by simp; rfl) (fun K hK => ?_) AllReadyH.nil
      go_simp
      (go_at_call 29; (with_reducible refine Calls.cNext (nextC (by omega)) ?_); intros)
      refine hK.out _ _ inferInstance ?_
      clear hHeld hK K
      intro hHeld
      try simp only [Act.put, List.setIfInBounds_toArray, List.set_cons_zero, List.set_cons_succ]
      refine wpAnyH_ready (rs := [12]) (by kernel_rfl) (by simp) ?_
      refine AllReadyH.cons (by simp; rfl) (fun K hK => ?_) AllReadyH.nil
      go_simp
      (go_at_call 66; (with_reducible refine Calls.cR (natsC (by omega)) ?_); intros)
      refine hK.out _ _ inferInstance ?_
      clear hHeld hK K
      intro hHeld
      try simp only [Act.put, List.setIfInBounds_toArray, List.set_cons_zero, List.set_cons_succ]
      refine wpAnyH_take (i := 13) (v := ?z138) (by simp; rfl) (by kernel_rfl) (by kernel_rfl) (by kernel_rfl) (by exact fun _ _ _ h => h) (Or.inl ⟨by rfl, ?yz138⟩) hHeld ?_
      case yz138 => (intro wx hSw; have hSx := Ex1.mk hSw; go_simp; (try with_reducible rfl))
      try simp only [Act.put, List.setIfInBounds_toArray, List.set_cons_zero, List.set_cons_succ]
      refine wpAnyH_ready (rs := [15]) (by kernel_rfl) (by simp) ?_
      refine AllReadyH.cons (by simp; rfl) (fun K hK => ?_) AllReadyH.nil
      go_simp
      refine hK.out _ _ inferInstance ?_
      clear hHeld hK K
      intro hHeld
      try simp only [Act.put, List.setIfInBounds_toArray, List.set_cons_zero, List.set_cons_succ]
      refine wpAnyH_done (by kernel_rfl) ?_ _
      clear hHeld
      go_wp2_with fail
      go_meet
      exact ⟨_, _, _, _, _, _, _, _, rfl, inferInstance, inferInstance, inferInstance, inferInstance, CI.cast inferInstance rfl (by first | omega | decide), CR.cast inferInstance rfl (by first | omega | decide), inferInstance, inferInstance⟩
      go_simp
      refine hK.out _ _ inferInstance ?_
      clear hHeld hK K
      intro hHeld
      try simp only [Act.put, List.setIfInBounds_toArray, List.set_cons_zero, List.set_cons_succ]
      refine wpAnyH_ready (rs := [4]) (by kernel_rfl) (by simp) ?_
      refine AllReadyH.cons (by simp; rfl) (fun K hK => ?_) AllReadyH.nil
      go_simp
      (go_at_call 87; (with_reducible refine Calls.cZ (numMulC (by omega)) ?_); intros)
      refine hK.out _ _ inferInstance ?_
      clear hHeld hK K
      intro hHeld
      try simp only [Act.put, List.setIfInBounds_toArray, List.set_cons_zero, List.set_cons_succ]
      refine wpAnyH_ready (rs := [5]) (by kernel_rfl) (by simp) ?_
      refine AllReadyH.cons (by simp; rfl) (fun K hK => ?_) AllReadyH.nil
      go_simp
      (go_at_call 49; (with_reducible refine Calls.cZ (toIC (by omega)) ?_); intros)
      refine hK.out _ _ inferInstance ?_
      clear hHeld hK K
      intro hHeld
      try simp only [Act.put, List.setIfInBounds_toArray, List.set_cons_zero, List.set_cons_succ]
      refine wpAnyH_ready (rs := [7]) (by kernel_rfl) (by simp) ?_
      refine AllReadyH.cons (by simp; rfl) (fun K hK => ?_) AllReadyH.nil
      go_simp
      (go_at_call 55; (with_reducible refine Calls.cN (numDenC) ?_); intros)
      refine hK.out _ _ inferInstance ?_
      clear hHeld hK K
      intro hHeld
      try simp only [Act.put, List.setIfInBounds_toArray, List.set_cons_zero, List.set_cons_succ]
      refine wpAnyH_ready (rs := [9]) (by kernel_rfl) (by simp) ?_
      refine AllReadyH.cons (by simp; rfl) (fun K hK => ?_) AllReadyH.nil
      go_simp
      (go_at_call 67; (with_reducible refine Calls.cN (numProductC (by omega)) ?_); intros)
      refine hK.out _ _ inferInstance ?_
      clear hHeld hK K
      intro hHeld
      try simp only [Act.put, List.setIfInBounds_toArray, List.set_cons_zero, List.set_cons_succ]
      refine wpAnyH_ready (rs := [11]) (by kernel_rfl) (by simp) ?_
      refine AllReadyH.cons (by simp; rfl) (fun K hK => ?_) AllReadyH.nil
      go_simp
      (go_at_call 29; (with_reducible refine Calls.cNext (nextC (by omega)) ?_); intros)
      refine hK.out _ _ inferInstance ?_
      clear hHeld hK K
      intro hHeld
      try simp only [Act.put, List.setIfInBounds_toArray, List.set_cons_zero, List.set_cons_succ]
      refine wpAnyH_ready (rs := [12]) (by kernel_rfl) (by simp) ?_
      refine AllReadyH.cons (by simp; rfl) (fun K hK => ?_) AllReadyH.nil
      go_simp
      (go_at_call 66; (with_reducible refine Calls.cR (natsC (by omega)) ?_); intros)
      refine hK.out _ _ inferInstance ?_
      clear hHeld hK K
      intro hHeld
      try simp only [Act.put, List.setIfInBounds_toArray, List.set_cons_zero, List.set_cons_succ]
      refine wpAnyH_take (i := 13) (v := ?z139) (by simp; rfl) (by kernel_rfl) (by kernel_rfl) (by kernel_rfl) (by exact fun _ _ _ h => h) (Or.inl ⟨by rfl, ?yz139⟩) hHeld ?_
      case yz139 => (intro wx hSw; have hSx := Ex1.mk hSw; go_simp; (try with_reducible rfl))
      try simp only [Act.put, List.setIfInBounds_toArray, List.set_cons_zero, List.set_cons_succ]
      refine wpAnyH_ready (rs := [15]) (by kernel_rfl) (by simp) ?_
      refine AllReadyH.cons (by simp; rfl) (fun K hK => ?_) AllReadyH.nil
      go_simp
      refine hK.out _ _ inferInstance ?_
      clear hHeld hK K
      intro hHeld
      try simp only [Act.put, List.setIfInBounds_toArray, List.set_cons_zero, List.set_cons_succ]
      refine wpAnyH_done (by kernel_rfl) ?_ _
      clear hHeld
      go_wp2_with fail
      go_meet
      exact ⟨_, _, _, _, _, _, _, _, rfl, inferInstance, inferInstance, inferInstance, inferInstance, CI.cast inferInstance rfl (by first | omega | decide), CR.cast inferInstance rfl (by first | omega | decide), inferInstance, inferInstance⟩
      go_simp
      refine hK.out _ _ inferInstance ?_
      clear hHeld hK K
      intro hHeld
      try simp only [Act.put, List.setIfInBounds_toArray, List.set_cons_zero, List.set_cons_succ]
      refine wpAnyH_ready (rs := [3]) (by kernel_rfl) (by simp) ?_
      refine AllReadyH.cons (by simp; rfl) (fun K hK => ?_) AllReadyH.nil
      go_simp
      (go_at_call 88; (with_reducible refine Calls.cSg (makeC) ?_); intros)
      refine hK.out _ _ inferInstance ?_
      clear hHeld hK K
      intro hHeld
      try simp only [Act.put, List.setIfInBounds_toArray, List.set_cons_zero, List.set_cons_succ]
      refine wpAnyH_ready (rs := [4]) (by kernel_rfl) (by simp) ?_
      refine AllReadyH.cons (by simp; rfl) (fun K hK => ?_) AllReadyH.nil
      go_simp
      (go_at_call 87; (with_reducible refine Calls.cZ (numMulC (by omega)) ?_); intros)
      refine hK.out _ _ inferInstance ?_
      clear hHeld hK K
      intro hHeld
      try simp only [Act.put, List.setIfInBounds_toArray, List.set_cons_zero, List.set_cons_succ]
      refine wpAnyH_ready (rs := [5]) (by kernel_rfl) (by simp) ?_
      refine AllReadyH.cons (by simp; rfl) (fun K hK => ?_) AllReadyH.nil
      go_simp
      (go_at_call 49; (with_reducible refine Calls.cZ (toIC (by omega)) ?_); intros)
      refine hK.out _ _ inferInstance ?_
      clear hHeld hK K
      intro hHeld
      try simp only [Act.put, List.setIfInBounds_toArray, List.set_cons_zero, List.set_cons_succ]
      refine wpAnyH_ready (rs := [7]) (by kernel_rfl) (by simp) ?_
      refine AllReadyH.cons (by simp; rfl) (fun K hK => ?_) AllReadyH.nil
      go_simp
      (go_at_call 55; (with_reducible refine Calls.cN (numDenC) ?_); intros)
      refine hK.out _ _ inferInstance ?_
      clear hHeld hK K
      intro hHeld
      try simp only [Act.put, List.setIfInBounds_toArray, List.set_cons_zero, List.set_cons_succ]
      refine wpAnyH_ready (rs := [9]) (by kernel_rfl) (by simp) ?_
      refine AllReadyH.cons (by simp; rfl) (fun K hK => ?_) AllReadyH.nil
      go_simp
      (go_at_call 67; (with_reducible refine Calls.cN (numProductC (by omega)) ?_); intros)
      refine hK.out _ _ inferInstance ?_
      clear hHeld hK K
      intro hHeld
      try simp only [Act.put, List.setIfInBounds_toArray, List.set_cons_zero, List.set_cons_succ]
      refine wpAnyH_ready (rs := [11]) (by kernel_rfl) (by simp) ?_
      refine AllReadyH.cons (by simp; rfl) (fun K hK => ?_) AllReadyH.nil
      go_simp
      (go_at_call 29; (with_reducible refine Calls.cNext (nextC (by omega)) ?_); intros)
      refine hK.out _ _ inferInstance ?_
      clear hHeld hK K
      intro hHeld
      try simp only [Act.put, List.setIfInBounds_toArray, List.set_cons_zero, List.set_cons_succ]
      refine wpAnyH_ready (rs := [12]) (by kernel_rfl) (by simp) ?_
      refine AllReadyH.cons (by simp; rfl) (fun K hK => ?_) AllReadyH.nil
      go_simp
      (go_at_call 66; (with_reducible refine Calls.cR (natsC (by omega)) ?_); intros)
      refine hK.out _ _ inferInstance ?_
      clear hHeld hK K
      intro hHeld
      try simp only [Act.put, List.setIfInBounds_toArray, List.set_cons_zero, List.set_cons_succ]
      refine wpAnyH_take (i := 13) (v := ?z140) (by simp; rfl) (by kernel_rfl) (by kernel_rfl) (by kernel_rfl) (by exact fun _ _ _ h => h) (Or.inl ⟨by rfl, ?yz140⟩) hHeld ?_
      case yz140 => (intro wx hSw; have hSx := Ex1.mk hSw; go_simp; (try with_reducible rfl))
      try simp only [Act.put, List.setIfInBounds_toArray, List.set_cons_zero, List.set_cons_succ]
      refine wpAnyH_ready (rs := [15]) (by kernel_rfl) (by simp) ?_
      refine AllReadyH.cons (by simp; rfl) (fun K hK => ?_) AllReadyH.nil
      go_simp
      refine hK.out _ _ inferInstance ?_
      clear hHeld hK K
      intro hHeld
      try simp only [Act.put, List.setIfInBounds_toArray, List.set_cons_zero, List.set_cons_succ]
      refine wpAnyH_done (by kernel_rfl) ?_ _
      clear hHeld
      go_wp2_with fail
      go_meet
      exact ⟨_, _, _, _, _, _, _, _, rfl, inferInstance, inferInstance, inferInstance, inferInstance, CI.cast inferInstance rfl (by first | omega | decide), CR.cast inferInstance rfl (by first | omega | decide), inferInstance, inferInstance⟩
    case rest =>
      obtain ⟨b, g, a, l, c, aa, ll, cc, rfl, j1, j0, j2, j3, j4, j5, j6, j7⟩ := hcut
      have j2' : NeN b w.heap.size := ⟨fun e => j2.out e.symm⟩
      have jt : LtN t b := ⟨Nat.lt_of_lt_of_le ht.out.lt j0.out⟩
      go_wp2_with fail
      with_reducible refine Calls.cNext (nextC (by omega)) ?_
      intro W5 _ _ v hv0 hv1
      by_cases hv : v = 0
      · subst hv
        go_wp2_with fail
        refine ret_bx rfl Tryz.underlying29 rfl (by kernel_rfl) rfl rfl rfl ?_
        exact ⟨_, _, _, _, _, _, _, 0, rfl, CW.cast (CW.mk' (z := x.num * sgn false m) (n := 0) (k1 := 300) (k2 := 0)) (Rat.mkRat_zero _) (by decide), inferInstance, inferInstance⟩
      · have hv2 : (v == 0) = false := by rw [beq_eq_false_iff_ne]; exact hv
        go_wp2_with fail
        refine ret_bx rfl Tryz.underlying29 rfl (by kernel_rfl) rfl rfl rfl ?_
        exact ⟨_, _, _, _, _, _, _, x, rfl, CW.cast inferInstance HV.out (by omega), inferInstance, inferInstance⟩

set_option maxRecDepth 100000 in
set_option maxHeartbeats 4000000 in
set_option synthInstance.maxSize 100000 in
set_option synthInstance.maxHeartbeats 1000000 in
theorem same03C {w : World} {g1 : Bool} {a1 : Option Addr} {l1 : Nat} {c1 : Nat} {aa1 : Option Addr} {ll1 : Nat} {cc1 : Nat} {x : Rat} {g2 : Bool} {a2 : Option Addr} {l2 : Nat} {c2 : Nat} {aa2 : Option Addr} {ll2 : Nat} {cc2 : Nat} {y : Rat} {k1 k2 : Nat} [h1 : CA w (.agg #[.bool g1, .slice a1 l1 c1, .slice aa1 ll1 cc1]) x k1] [h2 : CQ w (.agg #[.bool g2, .slice a2 l2 c2, .slice aa2 ll2 cc2]) y k2] (b : k1 ≤ 80000 ∧ k2 ≤ 80000) :
    Calls Tryz.prog 24 #[.agg #[.bool g1, .slice a1 l1 c1, .slice aa1 ll1 cc1], .agg #[.bool g2, .slice a2 l2 c2, .slice aa2 ll2 cc2]] w (fun e w' => e = .returned (.bool (decide (x = y))) ∧ Below w.heap.size w w') := by
  go_enter Tryz.func24, Tryz.ntmps24
  go_wp2_with fail
  refine region_cls (by kernel_rfl) [] (fun hHeld => ?_)
  refine wpAnyH_take (i := 0) (v := ?z141) (by simp; rfl) (by kernel_rfl) (by kernel_rfl) (by kernel_rfl) (by exact fun _ _ _ h => h) (Or.inl ⟨by rfl, ?yz141⟩) hHeld ?_
  case yz141 => (intro wx hSw; have hSx := Ex1.mk hSw; go_simp; (try with_reducible rfl))
  try simp only [Act.put, List.setIfInBounds_toArray, List.set_cons_zero, List.set_cons_succ]
  refine wpAnyH_take (i := 1) (v := ?z142) (by simp; rfl) (by kernel_rfl) (by kernel_rfl) (by kernel_rfl) (by exact fun _ _ _ h => h) (Or.inl ⟨by rfl, ?yz142⟩) hHeld ?_
  case yz142 => (intro wx hSw; have hSx := Ex1.mk hSw; go_simp; (try with_reducible rfl))
  try simp only [Act.put, List.setIfInBounds_toArray, List.set_cons_zero, List.set_cons_succ]
  refine wpAnyH_ready (rs := [2]) (by kernel_rfl) (by simp) ?_
  refine AllReadyH.cons (by simp; rfl) (fun K hK => ?_) AllReadyH.nil
  go_simp
  (go_at_call 84; (with_reducible refine Calls.cA (toQC (by omega)) ?_); intros)
  refine hK.out _ _ inferInstance ?_
  clear hHeld hK K
  intro hHeld
  try simp only [Act.put, List.setIfInBounds_toArray, List.set_cons_zero, List.set_cons_succ]
  refine wpAnyH_ready (rs := [3]) (by kernel_rfl) (by simp) ?_
  refine AllReadyH.cons (by simp; rfl) (fun K hK => ?_) AllReadyH.nil
  go_simp
  (go_at_call 23; (with_reducible refine Calls.cE (sameQG) ?_); intros)
  refine hK.out _ _ inferInstance ?_
  clear hHeld hK K
  intro hHeld
  try simp only [Act.put, List.setIfInBounds_toArray, List.set_cons_zero, List.set_cons_succ]
  refine wpAnyH_take (i := 4) (v := ?z143) (by simp; rfl) (by kernel_rfl) (by kernel_rfl) (by kernel_rfl) (by exact fun _ _ _ h => h) (Or.inl ⟨by rfl, ?yz143⟩) hHeld ?_
  case yz143 => (intro wx hSw; have hSx := Ex1.mk hSw; go_simp; (try with_reducible rfl))
  try simp only [Act.put, List.setIfInBounds_toArray, List.set_cons_zero, List.set_cons_succ]
  refine wpAnyH_done (by kernel_rfl) ?_ _
  clear hHeld
  go_wp2
  go_ret
  exact E.fin rfl

theorem normalB_nf (n : Nat) : normalB (nf n) = true := by
  by_cases h : n = 0
  · subst h; rfl
  · exact normalB_ne (nf_last n h)
theorem natNormalN {w : World} {a1 : Option Addr} {l1 c1 m k1 : Nat} [h1 : CN w (.slice a1 l1 c1) m k1] :
    Calls Tryz.prog 143 #[.slice a1 l1 c1] w fun e w' => e = .returned (.bool true) ∧ w = w' := by
  have := normal_any w _ _ h1.out.1
  rw [normalB_nf] at this
  exact this
set_option maxRecDepth 100000 in
set_option maxHeartbeats 4000000 in
set_option synthInstance.maxSize 100000 in
set_option synthInstance.maxHeartbeats 1000000 in
theorem intNormalZ {w : World} {g1 : Bool} {a1 : Option Addr} {l1 : Nat} {c1 : Nat} {x : Int} {k1 : Nat} [h1 : CZ w (.agg #[.bool g1, .slice a1 l1 c1]) x k1] :
    Calls Tryz.prog 142 #[.agg #[.bool g1, .slice a1 l1 c1]] w (fun e w' => e = .returned (.bool true) ∧ Below w.heap.size w w') := by
  have e1 := (zz_of h1).1
  have i1 : CN w (.slice a1 l1 c1) x.natAbs k1 := ⟨(zz_of h1).2⟩
  have hl := i1.out.len
  by_cases hx : x < 0
  · obtain rfl : g1 = true := by rw [e1]; simp [hx]
    have hl0 : 0 < l1 := by rw [hl]; exact nf_len_pos (by omega)
    clear hl e1 hx
    go_enter Tryz.func142, Tryz.ntmps142
    go_wp2_with (first
    | (go_at_call 143; (with_reducible refine Calls.cS (natNormalN) ?_); intros))
    go_ret
    exact E.fin rfl
  · obtain rfl : g1 = false := by rw [e1]; simp [hx]
    clear hl e1 hx
    go_enter Tryz.func142, Tryz.ntmps142
    go_wp2_with (first
    | (go_at_call 143; (with_reducible refine Calls.cS (natNormalN) ?_); intros))
    go_ret
    exact E.fin rfl

set_option maxRecDepth 100000 in
set_option maxHeartbeats 4000000 in
set_option synthInstance.maxSize 100000 in
set_option synthInstance.maxHeartbeats 1000000 in
theorem fracNormalA {w : World} {g1 : Bool} {a1 : Option Addr} {l1 : Nat} {c1 : Nat} {aa1 : Option Addr} {ll1 : Nat} {cc1 : Nat} {x : Rat} {k1 : Nat} [h1 : CA w (.agg #[.bool g1, .slice a1 l1 c1, .slice aa1 ll1 cc1]) x k1] (b : k1 ≤ 80000) :
    Calls Tryz.prog 93 #[.agg #[.bool g1, .slice a1 l1 c1, .slice aa1 ll1 cc1]] w (fun e w' => e = .returned (.bool true) ∧ Below w.heap.size w w') := by
  have i1 := h1.num
  have i2 := h1.den
  have i3 : CN w (.slice a1 l1 c1) x.num.natAbs k1 := ⟨(zz_of i1).2⟩
  have hl0 : 0 < ll1 := by rw [i2.out.len]; exact nf_len_pos x.den_nz
  have hg : (((nbits (Nat.gcd x.num.natAbs x.den) : Nat) : Int) == 1) = true := by
    rw [show Nat.gcd x.num.natAbs x.den = 1 from x.reduced]; decide +kernel
  go_enter Tryz.func93, Tryz.ntmps93
  go_wp2_with (first
    | (go_at_call 142; (with_reducible refine Calls.cE (intNormalZ) ?_); intros)
    | (go_at_call 143; (with_reducible refine Calls.cS (natNormalN) ?_); intros)
    | (go_at_call 144; (with_reducible refine Calls.cN (gcdC (by omega)) ?_); intros)
    | (go_at_call 80; (with_reducible refine Calls.cS (bitsC (by omega)) ?_); intros))
  go_ret
  exact E.fin rfl

set_option maxRecDepth 100000 in
set_option maxHeartbeats 4000000 in
set_option synthInstance.maxSize 100000 in
set_option synthInstance.maxHeartbeats 1000000 in
theorem ratNormalA {w : World} {g1 : Bool} {a1 : Option Addr} {l1 : Nat} {c1 : Nat} {aa1 : Option Addr} {ll1 : Nat} {cc1 : Nat} {x : Rat} {k1 : Nat} [h1 : CA w (.agg #[.bool g1, .slice a1 l1 c1, .slice aa1 ll1 cc1]) x k1] (b : k1 ≤ 80000) :
    Calls Tryz.prog 33 #[.agg #[.bool g1, .slice a1 l1 c1, .slice aa1 ll1 cc1]] w (fun e w' => e = .returned (.bool true) ∧ Below w.heap.size w w') := by
  go_enter Tryz.func33, Tryz.ntmps33
  go_wp2_with (first
    | (go_at_call 93; (with_reducible refine Calls.cE (fracNormalA (by omega)) ?_); intros))
  go_ret
  exact E.fin rfl

end Go.Proofs.YtnkfbkdcplbgoaaGreatDoor

/- What the condition of the rows of layer 3 gives the walks: the three sentinels, each in its variable, and that two of them are different. -/
namespace Go.Proofs.YtnkfbkdcplbgoaaGreatDoor
open Go Go.RowKit

theorem Tryz.gS : Tryz.prog.globalNamed "bspregion/api.ErrSyntax" = some 0 := by kernel_rfl
theorem Tryz.gL : Tryz.prog.globalNamed "bspregion/api.ErrLimit" = some 2 := by kernel_rfl
theorem Tryz.gR : Tryz.prog.globalNamed "bspregion/api.ErrRange" = some 1 := by kernel_rfl
theorem Tryz.gSt : (Tryz.prog.globals[0]?).map (·.type) = some 36 := by kernel_rfl
theorem Tryz.gLt : (Tryz.prog.globals[2]?).map (·.type) = some 36 := by kernel_rfl
theorem Tryz.gRt : (Tryz.prog.globals[1]?).map (·.type) = some 36 := by kernel_rfl
theorem Tryz.cellsEs : Tryz.prog.cellsOf 250 = 1 := by kernel_rfl
theorem Tryz.cellsStr : Tryz.prog.cellsOf 9 = 1 := by kernel_rfl
theorem Tryz.star : "*" ++ "errors.errorString" = "*errors.errorString" := by decide
theorem Tryz.rowEs (u : TypeId) (h : Tryz.prog.typeName? 3 u = some "*errors.errorString") : u = 227 :=
  typeName_ptr_named (nm := "errors.errorString") (by rw [Tryz.star]; kernel_rfl) (by kernel_rfl) (by decide) u (by rw [Tryz.star]; exact h)
theorem snt_of_var {W : World} {n : String} {g : Nat} {a : Addr} (hg : Tryz.prog.globalNamed n = some g) (hv : W.var? Tryz.prog n = some #[.iface 227 (.pointer (some a))]) (hr : ∃ c t, W.heap[a.block]? = some (.cells c t (0, 0))) : Snt W g a W :=
  Snt.mk1 (by simpa using World.var?_cell hg hv 0) hr
/-- The list of the rows of layers 3 and 4. -/
def laid3 : List (String × DataW Unit) := [("bspregion/api.ErrSyntax", Rows.laid_bspregion_api_ErrSyntax), ("bspregion/api.ErrLimit", Rows.laid_bspregion_api_ErrLimit), ("bspregion/api.ErrRange", Rows.laid_bspregion_api_ErrRange)]
theorem sents3 {W : World} (hL : laidMetH Tryz.prog laid3 W) : ∃ a0 a1 a2, Snt W 0 a0 W ∧ Snt W 2 a1 W ∧ Snt W 1 a2 W ∧ a1 ≠ a0 := by
  rw [MakeChecks.laidMetH_plain _ _ _ (by kernel_rfl)] at hL
  obtain ⟨a0, a1, s0, s1, c0, c1, t0, t1, hv0, hv1, _, _, _, _, _, _, hne, hb0, hb1⟩ := laid_sentinels2 hL Tryz.gS Tryz.gSt Tryz.gL Tryz.gLt Tryz.underlying36 Tryz.rowEs Tryz.underlying227 Tryz.underlying250 rfl rfl Tryz.underlying9 Tryz.cellsEs Tryz.cellsStr
  obtain ⟨b0, b1, s0', s1', c0', c1', t0', t1', hv0', hv1', _, _, _, _, _, _, _, _, hb1'⟩ := laid_sentinels2 hL.tail Tryz.gL Tryz.gLt Tryz.gR Tryz.gRt Tryz.underlying36 Tryz.rowEs Tryz.underlying227 Tryz.underlying250 rfl rfl Tryz.underlying9 Tryz.cellsEs Tryz.cellsStr
  exact ⟨a0, a1, b1, snt_of_var Tryz.gS hv0 ⟨_, _, hb0⟩, snt_of_var Tryz.gL hv1 ⟨_, _, hb1⟩, snt_of_var Tryz.gR hv1' ⟨_, _, hb1'⟩, fun e => hne e.symm⟩
end Go.Proofs.YtnkfbkdcplbgoaaGreatDoor

/- A region that draws its order, whose last operations write cells that the region itself loads: the condition S on the world is asked only as long as none of those last operations (T) has been carried out. In the manner of the base's law on held conditions (Derived.OrdersHeld), with S let go at the end. -/
namespace Go.Proofs.YtnkfbkdcplbgoaaGreatDoor
open Go.RowKit
section
variable {P : Program} {ops : Array Oper} {Q : Exit → Act → World → Prop} {md : Region.Mode} {S : World → Prop} {T : Nat → Bool}
/-- In whatever order it goes on, S holds behind every operation that is none of T. -/
def wpAnyT (P : Program) (md : Region.Mode) (ops : Array Oper) (Q : Exit → Act → World → Prop) (S : World → Prop) (T : Nat → Bool) : Nat → Array Bool → Act → World → Prop
  | 0, listed, a, w => Region.ready md ops listed = [] ∧ Q .normal a w
  | fuel + 1, listed, a, w => (Region.ready md ops listed = [] → Q .normal a w) ∧
    ∀ i ∈ Region.ready md ops listed, wpOp P ops Q i (fun a' w' => (T i = false → S w') ∧ wpAnyT P md ops Q S T fuel (listed.setIfInBounds i true) a' w') a w
theorem wpAny_of_T : ∀ (fuel : Nat) (listed : Array Bool) (a : Act) (w : World), wpAnyT P md ops Q S T fuel listed a w → wpAny P md ops Q fuel listed a w
  | 0, _, _, _, h => h
  | fuel + 1, _, _, _, h => ⟨h.1, fun i hi => wpOp_mono (fun a' w' k => wpAny_of_T fuel _ a' w' k.2) (h.2 i hi)⟩
/-- What waits for i. -/
def waits (md : Region.Mode) (ops : Array Oper) (i j : Nat) : Bool := match ops[j]? with
  | some o => o.after.any fun e => Region.binds md e && e.on == i
  | none => true
theorem not_waits {i j : Nat} {oj : Oper} (hj : ops[j]? = some oj) (hw : waits md ops i j = true) : ∃ e ∈ oj.after, Region.binds md e = true ∧ e.on = i := by
  unfold waits at hw
  rw [hj] at hw
  obtain ⟨e, he, h⟩ := Array.any_eq_true'.1 hw
  simp only [Bool.and_eq_true, beq_iff_eq] at h
  exact ⟨e, he, h.1, h.2⟩
theorem wpAnyT_first {i : Nat} {oi : Oper} {v : Value} (hi : ops[i]? = some oi) (hsel : ∀ (j : Nat) (o : Oper) cs b, ops[j]? = some o → o.op ≠ .select cs b)
    (hQ : ∀ c a w, Q (.panic c) (a.put oi.dst v) w → Q (.panic c) a w) (hT : ∀ j, T j = true → waits md ops i j = true) :
    ∀ (fuel : Nat) (listed : Array Bool) (a : Act) (w : World),
      (∀ j oj, ops[j]? = some oj → j ≠ i → listed.getD j true = false → (∀ e ∈ oj.after, Region.binds md e = true → e.on ≠ i) → oi.apart ops oj = true) →
      i ∈ Region.ready md ops listed → YieldsIf P ops S oi v a → S w →
      wpAnyT P md ops Q S T fuel (listed.setIfInBounds i true) (a.put oi.dst v) w → wpAnyT P md ops Q S T (fuel + 1) listed a w := by
  intro fuel
  induction fuel with
  | zero =>
    intro listed a w _ hr hy hS H
    refine ⟨fun h => (by rw [h] at hr; cases hr), fun j hj => ?_⟩
    by_cases hji : j = i
    · subst hji; exact hy.wpOp hi hS ⟨fun _ => hS, H⟩
    · have h0 := ready_mono hj hji
      rw [H.1] at h0
      cases h0
  | succ fuel ih =>
    intro listed a w hfree hr hy hS H
    refine ⟨fun h => (by rw [h] at hr; cases hr), fun j hj => ?_⟩
    by_cases hji : j = i
    · subst hji; exact hy.wpOp hi hS ⟨fun _ => hS, H⟩
    · obtain ⟨hjun, oj, hoj, hall⟩ := mem_ready.1 hj
      have hiun := (mem_ready.1 hr).1
      have hnot : ∀ e ∈ oj.after, Region.binds md e = true → e.on ≠ i := fun e he hb heq => by
        have h1 := hall e he hb
        rw [heq] at h1
        rcases Nat.lt_or_ge i listed.size with h' | h'
        · simp [h'] at hiun h1; rw [hiun] at h1; cases h1
        · simp [Array.getElem?_eq_none h'] at h1
      have hTj : T j = false := by
        cases hc : T j with
        | false => rfl
        | true =>
          obtain ⟨e, he, hb, ho⟩ := not_waits hoj (hT j hc)
          exact absurd ho (hnot e he hb)
      have k := wpOp_putIf hoj (hfree j oj hoj hji hjun hnot) (fun cs b => hsel i oi cs b hi) (fun cs b => hsel j oj cs b hoj) hQ hy (H.2 j (ready_mono hj hji))
      refine wpOp_mono (fun a' w' q => ⟨fun _ => q.2.1 hTj, ih (listed.setIfInBounds j true) a' w' (fun m om hm hmi hun hno => hfree m om hm hmi ?_ hno) (ready_mono hr (Ne.symm hji)) q.1 (q.2.1 hTj) ?_⟩) k
      · by_cases hjm : j = m
        · subst hjm; exact hjun
        · rw [getD_set_ne true hjm] at hun; exact hun
      · rw [Array.setIfInBounds_comm _ _ hji]
        exact q.2.2
/-- Number i is taken first; all of T waits for it. -/
theorem wpAnyT_take {i : Nat} {oi : Oper} {v : Value} {fuel : Nat} {listed : Array Bool} {a : Act} {w : World} (hi : ops[i]? = some oi)
    (hs : Region.noSelect ops = true) (hf : Region.free md ops listed i = true) (hr : (Region.ready md ops listed).contains i = true)
    (hQ : ∀ c a w, Q (.panic c) (a.put oi.dst v) w → Q (.panic c) a w) (hT : ∀ j, T j = true → waits md ops i j = true) (hy : YieldsIf P ops S oi v a) (hS : S w)
    (h : wpAnyT P md ops Q S T fuel (listed.setIfInBounds i true) (a.put oi.dst v) w) : wpAnyT P md ops Q S T (fuel + 1) listed a w :=
  wpAnyT_first hi (Region.noSelect_spec hs) hQ hT fuel listed a w (Region.free_spec hi hf) (by simpa using hr) hy hS h
/-- A pure operation of T is taken first: S is not asked. -/
theorem wpAnyT_first0 {i : Nat} {oi : Oper} {v : Value} (hi : ops[i]? = some oi) (hsel : ∀ (j : Nat) (o : Oper) cs b, ops[j]? = some o → o.op ≠ .select cs b)
    (hQ : ∀ c a w, Q (.panic c) (a.put oi.dst v) w → Q (.panic c) a w) (hTi : T i = true) :
    ∀ (fuel : Nat) (listed : Array Bool) (a : Act) (w : World),
      (∀ j oj, ops[j]? = some oj → j ≠ i → listed.getD j true = false → (∀ e ∈ oj.after, Region.binds md e = true → e.on ≠ i) → oi.apart ops oj = true) →
      i ∈ Region.ready md ops listed → YieldsIf P ops (fun _ => True) oi v a →
      wpAnyT P md ops Q S T fuel (listed.setIfInBounds i true) (a.put oi.dst v) w → wpAnyT P md ops Q S T (fuel + 1) listed a w := by
  have hno : ∀ w : World, T i = false → S w := fun w h => by rw [hTi] at h; cases h
  intro fuel
  induction fuel with
  | zero =>
    intro listed a w _ hr hy H
    refine ⟨fun h => (by rw [h] at hr; cases hr), fun j hj => ?_⟩
    by_cases hji : j = i
    · subst hji; exact hy.wpOp hi trivial ⟨hno w, H⟩
    · have h0 := ready_mono hj hji
      rw [H.1] at h0
      cases h0
  | succ fuel ih =>
    intro listed a w hfree hr hy H
    refine ⟨fun h => (by rw [h] at hr; cases hr), fun j hj => ?_⟩
    by_cases hji : j = i
    · subst hji; exact hy.wpOp hi trivial ⟨hno w, H⟩
    · obtain ⟨hjun, oj, hoj, hall⟩ := mem_ready.1 hj
      have hiun := (mem_ready.1 hr).1
      have hnot : ∀ e ∈ oj.after, Region.binds md e = true → e.on ≠ i := fun e he hb heq => by
        have h1 := hall e he hb
        rw [heq] at h1
        rcases Nat.lt_or_ge i listed.size with h' | h'
        · simp [h'] at hiun h1; rw [hiun] at h1; cases h1
        · simp [Array.getElem?_eq_none h'] at h1
      have k := wpOp_putIf hoj (hfree j oj hoj hji hjun hnot) (fun cs b => hsel i oi cs b hi) (fun cs b => hsel j oj cs b hoj) hQ hy (H.2 j (ready_mono hj hji))
      refine wpOp_mono (fun a' w' q => ⟨q.2.1, ih (listed.setIfInBounds j true) a' w' (fun m om hm hmi hun hno => hfree m om hm hmi ?_ hno) (ready_mono hr (Ne.symm hji)) q.1 ?_⟩) k
      · by_cases hjm : j = m
        · subst hjm; exact hjun
        · rw [getD_set_ne true hjm] at hun; exact hun
      · rw [Array.setIfInBounds_comm _ _ hji]
        exact q.2.2
theorem wpAnyT_take0 {i : Nat} {oi : Oper} {v : Value} {fuel : Nat} {listed : Array Bool} {a : Act} {w : World} (hi : ops[i]? = some oi)
    (hs : Region.noSelect ops = true) (hf : Region.free md ops listed i = true) (hr : (Region.ready md ops listed).contains i = true)
    (hQ : ∀ c a w, Q (.panic c) (a.put oi.dst v) w → Q (.panic c) a w) (hTi : T i = true) (hy : YieldsIf P ops (fun _ => True) oi v a)
    (h : wpAnyT P md ops Q S T fuel (listed.setIfInBounds i true) (a.put oi.dst v) w) : wpAnyT P md ops Q S T (fuel + 1) listed a w :=
  wpAnyT_first0 hi (Region.noSelect_spec hs) hQ hTi fuel listed a w (Region.free_spec hi hf) (by simpa using hr) hy h
def AllT (P : Program) (md : Region.Mode) (ops : Array Oper) (Q : Exit → Act → World → Prop) (S : World → Prop) (T : Nat → Bool) (fuel : Nat) (listed : Array Bool) (a : Act) (w : World) (rs : List Nat) : Prop :=
  ∀ i ∈ rs, wpOp P ops Q i (fun a' w' => (T i = false → S w') ∧ wpAnyT P md ops Q S T fuel (listed.setIfInBounds i true) a' w') a w
theorem AllT.nil {fuel : Nat} {listed : Array Bool} {a : Act} {w : World} : AllT P md ops Q S T fuel listed a w [] := fun _ h => by cases h
theorem AllT.cons {fuel : Nat} {listed : Array Bool} {a : Act} {w : World} {i : Nat} {o : Oper} {rs : List Nat} (ho : ops[i]? = some o)
    (h : ∀ K' : Act → World → Prop, Shut (∀ a w, (T i = false → S w) → ((T i = false → S w) → wpAnyT P md ops Q S T fuel (listed.setIfInBounds i true) a w) → K' a w) → if Region.wanted o (yielded ops a.tmps) = true then Oper.wp P o a w K' Q else K' (a.put o.dst undef) w)
    (hs : AllT P md ops Q S T fuel listed a w rs) : AllT P md ops Q S T fuel listed a w (i :: rs) := fun j hj => by
  rcases List.mem_cons.1 hj with rfl | hj
  · exact wpOp_step ho (fun K' hK => h K' (fun a w hS hW => hK a w ⟨hS, hW hS⟩))
  · exact hs j hj
theorem wpAnyT_ready {rs : List Nat} {fuel : Nat} {listed : Array Bool} {a : Act} {w : World} (hr : Region.ready md ops listed = rs) (hne : rs ≠ [])
    (h : AllT P md ops Q S T fuel listed a w rs) : wpAnyT P md ops Q S T (fuel + 1) listed a w := ⟨fun h0 => absurd (hr ▸ h0) hne, hr ▸ h⟩
theorem wpAnyT_done {listed : Array Bool} {a : Act} {w : World} (hr : Region.ready md ops listed = []) (h : Q .normal a w) : ∀ fuel, wpAnyT P md ops Q S T fuel listed a w
  | 0 => ⟨hr, h⟩
  | _ + 1 => ⟨fun _ => h, by rw [hr]; simp⟩
theorem region_t {id : Nat} {a : Act} {w : World} (hm : P.follows .mixedOrders = true) (L : List Nat) (T : Nat → Bool)
    (h : Ex w L w.drew → wpAnyT P .any ops Q (Ex w L) T ops.size (Array.replicate ops.size false) a w.drew) : (Code.region id ops true).wp P Q a w :=
  wp_region_any hm (wpAny_of_T _ _ _ _ (h Ex.dr))
/-- All of a finite T waits. -/
theorem T_waits {i : Nat} {L : List Nat} (h : (L.all fun j => waits md ops i j) = true) : ∀ j, (L.contains j) = true → waits md ops i j = true := fun j hj => by
  have := List.all_eq_true.1 h j (by simpa using hj)
  exact this
end
end Go.Proofs.YtnkfbkdcplbgoaaGreatDoor
